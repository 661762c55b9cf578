/-
  The contract of package tseitin's Encode.
-/
import Derived.Test.YtkjlgamggkencaaDoorTseitinG
import Derived.Test.YtkjlgamggkencaaDoorCheck
namespace Go.Proofs.YtkjlgamggkencaaDoor
open Go.RowKit

/-- clauses' value -/
def nv (vars : Int) (A : Option Addr) (k c : Nat) : Value := .agg #[.int .i64 vars, .slice A k c]
/-- v: clauses of so many variables -/
def IsN (w : World) (F : Nat → Prop) (v : Value) (vars : Int) (cs : List (List Int)) : Prop := ∃ A c, v = nv vars A cs.length c ∧ Rw w F (.slice A cs.length c) cs.length cs
theorem IsN.frm {S F : Nat → Prop} {w w' : World} {v : Value} {vars : Int} {cs : List (List Int)} (h : IsN w F v vars cs) (hf : Frm S w w') (hd : ∀ k, F k → ¬ S k) : IsN w' F v vars cs := by
  obtain ⟨A, c, e, h⟩ := h; exact ⟨A, c, e, h.frm hf hd⟩
theorem IsN.mono {F G : Nat → Prop} {w : World} {v : Value} {vars : Int} {cs : List (List Int)} (h : IsN w F v vars cs) (hd : ∀ k, k < w.heap.size → F k → G k) : IsN w G v vars cs := by
  obtain ⟨A, c, e, h⟩ := h; exact ⟨A, c, e, h.mono hd⟩

theorem wp_append_own_at {P : Program} {w : World} {o : Oper} {a : Act} {K : Act → World → Prop} {Q : Exit → Act → World → Prop} (s x : Operand) (t : TypeId)
    (ho : o.op = .call { callee := .builtin .append, args := #[s, x], argTypes := #[t, t] })
    (base : Nat) (e : TypeId) (i : TypeInfo) (z : Value) (size bytes : Nat) (ht : P.underlying t = some (.slice e)) (hi : P.info? e = some i) (hz : i.zero = some z)
    (hsize : i.size = size) (hby : i.bytes = bytes) (hzs : z.cells.size = size) (hsz : 0 < size)
    (v : Value) (n : Nat) (xs : List Value) (hs : a.eval s = v) (hown : w.ownsRow base e size v n xs)
    (ad : Addr) (m c : Nat) (news : List Value) (hx : a.eval x = .slice (some ad) m c) (hl : news.length = m * size) (hnews : ∀ j u, news[j]? = some u → w.cell? (ad.add j) = some u) (h1 : ∀ u ∈ news, u.oneCell' = true)
    (h63 : n + m ≤ maxLen) (hbytes : (n + m) * bytes ≤ 140737488355328) (hbase : base ≤ w.heap.size)
    (h : ∀ v' w', w'.ownsRow base e size v' (n + m) (xs ++ news) → w.grownBy w' v.ownBlock → (v'.ownBlock = v.ownBlock ∨ v'.ownBlock = some w.heap.size) → K (a.put o.dst v') w') : o.wp P a w K Q := by
  obtain ⟨v', w', hr, h2, h3, h4, h5⟩ := run_append_own_at (P := P) w base t o.type e i z size bytes ht hi hz hsize hby hzs hsz v n xs hown ad m c news hl hnews h1 h63 hbytes hbase
  unfold Oper.wp execOp
  simp only [ho, resolve, invoke, builtin, Sem.run_bind, Sem.run_pure, Result.andThen_ok, List.map_toArray, List.map_cons, List.map_nil, hs, hx, hr]
  exact h v' w' h2 h3 h5

theorem Each.one_cell {w : World} {F : Nat → Prop} {vs : List Value} {cs : List (List Int)} (h : Each w F vs cs) : ∀ u ∈ vs, u.oneCell' = true := by
  intro u hu
  obtain ⟨i, hi, rfl⟩ := List.mem_iff_getElem.1 hu
  obtain ⟨A, d, h1, _⟩ := h.2 i (cs[i]'(by rw [← h.1]; exact hi)) (List.getElem?_eq_getElem _)
  rw [List.getElem?_eq_getElem hi] at h1
  simp at h1
  rw [h1]; rfl

theorem gateC_pos {n : Int} (hn : 2 ≤ n) (p : Int × Int) : 0 < (gateC n p).length ∧ (gateC n p).length ≤ 3 := by
  obtain ⟨a, b⟩ := p
  refine ⟨?_, by unfold gateC; exact List.length_filterMap_le _ _⟩
  have hnn : notL n ≠ 1 := by unfold notL; split <;> omega
  have key : ∀ l ∈ gate3 n (a, b), 1 ∉ l → 0 < (gateC n (a, b)).length := by
    intro l hl h1
    apply List.length_pos_of_mem (a := (l.filter fun x => decide (1 < x)).map litC)
    unfold gateC
    rw [List.mem_filterMap]
    exact ⟨l, hl, by unfold clC; rw [if_neg h1]⟩
  by_cases ha : a = 1
  · by_cases hb : b = 1
    · refine key [n, notL a, notL b] (by simp [gate3]) ?_
      subst ha hb
      have : notL 1 = 0 := by decide
      rw [this]; simp; omega
    · exact key [notL n, b] (by simp [gate3]) (by simp; exact ⟨fun h => hnn h.symm, fun h => hb h.symm⟩)
  · exact key [notL n, a] (by simp [gate3]) (by simp; exact ⟨fun h => hnn h.symm, fun h => ha h.symm⟩)

theorem encFew_length (n : Nat) (L : List (Int × Int)) (k : Nat) : (encFew n L k).length ≤ 3 * k := by
  induction k with
  | zero => simp [encFew]
  | succ k ih =>
    rw [encFew_succ, List.length_append]
    have := (gateC_pos (n := 2 * ((n : Int) + k + 1)) (by omega) (L.getD k (0, 0))).2
    omega

theorem forceFew_succ {f : List Int} {k : Nat} (hk : k < f.length) : forceC (f.take (k + 1)) = forceC (f.take k) ++ (clC [f.getD k 0]).toList := by
  unfold forceC
  rw [List.take_succ_eq_append_getElem hk, List.filterMap_append, show f.getD k 0 = f[k] from by simp [List.getD, hk]]
  cases h : clC [f[k]] with
  | none => simp [h]
  | some c => simp [h]
theorem forceC_length (f : List Int) : (forceC f).length ≤ f.length := List.length_filterMap_le _ _

set_option maxRecDepth 100000 in
set_option maxHeartbeats 8000000 in
theorem encode_any (Ls : List Nat) (P : Nat → Addr) (h102 : 102 ∈ Ls) (h104 : 104 ∈ Ls) (n : Nat) (A : Option Addr) (m c : Nat) (B : Option Addr) (k d : Nat) (L : List (Int × Int)) (l : List Int) (Af : Option Addr) (lf cf : Nat) (f : List Int) (F G H : Nat → Prop) (w : World)
    (hm : L.length = m) (hk : l.length = k) (hlf : f.length = lf) (hn : n + m ≤ 8000) (hk4 : k ≤ 100000) (hf4 : lf ≤ 1000) (hr : Right n L) (hl : ∀ x ∈ l, isL x (n + m) = true) (hfl : ∀ x ∈ f, isL x (n + m) = true)
    (hs : Sl w F 2 (.slice A m c) m (pairs L)) (ho : Sl w G 1 (.slice B k d) k (l.map (.int .i64))) (hff : Sl w H 1 (.slice Af lf cf) lf (f.map (.int .i64))) :
    Calls Tryd.prog 45 #[cv n A m c B k d, .slice Af lf cf] w fun e w' => ∃ v, e = .returned (.tuple #[v, .nilIface]) ∧ IsN w' (fun k => w.heap.size ≤ k) v ((n : Int) + m) (encC n L f) ∧ Frm (fun _ => False) w w' := by
  obtain ⟨i0, hi, hz0, hz1, hz2⟩ := info_parts infoInts
  have hck : ckCode n L l = 0 := ckCode_right hr (by omega) (by rw [hm]; exact hl)
  have HCK := Lib.hid (fun (W : World) (hf : Frm (fun _ => False) w W) => check_any Ls P h102 h104 n A m c B k d L l F G W hm hk (by omega) hk4 (hs.frm hf (fun _ _ => id)) (ho.frm hf (fun _ _ => id)) (fun h => absurd hck h))
  rw [hck, PE_zero] at HCK
  have HM := Lib.hid hm
  have HLF := Lib.hid hlf
  have HR := Lib.hid hr
  have HFL := Lib.hid hfl
  clear hm hk hlf hr hl hfl hck ho
  go_enter Tryd.func45, Tryd.ntmps45
  go_wp2_with fail
  have hfa := ((Frm.refl (fun _ => False) w).alloc (.cells #[.int .i64 n, .slice A m c, .slice B k d] 40)).alloc (.cells #[.int .i64 0, .slice none 0 0] 51)
  have hc0 : Blk ((w.alloc (.cells #[.int .i64 n, .slice A m c, .slice B k d] 40)).alloc (.cells #[.int .i64 0, .slice none 0 0] 51)) w.heap.size 40 [.int .i64 n, .slice A m c, .slice B k d] := (Blk.new _ _ _).alloc _
  have hr0 : Blk ((w.alloc (.cells #[.int .i64 n, .slice A m c, .slice B k d] 40)).alloc (.cells #[.int .i64 0, .slice none 0 0] 51)) (w.heap.size + 1) 51 [.int .i64 0, .slice none 0 0] := Blk.new_at _ _ _ _ (by simp)
  refine (HCK.out _ hfa).mono ?_
  rintro e w1 ⟨rfl, hf1⟩
  have hc1 := hc0.frm hf1 id
  have hr1 := hr0.frm hf1 id
  have hfw1 := hfa.trans hf1
  have b0 := hc1.at_ 0 rfl
  have b1 := hc1.at_ 1 rfl
  have wnm : IntKind.i64.wrap ((n : Int) + m) = ((n : Int) + m) := IntWalk.i64_in _ (by omega)
  have hsz1 := hfw1.size
  have hrlt := hr1.lt
  clear HCK hc0 hr0 hfa hf1
  go_wp2_with fail
  have hfb := (Frm.refl (fun _ => False) w1).alloc (.cells #[.int .i64 ((n : Int) + m), .slice none 0 0] 51)
  have ht2 : Blk (w1.alloc (.cells #[.int .i64 ((n : Int) + m), .slice none 0 0] 51)) w1.heap.size 51 [.int .i64 ((n : Int) + m), .slice none 0 0] := Blk.new _ _ _
  have hc2 := hc1.frm hfb id
  have hr2 := hr1.frm hfb id
  have hfw2 := hfw1.trans hfb
  obtain ⟨W2, hW2⟩ : ∃ W2, W2 = w1.alloc (.cells #[.int .i64 ((n : Int) + m), .slice none 0 0] 51) := ⟨_, rfl⟩
  have hszW2 : W2.heap.size = w1.heap.size + 1 := by rw [hW2]; simp
  rw [← hW2] at ht2 hc2 hr2 hfw2
  simp only [← hW2]
  clear hc1 hr1 hfw1 b0 b1 hfb hW2
  obtain ⟨q, hq⟩ : ∃ q, q = w1.heap.size := ⟨_, rfl⟩
  simp only [← hq] at ht2 hszW2 hrlt ⊢
  have hwq : w.heap.size + 1 < q := by omega
  clear hq hrlt hsz1
  go_loopw [31] (fun iv wr => ∃ (j : Nat), j ≤ lf ∧ iv = .int .i64 (j : Int) ∧ Frm (fun _ => False) W2 wr) (fun iv _ => lf - (intOf iv).toNat)
  case atStart => exact ⟨0, by omega, rfl, Frm.refl _ _⟩
  case round =>
    obtain ⟨j, hj, rfl, hfk⟩ := hrel
    by_cases hlt : j < lf
    · have hlt2 : j < f.length := by rw [HLF.out]; exact hlt
      obtain ⟨b, o, u, rfl, _, hu, hcell⟩ := (hff.frm (hfw2.trans hfk) (fun _ _ => id)).at_ hlt
      obtain rfl := at_getD hu
      have hx := isL_iff.1 (HFL.out (f.getD j 0) (by simp [List.getD, hlt2]))
      clear hu
      generalize f.getD j 0 = x at *
      have j0 : (0 : Int) ≤ j := by omega
      have j1 : (j : Int) < lf := by omega
      have x0 : ¬ x < 0 := by omega
      have x1 : ¬ 2 * ((n : Int) + m) + 1 < x := by omega
      have wa : IntKind.i64.wrap (2 * ((n : Int) + m)) = 2 * ((n : Int) + m) := IntWalk.i64_in _ (by omega)
      have wb : IntKind.i64.wrap (2 * ((n : Int) + m) + 1) = 2 * ((n : Int) + m) + 1 := IntWalk.i64_in _ (by omega)
      have b0 := (ht2.frm hfk id).at_ 0 rfl
      go_wp2_with fail
      go_roundw
      case rel => exact ⟨j + 1, by omega, by go_num, hfk⟩
      case measure => simp [intOf]; omega
    · have hjlf : lf = j := by omega
      subst hjlf
      have ht3 := (ht2.frm hfk id)
      have hc3 := (hc2.frm hfk id)
      have hr3 := (hr2.frm hfk id)
      have hfw3 := hfw2.trans hfk
      have hsz3 : q + 1 ≤ wr.heap.size := by have := hfk.size; omega
      have c1 := hc3.at_ 1 rfl
      clear ht2 hc2 hr2 hfw2 hszW2 hfk hlt hj
      obtain ⟨W3, rfl⟩ : ∃ W3, W3 = wr := ⟨_, rfl⟩
      go_wp2_with fail
      go_loopw [51] (fun iv wr => ∃ (j K : Nat) (A' : Option Addr) (c' : Nat), j ≤ m ∧ K ≤ 3 * j ∧ iv = .int .i64 (j : Int) ∧ Blk wr q 51 [.int .i64 ((n : Int) + m), .slice A' K c'] ∧ RwO wr W3.heap.size 22 (.slice A' K c') K (encFew n L j) ∧ Frm (fun g => g = q) W3 wr) (fun iv _ => m - (intOf iv).toNat)
      case atStart => exact ⟨0, 0, none, 0, by omega, by omega, rfl, ht3, RwO.nil_ _ _ _, Frm.refl _ _⟩
      case round =>
        clear ht3 c1
        obtain ⟨j, K, A', c', hj, hK, rfl, ht4, hO, hfk⟩ := hrel
        have hc4 := hc3.frm hfk (by omega)
        have hfw4 := hfw3.then' hfk (fun g hg e => by omega)
        by_cases hlt : j < m
        · have hlt2 : j < L.length := by rw [HM.out]; exact hlt
          obtain ⟨b, o, rfl, _, q1, q2⟩ := sl_pair (hs.frm hfw4 (fun _ _ => id)) hlt
          rw [← Nat.add_assoc] at q2
          have hpr := HR.out j (L.getD j (0, 0)) (by simp [List.getD, hlt2])
          have hsu := encFew_succ n L j
          have hgp := gateC_pos (n := 2 * ((n : Int) + j + 1)) (by omega) (L.getD j (0, 0))
          obtain ⟨p, hp⟩ : ∃ p, L.getD j (0, 0) = p := ⟨_, rfl⟩
          rw [hp] at q1 q2 hpr hsu hgp
          clear hp
          obtain ⟨x, y⟩ := p
          simp only at q1 q2 hpr
          have HSU := Lib.hid hsu
          clear hsu
          have HG := Lib.hid (fun (W : World) => gate_any (2 * ((n : Int) + j + 1)) x y ⟨by omega, by omega⟩ ⟨by omega, by omega⟩ ⟨by omega, by omega⟩ W)
          have j0 : (0 : Int) ≤ j := by omega
          have j1 : (j : Int) < m := by omega
          have wa : IntKind.i64.wrap ((n : Int) + j) = (n : Int) + j := IntWalk.i64_in _ (by omega)
          have wb : IntKind.i64.wrap ((n : Int) + j + 1) = (n : Int) + j + 1 := IntWalk.i64_in _ (by omega)
          have wc' : IntKind.i64.wrap (2 * ((n : Int) + j + 1)) = 2 * ((n : Int) + j + 1) := IntWalk.i64_in _ (by omega)
          have hal := (Frm.refl (fun _ => False) wr).alloc (.cells #[.int .i64 x, .int .i64 y] 73)
          have hbp : Blk (wr.alloc (.cells #[.int .i64 x, .int .i64 y] 73)) wr.heap.size 73 [.int .i64 x, .int .i64 y] := Blk.new _ _ _
          have hszk := hfk.size
          have hH0 : (wr.alloc (.cells #[.int .i64 x, .int .i64 y] 73)).drew.cell? ⟨q, 1, none⟩ = some (.slice A' K c') ∧ (wr.alloc (.cells #[.int .i64 x, .int .i64 y] 73)).drew.cell? ⟨w.heap.size, 0, none⟩ = some (.int .i64 (n : Int)) ∧
            (wr.alloc (.cells #[.int .i64 x, .int .i64 y] 73)).drew.cell? ⟨wr.heap.size, 0, none⟩ = some (.int .i64 x) ∧ (wr.alloc (.cells #[.int .i64 x, .int .i64 y] 73)).drew.cell? ⟨wr.heap.size, 1, none⟩ = some (.int .i64 y) :=
            ⟨hal.cell (ht4.at_ 1 rfl) id, hal.cell (hc4.at_ 0 rfl) id, hbp.at_ 0 rfl, hbp.at_ 1 rfl⟩
          go_wp2_with fail
          have hHeld := hH0
          refine Held.begin (fun w' => w'.cell? ⟨q, 1, none⟩ = some (.slice A' K c') ∧ w'.cell? ⟨w.heap.size, 0, none⟩ = some (.int .i64 (n : Int)) ∧ w'.cell? ⟨wr.heap.size, 0, none⟩ = some (.int .i64 x) ∧ w'.cell? ⟨wr.heap.size, 1, none⟩ = some (.int .i64 y)) 11 (by kernel_rfl) ?_
          refine Held.take (i := 0) (oi := ?oa0) (v := ?va0) ?hia0 (by kernel_rfl) (by kernel_rfl) (by kernel_rfl) (by kernel_rfl) (fun _ _ _ h => h) (Or.inl ⟨?hwa0, ?hya0⟩) (by assumption) ?resta0
          case hia0 => (simp only [List.getElem?_toArray, List.getElem?_cons_zero]; rfl)
          case hwa0 => rfl
          case hya0 => (intro w hSw; (try dsimp only at hSw); go_simp; try with_reducible rfl)
          (try simp only [Act.put, List.setIfInBounds_toArray, List.set_cons_zero, List.set_cons_succ])
          refine Held.take (i := 1) (oi := ?oa1) (v := ?va1) ?hia1 (by kernel_rfl) (by kernel_rfl) (by kernel_rfl) (by kernel_rfl) (fun _ _ _ h => h) (Or.inl ⟨?hwa1, ?hya1⟩) (by assumption) ?resta1
          case hia1 => (simp only [List.getElem?_toArray, List.getElem?_cons_succ, List.getElem?_cons_zero]; rfl)
          case hwa1 => rfl
          case hya1 => (intro w hSw; (try dsimp only at hSw); go_simp; try with_reducible rfl)
          (try simp only [Act.put, List.setIfInBounds_toArray, List.set_cons_zero, List.set_cons_succ])
          refine Held.take (i := 2) (oi := ?oa2) (v := ?va2) ?hia2 (by kernel_rfl) (by kernel_rfl) (by kernel_rfl) (by kernel_rfl) (fun _ _ _ h => h) (Or.inl ⟨?hwa2, ?hya2⟩) (by assumption) ?resta2
          case hia2 => (simp only [List.getElem?_toArray, List.getElem?_cons_succ, List.getElem?_cons_zero]; rfl)
          case hwa2 => rfl
          case hya2 => (intro w hSw; (try dsimp only at hSw); go_simp; try with_reducible rfl)
          (try simp only [Act.put, List.setIfInBounds_toArray, List.set_cons_zero, List.set_cons_succ])
          refine Held.take (i := 3) (oi := ?oa3) (v := ?va3) ?hia3 (by kernel_rfl) (by kernel_rfl) (by kernel_rfl) (by kernel_rfl) (fun _ _ _ h => h) (Or.inl ⟨?hwa3, ?hya3⟩) (by assumption) ?resta3
          case hia3 => (simp only [List.getElem?_toArray, List.getElem?_cons_succ, List.getElem?_cons_zero]; rfl)
          case hwa3 => rfl
          case hya3 => (intro w hSw; (try dsimp only at hSw); go_simp; try with_reducible rfl)
          (try simp only [Act.put, List.setIfInBounds_toArray, List.set_cons_zero, List.set_cons_succ])
          refine Held.take (i := 4) (oi := ?oa4) (v := ?va4) ?hia4 (by kernel_rfl) (by kernel_rfl) (by kernel_rfl) (by kernel_rfl) (fun _ _ _ h => h) (Or.inl ⟨?hwa4, ?hya4⟩) (by assumption) ?resta4
          case hia4 => (simp only [List.getElem?_toArray, List.getElem?_cons_succ, List.getElem?_cons_zero]; rfl)
          case hwa4 => rfl
          case hya4 => (intro w hSw; (try dsimp only at hSw); go_simp; try with_reducible rfl)
          (try simp only [Act.put, List.setIfInBounds_toArray, List.set_cons_zero, List.set_cons_succ])
          refine Held.take (i := 5) (oi := ?oa5) (v := ?va5) ?hia5 (by kernel_rfl) (by kernel_rfl) (by kernel_rfl) (by kernel_rfl) (fun _ _ _ h => h) (Or.inl ⟨?hwa5, ?hya5⟩) (by assumption) ?resta5
          case hia5 => (simp only [List.getElem?_toArray, List.getElem?_cons_succ, List.getElem?_cons_zero]; rfl)
          case hwa5 => rfl
          case hya5 => (intro w hSw; (try dsimp only at hSw); go_simp; try with_reducible rfl)
          (try simp only [Act.put, List.setIfInBounds_toArray, List.set_cons_zero, List.set_cons_succ])
          refine Held.take (i := 6) (oi := ?oa6) (v := ?va6) ?hia6 (by kernel_rfl) (by kernel_rfl) (by kernel_rfl) (by kernel_rfl) (fun _ _ _ h => h) (Or.inl ⟨?hwa6, ?hya6⟩) (by assumption) ?resta6
          case hia6 => (simp only [List.getElem?_toArray, List.getElem?_cons_succ, List.getElem?_cons_zero]; rfl)
          case hwa6 => rfl
          case hya6 => (intro w hSw; (try dsimp only at hSw); go_simp; try with_reducible rfl)
          (try simp only [Act.put, List.setIfInBounds_toArray, List.set_cons_zero, List.set_cons_succ])
          refine Held.take (i := 7) (oi := ?oa7) (v := ?va7) ?hia7 (by kernel_rfl) (by kernel_rfl) (by kernel_rfl) (by kernel_rfl) (fun _ _ _ h => h) (Or.inl ⟨?hwa7, ?hya7⟩) (by assumption) ?resta7
          case hia7 => (simp only [List.getElem?_toArray, List.getElem?_cons_succ, List.getElem?_cons_zero]; rfl)
          case hwa7 => rfl
          case hya7 => (intro w hSw; (try dsimp only at hSw); go_simp; try with_reducible rfl)
          (try simp only [Act.put, List.setIfInBounds_toArray, List.set_cons_zero, List.set_cons_succ])
          refine Held.take (i := 8) (oi := ?oa8) (v := ?va8) ?hia8 (by kernel_rfl) (by kernel_rfl) (by kernel_rfl) (by kernel_rfl) (fun _ _ _ h => h) (Or.inl ⟨?hwa8, ?hya8⟩) (by assumption) ?resta8
          case hia8 => (simp only [List.getElem?_toArray, List.getElem?_cons_succ, List.getElem?_cons_zero]; rfl)
          case hwa8 => rfl
          case hya8 => (intro w hSw; (try dsimp only at hSw); go_simp; try with_reducible rfl)
          (try simp only [Act.put, List.setIfInBounds_toArray, List.set_cons_zero, List.set_cons_succ])
          refine Held.next (i := 9) (o := ?oa9) (by kernel_rfl) ?hia9 (fun K hK => ?sta9)
          case hia9 => (simp only [List.getElem?_toArray, List.getElem?_cons_succ, List.getElem?_cons_zero]; rfl)
          go_simp
          (go_at_call 111; refine (HG.out _).mono ?_; rintro e w4 ⟨A3, c3, rfl, hrw4, hf4⟩)
          (try go_wp2_with fail)
          refine hK.out _ _ (fun _ => by exact ⟨hf4.cell hHeld.1 id, hf4.cell hHeld.2.1 id, hf4.cell hHeld.2.2.1 id, hf4.cell hHeld.2.2.2 id⟩) ?_
          clear hK K
          (try simp only [Act.put, List.setIfInBounds_toArray, List.set_cons_zero, List.set_cons_succ])
          obtain ⟨hR0, vs4, hsl4, hea4⟩ := hrw4
          obtain ⟨ad, rfl⟩ : ∃ ad, A3 = some ad := by obtain ⟨A9, c9, e9, h91, h92⟩ := hsl4.form; cases e9; cases A3 with | none => have := h92 rfl; omega | some ad => exact ⟨ad, rfl⟩
          have hal5 := hal.drew.trans hf4
          have hO4 := hO.frm hal5 (fun _ _ => id)
          obtain ⟨hO0, vs, hown, hea⟩ := hO4
          have hlen4 := hsl4.1
          have hown3 := hown.lt
          have hOl : ∀ g, (Value.slice A' K c').ownBlock = some g → g < wr.heap.size := by intro g hg; obtain ⟨_, vs', hown', _⟩ := hO; exact (hown'.lt g hg).2
          have hsz4 := hal5.size
          have hKK : K + (gateC (2 * ((n : Int) + j + 1)) (x, y)).length ≤ 3 * (j + 1) := by omega
          refine Held.next (i := 10) (o := ?oa10) (by kernel_rfl) ?hia10 (fun K hK => ?sta10)
          case hia10 => (simp only [List.getElem?_toArray, List.getElem?_cons_succ, List.getElem?_cons_zero]; rfl)
          (refine wp_append_own_at (.tmp 57) (.tmp 65) 49 rfl W3.heap.size 22 i0 (.slice none 0 0) 1 24 Tryd.underlying49 hi hz0 hz1 hz2 rfl (by decide) _ _ _ rfl hown ad _ c3 vs4 rfl hlen4 hsl4.src hea4.one_cell (by unfold maxLen; omega) (by omega) (by omega) ?_; intro v' w5 hown5 hgrow h5; have hgr : Frm (fun g => W3.heap.size ≤ g ∧ g < wr.heap.size) w4 w5 := (Frm.refl _ w4).grown hgrow (fun g hg hlt => ⟨(hown3 g hg).1, hOl g hg⟩))
          refine hK.out _ _ (fun _ => by exact ⟨hgr.cell (hf4.cell hHeld.1 id) (fun e => by have := e.1; simp at this; omega), hgr.cell (hf4.cell hHeld.2.1 id) (fun e => by have := e.1; simp at this; omega), hgr.cell (hf4.cell hHeld.2.2.1 id) (fun e => by have := e.2; simp at this), hgr.cell (hf4.cell hHeld.2.2.2 id) (fun e => by have := e.2; simp at this)⟩) ?_
          clear hK K
          (try simp only [Act.put, List.setIfInBounds_toArray, List.set_cons_zero, List.set_cons_succ])
          have hmore := RwO.more hO0 hea hR0 hea4 (fun g hg hG => ⟨by simp at hG; omega, fun e => by have := hOl g e; simp at hG; omega⟩) hown5 hgrow h5
          rw [← HSU.out] at hmore
          have hft : Frm (fun g => W3.heap.size ≤ g ∧ g < wr.heap.size) wr w5 := hal5.any.trans hgr
          have hb5 := ht4.frm hft (fun e => by have := e.1; omega)
          have hfk5 : Frm (fun g => g = q) W3 w5 := hfk.trans' hft (fun g _ h => h) (fun g hg h => by omega)
          obtain ⟨A5, c5, rfl, _⟩ := hmore.form
          have g1 := hb5.at_ 1 rfl
          have gf := hb5.frozen 1
          clear hown5 hgrow hown hea hea4 hsl4 h5
          refine Held.next (i := 11) (o := ?oa11) (by kernel_rfl) ?hia11 (fun K hK => ?sta11)
          case hia11 => (simp only [List.getElem?_toArray, List.getElem?_cons_succ, List.getElem?_cons_zero]; rfl)
          go_simp
          refine hK.out _ _ (fun h => absurd h (by decide)) ?_
          clear hK K
          (try simp only [Act.put, List.setIfInBounds_toArray, List.set_cons_zero, List.set_cons_succ])
          refine Held.next (i := 12) (o := ?oa12) (by kernel_rfl) ?hia12 (fun K hK => ?sta12)
          case hia12 => (simp only [List.getElem?_toArray, List.getElem?_cons_succ, List.getElem?_cons_zero]; rfl)
          go_simp
          refine hK.out _ _ (fun h => absurd h (by decide)) ?_
          clear hK K
          (try simp only [Act.put, List.setIfInBounds_toArray, List.set_cons_zero, List.set_cons_succ])
          refine Held.done (by kernel_rfl) ?_ _
          refine NoPanic.normal ?_
          go_wp2_with fail
          have hset : Frm (fun g => g = q) w5 (w5.setCell ⟨q, 1, none⟩ (.slice A5 (K + (gateC (2 * ((n : Int) + j + 1)) (x, y)).length) c5)) := (Frm.refl (fun g => g = q) w5).setCell (p := ⟨q, 1, none⟩) (fun _ => rfl) _
          exact ⟨⟨j + 1, _, A5, c5, by omega, hKK, by go_num, hb5.set_ 1 _, hmore.frm hset (fun g hg e => by omega), hfk5.trans hset⟩, by simp [intOf]; omega⟩
        · have hjm : m = j := by omega
          subst hjm
          have hE : encFew n L m = encFew n L L.length := by rw [HM.out]
          rw [hE] at hO
          have hKK : K ≤ 24000 := by omega
          have hec : encC n L f = encFew n L L.length ++ forceC f := rfl
          have HEC := Lib.hid hec
          clear hec hE hs hlt hj
          generalize encFew n L L.length = EF at *
          obtain ⟨W4, rfl⟩ : ∃ W4, W4 = wr := ⟨_, rfl⟩
          have hs34 := hfk.size
          go_wp2_with fail
          go_loopw [71] (fun iv wr => ∃ (j K : Nat) (A' : Option Addr) (c' : Nat), j ≤ lf ∧ K ≤ 24000 + j ∧ iv = .int .i64 (j : Int) ∧ Blk wr q 51 [.int .i64 ((n : Int) + m), .slice A' K c'] ∧ RwO wr W3.heap.size 22 (.slice A' K c') K (EF ++ forceC (f.take j)) ∧ Frm (fun g => g = q) W3 wr) (fun iv _ => lf - (intOf iv).toNat)
          case atStart => exact ⟨0, K, A', c', by omega, by omega, rfl, ht4, by simpa [forceC] using hO, hfk⟩
          case round =>
            clear ht4 hO hfk hc4 hfw4 hKK hs34
            obtain ⟨j, K, A', c', hj, hK, rfl, ht4, hO, hfk⟩ := hrel
            have hfw4 := hfw3.then' hfk (fun g hg e => by omega)
            have hszk := hfk.size
            by_cases hlt : j < lf
            · have hlt2 : j < f.length := by rw [HLF.out]; exact hlt
              obtain ⟨b, o, u, rfl, _, hu, hcell⟩ := (hff.frm hfw4 (fun _ _ => id)).at_ hlt
              obtain rfl := at_getD hu
              have hx := isL_iff.1 (HFL.out (f.getD j 0) (by simp [List.getD, hlt2]))
              have hsu := forceFew_succ hlt2
              clear hu
              generalize f.getD j 0 = x at *
              have HSU := Lib.hid hsu
              clear hsu
              have j0 : (0 : Int) ≤ j := by omega
              have j1 : (j : Int) < lf := by omega
              have hal := (Frm.refl (fun _ => False) wr).alloc (.cells #[.int .i64 x] 3)
              have hbp : Blk (wr.alloc (.cells #[.int .i64 x] 3)) wr.heap.size 3 [.int .i64 x] := Blk.new _ _ _
              have HC := Lib.hid (clause_any (some ⟨wr.heap.size, 0, none⟩) 1 1 _ [x] _ rfl (by omega) (by intro y hy; simp at hy; omega) (hbp.sl 1 1 rfl))
              go_wp2_with fail
              refine HC.out.mono ?_
              generalize clC [x] = r at *
              rintro e w5 ⟨hcl, hf5⟩
              have hal5 := hal.trans hf5
              have ht5 := ht4.frm hal5 id
              have hfk5 := hfk.trans hal5.any
              cases r with
              | none =>
                obtain rfl := hcl
                have hO5 := hO.frm hal5 (fun _ _ => id)
                clear HC hO
                go_wp2_with fail
                go_roundw
                case rel => exact ⟨j + 1, K, A', c', by omega, by omega, by go_num, ht5, by rw [HSU.out]; simpa using hO5, hfk5⟩
                case measure => simp [intOf]; omega
              | some r =>
                obtain ⟨A2, c2, rfl, hs2⟩ := hcl
                have hO5 := hO.frm hal5 (fun _ _ => id)
                obtain ⟨h0, vs, hown, hea⟩ := hO5
                have hOl : ∀ g, (Value.slice A' K c').ownBlock = some g → W3.heap.size ≤ g ∧ g < wr.heap.size := by intro g hg; obtain ⟨_, vs', hown', _⟩ := hO; exact hown'.lt g hg
                have hsz5 := hal5.size
                have b1 := ht5.at_ 1 rfl
                clear HC hO
                go_wp2_with (at_builtin; refine wpList_append_own_at _ rfl (.tmp 83) (.tmp 85) 49 rfl W3.heap.size 22 i0 (.slice none 0 0) 1 24 Tryd.underlying49 hi hz0 hz1 hz2 rfl (by decide) _ _ _ rfl (hown.alloc _) ⟨w5.heap.size, 0, none⟩ 1 1 [.slice A2 r.length c2] rfl rfl (cell_one_new _ _ _) ?c2 ?c3 ?c4 ?c5 ?_)
                case c2 => intro x hx; simp at hx; subst hx; rfl
                case c3 => unfold maxLen; omega
                case c4 => omega
                case c5 => simp; omega
                intro v' w6 hown6 hgrow _ h6
                have hal6 := (Frm.refl (fun _ => False) w5).alloc (.cells #[.slice A2 r.length c2] 22)
                have hmore := RwO.more h0 (hea.frm hal6 (fun _ _ => id)) (rfl : [r].length = 1) ((Each.one hs2).frm hal6 (fun _ _ => id)) (fun g _ hg => ⟨by simp at hg; omega, fun e => by have := hOl g e; simp at hg; omega⟩) hown6 hgrow (h6.imp id fun h => h.trans (by simp))
                have hgr : Frm (fun g => W3.heap.size ≤ g) w5 w6 := (hal6.any).grown hgrow (fun g hg hlt => (hOl g hg).1)
                have hb6 := ht5.frm hgr (by omega)
                have hfk6 : Frm (fun g => g = q) W3 w6 := hfk5.trans' hgr (fun g _ h => h) (fun g hg h => by omega)
                obtain ⟨A6, c6, rfl, _⟩ := hmore.form
                have g1 := hb6.at_ 1 rfl
                have gf := hb6.frozen 1
                have hset : Frm (fun g => g = q) w6 (w6.setCell ⟨q, 1, none⟩ (.slice A6 (K + 1) c6)) := (Frm.refl (fun g => g = q) w6).setCell (p := ⟨q, 1, none⟩) (fun _ => rfl) _
                have hb7 := hb6.set_ 1 (.slice A6 (K + 1) c6)
                have hO7 := hmore.frm hset (fun g hg e => by omega)
                have hfk7 := hfk6.trans hset
                clear hgrow hown hown6 hea hal6 h6 b1 hmore hb6 hfk6 hset hgr
                go_wp2_with fail
                go_roundw
                case rel => exact ⟨j + 1, K + 1, A6, c6, by omega, by omega, by go_num, hb7, by rw [HSU.out]; simpa using hO7, hfk7⟩
                case measure => simp [intOf]; omega
            · have hjlf : lf = j := by omega
              subst hjlf
              rw [List.take_of_length_le (by rw [HLF.out]; exact Nat.le_refl _), ← HEC.out] at hO
              have hKl := hO.1
              have hRW := hO.rw
              have hr5 := hr3.frm hfk (by omega)
              have r0 := hr5.at_ 0 rfl
              have r1 := hr5.at_ 1 rfl
              have z0 := hr5.frozen 0
              have z1 := hr5.frozen 1
              have b0 := ht4.at_ 0 rfl
              have b1 := ht4.at_ 1 rfl
              have hf3 := ((Frm.refl (fun g => g = w.heap.size + 1) wr).setCell (p := ⟨w.heap.size + 1, 0, none⟩) (fun _ => rfl) (.int .i64 ((n : Int) + m))).setCell (p := ⟨w.heap.size + 1, 1, none⟩) (fun _ => rfl) (.slice A' K c')
              have hb3 := (hr5.set_ 0 (.int .i64 ((n : Int) + m))).set_ 1 (.slice A' K c')
              have d0 := hb3.at_ 0 rfl
              have d1 := hb3.at_ 1 rfl
              have hfin := hfw4.then' hf3 (fun g hg e => by omega)
              have hRW2 := (hRW.frm hf3 (fun g hg e => by omega)).mono (G := fun k => w.heap.size ≤ k) (fun g _ h => by omega)
              clear hO hr5 hb3 hf3 hlt hj
              subst hKl
              go_wp2_with fail
              refine bodyPost_ret (v := .tuple #[nv ((n : Int) + m) A' (encC n L f).length c', .nilIface]) (by simp [results, Tryd.results45, go_sem, d0, d1, nv]) rfl ⟨_, rfl, ⟨A', c', rfl, hRW2⟩, hfin⟩

end Go.Proofs.YtkjlgamggkencaaDoor
