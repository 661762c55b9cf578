/-
  The contract of cegar.Move.
-/
import Derived.Test.YtkjlgamggkencaaDoorMMatchC
import Derived.Test.YtkjlgamggkencaaDoorMCopyAll
import Derived.Test.YtkjlgamggkencaaDoorMLaw9
import Derived.Test.YtkjlgamggkencaaDoorMOnX
namespace Go.Proofs.YtkjlgamggkencaaDoor
open Go.RowKit
set_option linter.unusedVariables false

theorem gin_any2 {E : Nat → Value} {K : Nat → Prop} {w : World} {gb : Nat} {g : Gr} (hO : On E K w gb g) (i : Int) (h1 : 0 ≤ i) (h2 : i < g.n) :
    Calls Tryd.prog 34 #[.pointer (some ⟨gb, 0, none⟩), .int .i64 i] w fun e w' => e = .returned (.int .i64 (2 * (i + 1))) ∧ w = w' := by
  obtain ⟨fp, ⟨ok, A, c, mb, m, D, hb, hr, hm, hml, hD, f1, f2, f3⟩, _⟩ := hO
  have hn : g.n + g.ands.length ≤ 8000 := ok.len
  have q := hb.at_ 0 rfl
  have h1' : ¬ i < 0 := by omega
  have w1 : IntKind.i64.wrap (i + 1) = i + 1 := IntWalk.i64_in _ (by omega)
  have w2 : IntKind.i64.wrap (2 * (i + 1)) = 2 * (i + 1) := IntWalk.i64_in _ (by omega)
  clear hb hr hm hD
  have hd : decide ((g.n : Int) ≤ i) = false := by simp; omega
  go_enter Tryd.func34, Tryd.ntmps34
  go_wp2_with fail
  go_ret
  exact ⟨rfl, rfl⟩

/-- the first j of D -/
def Few (D : List Int) (j : Nat) (cur : List Int) : Prop := cur.length = D.length ∧ ∀ y, y < D.length → cur.getD y 0 = if y < j then D.getD y 0 else 0
theorem Few.none (D : List Int) : Few D 0 (List.replicate D.length 0) := by
  refine ⟨by simp, fun y hy => ?_⟩
  rw [if_neg (by omega)]; simp [List.getD, hy]
theorem Few.set_ {D cur : List Int} {j : Nat} (h : Few D j cur) (hj : j < D.length) : Few D (j + 1) (cur.set j (D.getD j 0)) := by
  refine ⟨by rw [List.length_set]; exact h.1, fun y hy => ?_⟩
  have hl := h.1
  by_cases e : y = j
  · subst e
    rw [if_pos (by omega)]
    simp [List.getD, show y < cur.length by omega]
  · have h2 := h.2 y hy
    rw [show (cur.set j (D.getD j 0)).getD y 0 = cur.getD y 0 from by simp [List.getD, show ¬ j = y from fun h => e h.symm], h2]
    by_cases h3 : y < j
    · rw [if_pos h3, if_pos (by omega)]
    · rw [if_neg h3, if_neg (by omega)]
theorem Few.skip {D cur : List Int} {j : Nat} (h : Few D j cur) (hj : D.getD j 0 = 0) : Few D (j + 1) cur := by
  refine ⟨h.1, fun y hy => ?_⟩
  rw [h.2 y hy]
  by_cases e : y = j
  · subst e; rw [if_neg (by omega), if_pos (by omega), hj]
  · by_cases h3 : y < j
    · rw [if_pos h3, if_pos (by omega)]
    · rw [if_neg h3, if_neg (by omega)]
theorem Few.all {D cur : List Int} (h : Few D D.length cur) : cur = D := by
  apply List.ext_getElem h.1
  intro i h1 h2
  have := h.2 i h2
  rw [if_pos h2] at this
  simpa [List.getD, h1, h2] using this

set_option maxRecDepth 100000 in
set_option maxHeartbeats 4000000 in
theorem mmove_any {E : Nat → Value} {K : Nat → Prop} {w : World} {gb : Nat} {g : Gr} (hOn : On E K w gb g) {M : Mt} (hM : M.Ok) (n : Nat) (hn : n = M.ou + M.inn) (A : Option Addr) (c : Nat) (B : Option Addr) (d : Nat) (F Fb : Nat → Prop) (Ab : Option Addr) (lb cb : Nat) (mv : List Bool) (h4 : n ≤ 1000) (h5 : M.L.length ≤ 1000)
    (hA : Sl w F 2 (.slice A M.L.length c) M.L.length (pairs M.L)) (hB : Sl w F 1 (.slice B 1 d) 1 ([M.o].map (.int .i64))) (hF : ∀ k, F k → K k) (hlb : mv.length = lb) (h2 : lb = M.inn) (hb : Sl w Fb 1 (.slice Ab lb cb) lb (mv.map .bool))
    (hmade : Made g.n g.ands) (hgn : g.n = M.ou) (hgl : g.len + M.L.length < 8000) :
    Calls Tryd.prog 133 #[.pointer (some ⟨gb, 0, none⟩), mtv M.ex M.ou n A M.L.length c B d, .slice Ab lb cb] w fun e w' => e = .returned (.int .i64 (M.move g mv).1) ∧ On E K w' gb (M.move g mv).2 ∧ Frm (fun k => ¬ K k) w w' := by
  obtain ⟨i0, hi0, hz0, hz1, hz2⟩ := info_parts infoIntG
  have hkept : ∀ k, K k → k < w.heap.size := by obtain ⟨_, _, _, h⟩ := hOn; exact h
  have hf0 := (Frm.refl (fun _ => False) w).alloc (.cells #[.bool M.ex, .int .i64 M.ou, .int .i64 n, .slice A M.L.length c, .slice B 1 d] 104)
  have hb0 : Blk (w.alloc (.cells #[.bool M.ex, .int .i64 M.ou, .int .i64 n, .slice A M.L.length c, .slice B 1 d] 104)) w.heap.size 104 [.bool M.ex, .int .i64 M.ou, .int .i64 n, .slice A M.L.length c, .slice B 1 d] := Blk.new _ _ _
  obtain ⟨D, hD⟩ : ∃ D, D = byL M.ou mv := ⟨_, rfl⟩
  have hDl : D.length = n := by rw [hD, byL_length]; omega
  have hDk : ∀ j, j < n → D[j]? = some (if j < M.ou then 2 * ((j : Int) + 1) else bitI (mv.getD (j - M.ou) false)) := fun j hj => by rw [hD]; exact byL_at (by omega)
  have hDx : ∀ x ∈ D, isL x g.len = true := by rw [hD]; exact byL_isL (by unfold Gr.len; omega)
  have hmd : M.move g mv = copyG g n M.L M.o D := by unfold Mt.move; rw [hn, hD]
  have hfn := Few.none D
  rw [hDl] at hfn
  obtain ⟨bo, oo, uo, hBe, hBF, hBu, hBc⟩ := hB.at_ (k := 0) (by omega)
  simp at hBu
  subst hBu
  rw [Nat.add_zero] at hBc
  have HCP := Lib.hid (fun (W : World) (hf : Frm (fun _ => False) w W) (hO : On E (fun k => K k ∨ (w.heap.size ≤ k ∧ k < W.heap.size)) W gb g) (gt : Nat) (G : Nat → Prop) (hs : Sl W G 1 (.slice (some ⟨gt, 0, none⟩) n n) n (D.map (.int .i64))) => on_copy_all hO n M.L A M.L.length c B 1 d [M.o] M.o (some ⟨gt, 0, none⟩) n n D F F G hmade hgl rfl rfl hDl (by rw [hn]; exact hM.right) (by omega) (by omega) (by omega) (by omega) (by intro x hx; simp at hx; subst hx; rw [hn]; exact hM.out) (by rw [hn]; exact hM.out) hDx (hA.frm hf (fun _ _ => id)) (hB.frm hf (fun _ _ => id)) hs (fun k hk => .inl (hF k hk)))
  rw [hmd]
  have HMD := Lib.hid hDl
  have HDK := Lib.hid hDk
  have hbo := hkept bo (hF bo hBF)
  have hle : M.ou ≤ n := by omega
  have hlbn : M.ou + lb ≤ n ∧ n ≤ M.ou + lb := by omega
  have HLB := Lib.hid hlb
  have hgn1 : g.n ≤ M.ou ∧ M.ou ≤ g.n := by omega
  have b0 := hb0.at_ 0 rfl
  have b1 := hb0.at_ 1 rfl
  have b2 := hb0.at_ 2 rfl
  have b3 := hb0.at_ 3 rfl
  have b4 := hb0.at_ 4 rfl
  clear hD hDl hDk hDx hmd hM hA hB hlb h2 hn hmade hgn
  subst hBe
  generalize M.ex = ex at *
  generalize M.ou = ou at *
  generalize M.o = o at *
  generalize M.L = L at *
  go_enter Tryd.func133, Tryd.ntmps133
  go_wp2_with (refine wpList_make_z _ rfl _ _ 22 rfl 3 i0 (.int .i64 0) Tryd.underlying22 hi0 hz0 hz1 rfl .i64 .i64 n n ?ca ?cb (by omega) (by rw [hz2]; omega) (by omega) ?_)
  case ca => go_simp
  case cb => go_simp
  intro w2 hb2 hf2
  have hto0 := own_of_blk (base := w.heap.size + 1) hb2 n n (by omega) (by simp) (by unfold maxLen; omega) (by simp)
  have hrep : (List.replicate n (Value.int .i64 0)).take n = (List.replicate n (0 : Int)).map (.int .i64) := by simp
  rw [hrep] at hto0
  have hm2 := hb0.frm hf2 id
  have hf02 := hf0.trans hf2
  have hgt : w.heap.size + 1 < w2.heap.size := by have := hb2.lt; simpa using this
  clear hb2 hf2 hb0 hf0 hrep b0 b1 b2 b3 b4
  generalize List.replicate n (0 : Int) = cur0 at *
  have HFN := Lib.hid hfn
  clear hfn
  go_wp2_with fail
  go_loopw [15] (fun iv wr => ∃ (j : Nat) (cur : List Int), j ≤ n ∧ iv = .int .i64 (j : Int) ∧ Few D j cur ∧ wr.ownsRow (w.heap.size + 1) 3 1 (.slice (some ⟨w.heap.size + 1, 0, none⟩) n n) n (cur.map (.int .i64)) ∧ Frm (fun k => k = w.heap.size + 1) w2 wr) (fun iv _ => n - (intOf iv).toNat)
  case atStart => exact ⟨0, cur0, by omega, rfl, HFN.out, by simpa using hto0, Frm.refl _ _⟩
  case round =>
    clear HFN hto0
    obtain ⟨j, cur, hj, rfl, hfew, hto, hfk⟩ := hrel
    have hmj := hm2.frm hfk (by omega)
    have hfj := hf02.then' hfk (fun k hk e => by omega)
    by_cases hlt : j < n
    · have HFW := Lib.hid hfew
      have hcl : cur.length = n := by rw [hfew.1, HMD.out]
      have hdk := HDK.out j hlt
      have hset := hfew.set_ (by rw [HMD.out]; exact hlt)
      have hgd : D.getD j 0 = if j < ou then 2 * ((j : Int) + 1) else bitI (mv.getD (j - ou) false) := by rw [List.getD, hdk]; rfl
      have HGD := Lib.hid hgd
      have hcw : wr.cell? ⟨w.heap.size + 1, j, none⟩ = some (.int .i64 (cur.getD j 0)) := own_at hto (by rw [List.getElem?_map, List.getElem?_eq_getElem (by omega)]; simp [List.getD, show j < cur.length by omega])
      have hcf := own_free hto j
      have hto2 := own_set hto (i := j) (.int .i64 (D.getD j 0))
      rw [← List.map_set] at hto2
      have hfk2 : Frm (fun k => k = w.heap.size + 1) w2 (wr.setCell ⟨w.heap.size + 1, j, none⟩ (.int .i64 (D.getD j 0))) := hfk.setCell (p := ⟨w.heap.size + 1, j, none⟩) (fun _ => rfl) _
      have HSET := Lib.hid hset
      have b1 := hmj.at_ 1 rfl
      have j0 : (0 : Int) ≤ j := by omega
      have j1 : (j : Int) < n := by omega
      clear hfew hdk hset hgd hcl
      generalize cur.getD j 0 = cj at *
      by_cases hjo : j < ou
      · have jo : (j : Int) < ou := by omega
        have hgd := HGD.out
        rw [if_pos hjo] at hgd
        rw [hgd] at hto2 hfk2 HSET
        have HIN := Lib.hid (gin_any2 (On.wide (K' := K) hOn hfj (fun k hk => .inl hk)) (j : Int) (by omega) (by omega))
        clear hgd HGD
        go_wp2_with fail
        refine HIN.out.mono ?_
        rintro e w' ⟨rfl, rfl⟩
        go_wp2_with fail
        go_roundw
        case rel => exact ⟨j + 1, _, by omega, by go_num, HSET.out, hto2, hfk2⟩
        case measure => simp [intOf]; omega
      · have jo : ¬ (j : Int) < ou := by omega
        have hgd := HGD.out
        rw [if_neg hjo] at hgd
        obtain ⟨bq, oq, u, rfl, _, hu, hcell⟩ := (hb.frm hfj (fun _ _ => id)).at_ (k := j - ou) (by omega)
        obtain rfl := at_bool hu
        have w1 : IntKind.i64.wrap ((j : Int) - ou) = (j : Int) - ou := IntWalk.i64_in _ (by omega)
        have i1 : (j : Int) - ou < lb := by omega
        have i0' : (0 : Int) ≤ (j : Int) - ou := by omega
        have i2 : ((j : Int) - ou).toNat = j - ou := by omega
        clear hu
        generalize mv.getD (j - ou) false = z at *
        cases z
        · have hsk := HFW.out.skip hgd
          have HSK := Lib.hid hsk
          clear hsk hgd HGD hto2 hfk2 HSET hcw
          go_wp2_with fail
          go_roundw
          case rel => exact ⟨j + 1, cur, by omega, by go_num, HSK.out, hto, hfk⟩
          case measure => simp [intOf]; omega
        · rw [hgd] at hto2 hfk2 HSET
          rw [show bitI true = 1 from rfl] at hto2 hfk2 HSET
          clear hgd HGD
          go_wp2_with fail
          go_roundw
          case rel => exact ⟨j + 1, _, by omega, by go_num, HSET.out, hto2, hfk2⟩
          case measure => simp [intOf]; omega
    · obtain rfl : n = j := by omega
      have hall : cur = D := Few.all (by rw [HMD.out]; exact hfew)
      subst hall
      have hs2 := hf02.size
      have hsj := hfj.size
      have hO2 := On.wide (K' := fun k => K k ∨ (w.heap.size ≤ k ∧ k < wr.heap.size)) hOn hfj (fun k hk => hk)
      have HC := Lib.hid (HCP.out wr.drew (hfj.drewN 1) (hO2.drewN 1) (w.heap.size + 1) _ (own_sl hto))
      have hco := hfj.cell hBc id
      have hH0 : wr.drew.cell? ⟨w.heap.size, 2, none⟩ = some (.int .i64 (n : Int)) ∧ wr.drew.cell? ⟨w.heap.size, 3, none⟩ = some (.slice A L.length c) ∧ wr.drew.cell? ⟨w.heap.size, 4, none⟩ = some (.slice (some ⟨bo, oo, none⟩) 1 d) ∧ wr.drew.cell? ⟨bo, oo, none⟩ = some (.int .i64 o) := ⟨hmj.at_ 2 rfl, hmj.at_ 3 rfl, hmj.at_ 4 rfl, hco⟩
      have hmlt := hmj.lt
      clear hto hco HCP hOn hO2 hb hBc hmj hm2 hfk hfew hlt hj
      go_wp2_with fail
      have hHeld := hH0
      refine Held.begin (fun w' => w'.cell? ⟨w.heap.size, 2, none⟩ = some (.int .i64 (n : Int)) ∧ w'.cell? ⟨w.heap.size, 3, none⟩ = some (.slice A L.length c) ∧ w'.cell? ⟨w.heap.size, 4, none⟩ = some (.slice (some ⟨bo, oo, none⟩) 1 d) ∧ w'.cell? ⟨bo, oo, none⟩ = some (.int .i64 o)) 10 (by kernel_rfl) ?_
      refine Held.take (i := 0) (oi := ?oa0) (v := ?va0) ?hia0 (by kernel_rfl) (by kernel_rfl) (by kernel_rfl) (by kernel_rfl) (fun _ _ _ h => h) (Or.inl ⟨?hwa0, ?hya0⟩) (by assumption) ?resta0
      case hia0 => (simp only [List.getElem?_toArray, List.getElem?_cons_zero]; rfl)
      case hwa0 => rfl
      case hya0 => (intro w hSw; (try dsimp only at hSw); go_simp; try with_reducible rfl)
      (try simp only [Act.put, List.setIfInBounds_toArray, List.set_cons_zero, List.set_cons_succ])
      refine Held.take (i := 1) (oi := ?oa1) (v := ?va1) ?hia1 (by kernel_rfl) (by kernel_rfl) (by kernel_rfl) (by kernel_rfl) (fun _ _ _ h => h) (Or.inl ⟨?hwa1, ?hya1⟩) (by assumption) ?resta1
      case hia1 => (simp only [List.getElem?_toArray, List.getElem?_cons_succ, List.getElem?_cons_zero]; rfl)
      case hwa1 => rfl
      case hya1 => (intro w hSw; (try dsimp only at hSw); go_simp; try with_reducible rfl)
      (try simp only [Act.put, List.setIfInBounds_toArray, List.set_cons_zero, List.set_cons_succ])
      refine Held.take (i := 2) (oi := ?oa2) (v := ?va2) ?hia2 (by kernel_rfl) (by kernel_rfl) (by kernel_rfl) (by kernel_rfl) (fun _ _ _ h => h) (Or.inl ⟨?hwa2, ?hya2⟩) (by assumption) ?resta2
      case hia2 => (simp only [List.getElem?_toArray, List.getElem?_cons_succ, List.getElem?_cons_zero]; rfl)
      case hwa2 => rfl
      case hya2 => (intro w hSw; (try dsimp only at hSw); go_simp; try with_reducible rfl)
      (try simp only [Act.put, List.setIfInBounds_toArray, List.set_cons_zero, List.set_cons_succ])
      refine Held.take (i := 3) (oi := ?oa3) (v := ?va3) ?hia3 (by kernel_rfl) (by kernel_rfl) (by kernel_rfl) (by kernel_rfl) (fun _ _ _ h => h) (Or.inl ⟨?hwa3, ?hya3⟩) (by assumption) ?resta3
      case hia3 => (simp only [List.getElem?_toArray, List.getElem?_cons_succ, List.getElem?_cons_zero]; rfl)
      case hwa3 => rfl
      case hya3 => (intro w hSw; (try dsimp only at hSw); go_simp; try with_reducible rfl)
      (try simp only [Act.put, List.setIfInBounds_toArray, List.set_cons_zero, List.set_cons_succ])
      refine Held.take (i := 4) (oi := ?oa4) (v := ?va4) ?hia4 (by kernel_rfl) (by kernel_rfl) (by kernel_rfl) (by kernel_rfl) (fun _ _ _ h => h) (Or.inl ⟨?hwa4, ?hya4⟩) (by assumption) ?resta4
      case hia4 => (simp only [List.getElem?_toArray, List.getElem?_cons_succ, List.getElem?_cons_zero]; rfl)
      case hwa4 => rfl
      case hya4 => (intro w hSw; (try dsimp only at hSw); go_simp; try with_reducible rfl)
      (try simp only [Act.put, List.setIfInBounds_toArray, List.set_cons_zero, List.set_cons_succ])
      refine Held.take (i := 5) (oi := ?oa5) (v := ?va5) ?hia5 (by kernel_rfl) (by kernel_rfl) (by kernel_rfl) (by kernel_rfl) (fun _ _ _ h => h) (Or.inl ⟨?hwa5, ?hya5⟩) (by assumption) ?resta5
      case hia5 => (simp only [List.getElem?_toArray, List.getElem?_cons_succ, List.getElem?_cons_zero]; rfl)
      case hwa5 => rfl
      case hya5 => (intro w hSw; (try dsimp only at hSw); go_simp; try with_reducible rfl)
      (try simp only [Act.put, List.setIfInBounds_toArray, List.set_cons_zero, List.set_cons_succ])
      refine Held.take (i := 6) (oi := ?oa6) (v := ?va6) ?hia6 (by kernel_rfl) (by kernel_rfl) (by kernel_rfl) (by kernel_rfl) (fun _ _ _ h => h) (Or.inl ⟨?hwa6, ?hya6⟩) (by assumption) ?resta6
      case hia6 => (simp only [List.getElem?_toArray, List.getElem?_cons_succ, List.getElem?_cons_zero]; rfl)
      case hwa6 => rfl
      case hya6 => (intro w hSw; (try dsimp only at hSw); go_simp; try with_reducible rfl)
      (try simp only [Act.put, List.setIfInBounds_toArray, List.set_cons_zero, List.set_cons_succ])
      refine Held.take (i := 7) (oi := ?oa7) (v := ?va7) ?hia7 (by kernel_rfl) (by kernel_rfl) (by kernel_rfl) (by kernel_rfl) (fun _ _ _ h => h) (Or.inl ⟨?hwa7, ?hya7⟩) (by assumption) ?resta7
      case hia7 => (simp only [List.getElem?_toArray, List.getElem?_cons_succ, List.getElem?_cons_zero]; rfl)
      case hwa7 => rfl
      case hya7 => (intro w hSw; (try dsimp only at hSw); go_simp; try with_reducible rfl)
      (try simp only [Act.put, List.setIfInBounds_toArray, List.set_cons_zero, List.set_cons_succ])
      refine Held.take (i := 8) (oi := ?oa8) (v := ?va8) ?hia8 (by kernel_rfl) (by kernel_rfl) (by kernel_rfl) (by kernel_rfl) (fun _ _ _ h => h) (Or.inl ⟨?hwa8, ?hya8⟩) (by assumption) ?resta8
      case hia8 => (simp only [List.getElem?_toArray, List.getElem?_cons_succ, List.getElem?_cons_zero]; rfl)
      case hwa8 => rfl
      case hya8 => (intro w hSw; (try dsimp only at hSw); go_simp; try with_reducible rfl)
      (try simp only [Act.put, List.setIfInBounds_toArray, List.set_cons_zero, List.set_cons_succ])
      refine Held.next (i := 9) (o := ?oa9) (by kernel_rfl) ?hia9 (fun K hK => ?sta9)
      case hia9 => (simp only [List.getElem?_toArray, List.getElem?_cons_succ, List.getElem?_cons_zero]; rfl)
      go_simp
      (go_at_call 86; refine HC.out.mono ?_; rintro e w5 ⟨rfl, hO5, hf5⟩)
      (try go_wp2_with fail)
      refine hK.out _ _ (fun _ => by exact ⟨hf5.cell hHeld.1 (fun h => h (.inr ⟨by simp, by simp; omega⟩)), hf5.cell hHeld.2.1 (fun h => h (.inr ⟨by simp, by simp; omega⟩)), hf5.cell hHeld.2.2.1 (fun h => h (.inr ⟨by simp, by simp; omega⟩)), hf5.cell hHeld.2.2.2 (fun h => h (.inl (hF _ hBF)))⟩) ?_
      clear hK K
      (try simp only [Act.put, List.setIfInBounds_toArray, List.set_cons_zero, List.set_cons_succ])
      refine Held.next (i := 10) (o := ?oa10) (by kernel_rfl) ?hia10 (fun K hK => ?sta10)
      case hia10 => (simp only [List.getElem?_toArray, List.getElem?_cons_succ, List.getElem?_cons_zero]; rfl)
      go_simp
      refine hK.out _ _ (fun h => absurd h (by decide)) ?_
      clear hK K
      (try simp only [Act.put, List.setIfInBounds_toArray, List.set_cons_zero, List.set_cons_succ])
      refine Held.done (by kernel_rfl) ?_ _
      refine NoPanic.normal ?_
      go_wp2_with fail
      go_ret
      refine ⟨rfl, On.wide hO5 (Frm.refl (fun _ => False) _) (fun k h => .inl (.inl h)), ?_⟩
      exact (hfj.drewN 1).any.trans' hf5 (fun _ _ h => h) (fun k hk h hK => h (.inl hK))

end Go.Proofs.YtkjlgamggkencaaDoor
