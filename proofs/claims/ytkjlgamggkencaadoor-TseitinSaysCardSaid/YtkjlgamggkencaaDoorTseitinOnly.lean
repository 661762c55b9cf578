/-
  The walk of TseitinOnly.
-/
import Derived.Test.YtkjlgamggkencaaDoorTseitinForces
import Derived.Test.YtkjlgamggkencaaDoorLookN
namespace Go.Proofs.YtkjlgamggkencaaDoor
open Go.RowKit

set_option maxRecDepth 100000 in
set_option maxHeartbeats 2000000 in
theorem extend_any (n : Nat) (L : List (Int × Int)) (A : Option Addr) (m c : Nat) (B : Option Addr) (k d : Nat) (l : List Int) (Ai : Option Addr) (li ci : Nat) (inp : List Bool) (F F2 G : Nat → Prop) (w : World) (hm : L.length = m) (hk : l.length = k) (hli : inp.length = li) (hr : Right n L)
    (hn : n ≤ 2000) (hm4 : m ≤ 2000) (hk4 : k ≤ 2000) (hli4 : li ≤ 1000000) (hl : ∀ x ∈ l, isL x (n + m) = true) (hs : Sl w F 2 (.slice A m c) m (pairs L)) (ho : Sl w F2 1 (.slice B k d) k (l.map (.int .i64))) (hi : Sl w G 1 (.slice Ai li ci) li (inp.map .bool)) :
    Calls Tryd.prog 71 #[cv n A m c B k d, .slice Ai li ci] w fun e w' => ∃ A' c', e = .returned (.slice A' (n + 1 + m) c') ∧ w'.ownsRow w.heap.size 4 1 (.slice A' (n + 1 + m) c') (n + 1 + m) ((nodes n L inp).map .bool) ∧ Frm (fun _ => False) w w' := by
  have hf0 := (Frm.refl (fun _ => False) w).alloc (.cells #[.int .i64 n, .slice A m c, .slice B k d] 40)
  have hb0 : Blk (w.alloc (.cells #[.int .i64 n, .slice A m c, .slice B k d] 40)) w.heap.size 40 [.int .i64 n, .slice A m c, .slice B k d] := Blk.new _ _ _
  have b0 := hb0.at_ 0 rfl
  have b1 := hb0.at_ 1 rfl
  have b2 := hb0.at_ 2 rfl
  have HN := Lib.hid (lnodes_any n L A m c B k d l Ai li ci inp F F2 G (w.alloc (.cells #[.int .i64 n, .slice A m c, .slice B k d] 40)) hm hk hli hr hn hm4 hk4 hli4 hl (hs.frm hf0 (fun _ _ => id)) (ho.frm hf0 (fun _ _ => id)) (hi.frm hf0 (fun _ _ => id)))
  have HF := Lib.hid hf0
  have hsz : w.heap.size ≤ (w.alloc (.cells #[.int .i64 n, .slice A m c, .slice B k d] 40)).heap.size := by simp
  clear hs ho hi hm hk hli hr hl hb0 hf0
  go_enter Tryd.func71, Tryd.ntmps71
  go_wp2_with fail
  refine HN.out.mono ?_
  rintro e w1 ⟨A', c', rfl, hown, hf1⟩
  have hown2 := own_mono hown hsz
  go_wp2_with fail
  go_ret
  exact ⟨A', c', rfl, hown2, HF.out.trans hf1⟩

theorem emod_nat (k : Int) {m : Nat} (h : 0 < m) : ∃ K : Nat, k % (m : Int) = K ∧ K < m := by
  have a1 := Int.emod_nonneg k (b := (m : Int)) (by omega)
  have a2 := Int.emod_lt_of_pos k (b := (m : Int)) (by omega)
  exact ⟨(k % (m : Int)).toNat, by omega, by omega⟩
theorem own_ptr {w : World} {base n c : Nat} {e : TypeId} {A : Option Addr} {xs : List Value} (h : w.ownsRow base e 1 (.slice A n c) n xs) (hn : 0 < n) : ∃ g, A = some ⟨g, 0, none⟩ ∧ base ≤ g := by
  rcases h.2 with ⟨_, h⟩ | ⟨g, cap, cur, he, hb, _⟩
  · omega
  · cases he; exact ⟨g, rfl, hb⟩

set_option maxRecDepth 100000 in
set_option maxHeartbeats 8000000 in
theorem tol_any (n : Nat) (a0 : Option Addr) (len0 cap0 : Nat) (z0 : List Int) (hz0 : z0.length = len0) (x k : Int) (w : World)
    (s0 : Sl w (fun k => k < w.heap.size) 1 (.slice a0 len0 cap0) len0 (z0.map (.int .i64))) (h0 : len0 ≤ 60) (hn1 : 1 ≤ n) (hn2 : n ≤ 20) :
    Calls Tryd.prog 14 #[.int .i64 n, .slice a0 len0 cap0, .int .i64 x, .int .i64 k] w fun e w' => e = .returned (.bool true) ∧ Frm (fun _ => False) w w' := by
  have t0 : decide ((60 : Int) < (len0 : Int)) = false := by simp; omega
  have t1 : decide ((n : Int) < 1) = false := by simp; omega
  have t2 : decide ((20 : Int) < (n : Int)) = false := by simp; omega
  have hlm : (mkAnds n z0).length ≤ 30 := by rw [mkAnds_length]; omega
  have hr := mkAnds_right n z0
  have HMK := Lib.hid (fun W (hf : Frm (fun _ => False) w W) => make_any n a0 len0 cap0 z0 hz0 none 0 0 [] rfl _ (fun _ => False) W (s0.frm hf (fun _ _ => id)) (Sl.nil_ _ _ _) (by omega) (by omega) (by omega))
  have HR := Lib.hid hr
  clear hz0 s0 hr
  generalize mkAnds n z0 = L at *
  have hmo : mkOuts n z0 [] = [] := rfl
  rw [hmo] at HMK
  clear hmo
  go_enter Tryd.func14, Tryd.ntmps14
  go_wp2_with fail
  refine (first13_any w).mono ?_
  rintro e w1 ⟨rfl, hf1⟩
  go_wp2_with fail
  refine (HMK.out w1 hf1).mono ?_
  rintro e w2 ⟨v, rfl, ⟨A, c, B, d, rfl, hA, hB⟩, hf2⟩
  clear HMK
  have hf02 := hf1.trans hf2
  have hfa := (Frm.refl (fun _ => False) w2).alloc (.cells #[.int .i64 n, .slice A L.length c, .slice B 0 d] 40)
  have hba : Blk (w2.alloc (.cells #[.int .i64 n, .slice A L.length c, .slice B 0 d] 40)) w2.heap.size 40 [.int .i64 n, .slice A L.length c, .slice B 0 d] := Blk.new _ _ _
  have b0 := hba.at_ 0 rfl
  have b1 := hba.at_ 1 rfl
  have b2 := hba.at_ 2 rfl
  simp only [List.length_nil]
  have hA1 := hA.frm hfa (fun _ _ => id)
  have hB1 := hB.frm hfa (fun _ _ => id)
  have HE := Lib.hid (encode_any [102, 104] (fun _ => ⟨0, 0, none⟩) (by simp) (by simp) n A L.length c B 0 d L [] none 0 0 [] _ _ (fun _ => False) (w2.alloc (.cells #[.int .i64 n, .slice A L.length c, .slice B 0 d] 40)) rfl rfl rfl (by omega) (by omega) (by omega) HR.out (by simp) (by simp) hA1 hB1 (Sl.nil_ _ _ _))
  go_wp2_with fail
  refine HE.out.mono ?_
  rintro e w3 ⟨v, rfl, ⟨A', c', rfl, hrw0⟩, hf3⟩
  have hrw := hrw0.mono (G := fun k => k < w3.heap.size) (fun k hk _ => hk)
  clear hrw0
  have hfin := encC_in HR.out (f := []) (by simp)
  have hsat := fun inp => encC_nodes HR.out inp (f := []) (by simp)
  have hflip := fun (inp : List Bool) (i : Nat) (hi : i < L.length) => encC_flip HR.out inp (f := []) hi
  have hlenC : (encC n L []).length ≤ 100 := by
    have h1 := encFew_length n L L.length
    unfold encC
    rw [List.length_append]
    simp [forceC]
    omega
  have HFIN := Lib.hid hfin
  have HSAT := Lib.hid hsat
  have HFLIP := Lib.hid hflip
  clear hfin hsat hflip HE
  generalize encC n L [] = cs at *
  have hf03 := (hf02.trans hfa).trans hf3
  have hba3 := hba.frm hf3 id
  have hA3 := hA1.frm hf3 (fun _ _ => id)
  have hB3 := hB1.frm hf3 (fun _ _ => id)
  clear hba hA1 hB1 hA hB hf1 hf2 hfa hf3 hf02 b0 b1 b2
  simp only [nv]
  have hfn := (Frm.refl (fun _ => False) w3).alloc (.cells #[.int .i64 ((n : Int) + (L.length : Int)), .slice A' cs.length c'] 51)
  have hbn : Blk (w3.alloc (.cells #[.int .i64 ((n : Int) + (L.length : Int)), .slice A' cs.length c'] 51)) w3.heap.size 51 [.int .i64 ((n : Int) + (L.length : Int)), .slice A' cs.length c'] := Blk.new _ _ _
  have HV := Lib.hid (fun (W : World) => values_any x n (by omega) W)
  have hinl := mkVals_length x n
  have HVL := Lib.hid hinl
  clear hinl
  generalize mkVals x n = inp at *
  obtain ⟨W1, hW1⟩ : ∃ W1, W1 = w3.alloc (.cells #[.int .i64 ((n : Int) + (L.length : Int)), .slice A' cs.length c'] 51) := ⟨_, rfl⟩
  have hba4 := hba3.frm hfn id
  have hrw4 := hrw.frm hfn (fun _ _ => id)
  have hA4 := hA3.frm hfn (fun _ _ => id)
  have hB4 := hB3.frm hfn (fun _ _ => id)
  have hf04 := hf03.trans hfn
  have hszW := hfn.size
  go_wp2_with fail
  rw [← hW1] at hba4 hbn hrw4 hA4 hB4 hf04 hszW ⊢
  clear hW1 hfn hba3 hrw hA3 hB3 hf03
  have HX := Lib.hid (fun (W : World) (hf : Frm (fun _ => False) W1 W) (Ai : Option Addr) (ci : Nat) (G : Nat → Prop) (hi : Sl W G 1 (.slice Ai n ci) n (inp.map .bool)) => extend_any n L A L.length c B 0 d [] Ai n ci inp _ _ G W rfl rfl HVL.out HR.out (by omega) (by omega) (by omega) (by omega) (by simp) (hA4.frm hf (fun _ _ => id)) (hB4.frm hf (fun _ _ => id)) hi)
  have hH0 : W1.drew.cell? ⟨w2.heap.size, 0, none⟩ = some (.int .i64 (n : Int)) ∧ W1.drew.cell? ⟨w2.heap.size, 1, none⟩ = some (.slice A L.length c) ∧ W1.drew.cell? ⟨w2.heap.size, 2, none⟩ = some (.slice B 0 d) := ⟨hba4.at_ 0 rfl, hba4.at_ 1 rfl, hba4.at_ 2 rfl⟩
  have hHeld := hH0
  refine Held.begin (fun w' => w'.cell? ⟨w2.heap.size, 0, none⟩ = some (.int .i64 (n : Int)) ∧ w'.cell? ⟨w2.heap.size, 1, none⟩ = some (.slice A L.length c) ∧ w'.cell? ⟨w2.heap.size, 2, none⟩ = some (.slice B 0 d)) 5 (by kernel_rfl) ?_
  refine Held.take (i := 0) (oi := ?oa0) (v := ?va0) ?hia0 (by kernel_rfl) (by kernel_rfl) (by kernel_rfl) (by kernel_rfl) (fun _ _ _ h => h) (Or.inl ⟨?hwa0, ?hya0⟩) (by assumption) ?resta0
  case hia0 => (simp only [List.getElem?_toArray, List.getElem?_cons_zero]; rfl)
  case hwa0 => rfl
  case hya0 => (intro w hSw; (try dsimp only at hSw); go_simp; try with_reducible rfl)
  (try simp only [Act.put, List.setIfInBounds_toArray, List.set_cons_zero, List.set_cons_succ])
  refine Held.take (i := 1) (oi := ?oa1) (v := ?va1) ?hia1 (by kernel_rfl) (by kernel_rfl) (by kernel_rfl) (by kernel_rfl) (fun _ _ _ h => h) (Or.inl ⟨?hwa1, ?hya1⟩) (by assumption) ?resta1
  case hia1 => (simp only [List.getElem?_toArray, List.getElem?_cons_succ, List.getElem?_cons_zero]; rfl)
  case hwa1 => rfl
  case hya1 => (intro w hSw; (try dsimp only at hSw); go_simp; try with_reducible rfl)
  (try simp only [Act.put, List.setIfInBounds_toArray, List.set_cons_zero, List.set_cons_succ])
  refine Held.take (i := 2) (oi := ?oa2) (v := ?va2) ?hia2 (by kernel_rfl) (by kernel_rfl) (by kernel_rfl) (by kernel_rfl) (fun _ _ _ h => h) (Or.inl ⟨?hwa2, ?hya2⟩) (by assumption) ?resta2
  case hia2 => (simp only [List.getElem?_toArray, List.getElem?_cons_succ, List.getElem?_cons_zero]; rfl)
  case hwa2 => rfl
  case hya2 => (intro w hSw; (try dsimp only at hSw); go_simp; try with_reducible rfl)
  (try simp only [Act.put, List.setIfInBounds_toArray, List.set_cons_zero, List.set_cons_succ])
  refine Held.next (i := 3) (o := ?oa3) (by kernel_rfl) ?hia3 (fun K hK => ?sta3)
  case hia3 => (simp only [List.getElem?_toArray, List.getElem?_cons_succ, List.getElem?_cons_zero]; rfl)
  go_simp
  (go_at_call 46; refine (HV.out _).mono ?_; rintro e w5 ⟨Ai, ci, rfl, hown5, hf5⟩)
  (try go_wp2_with fail)
  refine hK.out _ _ (fun _ => by exact ⟨hf5.cell hHeld.1 id, hf5.cell hHeld.2.1 id, hf5.cell hHeld.2.2 id⟩) ?_
  clear hK K
  (try simp only [Act.put, List.setIfInBounds_toArray, List.set_cons_zero, List.set_cons_succ])
  refine Held.next (i := 4) (o := ?oa4) (by kernel_rfl) ?hia4 (fun K hK => ?sta4)
  case hia4 => (simp only [List.getElem?_toArray, List.getElem?_cons_succ, List.getElem?_cons_zero]; rfl)
  go_simp
  (go_at_call 71; refine (HX.out _ (((Frm.refl _ _).drewN 1).trans hf5) Ai ci _ (own_sl hown5)).mono ?_; rintro e w6 ⟨Am, cm, rfl, hown6, hf6⟩)
  (try go_wp2_with fail)
  refine hK.out _ _ (fun _ => by exact ⟨hf6.cell (hf5.cell hHeld.1 id) id, hf6.cell (hf5.cell hHeld.2.1 id) id, hf6.cell (hf5.cell hHeld.2.2 id) id⟩) ?_
  clear hK K
  (try simp only [Act.put, List.setIfInBounds_toArray, List.set_cons_zero, List.set_cons_succ])
  refine Held.next (i := 5) (o := ?oa5) (by kernel_rfl) ?hia5 (fun K hK => ?sta5)
  case hia5 => (simp only [List.getElem?_toArray, List.getElem?_cons_succ, List.getElem?_cons_zero]; rfl)
  go_simp
  refine hK.out _ _ (fun h => absurd h (by decide)) ?_
  clear hK K
  (try simp only [Act.put, List.setIfInBounds_toArray, List.set_cons_zero, List.set_cons_succ])
  refine Held.done (by kernel_rfl) ?_ _
  refine NoPanic.normal ?_
  have hf16 := (((Frm.refl (fun _ => False) W1).drewN 1).trans hf5).trans hf6
  have hba6 := hba4.frm hf16 id
  have hbn6 := hbn.frm hf16 id
  have hrw6 := hrw4.frm hf16 (fun _ _ => id)
  have hf06 := hf04.trans hf16
  have hm6 := own_sl hown6
  have hnl := nodes_length n L inp
  have hs16 : W1.heap.size ≤ w5.heap.size := hf5.size
  have hbl := hbn.lt
  have hszw1 := hf04.size
  clear hba4 hbn hrw4 hA4 hB4 hf04 hf16 hf6 hf5 hown5 HX HV hH0
  have b1 := hba6.at_ 1 rfl
  have n0 := hbn6.at_ 0 rfl
  have n1 := hbn6.at_ 1 rfl
  have wa : IntKind.i64.wrap ((n : Int) + (L.length : Int)) = (n : Int) + (L.length : Int) := IntWalk.i64_in _ (by omega)
  have wb : IntKind.i64.wrap ((n : Int) + (L.length : Int) + 1) = (n : Int) + (L.length : Int) + 1 := IntWalk.i64_in _ (by omega)
  have hcmp : ((n : Int) + 1 + (L.length : Int) == (n : Int) + (L.length : Int) + 1) = true := by simp; omega
  have HIN : ∀ r ∈ cs, r.length ≤ 100000 ∧ ∀ y ∈ r, InM (n + 1 + L.length) y := fun r hr => by
    have h := HFIN.out r hr
    exact ⟨by omega, fun y hy => by have := h.2 y hy; rwa [show n + L.length + 1 = n + 1 + L.length from by omega] at this⟩
  have HIN2 := Lib.hid HIN
  clear HIN
  have HO1 := Lib.hid (of_any A' cs.length c' cs Am (n + 1 + L.length) cm (nodes n L inp) _ _ w6 hnl HIN2.out (by omega) (by omega) hrw6 hm6)
  rw [HSAT.out inp] at HO1
  simp only [List.all_nil] at HO1
  go_wp2_with fail
  refine HO1.out.mono ?_
  rintro e w7 ⟨rfl, hf7⟩
  have hba7 := hba6.frm hf7 id
  have hbn7 := hbn6.frm hf7 id
  have hrw7 := hrw6.frm hf7 (fun _ _ => id)
  have hf07 := hf06.trans hf7
  have hown7 := own_frm hown6 hf7 (fun _ _ => id)
  obtain ⟨g, rfl, hg⟩ := own_ptr hown7 (by omega)
  have b1' := hba7.at_ 1 rfl
  clear HO1 hba6 hbn6 hrw6 hf06 hown6 hm6 hf7 b1 n0 n1 hcmp
  by_cases hL : L.length = 0
  · rw [hL] at b1'
    go_wp2_with fail
    go_ret
    exact ⟨rfl, hf07⟩
  · have hL1 : ((L.length : Int) == 0) = false := beq_eq_false_iff_ne.2 (by omega)
    go_wp2_with fail
    refine (number_any k (L.length : Int) _ (by omega) (by omega)).mono ?_
    rintro e w' ⟨rfl, rfl⟩
    obtain ⟨K, hK, hKl⟩ := emod_nat k (m := L.length) (by omega)
    rw [hK]
    clear hK
    have hfl := HFLIP.out inp K hKl
    have hat : ((nodes n L inp).map Value.bool)[n + 1 + K]? = some (.bool ((nodes n L inp).getD (n + 1 + K) false)) := by
      simp [List.getD, show n + 1 + K < (nodes n L inp).length by omega]
    have hcell := own_at hown7 hat
    have hfree := own_free hown7 (n + 1 + K)
    have hown8 := own_set hown7 (i := n + 1 + K) (.bool (!(nodes n L inp).getD (n + 1 + K) false))
    rw [← List.map_set] at hown8
    have hnl8 : ((nodes n L inp).set (n + 1 + K) (!(nodes n L inp).getD (n + 1 + K) false)).length = n + 1 + L.length := by simpa using hnl
    have HFL := Lib.hid hfl
    clear hfl hat hown7 hL
    generalize (nodes n L inp).set (n + 1 + K) (!(nodes n L inp).getD (n + 1 + K) false) = V8 at *
    generalize (nodes n L inp).getD (n + 1 + K) false = z at *
    have hset : Frm (fun k => k = g) w7 (w7.setCell ⟨g, n + 1 + K, none⟩ (.bool !z)) := (Frm.refl (fun k => k = g) w7).setCell (p := ⟨g, n + 1 + K, none⟩) (fun _ => rfl) _
    have hbn8 := hbn7.frm hset (by omega)
    have hrw8 := hrw7.frm hset (fun k hk e => by omega)
    have n1' := hbn8.at_ 1 rfl
    have hf08 := hf07.then' hset (fun k hk e => by omega)
    have wc : IntKind.i64.wrap ((n : Int) + 1) = (n : Int) + 1 := IntWalk.i64_in _ (by omega)
    have wd : IntKind.i64.wrap ((n : Int) + 1 + (K : Int)) = (n : Int) + 1 + (K : Int) := IntWalk.i64_in _ (by omega)
    have i0 : (0 : Int) ≤ (n : Int) + 1 + (K : Int) := by omega
    have i1 : (n : Int) + 1 + (K : Int) < (n : Int) + 1 + (L.length : Int) := by omega
    have i2 : ((n : Int) + 1 + (K : Int)).toNat = n + 1 + K := by omega
    have HO2 := Lib.hid (of_any A' cs.length c' cs (some ⟨g, 0, none⟩) (n + 1 + L.length) cm V8 _ _ _ hnl8 HIN2.out (by omega) (by omega) hrw8 (own_sl hown8))
    rw [HFL.out] at HO2
    go_wp2_with fail
    refine HO2.out.mono ?_
    rintro e w9 ⟨rfl, hf9⟩
    go_wp2_with fail
    go_ret
    exact ⟨rfl, hf08.trans hf9⟩

set_option maxRecDepth 100000 in
theorem tol_law (i : Int) (_ : (Lit.int .i64 i).wf = true) (a0 : Option Addr) (len0 cap0 : Nat) (z0 : List Int) (hz0 : z0.length = len0) {w0 : World} (s0 : Sl w0 (fun k => k < w0.heap.size) 1 (.slice a0 len0 cap0) len0 (z0.map (.int .i64))) (_ : ∀ n ∈ z0, (Lit.int .i64 n).wf = true)
    (x : Int) (_ : (Lit.int .i64 x).wf = true) (k : Int) (_ : (Lit.int .i64 k).wf = true) (w : World) (e : w = w0) :
    Calls Tryd.prog 14 #[.int .i64 i, .slice a0 len0 cap0, .int .i64 x, .int .i64 k] w fun e w' => e = .returned (.bool true) ∧ Frm (fun _ => False) w w' := by
  subst e
  by_cases h : len0 ≤ 60
  · have t0 : decide ((60 : Int) < (len0 : Int)) = false := by simp; omega
    by_cases h1 : i < 1
    · have t1 : decide (i < 1) = true := by simpa using h1
      go_enter Tryd.func14, Tryd.ntmps14
      go_wp2_with fail
      refine (first13_any w).mono ?_
      rintro e w1 ⟨rfl, hf1⟩
      go_wp2_with fail
      go_ret
      exact ⟨rfl, hf1⟩
    · by_cases h2 : 20 < i
      · have t1 : decide (i < 1) = false := by simpa using h1
        have t2 : decide (20 < i) = true := by simpa using h2
        go_enter Tryd.func14, Tryd.ntmps14
        go_wp2_with fail
        refine (first13_any w).mono ?_
        rintro e w1 ⟨rfl, hf1⟩
        go_wp2_with fail
        go_ret
        exact ⟨rfl, hf1⟩
      · obtain ⟨n, rfl⟩ : ∃ n : Nat, i = n := ⟨i.toNat, by omega⟩
        exact tol_any n a0 len0 cap0 z0 hz0 x k w s0 h (by omega) (by omega)
  · have t0 : decide ((60 : Int) < (len0 : Int)) = true := by simp; omega
    go_enter Tryd.func14, Tryd.ntmps14
    go_wp2_with fail
    refine (first13_any w).mono ?_
    rintro e w1 ⟨rfl, hf1⟩
    go_wp2_with fail
    go_ret
    exact ⟨rfl, hf1⟩

end Go.Proofs.YtkjlgamggkencaaDoor
