/-
  The walk of TseitinForces.
-/
import Derived.Test.YtkjlgamggkencaaDoorTseitinE
import Derived.Test.YtkjlgamggkencaaDoorOfC
import Derived.Test.YtkjlgamggkencaaDoorMakeC
import Derived.Test.YtkjlgamggkencaaDoorEvalC
namespace Go.Proofs.YtkjlgamggkencaaDoor
open Go.RowKit

set_option maxRecDepth 100000 in
set_option maxHeartbeats 2000000 in
theorem first13_any (w : World) : Calls Tryd.prog 43 #[] w fun e w' => e = .returned (.bool true) ∧ Frm (fun _ => False) w w' := by
  have hal := (Frm.refl (fun _ => False) w).alloc (.cells #[.int .i64 0] 3)
  have hb : Blk (w.alloc (.cells #[.int .i64 0] 3)) w.heap.size 3 [.int .i64 0] := Blk.new _ _ _
  have HE := Lib.hid (encode_any [102, 104] (fun _ => ⟨0, 0, none⟩) (by simp) (by simp) 1 none 0 0 none 0 0 [] [] (some ⟨w.heap.size, 0, none⟩) 1 1 [0] (fun _ => False) (fun _ => False) _ (w.alloc (.cells #[.int .i64 0] 3)) rfl rfl rfl (by omega) (by omega) (by omega) (Right.nil 1) (by simp) (by intro x hx; simp at hx; subst hx; rfl) (Sl.nil_ _ _ _) (Sl.nil_ _ _ _) (hb.sl 1 1 rfl))
  have e1 : encC 1 [] [0] = [[]] := by decide
  rw [e1] at HE
  have e5 : litC 5 = -2 := by decide
  have HL := Lib.hid (fun (W : World) => lit_any 5 (by omega) W)
  rw [e5] at HL
  have HF := Lib.hid hal
  clear hal hb e1 e5
  go_enter Tryd.func43, Tryd.ntmps43
  go_wp2_with fail
  refine HE.out.mono ?_
  rintro e w1 ⟨v, rfl, ⟨A, c, rfl, hrw⟩, hf1⟩
  have h1 := HF.out.trans hf1
  clear HE HF hf1
  have hfa := h1.alloc (.cells #[.int .i64 1, .slice A 1 c] 51)
  have hb : Blk (w1.alloc (.cells #[.int .i64 1, .slice A 1 c] 51)) w1.heap.size 51 [.int .i64 1, .slice A 1 c] := Blk.new _ _ _
  have b1 := hb.at_ 1 rfl
  simp only [nv, List.length_singleton]
  go_wp2_with fail
  refine (HL.out _).mono ?_
  rintro e w' ⟨rfl, rfl⟩
  go_wp2_with fail
  go_ret
  exact ⟨rfl, hfa⟩

/-- clauses of literals of a model -/
theorem litC_in {N : Nat} {x : Int} (h : 2 ≤ x) (h1 : x ≤ 2 * (N : Int) + 1) : InM (N + 1) (litC x) := by
  unfold InM litC
  split
  · omega
  · split <;> omega
theorem clC_in {N : Nat} {l c : List Int} (h : clC l = some c) (hl : ∀ x ∈ l, 0 ≤ x ∧ x ≤ 2 * (N : Int) + 1) : c.length ≤ l.length ∧ ∀ x ∈ c, InM (N + 1) x := by
  unfold clC at h
  split at h
  · cases h
  · cases h
    refine ⟨by rw [List.length_map]; exact List.length_filter_le _ _, ?_⟩
    intro x hx
    obtain ⟨y, hy, rfl⟩ := List.mem_map.1 hx
    obtain ⟨h1, h2⟩ := List.mem_filter.1 hy
    have := hl y h1
    exact litC_in (by have := of_decide_eq_true h2; omega) (by omega)
theorem notL_to {x : Int} {N : Nat} (h : 0 ≤ x ∧ x ≤ 2 * (N : Int) + 1) : 0 ≤ notL x ∧ notL x ≤ 2 * (N : Int) + 1 := by unfold notL; split <;> omega
theorem encC_in {n : Nat} {L : List (Int × Int)} {f : List Int} (hr : Right n L) (hf : ∀ x ∈ f, isL x (n + L.length) = true) : ∀ c ∈ encC n L f, c.length ≤ 3 ∧ ∀ x ∈ c, InM (n + L.length + 1) x := by
  intro c hc
  unfold encC at hc
  rcases List.mem_append.1 hc with h | h
  · unfold encFew at h
    obtain ⟨i, hi, h⟩ := List.mem_flatMap.1 h
    have hi' := List.mem_range.1 hi
    have hp := hr i (L.getD i (0, 0)) (by simp [List.getD, hi'])
    unfold gateC at h
    obtain ⟨l, hl, h⟩ := List.mem_filterMap.1 h
    have a0 : 0 ≤ 2 * ((n : Int) + i + 1) ∧ 2 * ((n : Int) + i + 1) ≤ 2 * ((n + L.length : Nat) : Int) + 1 := by omega
    have a1 : 0 ≤ (L.getD i (0, 0)).1 ∧ (L.getD i (0, 0)).1 ≤ 2 * ((n + L.length : Nat) : Int) + 1 := by omega
    have a2 : 0 ≤ (L.getD i (0, 0)).2 ∧ (L.getD i (0, 0)).2 ≤ 2 * ((n + L.length : Nat) : Int) + 1 := by omega
    have b0 := notL_to a0
    have b1 := notL_to a1
    have b2 := notL_to a2
    have hlen : l.length ≤ 3 ∧ ∀ x ∈ l, 0 ≤ x ∧ x ≤ 2 * ((n + L.length : Nat) : Int) + 1 := by
      simp only [gate3, List.mem_cons, List.not_mem_nil, or_false] at hl
      rcases hl with rfl | rfl | rfl <;> refine ⟨by simp, ?_⟩ <;> intro x hx <;> simp only [List.mem_cons, List.not_mem_nil, or_false] at hx <;> rcases hx with rfl | rfl | rfl <;> assumption
    have := clC_in h hlen.2
    exact ⟨by omega, this.2⟩
  · unfold forceC at h
    obtain ⟨x, hx, h⟩ := List.mem_filterMap.1 h
    have hx2 := isL_iff.1 (hf x hx)
    have := clC_in (N := n + L.length) h (by intro y hy; simp at hy; subst hy; exact hx2)
    exact ⟨by have := this.1; simp at this; omega, this.2⟩

set_option maxRecDepth 100000 in
set_option maxHeartbeats 8000000 in
theorem tfl_any (a0 : Option Addr) (len0 cap0 : Nat) (z0 : List Int) (hz0 : z0.length = len0) (lit n : Int) (w : World)
    (s0 : Sl w (fun k => k < w.heap.size) 1 (.slice a0 len0 cap0) len0 (z0.map (.int .i64))) (h0 : len0 ≤ 30) :
    Calls Tryd.prog 6 #[.slice a0 len0 cap0, .int .i64 lit, .int .i64 n] w fun e w' => e = .returned (.bool true) ∧ Frm (fun _ => False) w w' := by
  have t0 : decide ((30 : Int) < (len0 : Int)) = false := by simp; omega
  have hlm : (mkAnds 6 z0).length ≤ 15 := by rw [mkAnds_length]; omega
  have hr := mkAnds_right 6 z0
  have HMK := Lib.hid (fun W (hf : Frm (fun _ => False) w W) => make_any 6 a0 len0 cap0 z0 hz0 none 0 0 [] rfl _ (fun _ => False) W (s0.frm hf (fun _ _ => id)) (Sl.nil_ _ _ _) (by omega) (by omega) (by omega))
  have HR := Lib.hid hr
  clear hz0 s0 hr
  generalize mkAnds 6 z0 = L at *
  have hmo : mkOuts 6 z0 [] = [] := rfl
  rw [hmo] at HMK
  clear hmo
  go_enter Tryd.func6, Tryd.ntmps6
  go_wp2_with fail
  refine (first13_any w).mono ?_
  rintro e w1 ⟨rfl, hf1⟩
  go_wp2_with fail
  refine (HMK.out w1 hf1).mono ?_
  rintro e w2 ⟨v, rfl, ⟨A, c, B, d, rfl, hA, hB⟩, hf2⟩
  clear HMK
  have hf02 := hf1.trans hf2
  have hfa := (Frm.refl (fun _ => False) w2).alloc (.cells #[.int .i64 6, .slice A L.length c, .slice B 0 d] 40)
  have hba : Blk (w2.alloc (.cells #[.int .i64 6, .slice A L.length c, .slice B 0 d] 40)) w2.heap.size 40 [.int .i64 6, .slice A L.length c, .slice B 0 d] := Blk.new _ _ _
  have b0 := hba.at_ 0 rfl
  have b1 := hba.at_ 1 rfl
  have b2 := hba.at_ 2 rfl
  have wa : IntKind.i64.wrap (6 + (L.length : Int)) = 6 + (L.length : Int) := IntWalk.i64_in _ (by omega)
  have wb : IntKind.i64.wrap (2 * (6 + (L.length : Int))) = 2 * (6 + (L.length : Int)) := IntWalk.i64_in _ (by omega)
  have wc : IntKind.i64.wrap (2 * (6 + (L.length : Int)) + 2) = 2 * (6 + (L.length : Int)) + 2 := IntWalk.i64_in _ (by omega)
  simp only [List.length_nil]
  go_wp2_with fail
  refine (number_any lit (2 * (6 + (L.length : Int)) + 2) _ (by omega) (by omega)).mono ?_
  rintro e w' ⟨rfl, rfl⟩
  have hx : isL (lit % (2 * (6 + (L.length : Int)) + 2)) (6 + L.length) = true := by
    have := isL_emod lit (6 + L.length)
    rwa [show 2 * ((6 + L.length : Nat) : Int) + 2 = 2 * (6 + (L.length : Int)) + 2 from by omega] at this
  generalize lit % (2 * (6 + (L.length : Int)) + 2) = x at *
  obtain ⟨W1, hW1⟩ : ∃ W1, W1 = w2.alloc (.cells #[.int .i64 6, .slice A L.length c, .slice B 0 d] 40) := ⟨_, rfl⟩
  have hf03 := hf02.trans hfa
  have hA1 := (hA.mono (G := fun k => k < w2.heap.size) (fun k hk _ => hk)).frm hfa (fun _ _ => id)
  have hB1 := hB.frm hfa (fun _ _ => id)
  have hszW : w2.heap.size < W1.heap.size := by rw [hW1]; simp
  have hszw2 := hf02.size
  rw [← hW1] at hba b0 b1 b2 hf03 hA1 hB1
  simp only [← hW1]
  clear hW1 hfa hA hB hf02 hf1 hf2
  have hal := (Frm.refl (fun _ => False) W1).alloc (.cells #[.int .i64 x] 3)
  have hbx : Blk (W1.alloc (.cells #[.int .i64 x] 3)) W1.heap.size 3 [.int .i64 x] := Blk.new _ _ _
  have HE := Lib.hid (encode_any [102, 104] (fun _ => ⟨0, 0, none⟩) (by simp) (by simp) 6 A L.length c B 0 d L [] (some ⟨W1.heap.size, 0, none⟩) 1 1 [x] _ _ _ (W1.alloc (.cells #[.int .i64 x] 3)) rfl rfl rfl (by omega) (by omega) (by omega) HR.out (by simp) (by intro y hy; simp at hy; subst hy; exact hx) (hA1.frm hal (fun _ _ => id)) (hB1.frm hal (fun _ _ => id)) (hbx.sl 1 1 rfl))
  go_wp2_with fail
  refine HE.out.mono ?_
  rintro e w3 ⟨v, rfl, ⟨A', c', rfl, hrw⟩, hf3⟩
  have hfin := encC_in HR.out (f := [x]) (by intro y hy; simp at hy; subst hy; exact hx)
  have hsat := fun inp => encC_nodes HR.out inp (f := [x]) (by intro y hy; simp at hy; subst hy; exact hx)
  have hlenC : (encC 6 L [x]).length ≤ 100 := by
    have h1 := encFew_length 6 L L.length
    have h2 := forceC_length [x]
    unfold encC
    rw [List.length_append]
    simp at h2
    omega
  have HFIN := Lib.hid hfin
  have HSAT := Lib.hid hsat
  clear hfin hsat HE
  generalize encC 6 L [x] = cs at *
  have hal3 := hal.trans hf3
  have hszw3 := hal3.size
  have hf04 := hf03.trans hal3
  have hba3 := hba.frm hal3 id
  have hA3 := hA1.frm hal3 (fun _ _ => id)
  clear hba hA1 hB1 hal hf3 hal3 hf03 b0 b1 b2 hbx
  have e6 : (((6 : Nat) : Int) + (L.length : Int)) = 6 + (L.length : Int) := rfl
  simp only [nv, e6]
  have hfn := (Frm.refl (fun _ => False) w3).alloc (.cells #[.int .i64 (6 + (L.length : Int)), .slice A' cs.length c'] 51)
  have hbn : Blk (w3.alloc (.cells #[.int .i64 (6 + (L.length : Int)), .slice A' cs.length c'] 51)) w3.heap.size 51 [.int .i64 (6 + (L.length : Int)), .slice A' cs.length c'] := Blk.new _ _ _
  go_wp2_with fail
  refine (values_any n 6 (by omega) _).mono ?_
  rintro e w5 ⟨Ai, ci, rfl, hown, hf5⟩
  have hin := own_sl hown
  have hinl := mkVals_length n 6
  clear hown
  generalize mkVals n 6 = inp at *
  have hf35 := hfn.trans hf5
  have hbn5 := hbn.frm hf5 id
  have hrw5 := hrw.frm hf35 (fun _ _ => id)
  have hba5 := hba3.frm hf35 id
  have hA5 := hA3.frm hf35 (fun _ _ => id)
  have hf05 := hf04.trans hf35
  clear hbn hrw hba3 hA3 hf04 hfn hf5 hf35
  have hal := (Frm.refl (fun _ => False) w5).alloc (.cells #[.int .i64 x] 3)
  have hba6 := hba5.frm hal id
  have b2 := hba6.at_ 2 rfl
  have z2 := hba6.frozen 2
  have hlt5 := hba5.lt
  have hset : Frm (fun g => g = w2.heap.size) w5 (w5.setCell ⟨w2.heap.size, 2, none⟩ (.slice (some ⟨w5.heap.size, 0, none⟩) 1 1)) := (Frm.refl (fun g => g = w2.heap.size) _).setCell (p := ⟨w2.heap.size, 2, none⟩) (fun _ => rfl) _
  have hs57 := hset.alloc (.cells #[.int .i64 x] 3)
  have hbx7 : Blk ((w5.setCell ⟨w2.heap.size, 2, none⟩ (.slice (some ⟨w5.heap.size, 0, none⟩) 1 1)).alloc (.cells #[.int .i64 x] 3)) w5.heap.size 3 [.int .i64 x] := Blk.new_at _ _ _ _ (by simp)
  have hba7 := (hba5.set_ 2 (.slice (some ⟨w5.heap.size, 0, none⟩) 1 1)).alloc (.cells #[.int .i64 x] 3)
  have b0 := hba7.at_ 0 rfl
  have b1 := hba7.at_ 1 rfl
  have b2' := hba7.at_ 2 rfl
  have hlt1 := hba5.lt
  have hrw7 := (hrw5.mono (G := fun k => k ≠ w2.heap.size) (fun k _ hk => by simp at hk; omega)).frm hs57 (fun k hk e => hk e)
  have hin7 := (hin.mono (G := fun k => k ≠ w2.heap.size) (fun k _ hk => by have := hbn5.lt; have := hk.1; simp at this; omega)).frm hs57 (fun k hk e => hk e)
  have hA7 := hA5.frm hs57 (fun k hk e => by omega)
  have hbn7 := hbn5.frm hs57 (by omega)
  have hf07 := hf05.then' hs57 (fun k hk e => by omega)
  have HEV := Lib.hid (reval_any 6 L A L.length c (some ⟨w5.heap.size, 0, none⟩) 1 1 [x] Ai 6 ci inp _ _ _ _ rfl rfl hinl HR.out (by omega) (by omega) (by omega) (by intro y hy; simp at hy; subst hy; exact hx) hA7 (hbx7.sl 1 1 rfl) hin7)
  have HH := Lib.hid hin7
  clear hrw5 hin hA5 hbn5 hf05 hal hba6 hset hba5 hbx7
  go_wp2_with fail
  refine HEV.out.mono ?_
  rintro e w8 ⟨Av, cv8, rfl, hown8, hf8⟩
  have hv8 := own_sl hown8
  have hba8 := hba7.frm hf8 id
  have hbn8 := hbn7.frm hf8 id
  have hrw8 := hrw7.frm hf8 (fun _ _ => id)
  have hf08 := hf07.trans hf8
  have HND := Lib.hid (rnodes_any 6 L A L.length c (some ⟨w5.heap.size, 0, none⟩) 1 1 Ai 6 ci inp _ _ _ rfl hinl HR.out (by omega) (by omega) (hA7.frm hf8 (fun _ _ => id)) (hin7.frm hf8 (fun _ _ => id)))
  have hev : evalOuts (nodes 6 L inp) [x] = [worth (nodes 6 L inp) x] := rfl
  rw [hev] at hv8
  have b0 := hba8.at_ 0 rfl
  have b1 := hba8.at_ 1 rfl
  have b2 := hba8.at_ 2 rfl
  clear HEV hown8 hf8 hba7 hbn7 hrw7 hf07 hA7 hin7 hev hs57 b2'
  simp only at hv8 ⊢
  go_wp2_with fail
  refine HND.out.mono ?_
  rintro e w9 ⟨An, cn, rfl, hown9, hf9⟩
  have hn9 := own_sl hown9
  have hnl := nodes_length 6 L inp
  have hv9 := hv8.frm hf9 (fun _ _ => id)
  have hbn9 := hbn8.frm hf9 id
  have hrw9 := hrw8.frm hf9 (fun _ _ => id)
  have hf09 := hf08.trans hf9
  have hsat := HSAT.out inp
  obtain ⟨bv, ov, u, rfl, _, hu, hcv⟩ := hv9.at_ (k := 0) (by omega)
  simp at hu
  subst hu
  have hof : ofC cs (nodes 6 L inp) = worth (nodes 6 L inp) x := by rw [hsat]; simp
  have HOF := Lib.hid (fun (W : World) (hf : Frm (fun _ => False) w9 W) => of_any A' cs.length c' cs An (6 + 1 + L.length) cn (nodes 6 L inp) _ _ W hnl (fun r hr => by have h := HFIN.out r hr; exact ⟨by omega, fun y hy => by have := h.2 y hy; rwa [show 6 + L.length + 1 = 6 + 1 + L.length from by omega] at this⟩) (by omega) (by omega) (hrw9.frm hf (fun _ _ => id)) (hn9.frm hf (fun _ _ => id)))
  rw [hof] at HOF
  have q1 := hbn9.at_ 1 rfl
  clear HND hown9 hf9 hba8 hbn8 hrw8 hf08 hv8 hv9 hn9 hbn9 hrw9 hof hsat HSAT hnl b0 b1 b2
  rw [Nat.add_zero] at hcv
  generalize worth (nodes 6 L inp) x = z at *
  have hH0 : w9.drew.cell? ⟨w3.heap.size, 1, none⟩ = some (.slice A' cs.length c') ∧ w9.drew.cell? ⟨bv, ov, none⟩ = some (.bool z) := ⟨q1, hcv⟩
  go_wp2_with fail
  have hHeld := hH0
  refine Held.begin (fun w' => w'.cell? ⟨w3.heap.size, 1, none⟩ = some (.slice A' cs.length c') ∧ w'.cell? ⟨bv, ov, none⟩ = some (.bool z)) 21 (by kernel_rfl) ?_
  refine Held.take (i := 0) (oi := ?oa0) (v := ?va0) ?hia0 (by kernel_rfl) (by kernel_rfl) (by kernel_rfl) (by kernel_rfl) (fun _ _ _ h => h) (Or.inl ⟨?hwa0, ?hya0⟩) (by assumption) ?resta0
  case hia0 => (simp only [List.getElem?_toArray, List.getElem?_cons_zero]; rfl)
  case hwa0 => rfl
  case hya0 => (intro w hSw; (try dsimp only at hSw); go_simp; try with_reducible rfl)
  (try simp only [Act.put, List.setIfInBounds_toArray, List.set_cons_zero, List.set_cons_succ])
  refine Held.take (i := 1) (oi := ?oa1) (v := ?va1) ?hia1 (by kernel_rfl) (by kernel_rfl) (by kernel_rfl) (by kernel_rfl) (fun _ _ _ h => h) (Or.inl ⟨?hwa1, ?hya1⟩) (by assumption) ?resta1
  case hia1 => (simp only [List.getElem?_toArray, List.getElem?_cons_succ, List.getElem?_cons_zero]; rfl)
  case hwa1 => rfl
  case hya1 => (intro w hSw; (try dsimp only at hSw); go_simp; try with_reducible rfl)
  (try simp only [Act.put, List.setIfInBounds_toArray, List.set_cons_zero, List.set_cons_succ])
  refine Held.take (i := 2) (oi := ?oa2) (v := ?va2) ?hia2 (by kernel_rfl) (by kernel_rfl) (by kernel_rfl) (by kernel_rfl) (fun _ _ _ h => h) (Or.inl ⟨?hwa2, ?hya2⟩) (by assumption) ?resta2
  case hia2 => (simp only [List.getElem?_toArray, List.getElem?_cons_succ, List.getElem?_cons_zero]; rfl)
  case hwa2 => rfl
  case hya2 => (intro w hSw; (try dsimp only at hSw); go_simp; try with_reducible rfl)
  (try simp only [Act.put, List.setIfInBounds_toArray, List.set_cons_zero, List.set_cons_succ])
  refine Held.take (i := 3) (oi := ?oa3) (v := ?va3) ?hia3 (by kernel_rfl) (by kernel_rfl) (by kernel_rfl) (by kernel_rfl) (fun _ _ _ h => h) (Or.inl ⟨?hwa3, ?hya3⟩) (by assumption) ?resta3
  case hia3 => (simp only [List.getElem?_toArray, List.getElem?_cons_succ, List.getElem?_cons_zero]; rfl)
  case hwa3 => rfl
  case hya3 => (intro w hSw; (try dsimp only at hSw); go_simp; try with_reducible rfl)
  (try simp only [Act.put, List.setIfInBounds_toArray, List.set_cons_zero, List.set_cons_succ])
  refine Held.take (i := 4) (oi := ?oa4) (v := ?va4) ?hia4 (by kernel_rfl) (by kernel_rfl) (by kernel_rfl) (by kernel_rfl) (fun _ _ _ h => h) (Or.inl ⟨?hwa4, ?hya4⟩) (by assumption) ?resta4
  case hia4 => (simp only [List.getElem?_toArray, List.getElem?_cons_succ, List.getElem?_cons_zero]; rfl)
  case hwa4 => rfl
  case hya4 => (intro w hSw; (try dsimp only at hSw); go_simp; try with_reducible rfl)
  (try simp only [Act.put, List.setIfInBounds_toArray, List.set_cons_zero, List.set_cons_succ])
  refine Held.take (i := 5) (oi := ?oa5) (v := ?va5) ?hia5 (by kernel_rfl) (by kernel_rfl) (by kernel_rfl) (by kernel_rfl) (fun _ _ _ h => h) (Or.inl ⟨?hwa5, ?hya5⟩) (by assumption) ?resta5
  case hia5 => (simp only [List.getElem?_toArray, List.getElem?_cons_succ, List.getElem?_cons_zero]; rfl)
  case hwa5 => rfl
  case hya5 => (intro w hSw; (try dsimp only at hSw); go_simp; try with_reducible rfl)
  (try simp only [Act.put, List.setIfInBounds_toArray, List.set_cons_zero, List.set_cons_succ])
  refine Held.take (i := 6) (oi := ?oa6) (v := ?va6) ?hia6 (by kernel_rfl) (by kernel_rfl) (by kernel_rfl) (by kernel_rfl) (fun _ _ _ h => h) (Or.inl ⟨?hwa6, ?hya6⟩) (by assumption) ?resta6
  case hia6 => (simp only [List.getElem?_toArray, List.getElem?_cons_succ, List.getElem?_cons_zero]; rfl)
  case hwa6 => rfl
  case hya6 => (intro w hSw; (try dsimp only at hSw); go_simp; try with_reducible rfl)
  (try simp only [Act.put, List.setIfInBounds_toArray, List.set_cons_zero, List.set_cons_succ])
  refine Held.take (i := 7) (oi := ?oa7) (v := ?va7) ?hia7 (by kernel_rfl) (by kernel_rfl) (by kernel_rfl) (by kernel_rfl) (fun _ _ _ h => h) (Or.inl ⟨?hwa7, ?hya7⟩) (by assumption) ?resta7
  case hia7 => (simp only [List.getElem?_toArray, List.getElem?_cons_succ, List.getElem?_cons_zero]; rfl)
  case hwa7 => rfl
  case hya7 => (intro w hSw; (try dsimp only at hSw); go_simp; try with_reducible rfl)
  (try simp only [Act.put, List.setIfInBounds_toArray, List.set_cons_zero, List.set_cons_succ])
  refine Held.take (i := 8) (oi := ?oa8) (v := ?va8) ?hia8 (by kernel_rfl) (by kernel_rfl) (by kernel_rfl) (by kernel_rfl) (fun _ _ _ h => h) (Or.inl ⟨?hwa8, ?hya8⟩) (by assumption) ?resta8
  case hia8 => (simp only [List.getElem?_toArray, List.getElem?_cons_succ, List.getElem?_cons_zero]; rfl)
  case hwa8 => rfl
  case hya8 => (intro w hSw; (try dsimp only at hSw); go_simp; try with_reducible rfl)
  (try simp only [Act.put, List.setIfInBounds_toArray, List.set_cons_zero, List.set_cons_succ])
  refine Held.take (i := 9) (oi := ?oa9) (v := ?va9) ?hia9 (by kernel_rfl) (by kernel_rfl) (by kernel_rfl) (by kernel_rfl) (fun _ _ _ h => h) (Or.inl ⟨?hwa9, ?hya9⟩) (by assumption) ?resta9
  case hia9 => (simp only [List.getElem?_toArray, List.getElem?_cons_succ, List.getElem?_cons_zero]; rfl)
  case hwa9 => rfl
  case hya9 => (intro w hSw; (try dsimp only at hSw); go_simp; try with_reducible rfl)
  (try simp only [Act.put, List.setIfInBounds_toArray, List.set_cons_zero, List.set_cons_succ])
  refine Held.take (i := 10) (oi := ?oa10) (v := ?va10) ?hia10 (by kernel_rfl) (by kernel_rfl) (by kernel_rfl) (by kernel_rfl) (fun _ _ _ h => h) (Or.inl ⟨?hwa10, ?hya10⟩) (by assumption) ?resta10
  case hia10 => (simp only [List.getElem?_toArray, List.getElem?_cons_succ, List.getElem?_cons_zero]; rfl)
  case hwa10 => rfl
  case hya10 => (intro w hSw; (try dsimp only at hSw); go_simp; try with_reducible rfl)
  (try simp only [Act.put, List.setIfInBounds_toArray, List.set_cons_zero, List.set_cons_succ])
  refine Held.take (i := 11) (oi := ?oa11) (v := ?va11) ?hia11 (by kernel_rfl) (by kernel_rfl) (by kernel_rfl) (by kernel_rfl) (fun _ _ _ h => h) (Or.inl ⟨?hwa11, ?hya11⟩) (by assumption) ?resta11
  case hia11 => (simp only [List.getElem?_toArray, List.getElem?_cons_succ, List.getElem?_cons_zero]; rfl)
  case hwa11 => rfl
  case hya11 => (intro w hSw; (try dsimp only at hSw); go_simp; try with_reducible rfl)
  (try simp only [Act.put, List.setIfInBounds_toArray, List.set_cons_zero, List.set_cons_succ])
  refine Held.take (i := 12) (oi := ?oa12) (v := ?va12) ?hia12 (by kernel_rfl) (by kernel_rfl) (by kernel_rfl) (by kernel_rfl) (fun _ _ _ h => h) (Or.inl ⟨?hwa12, ?hya12⟩) (by assumption) ?resta12
  case hia12 => (simp only [List.getElem?_toArray, List.getElem?_cons_succ, List.getElem?_cons_zero]; rfl)
  case hwa12 => rfl
  case hya12 => (intro w hSw; (try dsimp only at hSw); go_simp; try with_reducible rfl)
  (try simp only [Act.put, List.setIfInBounds_toArray, List.set_cons_zero, List.set_cons_succ])
  refine Held.take (i := 13) (oi := ?oa13) (v := ?va13) ?hia13 (by kernel_rfl) (by kernel_rfl) (by kernel_rfl) (by kernel_rfl) (fun _ _ _ h => h) (Or.inl ⟨?hwa13, ?hya13⟩) (by assumption) ?resta13
  case hia13 => (simp only [List.getElem?_toArray, List.getElem?_cons_succ, List.getElem?_cons_zero]; rfl)
  case hwa13 => rfl
  case hya13 => (intro w hSw; (try dsimp only at hSw); go_simp; try with_reducible rfl)
  (try simp only [Act.put, List.setIfInBounds_toArray, List.set_cons_zero, List.set_cons_succ])
  refine Held.take (i := 15) (oi := ?oa15) (v := ?va15) ?hia15 (by kernel_rfl) (by kernel_rfl) (by kernel_rfl) (by kernel_rfl) (fun _ _ _ h => h) (Or.inl ⟨?hwa15, ?hya15⟩) (by assumption) ?resta15
  case hia15 => (simp only [List.getElem?_toArray, List.getElem?_cons_succ, List.getElem?_cons_zero]; rfl)
  case hwa15 => rfl
  case hya15 => (intro w hSw; (try dsimp only at hSw); go_simp; try with_reducible rfl)
  (try simp only [Act.put, List.setIfInBounds_toArray, List.set_cons_zero, List.set_cons_succ])
  refine Held.take (i := 16) (oi := ?oa16) (v := ?va16) ?hia16 (by kernel_rfl) (by kernel_rfl) (by kernel_rfl) (by kernel_rfl) (fun _ _ _ h => h) (Or.inl ⟨?hwa16, ?hya16⟩) (by assumption) ?resta16
  case hia16 => (simp only [List.getElem?_toArray, List.getElem?_cons_succ, List.getElem?_cons_zero]; rfl)
  case hwa16 => rfl
  case hya16 => (intro w hSw; (try dsimp only at hSw); go_simp; try with_reducible rfl)
  (try simp only [Act.put, List.setIfInBounds_toArray, List.set_cons_zero, List.set_cons_succ])
  refine Held.take (i := 17) (oi := ?oa17) (v := ?va17) ?hia17 (by kernel_rfl) (by kernel_rfl) (by kernel_rfl) (by kernel_rfl) (fun _ _ _ h => h) (Or.inl ⟨?hwa17, ?hya17⟩) (by assumption) ?resta17
  case hia17 => (simp only [List.getElem?_toArray, List.getElem?_cons_succ, List.getElem?_cons_zero]; rfl)
  case hwa17 => rfl
  case hya17 => (intro w hSw; (try dsimp only at hSw); go_simp; try with_reducible rfl)
  (try simp only [Act.put, List.setIfInBounds_toArray, List.set_cons_zero, List.set_cons_succ])
  refine Held.next (i := 14) (o := ?oa14) (by kernel_rfl) ?hia14 (fun K hK => ?sta14)
  case hia14 => (simp only [List.getElem?_toArray, List.getElem?_cons_succ, List.getElem?_cons_zero]; rfl)
  go_simp
  (go_at_call 49; refine (HOF.out _ ((Frm.refl _ _).drewN 1)).mono ?_; rintro e w10 ⟨rfl, hf10⟩)
  (try go_wp2_with fail)
  refine hK.out _ _ (fun _ => by exact ⟨hf10.cell hHeld.1 id, hf10.cell hHeld.2 id⟩) ?_
  clear hK K
  (try simp only [Act.put, List.setIfInBounds_toArray, List.set_cons_zero, List.set_cons_succ])
  have hH2 : w10.cell? ⟨w3.heap.size, 1, none⟩ = some (.slice A' cs.length c') ∧ w10.cell? ⟨bv, ov, none⟩ = some (.bool z) := ⟨hf10.cell hHeld.1 id, hf10.cell hHeld.2 id⟩
  refine Held.take (i := 18) (oi := ?oa18) (v := ?va18) ?hia18 (by kernel_rfl) (by kernel_rfl) (by kernel_rfl) (by kernel_rfl) (fun _ _ _ h => h) (Or.inl ⟨?hwa18, ?hya18⟩) (by assumption) ?resta18
  case hia18 => (simp only [List.getElem?_toArray, List.getElem?_cons_succ, List.getElem?_cons_zero]; rfl)
  case hwa18 => rfl
  case hya18 => (intro w hSw; (try dsimp only at hSw); go_simp; try with_reducible rfl)
  (try simp only [Act.put, List.setIfInBounds_toArray, List.set_cons_zero, List.set_cons_succ])
  refine Held.take (i := 19) (oi := ?oa19) (v := ?va19) ?hia19 (by kernel_rfl) (by kernel_rfl) (by kernel_rfl) (by kernel_rfl) (fun _ _ _ h => h) (Or.inl ⟨?hwa19, ?hya19⟩) (by assumption) ?resta19
  case hia19 => (simp only [List.getElem?_toArray, List.getElem?_cons_succ, List.getElem?_cons_zero]; rfl)
  case hwa19 => rfl
  case hya19 => (intro w hSw; (try dsimp only at hSw); go_simp; try with_reducible rfl)
  (try simp only [Act.put, List.setIfInBounds_toArray, List.set_cons_zero, List.set_cons_succ])
  refine Held.take (i := 20) (oi := ?oa20) (v := ?va20) ?hia20 (by kernel_rfl) (by kernel_rfl) (by kernel_rfl) (by kernel_rfl) (fun _ _ _ h => h) (Or.inl ⟨?hwa20, ?hya20⟩) (by assumption) ?resta20
  case hia20 => (simp only [List.getElem?_toArray, List.getElem?_cons_succ, List.getElem?_cons_zero]; rfl)
  case hwa20 => rfl
  case hya20 => (intro w hSw; (try dsimp only at hSw); go_simp; try with_reducible rfl)
  (try simp only [Act.put, List.setIfInBounds_toArray, List.set_cons_zero, List.set_cons_succ])
  refine Held.done (by kernel_rfl) ?_ _
  refine NoPanic.normal ?_
  go_wp2_with fail
  go_ret
  exact ⟨ret_bool (by simp), (hf09.drewN 1).trans hf10⟩

set_option maxRecDepth 100000 in
theorem tfl_law (a0 : Option Addr) (len0 cap0 : Nat) (z0 : List Int) (hz0 : z0.length = len0) {w0 : World} (s0 : Sl w0 (fun k => k < w0.heap.size) 1 (.slice a0 len0 cap0) len0 (z0.map (.int .i64))) (_ : ∀ n ∈ z0, (Lit.int .i64 n).wf = true)
    (lit : Int) (_ : (Lit.int .i64 lit).wf = true) (n : Int) (_ : (Lit.int .i64 n).wf = true) (w : World) (e : w = w0) :
    Calls Tryd.prog 6 #[.slice a0 len0 cap0, .int .i64 lit, .int .i64 n] w fun e w' => e = .returned (.bool true) ∧ Frm (fun _ => False) w w' := by
  subst e
  by_cases h : len0 ≤ 30
  · exact tfl_any a0 len0 cap0 z0 hz0 lit n w s0 h
  · have c1 : (30 : Int) < len0 := by omega
    go_enter Tryd.func6, Tryd.ntmps6
    go_wp2_with fail
    refine (first13_any w).mono ?_
    rintro e w1 ⟨rfl, hf1⟩
    go_wp2_with fail
    go_ret
    exact ⟨rfl, hf1⟩

end Go.Proofs.YtkjlgamggkencaaDoor
