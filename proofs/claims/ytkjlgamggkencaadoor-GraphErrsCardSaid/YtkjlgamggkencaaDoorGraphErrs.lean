/-
  The walk of GraphErrs.
-/
import Derived.Test.YtkjlgamggkencaaDoorGraphFolds
import Derived.Test.YtkjlgamggkencaaDoorGErr
import Derived.Test.YtkjlgamggkencaaDoorSee
namespace Go.Proofs.YtkjlgamggkencaaDoor
open Go.RowKit

set_option maxRecDepth 100000 in
set_option maxHeartbeats 1000000 in
theorem check_neg (L : List Nat) (P : Nat → Addr) (h : 102 ∈ L) (w : World) (hS : Sents L P w) :
    Calls Tryd.prog 42 #[.agg #[.int .i64 (-1), .slice none 0 0, .slice none 0 0]] w fun e w' => e = .returned (PE P 102) ∧ Frm (fun _ => False) w w' := by
  have hf : Frm (fun _ => False) w (w.alloc (.cells #[.int .i64 (-1), .slice none 0 0, .slice none 0 0] 40)) := (Frm.refl _ w).alloc _
  have e4 : (w.alloc (.cells #[.int .i64 (-1), .slice none 0 0, .slice none 0 0] 40)).cell? ⟨1, 0, none⟩ = some (.iface 158 (.pointer (some (P 102)))) := (hS.frm hf).cell 102 h
  rw [PE_pos P 102 (by decide)]
  have HF := Lib.hid hf
  clear hS hf
  generalize P 102 = a at *
  go_enter Tryd.func42, Tryd.ntmps42
  go_wp2_with fail
  go_ret
  exact ⟨rfl, HF.out⟩

theorem and_fail (g : Gr) (k : Nat) (a b : Int) : ((g.fail k).and a b).1 = (g.and a b).1 := by
  unfold Gr.and Gr.put
  simp only [show (g.fail k).len = g.len from rfl, show (g.fail k).ands = g.ands from rfl, show (g.fail k).n = g.n from rfl]
  repeat (first | rfl | split)

theorem and_out (g : Gr) (a b : Int) (h : ¬ (isL a g.len = true ∧ isL b g.len = true)) : g.and a b = (0, g.fail 104) := by
  obtain ⟨hi, lo, he, ho⟩ := and_hi_lo a b
  have hb : (isL hi g.len && isL lo g.len) = false := by
    rcases ho with ⟨rfl, rfl, _⟩ | ⟨rfl, rfl, _⟩ <;> (rw [Bool.eq_false_iff]; intro e; simp only [Bool.and_eq_true] at e; exact h ⟨by simp [e], by simp [e]⟩)
  rw [he]; unfold Gr.put; rw [if_pos hb]
theorem fail_twice (g : Gr) : (g.fail 104).fail 104 = g.fail 104 := by
  unfold Gr.fail; by_cases h : g.bad = 0 <;> simp [h]

theorem emod_bounds (a b : Int) (h : 0 < b) : 0 ≤ a % b ∧ a % b < b := ⟨Int.emod_nonneg _ (by omega), Int.emod_lt_of_pos _ h⟩

set_option maxRecDepth 100000 in
set_option maxHeartbeats 8000000 in
theorem errs_any (P : Nat → Addr) (w : World) (hS : Sents L7 P w) (i raw a b : Int) :
    Calls Tryd.prog 5 #[.int .i64 i, .int .i64 raw, .int .i64 a, .int .i64 b] w fun e w' => e = .returned (.bool true) ∧ Frm (fun _ => False) w w' := by
  have HS := Lib.hid hS
  clear hS
  go_enter Tryd.func5, Tryd.ntmps5
  go_wp2_with fail
  refine (first8_any w).mono ?_
  rintro e w1 ⟨rfl, hf1⟩
  go_wp2_with fail
  refine (number_any i 9 _ (by decide) (by decide)).mono ?_
  rintro e w' ⟨rfl, rfl⟩
  obtain ⟨I, hI⟩ : ∃ I : Int, I = i % 9 := ⟨_, rfl⟩
  have hI0 : 0 ≤ I ∧ I < 9 := by omega
  rw [← hI]
  have hI1 := hI0.1
  have hI2 := hI0.2
  clear hI hI0
  have wI : IntKind.i64.wrap (I + 1) = I + 1 := IntWalk.i64_in _ (by omega)
  have wT1 : IntKind.i64.wrap (2 * (I + 1)) = 2 * (I + 1) := IntWalk.i64_in _ (by omega)
  have wT : IntKind.i64.wrap (2 * (I + 1) + 2) = 2 * (I + 1) + 2 := IntWalk.i64_in _ (by omega)
  go_wp2_with fail
  refine (new_any (PE P) rfl (I + 1) _).mono ?_
  rintro e w2 ⟨gb, fp, rfl, hG, hfp, hf2⟩
  have hcl : (clamp (I + 1) : Int) = I + 1 := by unfold clamp; omega
  have hfp0 : ∀ k, fp k → w.heap.size ≤ k := fun k hk => by have := (hfp k hk).1; have := hf1.size; omega
  have hf02 := hf1.trans hf2
  clear hf1 hf2 hfp
  go_wp2_with fail
  refine (number_any a (2 * (I + 1) + 2) _ (by omega) (by omega)).mono ?_
  rintro e w' ⟨rfl, rfl⟩
  go_wp2_with fail
  refine (number_any b (2 * (I + 1) + 2) _ (by omega) (by omega)).mono ?_
  rintro e w' ⟨rfl, rfl⟩
  have hA := emod_bounds a (2 * (I + 1) + 2) (by omega)
  have hB := emod_bounds b (2 * (I + 1) + 2) (by omega)
  generalize a % (2 * (I + 1) + 2) = A at *
  generalize b % (2 * (I + 1) + 2) = B at *
  generalize hgr : (⟨clamp (I + 1), [], 0⟩ : Gr) = g at *
  have hgn : g.n = clamp (I + 1) := by rw [← hgr]
  have hgb : g.bad = 0 := by rw [← hgr]
  have hgl : g.len = clamp (I + 1) := by rw [← hgr]; rfl
  have la : isL A g.len = true := by rw [isL_iff]; omega
  have lb : isL B g.len = true := by rw [isL_iff]; omega
  have hs := and_snd la lb (by omega)
  have hag := and_again la lb (show g.len < 8000 by omega)
  go_wp2_with fail
  refine (and_any (PE P) fp gb g _ A B hG la lb (by omega)).mono ?_
  rintro e w3 ⟨rfl, fp3, hG3, hg3, hf3⟩
  obtain ⟨hfp3, hf03⟩ := kept hfp0 hf02 hg3 hf3
  clear hG hfp0 hf02 hg3 hf3
  generalize hx : (g.and A B).1 = X at *
  generalize hg2 : (g.and A B).2 = g2 at *
  obtain ⟨hs1, hs2, hs3, hs4⟩ := hs
  have hbad : PE P g2.bad = .nilIface := by rw [hs2, hgb]; rfl
  go_wp2_with fail
  refine (err_any (PE P) fp3 gb g2 _ hG3 _ hbad).mono ?_
  rintro e w' ⟨rfl, rfl⟩
  go_wp2_with fail
  refine (number_any raw 1000 _ (by decide) (by decide)).mono ?_
  rintro e w' ⟨rfl, rfl⟩
  have hR := emod_bounds raw 1000 (by decide)
  generalize raw % 1000 = R at *
  have wf1 : IntKind.i64.wrap (2 * (I + 1) + 2 + 2) = 2 * (I + 1) + 2 + 2 := IntWalk.i64_in _ (by omega)
  have wf2 : IntKind.i64.wrap (2 * (I + 1) + 2 + 2 + R) = 2 * (I + 1) + 2 + 2 + R := IntWalk.i64_in _ (by omega)
  have h104 : 104 ∈ L7 := by decide
  have o1 := and_out g2 A (2 * (I + 1) + 2 + 2 + R) (fun h => by have := isL_iff.1 h.2; omega)
  have l3 : (g2.fail 104).len = g2.len := rfl
  have n3 : (g2.fail 104).n = g2.n := rfl
  have b3 : (g2.fail 104).bad = 104 := by rw [fail_zero g2 104 (hs2.trans hgb)]
  have o2 := and_out (g2.fail 104) (-1) B (fun h => by have := isL_iff.1 h.1; omega)
  have o3 : (g2.fail 104).input (I + 1) = (0, g2.fail 104) := by unfold Gr.input; rw [if_neg (by omega), fail_twice]
  rw [fail_twice] at o2
  have o4 : ((g2.fail 104).and B A).1 = X := by
    rw [and_fail, and_comm, hag]; exact hx
  have s4 := and_snd (g := g2.fail 104) (a := B) (b := A) (by rw [isL_iff] at *; omega) (by rw [isL_iff] at *; omega) (by omega)
  have c1 := fun w' hS hG => and_all L7 P h104 fp3 gb g2 w' A (2 * (I + 1) + 2 + 2 + R) hS hG (by omega)
  have c2 := fun w' fp hS hG => and_all L7 P h104 fp gb (g2.fail 104) w' (-1) B hS hG (by omega)
  have c3 := fun w' fp hS hG => input_any L7 P h104 fp gb (g2.fail 104) w' (I + 1) hS hG
  have c4 := fun w' fp hS hG => and_all L7 P h104 fp gb (g2.fail 104) w' B A hS hG (by omega)
  rw [o1] at c1
  rw [o2] at c2
  rw [o3] at c3
  rw [o4] at c4
  generalize hg4 : ((g2.fail 104).and B A).2 = g4 at *
  have o5 : g4.input 0 = (2, g4) := by unfold Gr.input; rw [if_pos (by omega)]; rfl
  have c5 := fun w' fp hS hG => input_any L7 P h104 fp gb g4 w' 0 hS hG
  rw [o5] at c5
  have hb4 : g4.bad = 104 := s4.2.1.trans b3
  have hp4 : PE P g4.bad = PE P 104 := by rw [hb4]
  have C1 := Lib.hid c1
  have C2 := Lib.hid c2
  have C3 := Lib.hid c3
  have C4 := Lib.hid c4
  have C5 := Lib.hid c5
  have C6 := Lib.hid (fun w' hS => isErr_any P w' hS 104 (.inr h104) 104)
  have C7 := Lib.hid (fun w' hS => isErr_any P w' hS 102 (.inr (by decide)) 102)
  have C8 := Lib.hid (fun w' fp hG => err_any (PE P) fp gb g4 w' hG _ hp4)
  have C9 := Lib.hid (fun w' hS => check_neg L7 P (by decide) w' hS)
  clear c1 c2 c3 c4 c5 o1 o2 o3 o4 o5 s4 hag hs1 hs2 hs3 hs4 hbad hgr hgn hgb hgl la lb hx hg2 hg4 hb4 hp4 l3 n3 b3
  generalize PE P 104 = e104 at *
  generalize PE P 102 = e102 at *
  go_wp2_with fail
  refine (C1.out _ (HS.out.frm hf03) hG3).mono ?_
  rintro e w4 ⟨rfl, fp4, hG4, hg4, hf4⟩
  obtain ⟨hfp4, hf04⟩ := kept hfp3 hf03 hg4 hf4
  clear hG3 hg4 hf4 hfp3 hf03
  go_wp2_with fail
  refine (C2.out _ _ (HS.out.frm hf04) hG4).mono ?_
  rintro e w5 ⟨rfl, fp5, hG5, hg5, hf5⟩
  obtain ⟨hfp5, hf05⟩ := kept hfp4 hf04 hg5 hf5
  clear hG4 hg5 hf5 hfp4 hf04
  go_wp2_with fail
  refine (C3.out _ _ (HS.out.frm hf05) hG5).mono ?_
  rintro e w6 ⟨rfl, hG6, hf6⟩
  obtain ⟨hfp6, hf06⟩ := kept hfp5 hf05 (fun k hk => .inl hk) hf6
  clear hG5 hf6 hfp5 hf05
  go_wp2_with fail
  refine (C4.out _ _ (HS.out.frm hf06) hG6).mono ?_
  rintro e w7 ⟨rfl, fp7, hG7, hg7, hf7⟩
  obtain ⟨hfp7, hf07⟩ := kept hfp6 hf06 hg7 hf7
  clear hG6 hg7 hf7 hfp6 hf06
  go_wp2_with fail
  refine (C8.out _ _ hG7).mono ?_
  rintro e w' ⟨rfl, rfl⟩
  go_wp2_with fail
  refine (C6.out _ (HS.out.frm hf07)).mono ?_
  rintro e w8 ⟨rfl, hf8⟩
  have hG8 := hG7.frm hf8 (fun _ _ => id)
  have hf08 := hf07.trans hf8
  clear hG7 hf8 hf07
  go_wp2_with fail
  refine (C5.out _ _ (HS.out.frm hf08) hG8).mono ?_
  rintro e w9 ⟨rfl, hG9, hf9⟩
  obtain ⟨hfp9, hf09⟩ := kept hfp7 hf08 (fun k hk => .inl hk) hf9
  clear hG8 hf9 hf08
  go_wp2_with fail
  refine (C9.out _ (HS.out.frm hf09)).mono ?_
  rintro e w10 ⟨rfl, hf10⟩
  have hf010 := hf09.trans hf10
  go_wp2_with fail
  refine (C7.out _ (HS.out.frm hf010)).mono ?_
  rintro e w11 ⟨rfl, hf11⟩
  have hf011 := hf010.trans hf11
  go_wp2_with fail
  go_ret
  exact ⟨rfl, hf011⟩

theorem errs_law (i : Int) (_ : (Lit.int .i64 i).wf = true) (raw : Int) (_ : (Lit.int .i64 raw).wf = true) (a : Int) (_ : (Lit.int .i64 a).wf = true) (b : Int) (_ : (Lit.int .i64 b).wf = true) (w : World) (hL : laidMetH Tryd.prog Rows.graphErrsRow.laid w) :
    Calls Tryd.prog 5 #[.int .i64 i, .int .i64 raw, .int .i64 a, .int .i64 b] w fun e w' => e = .returned (.bool true) ∧ Frm (fun _ => False) w w' :=
  errs_any _ w (sents7 hL) i raw a b

end Go.Proofs.YtkjlgamggkencaaDoor
