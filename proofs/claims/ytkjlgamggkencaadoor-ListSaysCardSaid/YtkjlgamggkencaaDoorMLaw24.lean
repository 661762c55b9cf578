/-
  What chapter 24's statements share: first.
-/
import Derived.Test.YtkjlgamggkencaaDoorMListF
import Derived.Test.YtkjlgamggkencaaDoorMListE
namespace Go.Proofs.YtkjlgamggkencaaDoor
open Go.RowKit
set_option linter.unusedVariables false

set_option maxRecDepth 100000 in
set_option maxHeartbeats 2000000 in
theorem first24_any (P : Nat → Addr) (w : World) (hS : Sents L7 P w) : Calls Tryd.prog 92 #[] w fun e w' => e = .returned (.bool true) ∧ Frm (fun _ => False) w w' := by
  have hM0 : (⟨false, 0, 0, [], 0⟩ : Mt).Ok := ⟨Right.nil 0, by decide⟩
  have hM1 : (⟨false, 0, 1, [], 0⟩ : Mt).Ok := ⟨Right.nil 1, by decide⟩
  have hf0 := (Frm.refl (fun _ => False) w).alloc (.cells #[.int .i64 0] 3)
  have hb : Blk (w.alloc (.cells #[.int .i64 0] 3)) w.heap.size 3 [.int .i64 0] := Blk.new _ _ _
  have HE := Lib.hid (lfun_bad P hM0 0 rfl none 0 (some ⟨w.heap.size, 0, none⟩) 1 (fun k => k = w.heap.size) (fun _ => False) none 0 0 [] _ (by omega) (by simp) (by omega) (Sl.nil_ _ _ _) ((hb.sl 1 1 rfl).mono (fun _ _ h => h)) (by simp) (RwB.nil_ _ _) (hS.frm hf0) (.inl rfl))
  have HOK := Lib.hid (fun (W : World) (B : Option Addr) (F Fv : Nat → Prop) (Av : Option Addr) (hB : Sl W F 1 (.slice B 1 1) 1 ([(0 : Int)].map (.int .i64))) (hR : RwB W Fv (.slice Av 1 1) 1 [[true]]) => lfun_ok hM1 1 rfl none 0 B 1 F Fv Av 1 1 [[true]] W (by omega) (by simp) (by omega) (by omega) (Sl.nil_ _ _ _) hB (by simp) hR (by simp))
  have e1 : ((⟨false, 0, 1, [], 0⟩ : Mt).fn [[true]]).1 = [1] := by decide
  have e2 : ((⟨false, 0, 1, [], 0⟩ : Mt).fn [[true]]).2.ands = [] := by decide
  rw [e1, e2] at HOK
  have HIS := Lib.hid (fun (W : World) (hf : Frm (fun _ => False) w W) => isErr_any P W (hS.frm hf) 104 (.inr (by decide)) 104)
  have HF := Lib.hid hf0
  clear hf0 hb e1 e2 hS hM0 hM1
  simp only [List.length_nil] at HE HOK
  go_enter Tryd.func92, Tryd.ntmps92
  go_wp2_with fail
  refine HE.out.mono ?_
  rintro e w1 ⟨rfl, hf1⟩
  have h01 := HF.out.trans hf1
  clear HE HF
  generalize PE P 104 = pe at *
  simp only [cv]
  have hfa := (Frm.refl (fun _ => False) w1).alloc (.cells #[.int .i64 0, .slice none 0 0, .slice none 0 0] 40)
  obtain ⟨W1, hW1⟩ : ∃ W1, W1 = w1.alloc (.cells #[.int .i64 0, .slice none 0 0, .slice none 0 0] 40) := ⟨_, rfl⟩
  rw [← hW1] at hfa
  have h0W := h01.trans hfa
  clear h01 hf1 hfa
  go_upto_region 2 with (fail)
  rw [← hW1]
  clear hW1
  obtain ⟨q, hq⟩ : ∃ q, q = W1.heap.size := ⟨_, rfl⟩
  have hfb := (((Frm.refl (fun _ => False) W1).alloc (.cells #[.int .i64 0] 3)).alloc (.cells #[.bool true] 4)).alloc (.cells #[.slice (some ⟨W1.heap.size + 1, 0, none⟩) 1 1] 54)
  have hbo : Blk (((W1.alloc (.cells #[.int .i64 0] 3)).alloc (.cells #[.bool true] 4)).alloc (.cells #[.slice (some ⟨W1.heap.size + 1, 0, none⟩) 1 1] 54)) W1.heap.size 3 [.int .i64 0] := ((Blk.new _ _ _).alloc _).alloc _
  have hbr : Blk (((W1.alloc (.cells #[.int .i64 0] 3)).alloc (.cells #[.bool true] 4)).alloc (.cells #[.slice (some ⟨W1.heap.size + 1, 0, none⟩) 1 1] 54)) (W1.heap.size + 1) 4 [.bool true] := (Blk.new_at _ _ _ _ (by simp)).alloc _
  have hbR : Blk (((W1.alloc (.cells #[.int .i64 0] 3)).alloc (.cells #[.bool true] 4)).alloc (.cells #[.slice (some ⟨W1.heap.size + 1, 0, none⟩) 1 1] 54)) (W1.heap.size + 2) 54 [.slice (some ⟨W1.heap.size + 1, 0, none⟩) 1 1] := Blk.new_at _ _ _ _ (by simp)
  have HO := Lib.hid (HOK.out _ (some ⟨W1.heap.size, 0, none⟩) _ (fun _ => True) (some ⟨W1.heap.size + 2, 0, none⟩) (hbo.sl 1 1 rfl) ⟨rfl, [_], (hbR.sl 1 1 rfl).mono (fun _ _ _ => trivial), EachB.one ((hbr.sl 1 1 rfl).mono (fun _ _ _ => trivial))⟩)
  have h0b := h0W.trans hfb
  clear hbo hbr hbR hfb h0W HOK hq
  go_wp2_with fail
  refine HO.out.mono ?_
  rintro e w3 ⟨v, rfl, ⟨A, c, B, d, rfl, hA, hB⟩, hf3⟩
  have h03 := h0b.trans hf3
  clear HO hf3 h0b hA
  obtain ⟨b, o, u, rfl, _, hu, hcell⟩ := hB.at_ (k := 0) (by simp)
  simp at hu
  subst hu
  rw [Nat.add_zero] at hcell
  simp only [cv, List.length_cons, List.length_nil, Nat.zero_add]
  have hfc := (Frm.refl (fun _ => False) w3).alloc (.cells #[.int .i64 ((0 : Nat) : Int), .slice A 0 c, .slice (some ⟨b, o, none⟩) 1 d] 40)
  have hbc : Blk (w3.alloc (.cells #[.int .i64 ((0 : Nat) : Int), .slice A 0 c, .slice (some ⟨b, o, none⟩) 1 d] 40)) w3.heap.size 40 [.int .i64 ((0 : Nat) : Int), .slice A 0 c, .slice (some ⟨b, o, none⟩) 1 d] := Blk.new _ _ _
  have h0c := h03.trans hfc
  have hcell2 := hfc.cell hcell id
  have HI := Lib.hid (HIS.out _ h0c)
  clear hB HIS hcell h03
  go_wp2_with fail
  refine HI.out.mono ?_
  rintro e w4 ⟨rfl, hf4⟩
  have hbc4 := hbc.frm hf4 id
  have b2 := hbc4.at_ 2 rfl
  have hcell4 := hf4.cell hcell2 id
  go_wp2_with fail
  go_ret
  exact ⟨rfl, h0c.trans hf4⟩

end Go.Proofs.YtkjlgamggkencaaDoor
