/-
  What chapter 10's statements share: first.
-/
import Derived.Test.YtkjlgamggkencaaDoorMLookE
import Derived.Test.YtkjlgamggkencaaDoorMDepth
namespace Go.Proofs.YtkjlgamggkencaaDoor
open Go.RowKit

set_option maxRecDepth 100000 in
set_option maxHeartbeats 2000000 in
theorem first10_any (w : World) : Calls Tryd.prog 61 #[] w fun e w' => e = .returned (.bool true) ∧ Frm (fun _ => False) w w' := by
  have hf0 := ((Frm.refl (fun _ => False) w).alloc (.cells #[.int .i64 3] 3)).alloc (.cells #[.int .i64 1, .slice none 0 0, .slice (some ⟨w.heap.size, 0, none⟩) 1 1] 40)
  have hb : Blk ((w.alloc (.cells #[.int .i64 3] 3)).alloc (.cells #[.int .i64 1, .slice none 0 0, .slice (some ⟨w.heap.size, 0, none⟩) 1 1] 40)) w.heap.size 3 [.int .i64 3] := (Blk.new _ _ _).alloc _
  have HE := Lib.hid (leval_any 1 [] none 0 0 (some ⟨w.heap.size, 0, none⟩) 1 1 [3] none 0 0 [] (fun _ => False) _ (fun _ => False) _ rfl rfl rfl (Right.nil 1) (by omega) (by omega) (by omega) (by omega) (by intro x hx; simp at hx; subst hx; rfl) (Sl.nil_ _ _ _) (hb.sl 1 1 rfl) (Sl.nil_ _ _ _))
  have e1 : evalOuts (nodes 1 [] []) [3] = [true] := by decide
  rw [e1] at HE
  have HD := Lib.hid (fun W => depth_any 0 [] none 0 0 none 0 0 [] (fun _ => False) (fun _ => False) W rfl rfl (Right.nil 0) (by omega) (by omega) (by omega) (by simp) (Sl.nil_ _ _ _) (Sl.nil_ _ _ _))
  have e2 : depthL 0 [] [] = 0 := by decide
  rw [e2] at HD
  have HF := Lib.hid hf0
  clear hf0 hb e1 e2
  go_enter Tryd.func61, Tryd.ntmps61
  go_wp2_with fail
  refine HE.out.mono ?_
  rintro e w1 ⟨A, c, rfl, hown, hf1⟩
  have h1 := HF.out.trans hf1
  clear HE HF
  obtain ⟨b, o, u, rfl, _, hu, hcell⟩ := (own_sl hown).at_ (k := 0) (by omega)
  simp at hu
  subst hu
  rw [Nat.add_zero] at hcell
  clear hown
  go_wp2_with fail
  refine (HD.out _).mono ?_
  rintro e w2 ⟨rfl, hf2⟩
  have hcell2 := hf2.cell hcell id
  go_wp2_with fail
  go_ret
  exact ⟨rfl, h1.trans hf2⟩

end Go.Proofs.YtkjlgamggkencaaDoor
