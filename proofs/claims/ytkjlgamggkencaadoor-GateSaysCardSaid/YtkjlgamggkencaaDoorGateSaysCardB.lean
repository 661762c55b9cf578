/-
  The closed cells of the row of skolem/skolemlaw9.GateSays.
-/
import Derived.Test.YtkjlgamggkencaaDoorLaid
namespace Go.Proofs.YtkjlgamggkencaaDoor.gateSays
open Go.ChangeShapes Go.WideShapes Go.ChangeAt Go.RowKit
set_option linter.unusedVariables false

theorem f1 : Tryd.pinned.checked.prog.funcNamed Rows.gateSaysRow.func = some 17 := by kernel_rfl
theorem andB {a b : Bool} (h : a = true) (k : b = true) : (a && b) = true := by rw [h, k]; rfl
set_option maxHeartbeats 40000000 in
theorem f2 : joinedFacts Tryd.pinned.checked.prog 17 Tryd.f17 (OpenSpec.ofChange Rows.gateSaysSpec).bare Rows.gateSaysRow = true := by
  unfold joinedFacts
  repeat' with_reducible refine andB ?_ ?_
  all_goals as_aux_lemma => kernel_rfl
theorem f3 : Tryd.f17.isInstance Tryd.pinned.checked.prog Rows.gateSaysRow.origin Rows.gateSaysRow.targs := of_decide_eq_true (by kernel_rfl)
theorem f4 : Tryd.f17.isWrapper Tryd.pinned.checked.prog Rows.gateSaysRow.wrapper Rows.gateSaysRow.mainSum := by unfold Func.isWrapper; first | (rw [if_pos (by decide +kernel)]; kernel_rfl) | (rw [if_neg (by decide +kernel)]; exact ⟨rfl, rfl⟩)
theorem f5 : (Tryd.f17.params.toList.all fun t => !Tryd.prog.wantsStandIn t) = true := by kernel_rfl
theorem f6 : false = Rows.gateSaysRow.goesBy Tryd.pinned.checked.prog := by kernel_rfl
theorem f7 : Rows.gateSaysRow.wfByText (OpenSpec.ofChange Rows.gateSaysSpec) = true := by kernel_rfl
end Go.Proofs.YtkjlgamggkencaaDoor.gateSays
