/-
  The closed cells of the row of skolem/skolemlaw13.TseitinSizes.
-/
import Derived.Test.YtkjlgamggkencaaDoorLaid
namespace Go.Proofs.YtkjlgamggkencaaDoor.tseitinSizes
open Go.ChangeShapes Go.WideShapes Go.ChangeAt Go.RowKit
set_option linter.unusedVariables false

theorem f1 : Tryd.pinned.checked.prog.funcNamed Rows.tseitinSizesRow.func = some 7 := by kernel_rfl
theorem andB {a b : Bool} (h : a = true) (k : b = true) : (a && b) = true := by rw [h, k]; rfl
set_option maxHeartbeats 40000000 in
theorem f2 : joinedFacts Tryd.pinned.checked.prog 7 Tryd.f7 (OpenSpec.ofChange Rows.tseitinSizesSpec).bare Rows.tseitinSizesRow = true := by
  unfold joinedFacts
  repeat' with_reducible refine andB ?_ ?_
  all_goals as_aux_lemma => kernel_rfl
theorem f3 : Tryd.f7.isInstance Tryd.pinned.checked.prog Rows.tseitinSizesRow.origin Rows.tseitinSizesRow.targs := of_decide_eq_true (by kernel_rfl)
theorem f4 : Tryd.f7.isWrapper Tryd.pinned.checked.prog Rows.tseitinSizesRow.wrapper Rows.tseitinSizesRow.mainSum := by unfold Func.isWrapper; first | (rw [if_pos (by decide +kernel)]; kernel_rfl) | (rw [if_neg (by decide +kernel)]; exact ⟨rfl, rfl⟩)
theorem f5 : (Tryd.f7.params.toList.all fun t => !Tryd.prog.wantsStandIn t) = true := by kernel_rfl
theorem f6 : false = Rows.tseitinSizesRow.goesBy Tryd.pinned.checked.prog := by kernel_rfl
theorem f7 : Rows.tseitinSizesRow.wfByText (OpenSpec.ofChange Rows.tseitinSizesSpec) = true := by kernel_rfl
end Go.Proofs.YtkjlgamggkencaaDoor.tseitinSizes
