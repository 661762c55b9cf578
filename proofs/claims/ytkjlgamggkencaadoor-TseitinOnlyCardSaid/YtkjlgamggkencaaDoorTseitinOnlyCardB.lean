/-
  The closed cells of the row of skolem/skolemlaw13.TseitinOnly.
-/
import Derived.Test.YtkjlgamggkencaaDoorLaid
namespace Go.Proofs.YtkjlgamggkencaaDoor.tseitinOnly
open Go.ChangeShapes Go.WideShapes Go.ChangeAt Go.RowKit
set_option linter.unusedVariables false

theorem f1 : Tryd.pinned.checked.prog.funcNamed Rows.tseitinOnlyRow.func = some 14 := by kernel_rfl
theorem andB {a b : Bool} (h : a = true) (k : b = true) : (a && b) = true := by rw [h, k]; rfl
set_option maxHeartbeats 40000000 in
theorem f2 : joinedFacts Tryd.pinned.checked.prog 14 Tryd.f14 (OpenSpec.ofChange Rows.tseitinOnlySpec).bare Rows.tseitinOnlyRow = true := by
  unfold joinedFacts
  repeat' with_reducible refine andB ?_ ?_
  all_goals as_aux_lemma => kernel_rfl
theorem f3 : Tryd.f14.isInstance Tryd.pinned.checked.prog Rows.tseitinOnlyRow.origin Rows.tseitinOnlyRow.targs := of_decide_eq_true (by kernel_rfl)
theorem f4 : Tryd.f14.isWrapper Tryd.pinned.checked.prog Rows.tseitinOnlyRow.wrapper Rows.tseitinOnlyRow.mainSum := by unfold Func.isWrapper; first | (rw [if_pos (by decide +kernel)]; kernel_rfl) | (rw [if_neg (by decide +kernel)]; exact ⟨rfl, rfl⟩)
theorem f5 : (Tryd.f14.params.toList.all fun t => !Tryd.prog.wantsStandIn t) = true := by kernel_rfl
theorem f6 : false = Rows.tseitinOnlyRow.goesBy Tryd.pinned.checked.prog := by kernel_rfl
theorem f7 : Rows.tseitinOnlyRow.wfByText (OpenSpec.ofChange Rows.tseitinOnlySpec) = true := by kernel_rfl
end Go.Proofs.YtkjlgamggkencaaDoor.tseitinOnly
