/-
  The closed cells of the row of skolem/skolemlaw24.ListOne.
-/
import Derived.Test.YtkjlgamggkencaaDoorMLaid
namespace Go.Proofs.YtkjlgamggkencaaDoor.listOne
open Go.ChangeShapes Go.WideShapes Go.ChangeAt Go.RowKit
set_option linter.unusedVariables false

theorem f1 : Tryd.pinned.checked.prog.funcNamed Rows.listOneRow.func = some 20 := by kernel_rfl
theorem andB {a b : Bool} (h : a = true) (k : b = true) : (a && b) = true := by rw [h, k]; rfl
set_option maxHeartbeats 40000000 in
theorem f2 : joinedFacts Tryd.pinned.checked.prog 20 Tryd.f20 (OpenSpec.ofChange Rows.listOneSpec).bare Rows.listOneRow = true := by
  unfold joinedFacts
  repeat' with_reducible refine andB ?_ ?_
  all_goals as_aux_lemma => kernel_rfl
theorem f3 : Tryd.f20.isInstance Tryd.pinned.checked.prog Rows.listOneRow.origin Rows.listOneRow.targs := of_decide_eq_true (by kernel_rfl)
theorem f4 : Tryd.f20.isWrapper Tryd.pinned.checked.prog Rows.listOneRow.wrapper Rows.listOneRow.mainSum := by unfold Func.isWrapper; first | (rw [if_pos (by decide +kernel)]; kernel_rfl) | (rw [if_neg (by decide +kernel)]; exact ⟨rfl, rfl⟩)
theorem f5 : (Tryd.f20.params.toList.all fun t => !Tryd.prog.wantsStandIn t) = true := by kernel_rfl
theorem f6 : false = Rows.listOneRow.goesBy Tryd.pinned.checked.prog := by kernel_rfl
theorem f7 : Rows.listOneRow.wfByText (OpenSpec.ofChange Rows.listOneSpec) = true := by kernel_rfl
end Go.Proofs.YtkjlgamggkencaaDoor.listOne
