/-
  The closed cells of the row of skolem/skolemlaw24.ListSays.
-/
import Derived.Test.YtkjlgamggkencaaDoorMLaid
namespace Go.Proofs.YtkjlgamggkencaaDoor.listSays
open Go.ChangeShapes Go.WideShapes Go.ChangeAt Go.RowKit
set_option linter.unusedVariables false

theorem f1 : Tryd.pinned.checked.prog.funcNamed Rows.listSaysRow.func = some 21 := by kernel_rfl
theorem andB {a b : Bool} (h : a = true) (k : b = true) : (a && b) = true := by rw [h, k]; rfl
set_option maxHeartbeats 40000000 in
theorem f2 : joinedFacts Tryd.pinned.checked.prog 21 Tryd.f21 (OpenSpec.ofChange Rows.listSaysSpec).bare Rows.listSaysRow = true := by
  unfold joinedFacts
  repeat' with_reducible refine andB ?_ ?_
  all_goals as_aux_lemma => kernel_rfl
theorem f3 : Tryd.f21.isInstance Tryd.pinned.checked.prog Rows.listSaysRow.origin Rows.listSaysRow.targs := of_decide_eq_true (by kernel_rfl)
theorem f4 : Tryd.f21.isWrapper Tryd.pinned.checked.prog Rows.listSaysRow.wrapper Rows.listSaysRow.mainSum := by unfold Func.isWrapper; first | (rw [if_pos (by decide +kernel)]; kernel_rfl) | (rw [if_neg (by decide +kernel)]; exact ⟨rfl, rfl⟩)
theorem f5 : (Tryd.f21.params.toList.all fun t => !Tryd.prog.wantsStandIn t) = true := by kernel_rfl
theorem f6 : false = Rows.listSaysRow.goesBy Tryd.pinned.checked.prog := by kernel_rfl
theorem f7 : Rows.listSaysRow.wfByText (OpenSpec.ofChange Rows.listSaysSpec) = true := by kernel_rfl
end Go.Proofs.YtkjlgamggkencaaDoor.listSays
