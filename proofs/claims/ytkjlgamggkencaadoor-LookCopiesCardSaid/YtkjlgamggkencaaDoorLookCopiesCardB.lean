/-
  The closed cells of the row of skolem/skolemlaw10.LookCopies.
-/
import Derived.Test.YtkjlgamggkencaaDoorLaid
namespace Go.Proofs.YtkjlgamggkencaaDoor.lookCopies
open Go.ChangeShapes Go.WideShapes Go.ChangeAt Go.RowKit
set_option linter.unusedVariables false

theorem f1 : Tryd.pinned.checked.prog.funcNamed Rows.lookCopiesRow.func = some 18 := by kernel_rfl
theorem andB {a b : Bool} (h : a = true) (k : b = true) : (a && b) = true := by rw [h, k]; rfl
set_option maxHeartbeats 40000000 in
theorem f2 : joinedFacts Tryd.pinned.checked.prog 18 Tryd.f18 (OpenSpec.ofChange Rows.lookCopiesSpec).bare Rows.lookCopiesRow = true := by
  unfold joinedFacts
  repeat' with_reducible refine andB ?_ ?_
  all_goals as_aux_lemma => kernel_rfl
theorem f3 : Tryd.f18.isInstance Tryd.pinned.checked.prog Rows.lookCopiesRow.origin Rows.lookCopiesRow.targs := of_decide_eq_true (by kernel_rfl)
theorem f4 : Tryd.f18.isWrapper Tryd.pinned.checked.prog Rows.lookCopiesRow.wrapper Rows.lookCopiesRow.mainSum := by unfold Func.isWrapper; first | (rw [if_pos (by decide +kernel)]; kernel_rfl) | (rw [if_neg (by decide +kernel)]; exact ⟨rfl, rfl⟩)
theorem f5 : (Tryd.f18.params.toList.all fun t => !Tryd.prog.wantsStandIn t) = true := by kernel_rfl
theorem f6 : false = Rows.lookCopiesRow.goesBy Tryd.pinned.checked.prog := by kernel_rfl
theorem f7 : Rows.lookCopiesRow.wfByText (OpenSpec.ofChange Rows.lookCopiesSpec) = true := by kernel_rfl
end Go.Proofs.YtkjlgamggkencaaDoor.lookCopies
