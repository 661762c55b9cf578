/-
  Closed facts that all tied cards of this seat share: the harness, the program's own looks.
-/
import Derived.Test.YtkjlgamggkencaaDoorMLaid
namespace Go.Proofs.YtkjlgamggkencaaDoor
open Go.ChangeShapes Go.WideShapes Go.ChangeAt Go.RowKit

theorem tied_main : Tryd.pinned.checked.prog.mainIs = some (Rows.graphBuildsCard.stood.harness.1, Rows.graphBuildsCard.stood.harness.2.toList) := by kernel_rfl
theorem tied_looks : true = Tryd.pinned.checked.prog.looks [] := by kernel_rfl
end Go.Proofs.YtkjlgamggkencaaDoor
