/-
  A world in which the seven sentinels lie as their initialisers lay them: the witness of every card's "there is an input that fits" (the frame is a worked example's, turned to seven variables). The closing steps of a tied card.
-/
import Derived.Test.YtkjlgamggkencaaDoorCards
import Derived.Test.YtkjlgamggkencaaDoorTie
import Derived.ProofKit
import Derived.OpenShut
import Derived.Below
import Derived.Deep.DeepHandedRow
import Derived.Deep.DeepWitnessRowRef
import Derived.LaidLaws
import Derived.Stop.LaidErr
namespace Go.Proofs.YtkjlgamggkencaaDoor
open Go.ChangeShapes Go.WideShapes Go.ChangeAt Go.RowKit

theorem own : ownKnob Tryd.prog.godebug = none := by kernel_rfl
theorem laidOut : laidOutB Tryd.prog = true := by kernel_rfl

noncomputable def low : Nat := (World.holding Tryd.prog default ⟨#[], #[], []⟩).heap.size
/-- one sentinel's variable set -/
noncomputable def sent (h : Array Obj) (g k : Nat) : Array Obj := h.modify g fun
  | .cells _ t frozen => .cells #[.iface 158 (.pointer (some ⟨low + k, 0, none⟩))] t frozen
  | o => o
noncomputable def laidOn (w : World) : World :=
  { w with heap := sent (sent (sent (sent (sent (sent (sent (w.heap) 0 0) 1 1) 2 2) 3 3) 4 4) 5 5) 6 6 }
noncomputable def laidExtra : Array Obj := #[.cells #[.string { data := #[97, 32, 110, 117, 109, 98, 101, 114, 32, 111, 117, 116, 32, 111, 102, 32, 105, 116, 115, 32, 114, 97, 110, 103, 101] }] 175, .cells #[.string { data := #[109, 111, 114, 101, 32, 116, 104, 97, 110, 32, 109, 97, 121, 32, 98, 101] }] 175, .cells #[.string { data := #[110, 111, 116, 32, 97, 115, 32, 105, 116, 32, 105, 115, 32, 119, 114, 105, 116, 116, 101, 110] }] 175, .cells #[.string { data := #[116, 104, 101, 32, 98, 117, 100, 103, 101, 116, 32, 105, 115, 32, 117, 115, 101, 100, 32, 117, 112] }] 175, .cells #[.string { data := #[109, 111, 114, 101, 32, 116, 104, 97, 110, 32, 116, 119, 111, 32, 98, 108, 111, 99, 107, 115] }] 175, .cells #[.string { data := #[97, 32, 115, 116, 101, 112, 32, 116, 104, 97, 116, 32, 100, 111, 101, 115, 32, 110, 111, 116, 32, 102, 111, 108, 108, 111, 119] }] 175, .cells #[.string { data := #[110, 111, 32, 99, 101, 114, 116, 105, 102, 105, 99, 97, 116, 101, 32, 111, 102, 32, 105, 116] }] 175]
noncomputable def laidWorld (os : Os) : World := laidOn (World.holding Tryd.prog os ⟨laidExtra, #[], []⟩)
end Go.Proofs.YtkjlgamggkencaaDoor
