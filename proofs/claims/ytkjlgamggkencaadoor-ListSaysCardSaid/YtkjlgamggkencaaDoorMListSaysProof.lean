/-
  The tied card on skolem/skolemlaw24.ListSays: the law returns true for every input; no condition beyond the given row's. The walk stands in the texts that are imported.
-/
import Derived.Test.YtkjlgamggkencaaDoorMTied
import Derived.Test.YtkjlgamggkencaaDoorMListSaysCardA
import Derived.Test.YtkjlgamggkencaaDoorMListSaysCardB
namespace Go.Proofs.YtkjlgamggkencaaDoor.listSays
open Go.ChangeShapes Go.WideShapes Go.ChangeAt Go.RowKit
set_option linter.unusedVariables false

theorem said : Rows.ListSaysSaid :=
  OpenClaim.holds_of_cond 21 Tryd.f21 rfl rfl rfl rfl rfl rfl rfl ⟨rfl, rfl, rfl, rfl, rfl⟩ rfl rfl rfl rfl rfl f1 Tryd.func21 f2 f3 f4
    (fun os started H enc _ F => by rw [OpenClaim.pre_eq_preRow]; exact lifted os started H enc F)

/-- No parameter wants a stand-in; the program's own looks are off. -/
theorem plain (f : FuncId) (fn : Func) (hf : Tryd.pinned.checked.prog.funcNamed "skolem/skolemlaw24.ListSays" = some f) (hfn : Tryd.pinned.checked.prog.funcs[f]? = some fn) :
    true = Tryd.pinned.checked.prog.looks [] ∧ ∀ (j : Nat) t, fn.params[j]? = some t → Tryd.pinned.checked.prog.wantsStandIn t = false := by
  obtain rfl : f = 21 := Option.some.inj ((show Tryd.prog.funcNamed "skolem/skolemlaw24.ListSays" = some 21 by kernel_rfl).symm.trans hf) |>.symm
  obtain rfl : fn = Tryd.f21 := (Option.some.inj (Tryd.func21.symm.trans hfn)).symm
  refine ⟨tied_looks, fun j t ht => ?_⟩
  have h1 := List.all_eq_true.1 f5 t (Array.mem_toList_iff.2 (Array.mem_of_getElem? ht))
  exact (show Tryd.prog.wantsStandIn t = false by simpa using h1)

theorem proved : Rows.ListSaysCardSaid :=
  Claim7.holds_tied_plain_at .later [] _ _ _ _ said (fun _ h => by cases h) f7 (fun _ h => by cases h) listSays_row_tie rfl ⟨rfl, rfl⟩ tied_main rfl plain f6
#print axioms proved
end Go.Proofs.YtkjlgamggkencaaDoor.listSays
