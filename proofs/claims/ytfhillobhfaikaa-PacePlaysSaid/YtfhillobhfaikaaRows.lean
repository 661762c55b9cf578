/-
  No cell of these rows narrows 'for every input' (looked for: loops, veiled, ifaces, maps, wideKeys, modest, calm, conditions, laid).
  DERIVED. THE GIVEN ROWS OF THIS SEAT. 5 by the template 'for every input the law returns true; each argument reads behind the call as it read before'; 0 by the template 'total and deterministic' (their statements: YtfhillobhfaikaaTotals.lean).
  GIVEN WITH THE SEED: the statements are not yours to turn. If you find one false, say at which input.
  Laid BY PROGRAM, IN A SANDBOX (cutbox-rows.mjs): the forced cells as the released guide's own fill.sh prints them over the translation a1e68923dee83b56… (all of the seat's roots in one cut). By AI agents, Wed Nov 11 2026. No macro, syntax, notation, axiom, sorry.
-/
import Derived.Test.YtfhillobhfaikaaChecked
import GoSem.Claim
import GoSem.ClaimJoined
import GoSem.ClaimMapViews
import Derived.JoinedTies
import Derived.KernelRfl
namespace Go.Proofs.Ytfhillobhfaikaa
/- THE CELL 'sum', in the pinned program and in every row, IS THE sha256 OF THE DUMP (.gsa) THAT YtfhillobhfaikaaProg.lean LOADS. Nothing in Lean hashes anything: it is a label: what it is worth is what the hold of that sum in a sandbox is worth. -/
noncomputable def Try.pinned : Pinned := { name := "ytfhillobhfaikaa", sum := "a1e68923dee83b5616dbda05a35815dacd7baed562394163fcc81e5cc0dbf90c", checked := Try.checked }
namespace Rows
def none {H : Type} : Left H := { results := [], args := [] }

/-- 'skolemlaw17.PaceRestarts': WHATEVER THE INPUT: true; the input reads as it did. -/
def paceRestartsSpec : ChangeSpec := { name := "paceRestarts", fn := fun _ => fun
  | [d1, d2] => { results := [.lit (.bool true)], args := [d1, d2] }
  | _ => none }
def paceRestartsRow : OpenClaim := { program := "ytfhillobhfaikaa", sum := "a1e68923dee83b5616dbda05a35815dacd7baed562394163fcc81e5cc0dbf90c", func := "skolem/skolemlaw17.PaceRestarts", spec := "paceRestarts", unfollowed := true, recurses := true, apart := false }
def PaceRestartsSaid : Prop := paceRestartsRow.holds Try.pinned (OpenSpec.ofChange paceRestartsSpec)

/-- ITS FALSE NEIGHBOUR: 'it returns false'. Refute it at one input. -/
def paceRestartsWrong : ChangeSpec := { name := "paceRestarts", fn := fun _ => fun
  | [d1, d2] => { results := [.lit (.bool false)], args := [d1, d2] }
  | _ => none }
def PaceRestartsWrongFalsely : Prop := paceRestartsRow.holds Try.pinned (OpenSpec.ofChange paceRestartsWrong)

/-- 'skolemlaw17.PaceSaves': WHATEVER THE INPUT: true; the input reads as it did. -/
def paceSavesSpec : ChangeSpec := { name := "paceSaves", fn := fun _ => fun
  | [d] => { results := [.lit (.bool true)], args := [d] }
  | _ => none }
def paceSavesRow : OpenClaim := { program := "ytfhillobhfaikaa", sum := "a1e68923dee83b5616dbda05a35815dacd7baed562394163fcc81e5cc0dbf90c", func := "skolem/skolemlaw17.PaceSaves", spec := "paceSaves", unfollowed := true, recurses := true, apart := false }
def PaceSavesSaid : Prop := paceSavesRow.holds Try.pinned (OpenSpec.ofChange paceSavesSpec)

/-- ITS FALSE NEIGHBOUR: 'it returns false'. Refute it at one input. -/
def paceSavesWrong : ChangeSpec := { name := "paceSaves", fn := fun _ => fun
  | [d] => { results := [.lit (.bool false)], args := [d] }
  | _ => none }
def PaceSavesWrongFalsely : Prop := paceSavesRow.holds Try.pinned (OpenSpec.ofChange paceSavesWrong)

/-- 'skolemlaw17.PaceBudgets': WHATEVER THE INPUT: true; the input reads as it did. -/
def paceBudgetsSpec : ChangeSpec := { name := "paceBudgets", fn := fun _ => fun
  | [d1, d2] => { results := [.lit (.bool true)], args := [d1, d2] }
  | _ => none }
def paceBudgetsRow : OpenClaim := { program := "ytfhillobhfaikaa", sum := "a1e68923dee83b5616dbda05a35815dacd7baed562394163fcc81e5cc0dbf90c", func := "skolem/skolemlaw17.PaceBudgets", spec := "paceBudgets", unfollowed := true, recurses := true, apart := false }
def PaceBudgetsSaid : Prop := paceBudgetsRow.holds Try.pinned (OpenSpec.ofChange paceBudgetsSpec)

/-- ITS FALSE NEIGHBOUR: 'it returns false'. Refute it at one input. -/
def paceBudgetsWrong : ChangeSpec := { name := "paceBudgets", fn := fun _ => fun
  | [d1, d2] => { results := [.lit (.bool false)], args := [d1, d2] }
  | _ => none }
def PaceBudgetsWrongFalsely : Prop := paceBudgetsRow.holds Try.pinned (OpenSpec.ofChange paceBudgetsWrong)

/-- 'skolemlaw17.PaceLists': WHATEVER THE INPUT: true; the input reads as it did. -/
def paceListsSpec : ChangeSpec := { name := "paceLists", fn := fun _ => fun
  | [d1, d2, d3] => { results := [.lit (.bool true)], args := [d1, d2, d3] }
  | _ => none }
def paceListsRow : OpenClaim := { program := "ytfhillobhfaikaa", sum := "a1e68923dee83b5616dbda05a35815dacd7baed562394163fcc81e5cc0dbf90c", func := "skolem/skolemlaw17.PaceLists", spec := "paceLists", unfollowed := true, recurses := true, apart := false }
def PaceListsSaid : Prop := paceListsRow.holds Try.pinned (OpenSpec.ofChange paceListsSpec)

/-- ITS FALSE NEIGHBOUR: 'it returns false'. Refute it at one input. -/
def paceListsWrong : ChangeSpec := { name := "paceLists", fn := fun _ => fun
  | [d1, d2, d3] => { results := [.lit (.bool false)], args := [d1, d2, d3] }
  | _ => none }
def PaceListsWrongFalsely : Prop := paceListsRow.holds Try.pinned (OpenSpec.ofChange paceListsWrong)

/-- 'skolemlaw17.PacePlays': WHATEVER THE INPUT: true; the input reads as it did. -/
def pacePlaysSpec : ChangeSpec := { name := "pacePlays", fn := fun _ => fun
  | [d1, d2] => { results := [.lit (.bool true)], args := [d1, d2] }
  | _ => none }
def pacePlaysRow : OpenClaim := { program := "ytfhillobhfaikaa", sum := "a1e68923dee83b5616dbda05a35815dacd7baed562394163fcc81e5cc0dbf90c", func := "skolem/skolemlaw17.PacePlays", spec := "pacePlays", unfollowed := true, recurses := true, apart := false }
def PacePlaysSaid : Prop := pacePlaysRow.holds Try.pinned (OpenSpec.ofChange pacePlaysSpec)

/-- ITS FALSE NEIGHBOUR: 'it returns false'. Refute it at one input. -/
def pacePlaysWrong : ChangeSpec := { name := "pacePlays", fn := fun _ => fun
  | [d1, d2] => { results := [.lit (.bool false)], args := [d1, d2] }
  | _ => none }
def PacePlaysWrongFalsely : Prop := pacePlaysRow.holds Try.pinned (OpenSpec.ofChange pacePlaysWrong)

/- THE SECOND FORM. 'bulk': how many values and letters a reading holds, each counted each time it is reached (what is shared counts as often as it is met; a slice's spare places count too). A statement '..UptoSaid' is the law's where the arguments, and the package variables that the reading takes, are together of bulk at most 1048576: NARROWER than '..Said'. Prove '..Said' where nothing that the law and all that it calls make is longer than what came in: it says more and counts as full. Else prove '..UptoSaid'. A law counts once. -/
mutual
def uptoBulk {H : Type} : DataW H → Nat
  | .lit (.string bytes) => bytes.length + 1
  | .lit _ => 1
  | .nil => 1
  | .ptr d => uptoBulk d + 1
  | .slice elems spare => uptoBulkAll elems + uptoBulkAll spare + 1
  | .agg parts => uptoBulkAll parts + 1
  | .iface _ d => uptoBulk d + 1
  | .map entries => uptoBulkEntries entries + 1
  | .held _ => 1
def uptoBulkAll {H : Type} : List (DataW H) → Nat
  | [] => 0
  | d :: r => uptoBulk d + uptoBulkAll r
def uptoBulkEntries {H : Type} : List (Lit × DataW H) → Nat
  | [] => 0
  | x :: r => uptoBulkEntry x + uptoBulkEntries r
def uptoBulkEntry {H : Type} : Lit × DataW H → Nat
  | (.string bytes, d) => bytes.length + uptoBulk d + 1
  | (_, d) => uptoBulk d + 1
 end
def uptoSmall : (H : Type) → List (DataW H) → Bool := fun _ ds => decide (uptoBulkAll ds ≤ 1048576)
def OpenSpec.upto (s : _root_.Go.ChangeSpec) : _root_.Go.OpenSpec := { _root_.Go.OpenSpec.ofChange s with cond := some uptoSmall }

/-- 'skolemlaw17.PaceRestarts', WHERE WHAT IT READS IS OF BULK AT MOST 1048576: true; the input reads as it did. -/
def paceRestartsUptoRow : OpenClaim := { program := "ytfhillobhfaikaa", sum := "a1e68923dee83b5616dbda05a35815dacd7baed562394163fcc81e5cc0dbf90c", func := "skolem/skolemlaw17.PaceRestarts", spec := "paceRestarts", unfollowed := true, recurses := true, apart := false, narrowed := true }
def PaceRestartsUptoSaid : Prop := paceRestartsUptoRow.holds Try.pinned (OpenSpec.upto paceRestartsSpec)

/-- 'skolemlaw17.PaceSaves', WHERE WHAT IT READS IS OF BULK AT MOST 1048576: true; the input reads as it did. -/
def paceSavesUptoRow : OpenClaim := { program := "ytfhillobhfaikaa", sum := "a1e68923dee83b5616dbda05a35815dacd7baed562394163fcc81e5cc0dbf90c", func := "skolem/skolemlaw17.PaceSaves", spec := "paceSaves", unfollowed := true, recurses := true, apart := false, narrowed := true }
def PaceSavesUptoSaid : Prop := paceSavesUptoRow.holds Try.pinned (OpenSpec.upto paceSavesSpec)

/-- 'skolemlaw17.PaceBudgets', WHERE WHAT IT READS IS OF BULK AT MOST 1048576: true; the input reads as it did. -/
def paceBudgetsUptoRow : OpenClaim := { program := "ytfhillobhfaikaa", sum := "a1e68923dee83b5616dbda05a35815dacd7baed562394163fcc81e5cc0dbf90c", func := "skolem/skolemlaw17.PaceBudgets", spec := "paceBudgets", unfollowed := true, recurses := true, apart := false, narrowed := true }
def PaceBudgetsUptoSaid : Prop := paceBudgetsUptoRow.holds Try.pinned (OpenSpec.upto paceBudgetsSpec)

/-- 'skolemlaw17.PaceLists', WHERE WHAT IT READS IS OF BULK AT MOST 1048576: true; the input reads as it did. -/
def paceListsUptoRow : OpenClaim := { program := "ytfhillobhfaikaa", sum := "a1e68923dee83b5616dbda05a35815dacd7baed562394163fcc81e5cc0dbf90c", func := "skolem/skolemlaw17.PaceLists", spec := "paceLists", unfollowed := true, recurses := true, apart := false, narrowed := true }
def PaceListsUptoSaid : Prop := paceListsUptoRow.holds Try.pinned (OpenSpec.upto paceListsSpec)

/-- 'skolemlaw17.PacePlays', WHERE WHAT IT READS IS OF BULK AT MOST 1048576: true; the input reads as it did. -/
def pacePlaysUptoRow : OpenClaim := { program := "ytfhillobhfaikaa", sum := "a1e68923dee83b5616dbda05a35815dacd7baed562394163fcc81e5cc0dbf90c", func := "skolem/skolemlaw17.PacePlays", spec := "pacePlays", unfollowed := true, recurses := true, apart := false, narrowed := true }
def PacePlaysUptoSaid : Prop := pacePlaysUptoRow.holds Try.pinned (OpenSpec.upto pacePlaysSpec)

end Rows
end Go.Proofs.Ytfhillobhfaikaa
