/-
  NARROWER THAN 'FOR EVERY INPUT', by the rows' own cells (each row's printed sentence says how): GraphFolds: laid · GraphPlays: laid · GraphErrs: laid · TseitinForces: laid · TseitinSizes: laid · GateWorth: laid · GateLaws: laid · LookDepths: laid · GraphBuilds: laid · GraphWorth: laid · TseitinSays: laid · TseitinOnly: laid · GateClauses: laid · LookHangs: laid · GateSays: laid · LookCopies: laid · LookSays: laid · ListOne: laid · ListSays: laid · ListWorth: laid · ListFirst: laid.
  DERIVED. THE GIVEN ROWS OF THIS SEAT. 21 by the template 'for every input the law returns true; each argument reads behind the call as it read before'; 0 by the template 'total and deterministic' (their statements: YtkjlgamggkencaaDoorTotals.lean).
  GIVEN WITH THE SEED: the statements are not yours to turn. If you find one false, say at which input.
  Laid BY PROGRAM, IN A SANDBOX (cutbox-rows.mjs): the forced cells as the released guide's own fill.sh prints them over the translation 5c0901e384bc9798… (all of the seat's roots in one cut). By AI agents, Wed Nov 11 2026. No macro, syntax, notation, axiom, sorry.
-/
import Derived.Test.YtkjlgamggkencaaDoorChecked
import GoSem.Claim
import GoSem.ClaimJoined
import GoSem.ClaimMapViews
import Derived.JoinedTies
import Derived.KernelRfl
namespace Go.Proofs.YtkjlgamggkencaaDoor
/- THE CELL 'sum', in the pinned program and in every row, IS THE sha256 OF THE DUMP (.gsa) THAT YtkjlgamggkencaaDoorProg.lean LOADS. Nothing in Lean hashes anything: it is a label: what it is worth is what the hold of that sum in a sandbox is worth. -/
noncomputable def Tryd.pinned : Pinned := { name := "ytkjlgamggkencaadoor", sum := "5c0901e384bc97984fb76e45867fce5d5b4825b2377c7f8c74919bb3d66034f3", checked := Tryd.checked }
namespace Rows
def none {H : Type} : Left H := { results := [], args := [] }

/- WHAT THE LISTED PACKAGE-LEVEL VARIABLES READ AS WHEN THE CALL BEGINS. Each datum BY PROGRAM (the guide's laid-datum.mjs) off the statement by which the dump's own 'gosem.cut.vars' lays the variable. In a bare row this is a premise. The card (YtkjlgamggkencaaDoorCards.lean) ties it to the program's text. -/
def laid_skolem_api_ErrLimit {H : Type} : DataW H := .iface "*errors.errorString" (.ptr (.agg [.lit (.string [109, 111, 114, 101, 32, 116, 104, 97, 110, 32, 109, 97, 121, 32, 98, 101])]))
def laid_skolem_api_ErrRange {H : Type} : DataW H := .iface "*errors.errorString" (.ptr (.agg [.lit (.string [97, 32, 110, 117, 109, 98, 101, 114, 32, 111, 117, 116, 32, 111, 102, 32, 105, 116, 115, 32, 114, 97, 110, 103, 101])]))
def laid_skolem_api_ErrText {H : Type} : DataW H := .iface "*errors.errorString" (.ptr (.agg [.lit (.string [110, 111, 116, 32, 97, 115, 32, 105, 116, 32, 105, 115, 32, 119, 114, 105, 116, 116, 101, 110])]))
def laid_skolem_api_ErrBudget {H : Type} : DataW H := .iface "*errors.errorString" (.ptr (.agg [.lit (.string [116, 104, 101, 32, 98, 117, 100, 103, 101, 116, 32, 105, 115, 32, 117, 115, 101, 100, 32, 117, 112])]))
def laid_skolem_api_ErrBlocks {H : Type} : DataW H := .iface "*errors.errorString" (.ptr (.agg [.lit (.string [109, 111, 114, 101, 32, 116, 104, 97, 110, 32, 116, 119, 111, 32, 98, 108, 111, 99, 107, 115])]))
def laid_skolem_api_ErrProof {H : Type} : DataW H := .iface "*errors.errorString" (.ptr (.agg [.lit (.string [97, 32, 115, 116, 101, 112, 32, 116, 104, 97, 116, 32, 100, 111, 101, 115, 32, 110, 111, 116, 32, 102, 111, 108, 108, 111, 119])]))
def laid_skolem_api_ErrCert {H : Type} : DataW H := .iface "*errors.errorString" (.ptr (.agg [.lit (.string [110, 111, 32, 99, 101, 114, 116, 105, 102, 105, 99, 97, 116, 101, 32, 111, 102, 32, 105, 116])]))

/-- 'skolemlaw8.GraphFolds': WHATEVER THE INPUT: true; the input reads as it did. -/
def graphFoldsSpec : ChangeSpec := { name := "graphFolds", fn := fun _ => fun
  | [d1, d2, d3, d4] => { results := [.lit (.bool true)], args := [d1, d2, d3, d4] }
  | _ => none }
def graphFoldsRow : OpenClaim := { program := "ytkjlgamggkencaadoor", sum := "5c0901e384bc97984fb76e45867fce5d5b4825b2377c7f8c74919bb3d66034f3", func := "skolem/skolemlaw8.GraphFolds", spec := "graphFolds", named := ["skolem/api.ErrRange", "skolem/api.ErrLimit"], plainKeys := false, apart := false, laid := [("skolem/api.ErrLimit", laid_skolem_api_ErrLimit), ("skolem/api.ErrRange", laid_skolem_api_ErrRange)] }
def GraphFoldsSaid : Prop := graphFoldsRow.holds Tryd.pinned (OpenSpec.ofChange graphFoldsSpec)

/-- ITS FALSE NEIGHBOUR: 'it returns false'. Refute it at one input. -/
def graphFoldsWrong : ChangeSpec := { name := "graphFolds", fn := fun _ => fun
  | [d1, d2, d3, d4] => { results := [.lit (.bool false)], args := [d1, d2, d3, d4] }
  | _ => none }
def GraphFoldsWrongFalsely : Prop := graphFoldsRow.holds Tryd.pinned (OpenSpec.ofChange graphFoldsWrong)

/-- 'skolemlaw8.GraphPlays': WHATEVER THE INPUT: true; the input reads as it did. -/
def graphPlaysSpec : ChangeSpec := { name := "graphPlays", fn := fun _ => fun
  | [d1, d2, d3, d4] => { results := [.lit (.bool true)], args := [d1, d2, d3, d4] }
  | _ => none }
def graphPlaysRow : OpenClaim := { program := "ytkjlgamggkencaadoor", sum := "5c0901e384bc97984fb76e45867fce5d5b4825b2377c7f8c74919bb3d66034f3", func := "skolem/skolemlaw8.GraphPlays", spec := "graphPlays", named := ["skolem/api.ErrRange", "skolem/api.ErrLimit", "skolem/api.ErrText", "skolem/api.ErrBudget", "skolem/api.ErrBlocks", "skolem/api.ErrProof", "skolem/api.ErrCert"], plainKeys := false, apart := false, laid := [("skolem/api.ErrText", laid_skolem_api_ErrText), ("skolem/api.ErrLimit", laid_skolem_api_ErrLimit), ("skolem/api.ErrBudget", laid_skolem_api_ErrBudget), ("skolem/api.ErrRange", laid_skolem_api_ErrRange), ("skolem/api.ErrBlocks", laid_skolem_api_ErrBlocks), ("skolem/api.ErrProof", laid_skolem_api_ErrProof), ("skolem/api.ErrCert", laid_skolem_api_ErrCert)] }
def GraphPlaysSaid : Prop := graphPlaysRow.holds Tryd.pinned (OpenSpec.ofChange graphPlaysSpec)

/-- ITS FALSE NEIGHBOUR: 'it returns false'. Refute it at one input. -/
def graphPlaysWrong : ChangeSpec := { name := "graphPlays", fn := fun _ => fun
  | [d1, d2, d3, d4] => { results := [.lit (.bool false)], args := [d1, d2, d3, d4] }
  | _ => none }
def GraphPlaysWrongFalsely : Prop := graphPlaysRow.holds Tryd.pinned (OpenSpec.ofChange graphPlaysWrong)

/-- 'skolemlaw8.GraphErrs': WHATEVER THE INPUT: true; the input reads as it did. -/
def graphErrsSpec : ChangeSpec := { name := "graphErrs", fn := fun _ => fun
  | [d1, d2, d3, d4] => { results := [.lit (.bool true)], args := [d1, d2, d3, d4] }
  | _ => none }
def graphErrsRow : OpenClaim := { program := "ytkjlgamggkencaadoor", sum := "5c0901e384bc97984fb76e45867fce5d5b4825b2377c7f8c74919bb3d66034f3", func := "skolem/skolemlaw8.GraphErrs", spec := "graphErrs", named := ["skolem/api.ErrRange", "skolem/api.ErrLimit", "skolem/api.ErrText", "skolem/api.ErrBudget", "skolem/api.ErrBlocks", "skolem/api.ErrProof", "skolem/api.ErrCert"], plainKeys := false, apart := false, laid := [("skolem/api.ErrText", laid_skolem_api_ErrText), ("skolem/api.ErrLimit", laid_skolem_api_ErrLimit), ("skolem/api.ErrBudget", laid_skolem_api_ErrBudget), ("skolem/api.ErrRange", laid_skolem_api_ErrRange), ("skolem/api.ErrBlocks", laid_skolem_api_ErrBlocks), ("skolem/api.ErrProof", laid_skolem_api_ErrProof), ("skolem/api.ErrCert", laid_skolem_api_ErrCert)] }
def GraphErrsSaid : Prop := graphErrsRow.holds Tryd.pinned (OpenSpec.ofChange graphErrsSpec)

/-- ITS FALSE NEIGHBOUR: 'it returns false'. Refute it at one input. -/
def graphErrsWrong : ChangeSpec := { name := "graphErrs", fn := fun _ => fun
  | [d1, d2, d3, d4] => { results := [.lit (.bool false)], args := [d1, d2, d3, d4] }
  | _ => none }
def GraphErrsWrongFalsely : Prop := graphErrsRow.holds Tryd.pinned (OpenSpec.ofChange graphErrsWrong)

/-- 'skolemlaw13.TseitinForces': WHATEVER THE INPUT: true; the input reads as it did. -/
def tseitinForcesSpec : ChangeSpec := { name := "tseitinForces", fn := fun _ => fun
  | [d1, d2, d3] => { results := [.lit (.bool true)], args := [d1, d2, d3] }
  | _ => none }
def tseitinForcesRow : OpenClaim := { program := "ytkjlgamggkencaadoor", sum := "5c0901e384bc97984fb76e45867fce5d5b4825b2377c7f8c74919bb3d66034f3", func := "skolem/skolemlaw13.TseitinForces", spec := "tseitinForces", unfollowed := true, recurses := true, named := ["skolem/api.ErrRange", "skolem/api.ErrLimit"], plainKeys := false, apart := false, laid := [("skolem/api.ErrLimit", laid_skolem_api_ErrLimit), ("skolem/api.ErrRange", laid_skolem_api_ErrRange)] }
def TseitinForcesSaid : Prop := tseitinForcesRow.holds Tryd.pinned (OpenSpec.ofChange tseitinForcesSpec)

/-- ITS FALSE NEIGHBOUR: 'it returns false'. Refute it at one input. -/
def tseitinForcesWrong : ChangeSpec := { name := "tseitinForces", fn := fun _ => fun
  | [d1, d2, d3] => { results := [.lit (.bool false)], args := [d1, d2, d3] }
  | _ => none }
def TseitinForcesWrongFalsely : Prop := tseitinForcesRow.holds Tryd.pinned (OpenSpec.ofChange tseitinForcesWrong)

/-- 'skolemlaw13.TseitinSizes': WHATEVER THE INPUT: true; the input reads as it did. -/
def tseitinSizesSpec : ChangeSpec := { name := "tseitinSizes", fn := fun _ => fun
  | [d1, d2, d3] => { results := [.lit (.bool true)], args := [d1, d2, d3] }
  | _ => none }
def tseitinSizesRow : OpenClaim := { program := "ytkjlgamggkencaadoor", sum := "5c0901e384bc97984fb76e45867fce5d5b4825b2377c7f8c74919bb3d66034f3", func := "skolem/skolemlaw13.TseitinSizes", spec := "tseitinSizes", unfollowed := true, recurses := true, named := ["skolem/api.ErrRange", "skolem/api.ErrLimit"], plainKeys := false, apart := false, laid := [("skolem/api.ErrLimit", laid_skolem_api_ErrLimit), ("skolem/api.ErrRange", laid_skolem_api_ErrRange)] }
def TseitinSizesSaid : Prop := tseitinSizesRow.holds Tryd.pinned (OpenSpec.ofChange tseitinSizesSpec)

/-- ITS FALSE NEIGHBOUR: 'it returns false'. Refute it at one input. -/
def tseitinSizesWrong : ChangeSpec := { name := "tseitinSizes", fn := fun _ => fun
  | [d1, d2, d3] => { results := [.lit (.bool false)], args := [d1, d2, d3] }
  | _ => none }
def TseitinSizesWrongFalsely : Prop := tseitinSizesRow.holds Tryd.pinned (OpenSpec.ofChange tseitinSizesWrong)

/-- 'skolemlaw9.GateWorth': WHATEVER THE INPUT: true; the input reads as it did. -/
def gateWorthSpec : ChangeSpec := { name := "gateWorth", fn := fun _ => fun
  | [d1, d2, d3, d4, d5] => { results := [.lit (.bool true)], args := [d1, d2, d3, d4, d5] }
  | _ => none }
def gateWorthRow : OpenClaim := { program := "ytkjlgamggkencaadoor", sum := "5c0901e384bc97984fb76e45867fce5d5b4825b2377c7f8c74919bb3d66034f3", func := "skolem/skolemlaw9.GateWorth", spec := "gateWorth", named := ["skolem/api.ErrRange", "skolem/api.ErrLimit"], plainKeys := false, apart := false, laid := [("skolem/api.ErrLimit", laid_skolem_api_ErrLimit), ("skolem/api.ErrRange", laid_skolem_api_ErrRange)] }
def GateWorthSaid : Prop := gateWorthRow.holds Tryd.pinned (OpenSpec.ofChange gateWorthSpec)

/-- ITS FALSE NEIGHBOUR: 'it returns false'. Refute it at one input. -/
def gateWorthWrong : ChangeSpec := { name := "gateWorth", fn := fun _ => fun
  | [d1, d2, d3, d4, d5] => { results := [.lit (.bool false)], args := [d1, d2, d3, d4, d5] }
  | _ => none }
def GateWorthWrongFalsely : Prop := gateWorthRow.holds Tryd.pinned (OpenSpec.ofChange gateWorthWrong)

/-- 'skolemlaw9.GateLaws': WHATEVER THE INPUT: true; the input reads as it did. -/
def gateLawsSpec : ChangeSpec := { name := "gateLaws", fn := fun _ => fun
  | [d1, d2, d3, d4] => { results := [.lit (.bool true)], args := [d1, d2, d3, d4] }
  | _ => none }
def gateLawsRow : OpenClaim := { program := "ytkjlgamggkencaadoor", sum := "5c0901e384bc97984fb76e45867fce5d5b4825b2377c7f8c74919bb3d66034f3", func := "skolem/skolemlaw9.GateLaws", spec := "gateLaws", named := ["skolem/api.ErrRange", "skolem/api.ErrLimit"], plainKeys := false, apart := false, laid := [("skolem/api.ErrLimit", laid_skolem_api_ErrLimit), ("skolem/api.ErrRange", laid_skolem_api_ErrRange)] }
def GateLawsSaid : Prop := gateLawsRow.holds Tryd.pinned (OpenSpec.ofChange gateLawsSpec)

/-- ITS FALSE NEIGHBOUR: 'it returns false'. Refute it at one input. -/
def gateLawsWrong : ChangeSpec := { name := "gateLaws", fn := fun _ => fun
  | [d1, d2, d3, d4] => { results := [.lit (.bool false)], args := [d1, d2, d3, d4] }
  | _ => none }
def GateLawsWrongFalsely : Prop := gateLawsRow.holds Tryd.pinned (OpenSpec.ofChange gateLawsWrong)

/-- 'skolemlaw10.LookDepths': WHATEVER THE INPUT: true; the input reads as it did. -/
def lookDepthsSpec : ChangeSpec := { name := "lookDepths", fn := fun _ => fun
  | [d1, d2, d3] => { results := [.lit (.bool true)], args := [d1, d2, d3] }
  | _ => none }
def lookDepthsRow : OpenClaim := { program := "ytkjlgamggkencaadoor", sum := "5c0901e384bc97984fb76e45867fce5d5b4825b2377c7f8c74919bb3d66034f3", func := "skolem/skolemlaw10.LookDepths", spec := "lookDepths", named := ["skolem/api.ErrLimit", "skolem/api.ErrRange"], plainKeys := false, apart := false, laid := [("skolem/api.ErrLimit", laid_skolem_api_ErrLimit), ("skolem/api.ErrRange", laid_skolem_api_ErrRange)] }
def LookDepthsSaid : Prop := lookDepthsRow.holds Tryd.pinned (OpenSpec.ofChange lookDepthsSpec)

/-- ITS FALSE NEIGHBOUR: 'it returns false'. Refute it at one input. -/
def lookDepthsWrong : ChangeSpec := { name := "lookDepths", fn := fun _ => fun
  | [d1, d2, d3] => { results := [.lit (.bool false)], args := [d1, d2, d3] }
  | _ => none }
def LookDepthsWrongFalsely : Prop := lookDepthsRow.holds Tryd.pinned (OpenSpec.ofChange lookDepthsWrong)

/-- 'skolemlaw8.GraphBuilds': WHATEVER THE INPUT: true; the input reads as it did. -/
def graphBuildsSpec : ChangeSpec := { name := "graphBuilds", fn := fun _ => fun
  | [d1, d2, d3, d4] => { results := [.lit (.bool true)], args := [d1, d2, d3, d4] }
  | _ => none }
def graphBuildsRow : OpenClaim := { program := "ytkjlgamggkencaadoor", sum := "5c0901e384bc97984fb76e45867fce5d5b4825b2377c7f8c74919bb3d66034f3", func := "skolem/skolemlaw8.GraphBuilds", spec := "graphBuilds", unfollowed := true, recurses := true, named := ["skolem/api.ErrRange", "skolem/api.ErrLimit", "skolem/api.ErrText", "skolem/api.ErrBudget", "skolem/api.ErrBlocks", "skolem/api.ErrProof", "skolem/api.ErrCert"], plainKeys := false, apart := false, laid := [("skolem/api.ErrText", laid_skolem_api_ErrText), ("skolem/api.ErrLimit", laid_skolem_api_ErrLimit), ("skolem/api.ErrBudget", laid_skolem_api_ErrBudget), ("skolem/api.ErrRange", laid_skolem_api_ErrRange), ("skolem/api.ErrBlocks", laid_skolem_api_ErrBlocks), ("skolem/api.ErrProof", laid_skolem_api_ErrProof), ("skolem/api.ErrCert", laid_skolem_api_ErrCert)] }
def GraphBuildsSaid : Prop := graphBuildsRow.holds Tryd.pinned (OpenSpec.ofChange graphBuildsSpec)

/-- ITS FALSE NEIGHBOUR: 'it returns false'. Refute it at one input. -/
def graphBuildsWrong : ChangeSpec := { name := "graphBuilds", fn := fun _ => fun
  | [d1, d2, d3, d4] => { results := [.lit (.bool false)], args := [d1, d2, d3, d4] }
  | _ => none }
def GraphBuildsWrongFalsely : Prop := graphBuildsRow.holds Tryd.pinned (OpenSpec.ofChange graphBuildsWrong)

/-- 'skolemlaw8.GraphWorth': WHATEVER THE INPUT: true; the input reads as it did. -/
def graphWorthSpec : ChangeSpec := { name := "graphWorth", fn := fun _ => fun
  | [d1, d2, d3] => { results := [.lit (.bool true)], args := [d1, d2, d3] }
  | _ => none }
def graphWorthRow : OpenClaim := { program := "ytkjlgamggkencaadoor", sum := "5c0901e384bc97984fb76e45867fce5d5b4825b2377c7f8c74919bb3d66034f3", func := "skolem/skolemlaw8.GraphWorth", spec := "graphWorth", unfollowed := true, recurses := true, named := ["skolem/api.ErrRange", "skolem/api.ErrLimit"], plainKeys := false, apart := false, laid := [("skolem/api.ErrLimit", laid_skolem_api_ErrLimit), ("skolem/api.ErrRange", laid_skolem_api_ErrRange)] }
def GraphWorthSaid : Prop := graphWorthRow.holds Tryd.pinned (OpenSpec.ofChange graphWorthSpec)

/-- ITS FALSE NEIGHBOUR: 'it returns false'. Refute it at one input. -/
def graphWorthWrong : ChangeSpec := { name := "graphWorth", fn := fun _ => fun
  | [d1, d2, d3] => { results := [.lit (.bool false)], args := [d1, d2, d3] }
  | _ => none }
def GraphWorthWrongFalsely : Prop := graphWorthRow.holds Tryd.pinned (OpenSpec.ofChange graphWorthWrong)

/-- 'skolemlaw13.TseitinSays': WHATEVER THE INPUT: true; the input reads as it did. -/
def tseitinSaysSpec : ChangeSpec := { name := "tseitinSays", fn := fun _ => fun
  | [d1, d2, d3, d4, d5] => { results := [.lit (.bool true)], args := [d1, d2, d3, d4, d5] }
  | _ => none }
def tseitinSaysRow : OpenClaim := { program := "ytkjlgamggkencaadoor", sum := "5c0901e384bc97984fb76e45867fce5d5b4825b2377c7f8c74919bb3d66034f3", func := "skolem/skolemlaw13.TseitinSays", spec := "tseitinSays", unfollowed := true, recurses := true, named := ["skolem/api.ErrRange", "skolem/api.ErrLimit", "skolem/api.ErrText", "skolem/api.ErrBudget", "skolem/api.ErrBlocks", "skolem/api.ErrProof", "skolem/api.ErrCert"], plainKeys := false, apart := false, laid := [("skolem/api.ErrText", laid_skolem_api_ErrText), ("skolem/api.ErrLimit", laid_skolem_api_ErrLimit), ("skolem/api.ErrBudget", laid_skolem_api_ErrBudget), ("skolem/api.ErrRange", laid_skolem_api_ErrRange), ("skolem/api.ErrBlocks", laid_skolem_api_ErrBlocks), ("skolem/api.ErrProof", laid_skolem_api_ErrProof), ("skolem/api.ErrCert", laid_skolem_api_ErrCert)] }
def TseitinSaysSaid : Prop := tseitinSaysRow.holds Tryd.pinned (OpenSpec.ofChange tseitinSaysSpec)

/-- ITS FALSE NEIGHBOUR: 'it returns false'. Refute it at one input. -/
def tseitinSaysWrong : ChangeSpec := { name := "tseitinSays", fn := fun _ => fun
  | [d1, d2, d3, d4, d5] => { results := [.lit (.bool false)], args := [d1, d2, d3, d4, d5] }
  | _ => none }
def TseitinSaysWrongFalsely : Prop := tseitinSaysRow.holds Tryd.pinned (OpenSpec.ofChange tseitinSaysWrong)

/-- 'skolemlaw13.TseitinOnly': WHATEVER THE INPUT: true; the input reads as it did. -/
def tseitinOnlySpec : ChangeSpec := { name := "tseitinOnly", fn := fun _ => fun
  | [d1, d2, d3, d4] => { results := [.lit (.bool true)], args := [d1, d2, d3, d4] }
  | _ => none }
def tseitinOnlyRow : OpenClaim := { program := "ytkjlgamggkencaadoor", sum := "5c0901e384bc97984fb76e45867fce5d5b4825b2377c7f8c74919bb3d66034f3", func := "skolem/skolemlaw13.TseitinOnly", spec := "tseitinOnly", unfollowed := true, recurses := true, named := ["skolem/api.ErrRange", "skolem/api.ErrLimit"], plainKeys := false, apart := false, laid := [("skolem/api.ErrLimit", laid_skolem_api_ErrLimit), ("skolem/api.ErrRange", laid_skolem_api_ErrRange)] }
def TseitinOnlySaid : Prop := tseitinOnlyRow.holds Tryd.pinned (OpenSpec.ofChange tseitinOnlySpec)

/-- ITS FALSE NEIGHBOUR: 'it returns false'. Refute it at one input. -/
def tseitinOnlyWrong : ChangeSpec := { name := "tseitinOnly", fn := fun _ => fun
  | [d1, d2, d3, d4] => { results := [.lit (.bool false)], args := [d1, d2, d3, d4] }
  | _ => none }
def TseitinOnlyWrongFalsely : Prop := tseitinOnlyRow.holds Tryd.pinned (OpenSpec.ofChange tseitinOnlyWrong)

/-- 'skolemlaw9.GateClauses': WHATEVER THE INPUT: true; the input reads as it did. -/
def gateClausesSpec : ChangeSpec := { name := "gateClauses", fn := fun _ => fun
  | [d1, d2] => { results := [.lit (.bool true)], args := [d1, d2] }
  | _ => none }
def gateClausesRow : OpenClaim := { program := "ytkjlgamggkencaadoor", sum := "5c0901e384bc97984fb76e45867fce5d5b4825b2377c7f8c74919bb3d66034f3", func := "skolem/skolemlaw9.GateClauses", spec := "gateClauses", named := ["skolem/api.ErrRange", "skolem/api.ErrLimit"], plainKeys := false, apart := false, laid := [("skolem/api.ErrLimit", laid_skolem_api_ErrLimit), ("skolem/api.ErrRange", laid_skolem_api_ErrRange)] }
def GateClausesSaid : Prop := gateClausesRow.holds Tryd.pinned (OpenSpec.ofChange gateClausesSpec)

/-- ITS FALSE NEIGHBOUR: 'it returns false'. Refute it at one input. -/
def gateClausesWrong : ChangeSpec := { name := "gateClauses", fn := fun _ => fun
  | [d1, d2] => { results := [.lit (.bool false)], args := [d1, d2] }
  | _ => none }
def GateClausesWrongFalsely : Prop := gateClausesRow.holds Tryd.pinned (OpenSpec.ofChange gateClausesWrong)

/-- 'skolemlaw10.LookHangs': WHATEVER THE INPUT: true; the input reads as it did. -/
def lookHangsSpec : ChangeSpec := { name := "lookHangs", fn := fun _ => fun
  | [d1, d2, d3, d4] => { results := [.lit (.bool true)], args := [d1, d2, d3, d4] }
  | _ => none }
def lookHangsRow : OpenClaim := { program := "ytkjlgamggkencaadoor", sum := "5c0901e384bc97984fb76e45867fce5d5b4825b2377c7f8c74919bb3d66034f3", func := "skolem/skolemlaw10.LookHangs", spec := "lookHangs", named := ["skolem/api.ErrLimit", "skolem/api.ErrRange"], plainKeys := false, apart := false, laid := [("skolem/api.ErrLimit", laid_skolem_api_ErrLimit), ("skolem/api.ErrRange", laid_skolem_api_ErrRange)] }
def LookHangsSaid : Prop := lookHangsRow.holds Tryd.pinned (OpenSpec.ofChange lookHangsSpec)

/-- ITS FALSE NEIGHBOUR: 'it returns false'. Refute it at one input. -/
def lookHangsWrong : ChangeSpec := { name := "lookHangs", fn := fun _ => fun
  | [d1, d2, d3, d4] => { results := [.lit (.bool false)], args := [d1, d2, d3, d4] }
  | _ => none }
def LookHangsWrongFalsely : Prop := lookHangsRow.holds Tryd.pinned (OpenSpec.ofChange lookHangsWrong)

/-- 'skolemlaw9.GateSays': WHATEVER THE INPUT: true; the input reads as it did. -/
def gateSaysSpec : ChangeSpec := { name := "gateSays", fn := fun _ => fun
  | [d1, d2, d3, d4, d5, d6, d7] => { results := [.lit (.bool true)], args := [d1, d2, d3, d4, d5, d6, d7] }
  | _ => none }
def gateSaysRow : OpenClaim := { program := "ytkjlgamggkencaadoor", sum := "5c0901e384bc97984fb76e45867fce5d5b4825b2377c7f8c74919bb3d66034f3", func := "skolem/skolemlaw9.GateSays", spec := "gateSays", named := ["skolem/api.ErrRange", "skolem/api.ErrLimit"], plainKeys := false, apart := false, laid := [("skolem/api.ErrLimit", laid_skolem_api_ErrLimit), ("skolem/api.ErrRange", laid_skolem_api_ErrRange)] }
def GateSaysSaid : Prop := gateSaysRow.holds Tryd.pinned (OpenSpec.ofChange gateSaysSpec)

/-- ITS FALSE NEIGHBOUR: 'it returns false'. Refute it at one input. -/
def gateSaysWrong : ChangeSpec := { name := "gateSays", fn := fun _ => fun
  | [d1, d2, d3, d4, d5, d6, d7] => { results := [.lit (.bool false)], args := [d1, d2, d3, d4, d5, d6, d7] }
  | _ => none }
def GateSaysWrongFalsely : Prop := gateSaysRow.holds Tryd.pinned (OpenSpec.ofChange gateSaysWrong)

/-- 'skolemlaw10.LookCopies': WHATEVER THE INPUT: true; the input reads as it did. -/
def lookCopiesSpec : ChangeSpec := { name := "lookCopies", fn := fun _ => fun
  | [d1, d2, d3, d4] => { results := [.lit (.bool true)], args := [d1, d2, d3, d4] }
  | _ => none }
def lookCopiesRow : OpenClaim := { program := "ytkjlgamggkencaadoor", sum := "5c0901e384bc97984fb76e45867fce5d5b4825b2377c7f8c74919bb3d66034f3", func := "skolem/skolemlaw10.LookCopies", spec := "lookCopies", unfollowed := true, recurses := true, named := ["skolem/api.ErrLimit", "skolem/api.ErrRange"], plainKeys := false, apart := false, laid := [("skolem/api.ErrLimit", laid_skolem_api_ErrLimit), ("skolem/api.ErrRange", laid_skolem_api_ErrRange)] }
def LookCopiesSaid : Prop := lookCopiesRow.holds Tryd.pinned (OpenSpec.ofChange lookCopiesSpec)

/-- ITS FALSE NEIGHBOUR: 'it returns false'. Refute it at one input. -/
def lookCopiesWrong : ChangeSpec := { name := "lookCopies", fn := fun _ => fun
  | [d1, d2, d3, d4] => { results := [.lit (.bool false)], args := [d1, d2, d3, d4] }
  | _ => none }
def LookCopiesWrongFalsely : Prop := lookCopiesRow.holds Tryd.pinned (OpenSpec.ofChange lookCopiesWrong)

/-- 'skolemlaw10.LookSays': WHATEVER THE INPUT: true; the input reads as it did. -/
def lookSaysSpec : ChangeSpec := { name := "lookSays", fn := fun _ => fun
  | [d1, d2, d3, d4, d5, d6] => { results := [.lit (.bool true)], args := [d1, d2, d3, d4, d5, d6] }
  | _ => none }
def lookSaysRow : OpenClaim := { program := "ytkjlgamggkencaadoor", sum := "5c0901e384bc97984fb76e45867fce5d5b4825b2377c7f8c74919bb3d66034f3", func := "skolem/skolemlaw10.LookSays", spec := "lookSays", unfollowed := true, recurses := true, named := ["skolem/api.ErrLimit", "skolem/api.ErrRange"], plainKeys := false, apart := false, laid := [("skolem/api.ErrLimit", laid_skolem_api_ErrLimit), ("skolem/api.ErrRange", laid_skolem_api_ErrRange)] }
def LookSaysSaid : Prop := lookSaysRow.holds Tryd.pinned (OpenSpec.ofChange lookSaysSpec)

/-- ITS FALSE NEIGHBOUR: 'it returns false'. Refute it at one input. -/
def lookSaysWrong : ChangeSpec := { name := "lookSays", fn := fun _ => fun
  | [d1, d2, d3, d4, d5, d6] => { results := [.lit (.bool false)], args := [d1, d2, d3, d4, d5, d6] }
  | _ => none }
def LookSaysWrongFalsely : Prop := lookSaysRow.holds Tryd.pinned (OpenSpec.ofChange lookSaysWrong)

/-- 'skolemlaw24.ListOne': WHATEVER THE INPUT: true; the input reads as it did. -/
def listOneSpec : ChangeSpec := { name := "listOne", fn := fun _ => fun
  | [d1, d2, d3, d4, d5, d6, d7] => { results := [.lit (.bool true)], args := [d1, d2, d3, d4, d5, d6, d7] }
  | _ => none }
def listOneRow : OpenClaim := { program := "ytkjlgamggkencaadoor", sum := "5c0901e384bc97984fb76e45867fce5d5b4825b2377c7f8c74919bb3d66034f3", func := "skolem/skolemlaw24.ListOne", spec := "listOne", unfollowed := true, recurses := true, named := ["skolem/api.ErrRange", "skolem/api.ErrLimit", "skolem/api.ErrText", "skolem/api.ErrBudget", "skolem/api.ErrBlocks", "skolem/api.ErrProof", "skolem/api.ErrCert"], plainKeys := false, apart := false, laid := [("skolem/api.ErrText", laid_skolem_api_ErrText), ("skolem/api.ErrLimit", laid_skolem_api_ErrLimit), ("skolem/api.ErrBudget", laid_skolem_api_ErrBudget), ("skolem/api.ErrRange", laid_skolem_api_ErrRange), ("skolem/api.ErrBlocks", laid_skolem_api_ErrBlocks), ("skolem/api.ErrProof", laid_skolem_api_ErrProof), ("skolem/api.ErrCert", laid_skolem_api_ErrCert)] }
def ListOneSaid : Prop := listOneRow.holds Tryd.pinned (OpenSpec.ofChange listOneSpec)

/-- ITS FALSE NEIGHBOUR: 'it returns false'. Refute it at one input. -/
def listOneWrong : ChangeSpec := { name := "listOne", fn := fun _ => fun
  | [d1, d2, d3, d4, d5, d6, d7] => { results := [.lit (.bool false)], args := [d1, d2, d3, d4, d5, d6, d7] }
  | _ => none }
def ListOneWrongFalsely : Prop := listOneRow.holds Tryd.pinned (OpenSpec.ofChange listOneWrong)

/-- 'skolemlaw24.ListSays': WHATEVER THE INPUT: true; the input reads as it did. -/
def listSaysSpec : ChangeSpec := { name := "listSays", fn := fun _ => fun
  | [d1, d2, d3, d4, d5, d6, d7, d8] => { results := [.lit (.bool true)], args := [d1, d2, d3, d4, d5, d6, d7, d8] }
  | _ => none }
def listSaysRow : OpenClaim := { program := "ytkjlgamggkencaadoor", sum := "5c0901e384bc97984fb76e45867fce5d5b4825b2377c7f8c74919bb3d66034f3", func := "skolem/skolemlaw24.ListSays", spec := "listSays", unfollowed := true, recurses := true, named := ["skolem/api.ErrRange", "skolem/api.ErrLimit", "skolem/api.ErrText", "skolem/api.ErrBudget", "skolem/api.ErrBlocks", "skolem/api.ErrProof", "skolem/api.ErrCert"], plainKeys := false, apart := false, laid := [("skolem/api.ErrText", laid_skolem_api_ErrText), ("skolem/api.ErrLimit", laid_skolem_api_ErrLimit), ("skolem/api.ErrBudget", laid_skolem_api_ErrBudget), ("skolem/api.ErrRange", laid_skolem_api_ErrRange), ("skolem/api.ErrBlocks", laid_skolem_api_ErrBlocks), ("skolem/api.ErrProof", laid_skolem_api_ErrProof), ("skolem/api.ErrCert", laid_skolem_api_ErrCert)] }
def ListSaysSaid : Prop := listSaysRow.holds Tryd.pinned (OpenSpec.ofChange listSaysSpec)

/-- ITS FALSE NEIGHBOUR: 'it returns false'. Refute it at one input. -/
def listSaysWrong : ChangeSpec := { name := "listSays", fn := fun _ => fun
  | [d1, d2, d3, d4, d5, d6, d7, d8] => { results := [.lit (.bool false)], args := [d1, d2, d3, d4, d5, d6, d7, d8] }
  | _ => none }
def ListSaysWrongFalsely : Prop := listSaysRow.holds Tryd.pinned (OpenSpec.ofChange listSaysWrong)

/-- 'skolemlaw24.ListWorth': WHATEVER THE INPUT: true; the input reads as it did. -/
def listWorthSpec : ChangeSpec := { name := "listWorth", fn := fun _ => fun
  | [d1, d2, d3, d4, d5, d6, d7] => { results := [.lit (.bool true)], args := [d1, d2, d3, d4, d5, d6, d7] }
  | _ => none }
def listWorthRow : OpenClaim := { program := "ytkjlgamggkencaadoor", sum := "5c0901e384bc97984fb76e45867fce5d5b4825b2377c7f8c74919bb3d66034f3", func := "skolem/skolemlaw24.ListWorth", spec := "listWorth", unfollowed := true, recurses := true, named := ["skolem/api.ErrRange", "skolem/api.ErrLimit", "skolem/api.ErrText", "skolem/api.ErrBudget", "skolem/api.ErrBlocks", "skolem/api.ErrProof", "skolem/api.ErrCert"], plainKeys := false, apart := false, laid := [("skolem/api.ErrText", laid_skolem_api_ErrText), ("skolem/api.ErrLimit", laid_skolem_api_ErrLimit), ("skolem/api.ErrBudget", laid_skolem_api_ErrBudget), ("skolem/api.ErrRange", laid_skolem_api_ErrRange), ("skolem/api.ErrBlocks", laid_skolem_api_ErrBlocks), ("skolem/api.ErrProof", laid_skolem_api_ErrProof), ("skolem/api.ErrCert", laid_skolem_api_ErrCert)] }
def ListWorthSaid : Prop := listWorthRow.holds Tryd.pinned (OpenSpec.ofChange listWorthSpec)

/-- ITS FALSE NEIGHBOUR: 'it returns false'. Refute it at one input. -/
def listWorthWrong : ChangeSpec := { name := "listWorth", fn := fun _ => fun
  | [d1, d2, d3, d4, d5, d6, d7] => { results := [.lit (.bool false)], args := [d1, d2, d3, d4, d5, d6, d7] }
  | _ => none }
def ListWorthWrongFalsely : Prop := listWorthRow.holds Tryd.pinned (OpenSpec.ofChange listWorthWrong)

/-- 'skolemlaw24.ListFirst': WHATEVER THE INPUT: true; the input reads as it did. -/
def listFirstSpec : ChangeSpec := { name := "listFirst", fn := fun _ => fun
  | [d1, d2, d3, d4, d5, d6, d7, d8] => { results := [.lit (.bool true)], args := [d1, d2, d3, d4, d5, d6, d7, d8] }
  | _ => none }
def listFirstRow : OpenClaim := { program := "ytkjlgamggkencaadoor", sum := "5c0901e384bc97984fb76e45867fce5d5b4825b2377c7f8c74919bb3d66034f3", func := "skolem/skolemlaw24.ListFirst", spec := "listFirst", unfollowed := true, recurses := true, named := ["skolem/api.ErrRange", "skolem/api.ErrLimit", "skolem/api.ErrText", "skolem/api.ErrBudget", "skolem/api.ErrBlocks", "skolem/api.ErrProof", "skolem/api.ErrCert"], plainKeys := false, apart := false, laid := [("skolem/api.ErrText", laid_skolem_api_ErrText), ("skolem/api.ErrLimit", laid_skolem_api_ErrLimit), ("skolem/api.ErrBudget", laid_skolem_api_ErrBudget), ("skolem/api.ErrRange", laid_skolem_api_ErrRange), ("skolem/api.ErrBlocks", laid_skolem_api_ErrBlocks), ("skolem/api.ErrProof", laid_skolem_api_ErrProof), ("skolem/api.ErrCert", laid_skolem_api_ErrCert)] }
def ListFirstSaid : Prop := listFirstRow.holds Tryd.pinned (OpenSpec.ofChange listFirstSpec)

/-- ITS FALSE NEIGHBOUR: 'it returns false'. Refute it at one input. -/
def listFirstWrong : ChangeSpec := { name := "listFirst", fn := fun _ => fun
  | [d1, d2, d3, d4, d5, d6, d7, d8] => { results := [.lit (.bool false)], args := [d1, d2, d3, d4, d5, d6, d7, d8] }
  | _ => none }
def ListFirstWrongFalsely : Prop := listFirstRow.holds Tryd.pinned (OpenSpec.ofChange listFirstWrong)

/- THE SECOND FORM. 'bulk': how many values and letters a reading holds, each counted each time it is reached (what is shared counts as often as it is met; a slice's spare places count too). A statement '..UptoSaid' is the law's where the arguments, and the package variables that the reading takes, are together of bulk at most 1048576: NARROWER than '..Said'. Prove '..Said' where nothing that the law and all that it calls make is longer than what came in: it says more and counts as full. Else prove '..UptoSaid'. A law counts once. -/
mutual
def uptoBulk {H : Type} : DataW H → Nat
  | .lit (.string bytes) => bytes.length + 1
  | .lit _ => 1
  | .nil => 1
  | .ptr d => uptoBulk d + 1
  | .slice elems spare => uptoBulkAll elems + uptoBulkAll spare + 1
  | .agg parts => uptoBulkAll parts + 1
  | .iface _ d => uptoBulk d + 1
  | .map entries => uptoBulkEntries entries + 1
  | .held _ => 1
def uptoBulkAll {H : Type} : List (DataW H) → Nat
  | [] => 0
  | d :: r => uptoBulk d + uptoBulkAll r
def uptoBulkEntries {H : Type} : List (Lit × DataW H) → Nat
  | [] => 0
  | x :: r => uptoBulkEntry x + uptoBulkEntries r
def uptoBulkEntry {H : Type} : Lit × DataW H → Nat
  | (.string bytes, d) => bytes.length + uptoBulk d + 1
  | (_, d) => uptoBulk d + 1
 end
def uptoSmall : (H : Type) → List (DataW H) → Bool := fun _ ds => decide (uptoBulkAll ds ≤ 1048576)
def OpenSpec.upto (s : _root_.Go.ChangeSpec) : _root_.Go.OpenSpec := { _root_.Go.OpenSpec.ofChange s with cond := some uptoSmall }

/-- 'skolemlaw8.GraphFolds', WHERE WHAT IT READS IS OF BULK AT MOST 1048576: true; the input reads as it did. -/
def graphFoldsUptoRow : OpenClaim := { program := "ytkjlgamggkencaadoor", sum := "5c0901e384bc97984fb76e45867fce5d5b4825b2377c7f8c74919bb3d66034f3", func := "skolem/skolemlaw8.GraphFolds", spec := "graphFolds", named := ["skolem/api.ErrRange", "skolem/api.ErrLimit"], plainKeys := false, apart := false, laid := [("skolem/api.ErrLimit", laid_skolem_api_ErrLimit), ("skolem/api.ErrRange", laid_skolem_api_ErrRange)], narrowed := true }
def GraphFoldsUptoSaid : Prop := graphFoldsUptoRow.holds Tryd.pinned (OpenSpec.upto graphFoldsSpec)

/-- 'skolemlaw8.GraphPlays', WHERE WHAT IT READS IS OF BULK AT MOST 1048576: true; the input reads as it did. -/
def graphPlaysUptoRow : OpenClaim := { program := "ytkjlgamggkencaadoor", sum := "5c0901e384bc97984fb76e45867fce5d5b4825b2377c7f8c74919bb3d66034f3", func := "skolem/skolemlaw8.GraphPlays", spec := "graphPlays", named := ["skolem/api.ErrRange", "skolem/api.ErrLimit", "skolem/api.ErrText", "skolem/api.ErrBudget", "skolem/api.ErrBlocks", "skolem/api.ErrProof", "skolem/api.ErrCert"], plainKeys := false, apart := false, laid := [("skolem/api.ErrText", laid_skolem_api_ErrText), ("skolem/api.ErrLimit", laid_skolem_api_ErrLimit), ("skolem/api.ErrBudget", laid_skolem_api_ErrBudget), ("skolem/api.ErrRange", laid_skolem_api_ErrRange), ("skolem/api.ErrBlocks", laid_skolem_api_ErrBlocks), ("skolem/api.ErrProof", laid_skolem_api_ErrProof), ("skolem/api.ErrCert", laid_skolem_api_ErrCert)], narrowed := true }
def GraphPlaysUptoSaid : Prop := graphPlaysUptoRow.holds Tryd.pinned (OpenSpec.upto graphPlaysSpec)

/-- 'skolemlaw8.GraphErrs', WHERE WHAT IT READS IS OF BULK AT MOST 1048576: true; the input reads as it did. -/
def graphErrsUptoRow : OpenClaim := { program := "ytkjlgamggkencaadoor", sum := "5c0901e384bc97984fb76e45867fce5d5b4825b2377c7f8c74919bb3d66034f3", func := "skolem/skolemlaw8.GraphErrs", spec := "graphErrs", named := ["skolem/api.ErrRange", "skolem/api.ErrLimit", "skolem/api.ErrText", "skolem/api.ErrBudget", "skolem/api.ErrBlocks", "skolem/api.ErrProof", "skolem/api.ErrCert"], plainKeys := false, apart := false, laid := [("skolem/api.ErrText", laid_skolem_api_ErrText), ("skolem/api.ErrLimit", laid_skolem_api_ErrLimit), ("skolem/api.ErrBudget", laid_skolem_api_ErrBudget), ("skolem/api.ErrRange", laid_skolem_api_ErrRange), ("skolem/api.ErrBlocks", laid_skolem_api_ErrBlocks), ("skolem/api.ErrProof", laid_skolem_api_ErrProof), ("skolem/api.ErrCert", laid_skolem_api_ErrCert)], narrowed := true }
def GraphErrsUptoSaid : Prop := graphErrsUptoRow.holds Tryd.pinned (OpenSpec.upto graphErrsSpec)

/-- 'skolemlaw13.TseitinForces', WHERE WHAT IT READS IS OF BULK AT MOST 1048576: true; the input reads as it did. -/
def tseitinForcesUptoRow : OpenClaim := { program := "ytkjlgamggkencaadoor", sum := "5c0901e384bc97984fb76e45867fce5d5b4825b2377c7f8c74919bb3d66034f3", func := "skolem/skolemlaw13.TseitinForces", spec := "tseitinForces", unfollowed := true, recurses := true, named := ["skolem/api.ErrRange", "skolem/api.ErrLimit"], plainKeys := false, apart := false, laid := [("skolem/api.ErrLimit", laid_skolem_api_ErrLimit), ("skolem/api.ErrRange", laid_skolem_api_ErrRange)], narrowed := true }
def TseitinForcesUptoSaid : Prop := tseitinForcesUptoRow.holds Tryd.pinned (OpenSpec.upto tseitinForcesSpec)

/-- 'skolemlaw13.TseitinSizes', WHERE WHAT IT READS IS OF BULK AT MOST 1048576: true; the input reads as it did. -/
def tseitinSizesUptoRow : OpenClaim := { program := "ytkjlgamggkencaadoor", sum := "5c0901e384bc97984fb76e45867fce5d5b4825b2377c7f8c74919bb3d66034f3", func := "skolem/skolemlaw13.TseitinSizes", spec := "tseitinSizes", unfollowed := true, recurses := true, named := ["skolem/api.ErrRange", "skolem/api.ErrLimit"], plainKeys := false, apart := false, laid := [("skolem/api.ErrLimit", laid_skolem_api_ErrLimit), ("skolem/api.ErrRange", laid_skolem_api_ErrRange)], narrowed := true }
def TseitinSizesUptoSaid : Prop := tseitinSizesUptoRow.holds Tryd.pinned (OpenSpec.upto tseitinSizesSpec)

/-- 'skolemlaw9.GateWorth', WHERE WHAT IT READS IS OF BULK AT MOST 1048576: true; the input reads as it did. -/
def gateWorthUptoRow : OpenClaim := { program := "ytkjlgamggkencaadoor", sum := "5c0901e384bc97984fb76e45867fce5d5b4825b2377c7f8c74919bb3d66034f3", func := "skolem/skolemlaw9.GateWorth", spec := "gateWorth", named := ["skolem/api.ErrRange", "skolem/api.ErrLimit"], plainKeys := false, apart := false, laid := [("skolem/api.ErrLimit", laid_skolem_api_ErrLimit), ("skolem/api.ErrRange", laid_skolem_api_ErrRange)], narrowed := true }
def GateWorthUptoSaid : Prop := gateWorthUptoRow.holds Tryd.pinned (OpenSpec.upto gateWorthSpec)

/-- 'skolemlaw9.GateLaws', WHERE WHAT IT READS IS OF BULK AT MOST 1048576: true; the input reads as it did. -/
def gateLawsUptoRow : OpenClaim := { program := "ytkjlgamggkencaadoor", sum := "5c0901e384bc97984fb76e45867fce5d5b4825b2377c7f8c74919bb3d66034f3", func := "skolem/skolemlaw9.GateLaws", spec := "gateLaws", named := ["skolem/api.ErrRange", "skolem/api.ErrLimit"], plainKeys := false, apart := false, laid := [("skolem/api.ErrLimit", laid_skolem_api_ErrLimit), ("skolem/api.ErrRange", laid_skolem_api_ErrRange)], narrowed := true }
def GateLawsUptoSaid : Prop := gateLawsUptoRow.holds Tryd.pinned (OpenSpec.upto gateLawsSpec)

/-- 'skolemlaw10.LookDepths', WHERE WHAT IT READS IS OF BULK AT MOST 1048576: true; the input reads as it did. -/
def lookDepthsUptoRow : OpenClaim := { program := "ytkjlgamggkencaadoor", sum := "5c0901e384bc97984fb76e45867fce5d5b4825b2377c7f8c74919bb3d66034f3", func := "skolem/skolemlaw10.LookDepths", spec := "lookDepths", named := ["skolem/api.ErrLimit", "skolem/api.ErrRange"], plainKeys := false, apart := false, laid := [("skolem/api.ErrLimit", laid_skolem_api_ErrLimit), ("skolem/api.ErrRange", laid_skolem_api_ErrRange)], narrowed := true }
def LookDepthsUptoSaid : Prop := lookDepthsUptoRow.holds Tryd.pinned (OpenSpec.upto lookDepthsSpec)

/-- 'skolemlaw8.GraphBuilds', WHERE WHAT IT READS IS OF BULK AT MOST 1048576: true; the input reads as it did. -/
def graphBuildsUptoRow : OpenClaim := { program := "ytkjlgamggkencaadoor", sum := "5c0901e384bc97984fb76e45867fce5d5b4825b2377c7f8c74919bb3d66034f3", func := "skolem/skolemlaw8.GraphBuilds", spec := "graphBuilds", unfollowed := true, recurses := true, named := ["skolem/api.ErrRange", "skolem/api.ErrLimit", "skolem/api.ErrText", "skolem/api.ErrBudget", "skolem/api.ErrBlocks", "skolem/api.ErrProof", "skolem/api.ErrCert"], plainKeys := false, apart := false, laid := [("skolem/api.ErrText", laid_skolem_api_ErrText), ("skolem/api.ErrLimit", laid_skolem_api_ErrLimit), ("skolem/api.ErrBudget", laid_skolem_api_ErrBudget), ("skolem/api.ErrRange", laid_skolem_api_ErrRange), ("skolem/api.ErrBlocks", laid_skolem_api_ErrBlocks), ("skolem/api.ErrProof", laid_skolem_api_ErrProof), ("skolem/api.ErrCert", laid_skolem_api_ErrCert)], narrowed := true }
def GraphBuildsUptoSaid : Prop := graphBuildsUptoRow.holds Tryd.pinned (OpenSpec.upto graphBuildsSpec)

/-- 'skolemlaw8.GraphWorth', WHERE WHAT IT READS IS OF BULK AT MOST 1048576: true; the input reads as it did. -/
def graphWorthUptoRow : OpenClaim := { program := "ytkjlgamggkencaadoor", sum := "5c0901e384bc97984fb76e45867fce5d5b4825b2377c7f8c74919bb3d66034f3", func := "skolem/skolemlaw8.GraphWorth", spec := "graphWorth", unfollowed := true, recurses := true, named := ["skolem/api.ErrRange", "skolem/api.ErrLimit"], plainKeys := false, apart := false, laid := [("skolem/api.ErrLimit", laid_skolem_api_ErrLimit), ("skolem/api.ErrRange", laid_skolem_api_ErrRange)], narrowed := true }
def GraphWorthUptoSaid : Prop := graphWorthUptoRow.holds Tryd.pinned (OpenSpec.upto graphWorthSpec)

/-- 'skolemlaw13.TseitinSays', WHERE WHAT IT READS IS OF BULK AT MOST 1048576: true; the input reads as it did. -/
def tseitinSaysUptoRow : OpenClaim := { program := "ytkjlgamggkencaadoor", sum := "5c0901e384bc97984fb76e45867fce5d5b4825b2377c7f8c74919bb3d66034f3", func := "skolem/skolemlaw13.TseitinSays", spec := "tseitinSays", unfollowed := true, recurses := true, named := ["skolem/api.ErrRange", "skolem/api.ErrLimit", "skolem/api.ErrText", "skolem/api.ErrBudget", "skolem/api.ErrBlocks", "skolem/api.ErrProof", "skolem/api.ErrCert"], plainKeys := false, apart := false, laid := [("skolem/api.ErrText", laid_skolem_api_ErrText), ("skolem/api.ErrLimit", laid_skolem_api_ErrLimit), ("skolem/api.ErrBudget", laid_skolem_api_ErrBudget), ("skolem/api.ErrRange", laid_skolem_api_ErrRange), ("skolem/api.ErrBlocks", laid_skolem_api_ErrBlocks), ("skolem/api.ErrProof", laid_skolem_api_ErrProof), ("skolem/api.ErrCert", laid_skolem_api_ErrCert)], narrowed := true }
def TseitinSaysUptoSaid : Prop := tseitinSaysUptoRow.holds Tryd.pinned (OpenSpec.upto tseitinSaysSpec)

/-- 'skolemlaw13.TseitinOnly', WHERE WHAT IT READS IS OF BULK AT MOST 1048576: true; the input reads as it did. -/
def tseitinOnlyUptoRow : OpenClaim := { program := "ytkjlgamggkencaadoor", sum := "5c0901e384bc97984fb76e45867fce5d5b4825b2377c7f8c74919bb3d66034f3", func := "skolem/skolemlaw13.TseitinOnly", spec := "tseitinOnly", unfollowed := true, recurses := true, named := ["skolem/api.ErrRange", "skolem/api.ErrLimit"], plainKeys := false, apart := false, laid := [("skolem/api.ErrLimit", laid_skolem_api_ErrLimit), ("skolem/api.ErrRange", laid_skolem_api_ErrRange)], narrowed := true }
def TseitinOnlyUptoSaid : Prop := tseitinOnlyUptoRow.holds Tryd.pinned (OpenSpec.upto tseitinOnlySpec)

/-- 'skolemlaw9.GateClauses', WHERE WHAT IT READS IS OF BULK AT MOST 1048576: true; the input reads as it did. -/
def gateClausesUptoRow : OpenClaim := { program := "ytkjlgamggkencaadoor", sum := "5c0901e384bc97984fb76e45867fce5d5b4825b2377c7f8c74919bb3d66034f3", func := "skolem/skolemlaw9.GateClauses", spec := "gateClauses", named := ["skolem/api.ErrRange", "skolem/api.ErrLimit"], plainKeys := false, apart := false, laid := [("skolem/api.ErrLimit", laid_skolem_api_ErrLimit), ("skolem/api.ErrRange", laid_skolem_api_ErrRange)], narrowed := true }
def GateClausesUptoSaid : Prop := gateClausesUptoRow.holds Tryd.pinned (OpenSpec.upto gateClausesSpec)

/-- 'skolemlaw10.LookHangs', WHERE WHAT IT READS IS OF BULK AT MOST 1048576: true; the input reads as it did. -/
def lookHangsUptoRow : OpenClaim := { program := "ytkjlgamggkencaadoor", sum := "5c0901e384bc97984fb76e45867fce5d5b4825b2377c7f8c74919bb3d66034f3", func := "skolem/skolemlaw10.LookHangs", spec := "lookHangs", named := ["skolem/api.ErrLimit", "skolem/api.ErrRange"], plainKeys := false, apart := false, laid := [("skolem/api.ErrLimit", laid_skolem_api_ErrLimit), ("skolem/api.ErrRange", laid_skolem_api_ErrRange)], narrowed := true }
def LookHangsUptoSaid : Prop := lookHangsUptoRow.holds Tryd.pinned (OpenSpec.upto lookHangsSpec)

/-- 'skolemlaw9.GateSays', WHERE WHAT IT READS IS OF BULK AT MOST 1048576: true; the input reads as it did. -/
def gateSaysUptoRow : OpenClaim := { program := "ytkjlgamggkencaadoor", sum := "5c0901e384bc97984fb76e45867fce5d5b4825b2377c7f8c74919bb3d66034f3", func := "skolem/skolemlaw9.GateSays", spec := "gateSays", named := ["skolem/api.ErrRange", "skolem/api.ErrLimit"], plainKeys := false, apart := false, laid := [("skolem/api.ErrLimit", laid_skolem_api_ErrLimit), ("skolem/api.ErrRange", laid_skolem_api_ErrRange)], narrowed := true }
def GateSaysUptoSaid : Prop := gateSaysUptoRow.holds Tryd.pinned (OpenSpec.upto gateSaysSpec)

/-- 'skolemlaw10.LookCopies', WHERE WHAT IT READS IS OF BULK AT MOST 1048576: true; the input reads as it did. -/
def lookCopiesUptoRow : OpenClaim := { program := "ytkjlgamggkencaadoor", sum := "5c0901e384bc97984fb76e45867fce5d5b4825b2377c7f8c74919bb3d66034f3", func := "skolem/skolemlaw10.LookCopies", spec := "lookCopies", unfollowed := true, recurses := true, named := ["skolem/api.ErrLimit", "skolem/api.ErrRange"], plainKeys := false, apart := false, laid := [("skolem/api.ErrLimit", laid_skolem_api_ErrLimit), ("skolem/api.ErrRange", laid_skolem_api_ErrRange)], narrowed := true }
def LookCopiesUptoSaid : Prop := lookCopiesUptoRow.holds Tryd.pinned (OpenSpec.upto lookCopiesSpec)

/-- 'skolemlaw10.LookSays', WHERE WHAT IT READS IS OF BULK AT MOST 1048576: true; the input reads as it did. -/
def lookSaysUptoRow : OpenClaim := { program := "ytkjlgamggkencaadoor", sum := "5c0901e384bc97984fb76e45867fce5d5b4825b2377c7f8c74919bb3d66034f3", func := "skolem/skolemlaw10.LookSays", spec := "lookSays", unfollowed := true, recurses := true, named := ["skolem/api.ErrLimit", "skolem/api.ErrRange"], plainKeys := false, apart := false, laid := [("skolem/api.ErrLimit", laid_skolem_api_ErrLimit), ("skolem/api.ErrRange", laid_skolem_api_ErrRange)], narrowed := true }
def LookSaysUptoSaid : Prop := lookSaysUptoRow.holds Tryd.pinned (OpenSpec.upto lookSaysSpec)

/-- 'skolemlaw24.ListOne', WHERE WHAT IT READS IS OF BULK AT MOST 1048576: true; the input reads as it did. -/
def listOneUptoRow : OpenClaim := { program := "ytkjlgamggkencaadoor", sum := "5c0901e384bc97984fb76e45867fce5d5b4825b2377c7f8c74919bb3d66034f3", func := "skolem/skolemlaw24.ListOne", spec := "listOne", unfollowed := true, recurses := true, named := ["skolem/api.ErrRange", "skolem/api.ErrLimit", "skolem/api.ErrText", "skolem/api.ErrBudget", "skolem/api.ErrBlocks", "skolem/api.ErrProof", "skolem/api.ErrCert"], plainKeys := false, apart := false, laid := [("skolem/api.ErrText", laid_skolem_api_ErrText), ("skolem/api.ErrLimit", laid_skolem_api_ErrLimit), ("skolem/api.ErrBudget", laid_skolem_api_ErrBudget), ("skolem/api.ErrRange", laid_skolem_api_ErrRange), ("skolem/api.ErrBlocks", laid_skolem_api_ErrBlocks), ("skolem/api.ErrProof", laid_skolem_api_ErrProof), ("skolem/api.ErrCert", laid_skolem_api_ErrCert)], narrowed := true }
def ListOneUptoSaid : Prop := listOneUptoRow.holds Tryd.pinned (OpenSpec.upto listOneSpec)

/-- 'skolemlaw24.ListSays', WHERE WHAT IT READS IS OF BULK AT MOST 1048576: true; the input reads as it did. -/
def listSaysUptoRow : OpenClaim := { program := "ytkjlgamggkencaadoor", sum := "5c0901e384bc97984fb76e45867fce5d5b4825b2377c7f8c74919bb3d66034f3", func := "skolem/skolemlaw24.ListSays", spec := "listSays", unfollowed := true, recurses := true, named := ["skolem/api.ErrRange", "skolem/api.ErrLimit", "skolem/api.ErrText", "skolem/api.ErrBudget", "skolem/api.ErrBlocks", "skolem/api.ErrProof", "skolem/api.ErrCert"], plainKeys := false, apart := false, laid := [("skolem/api.ErrText", laid_skolem_api_ErrText), ("skolem/api.ErrLimit", laid_skolem_api_ErrLimit), ("skolem/api.ErrBudget", laid_skolem_api_ErrBudget), ("skolem/api.ErrRange", laid_skolem_api_ErrRange), ("skolem/api.ErrBlocks", laid_skolem_api_ErrBlocks), ("skolem/api.ErrProof", laid_skolem_api_ErrProof), ("skolem/api.ErrCert", laid_skolem_api_ErrCert)], narrowed := true }
def ListSaysUptoSaid : Prop := listSaysUptoRow.holds Tryd.pinned (OpenSpec.upto listSaysSpec)

/-- 'skolemlaw24.ListWorth', WHERE WHAT IT READS IS OF BULK AT MOST 1048576: true; the input reads as it did. -/
def listWorthUptoRow : OpenClaim := { program := "ytkjlgamggkencaadoor", sum := "5c0901e384bc97984fb76e45867fce5d5b4825b2377c7f8c74919bb3d66034f3", func := "skolem/skolemlaw24.ListWorth", spec := "listWorth", unfollowed := true, recurses := true, named := ["skolem/api.ErrRange", "skolem/api.ErrLimit", "skolem/api.ErrText", "skolem/api.ErrBudget", "skolem/api.ErrBlocks", "skolem/api.ErrProof", "skolem/api.ErrCert"], plainKeys := false, apart := false, laid := [("skolem/api.ErrText", laid_skolem_api_ErrText), ("skolem/api.ErrLimit", laid_skolem_api_ErrLimit), ("skolem/api.ErrBudget", laid_skolem_api_ErrBudget), ("skolem/api.ErrRange", laid_skolem_api_ErrRange), ("skolem/api.ErrBlocks", laid_skolem_api_ErrBlocks), ("skolem/api.ErrProof", laid_skolem_api_ErrProof), ("skolem/api.ErrCert", laid_skolem_api_ErrCert)], narrowed := true }
def ListWorthUptoSaid : Prop := listWorthUptoRow.holds Tryd.pinned (OpenSpec.upto listWorthSpec)

/-- 'skolemlaw24.ListFirst', WHERE WHAT IT READS IS OF BULK AT MOST 1048576: true; the input reads as it did. -/
def listFirstUptoRow : OpenClaim := { program := "ytkjlgamggkencaadoor", sum := "5c0901e384bc97984fb76e45867fce5d5b4825b2377c7f8c74919bb3d66034f3", func := "skolem/skolemlaw24.ListFirst", spec := "listFirst", unfollowed := true, recurses := true, named := ["skolem/api.ErrRange", "skolem/api.ErrLimit", "skolem/api.ErrText", "skolem/api.ErrBudget", "skolem/api.ErrBlocks", "skolem/api.ErrProof", "skolem/api.ErrCert"], plainKeys := false, apart := false, laid := [("skolem/api.ErrText", laid_skolem_api_ErrText), ("skolem/api.ErrLimit", laid_skolem_api_ErrLimit), ("skolem/api.ErrBudget", laid_skolem_api_ErrBudget), ("skolem/api.ErrRange", laid_skolem_api_ErrRange), ("skolem/api.ErrBlocks", laid_skolem_api_ErrBlocks), ("skolem/api.ErrProof", laid_skolem_api_ErrProof), ("skolem/api.ErrCert", laid_skolem_api_ErrCert)], narrowed := true }
def ListFirstUptoSaid : Prop := listFirstUptoRow.holds Tryd.pinned (OpenSpec.upto listFirstSpec)

end Rows
end Go.Proofs.YtkjlgamggkencaaDoor
