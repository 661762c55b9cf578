/-
  DERIVED. GIVEN WITH THE SEED: THE CARDS: each row of YtkjlgamggkencaaDoorRows.lean that lists a variable, with what it lists TIED to the program's text (the seventh form; the later family's looks); each row that meets fmt, with fmt's text TOLD by the authors' own Lean function (tested against real Go, not proved from fmt's source: count such statements apart). THE CARD IS WHAT COUNTS. Prove the row's statement (the work); the ties are given (YtkjlgamggkencaaDoorTie.lean); close each card by the builder's one call (the guide's Derived/Test/ToyasCard.lean, 'card_holds'). Laid BY PROGRAM, IN A SANDBOX (cutbox-door.mjs). By AI agents, Wed Nov 11 2026. No macro, syntax, notation, axiom, sorry.
-/
import Derived.Test.YtkjlgamggkencaaDoorRows
import GoSem.ClaimSeven
namespace Go.Proofs.YtkjlgamggkencaaDoor
namespace Rows

/-- THE TIED CARD OF 'skolemlaw8.GraphFolds'. -/
def graphFoldsCard : Claim7 := { stood := { row := graphFoldsRow, standIns := [], harness := (true, "6debbe0940da77532fd6652eba387f0f575af8415f209e2d71000e5d9693d78b"), looks := true }, kinds := [], alts := [], laidByText := true, laidKinds := [.sentinel, .sentinel], laidTests := true, laidLooks := .later }
def GraphFoldsCardSaid : Prop := Claim7.holds Tryd.pinned (.plain (OpenSpec.ofChange graphFoldsSpec)) graphFoldsCard

/-- THE TIED CARD OF 'skolemlaw8.GraphPlays'. -/
def graphPlaysCard : Claim7 := { stood := { row := graphPlaysRow, standIns := [], harness := (true, "6debbe0940da77532fd6652eba387f0f575af8415f209e2d71000e5d9693d78b"), looks := true }, kinds := [], alts := [], laidByText := true, laidKinds := [.sentinel, .sentinel, .sentinel, .sentinel, .sentinel, .sentinel, .sentinel], laidTests := true, laidLooks := .later }
def GraphPlaysCardSaid : Prop := Claim7.holds Tryd.pinned (.plain (OpenSpec.ofChange graphPlaysSpec)) graphPlaysCard

/-- THE TIED CARD OF 'skolemlaw8.GraphErrs'. -/
def graphErrsCard : Claim7 := { stood := { row := graphErrsRow, standIns := [], harness := (true, "6debbe0940da77532fd6652eba387f0f575af8415f209e2d71000e5d9693d78b"), looks := true }, kinds := [], alts := [], laidByText := true, laidKinds := [.sentinel, .sentinel, .sentinel, .sentinel, .sentinel, .sentinel, .sentinel], laidTests := true, laidLooks := .later }
def GraphErrsCardSaid : Prop := Claim7.holds Tryd.pinned (.plain (OpenSpec.ofChange graphErrsSpec)) graphErrsCard

/-- THE TIED CARD OF 'skolemlaw13.TseitinForces'. -/
def tseitinForcesCard : Claim7 := { stood := { row := tseitinForcesRow, standIns := [], harness := (true, "6debbe0940da77532fd6652eba387f0f575af8415f209e2d71000e5d9693d78b"), looks := true }, kinds := [], alts := [], laidByText := true, laidKinds := [.sentinel, .sentinel], laidTests := true, laidLooks := .later }
def TseitinForcesCardSaid : Prop := Claim7.holds Tryd.pinned (.plain (OpenSpec.ofChange tseitinForcesSpec)) tseitinForcesCard

/-- THE TIED CARD OF 'skolemlaw13.TseitinSizes'. -/
def tseitinSizesCard : Claim7 := { stood := { row := tseitinSizesRow, standIns := [], harness := (true, "6debbe0940da77532fd6652eba387f0f575af8415f209e2d71000e5d9693d78b"), looks := true }, kinds := [], alts := [], laidByText := true, laidKinds := [.sentinel, .sentinel], laidTests := true, laidLooks := .later }
def TseitinSizesCardSaid : Prop := Claim7.holds Tryd.pinned (.plain (OpenSpec.ofChange tseitinSizesSpec)) tseitinSizesCard

/-- THE TIED CARD OF 'skolemlaw9.GateWorth'. -/
def gateWorthCard : Claim7 := { stood := { row := gateWorthRow, standIns := [], harness := (true, "6debbe0940da77532fd6652eba387f0f575af8415f209e2d71000e5d9693d78b"), looks := true }, kinds := [], alts := [], laidByText := true, laidKinds := [.sentinel, .sentinel], laidTests := true, laidLooks := .later }
def GateWorthCardSaid : Prop := Claim7.holds Tryd.pinned (.plain (OpenSpec.ofChange gateWorthSpec)) gateWorthCard

/-- THE TIED CARD OF 'skolemlaw9.GateLaws'. -/
def gateLawsCard : Claim7 := { stood := { row := gateLawsRow, standIns := [], harness := (true, "6debbe0940da77532fd6652eba387f0f575af8415f209e2d71000e5d9693d78b"), looks := true }, kinds := [], alts := [], laidByText := true, laidKinds := [.sentinel, .sentinel], laidTests := true, laidLooks := .later }
def GateLawsCardSaid : Prop := Claim7.holds Tryd.pinned (.plain (OpenSpec.ofChange gateLawsSpec)) gateLawsCard

/-- THE TIED CARD OF 'skolemlaw10.LookDepths'. -/
def lookDepthsCard : Claim7 := { stood := { row := lookDepthsRow, standIns := [], harness := (true, "6debbe0940da77532fd6652eba387f0f575af8415f209e2d71000e5d9693d78b"), looks := true }, kinds := [], alts := [], laidByText := true, laidKinds := [.sentinel, .sentinel], laidTests := true, laidLooks := .later }
def LookDepthsCardSaid : Prop := Claim7.holds Tryd.pinned (.plain (OpenSpec.ofChange lookDepthsSpec)) lookDepthsCard

/-- THE TIED CARD OF 'skolemlaw8.GraphBuilds'. -/
def graphBuildsCard : Claim7 := { stood := { row := graphBuildsRow, standIns := [], harness := (true, "6debbe0940da77532fd6652eba387f0f575af8415f209e2d71000e5d9693d78b"), looks := true }, kinds := [], alts := [], laidByText := true, laidKinds := [.sentinel, .sentinel, .sentinel, .sentinel, .sentinel, .sentinel, .sentinel], laidTests := true, laidLooks := .later }
def GraphBuildsCardSaid : Prop := Claim7.holds Tryd.pinned (.plain (OpenSpec.ofChange graphBuildsSpec)) graphBuildsCard

/-- THE TIED CARD OF 'skolemlaw8.GraphWorth'. -/
def graphWorthCard : Claim7 := { stood := { row := graphWorthRow, standIns := [], harness := (true, "6debbe0940da77532fd6652eba387f0f575af8415f209e2d71000e5d9693d78b"), looks := true }, kinds := [], alts := [], laidByText := true, laidKinds := [.sentinel, .sentinel], laidTests := true, laidLooks := .later }
def GraphWorthCardSaid : Prop := Claim7.holds Tryd.pinned (.plain (OpenSpec.ofChange graphWorthSpec)) graphWorthCard

/-- THE TIED CARD OF 'skolemlaw13.TseitinSays'. -/
def tseitinSaysCard : Claim7 := { stood := { row := tseitinSaysRow, standIns := [], harness := (true, "6debbe0940da77532fd6652eba387f0f575af8415f209e2d71000e5d9693d78b"), looks := true }, kinds := [], alts := [], laidByText := true, laidKinds := [.sentinel, .sentinel, .sentinel, .sentinel, .sentinel, .sentinel, .sentinel], laidTests := true, laidLooks := .later }
def TseitinSaysCardSaid : Prop := Claim7.holds Tryd.pinned (.plain (OpenSpec.ofChange tseitinSaysSpec)) tseitinSaysCard

/-- THE TIED CARD OF 'skolemlaw13.TseitinOnly'. -/
def tseitinOnlyCard : Claim7 := { stood := { row := tseitinOnlyRow, standIns := [], harness := (true, "6debbe0940da77532fd6652eba387f0f575af8415f209e2d71000e5d9693d78b"), looks := true }, kinds := [], alts := [], laidByText := true, laidKinds := [.sentinel, .sentinel], laidTests := true, laidLooks := .later }
def TseitinOnlyCardSaid : Prop := Claim7.holds Tryd.pinned (.plain (OpenSpec.ofChange tseitinOnlySpec)) tseitinOnlyCard

/-- THE TIED CARD OF 'skolemlaw9.GateClauses'. -/
def gateClausesCard : Claim7 := { stood := { row := gateClausesRow, standIns := [], harness := (true, "6debbe0940da77532fd6652eba387f0f575af8415f209e2d71000e5d9693d78b"), looks := true }, kinds := [], alts := [], laidByText := true, laidKinds := [.sentinel, .sentinel], laidTests := true, laidLooks := .later }
def GateClausesCardSaid : Prop := Claim7.holds Tryd.pinned (.plain (OpenSpec.ofChange gateClausesSpec)) gateClausesCard

/-- THE TIED CARD OF 'skolemlaw10.LookHangs'. -/
def lookHangsCard : Claim7 := { stood := { row := lookHangsRow, standIns := [], harness := (true, "6debbe0940da77532fd6652eba387f0f575af8415f209e2d71000e5d9693d78b"), looks := true }, kinds := [], alts := [], laidByText := true, laidKinds := [.sentinel, .sentinel], laidTests := true, laidLooks := .later }
def LookHangsCardSaid : Prop := Claim7.holds Tryd.pinned (.plain (OpenSpec.ofChange lookHangsSpec)) lookHangsCard

/-- THE TIED CARD OF 'skolemlaw9.GateSays'. -/
def gateSaysCard : Claim7 := { stood := { row := gateSaysRow, standIns := [], harness := (true, "6debbe0940da77532fd6652eba387f0f575af8415f209e2d71000e5d9693d78b"), looks := true }, kinds := [], alts := [], laidByText := true, laidKinds := [.sentinel, .sentinel], laidTests := true, laidLooks := .later }
def GateSaysCardSaid : Prop := Claim7.holds Tryd.pinned (.plain (OpenSpec.ofChange gateSaysSpec)) gateSaysCard

/-- THE TIED CARD OF 'skolemlaw10.LookCopies'. -/
def lookCopiesCard : Claim7 := { stood := { row := lookCopiesRow, standIns := [], harness := (true, "6debbe0940da77532fd6652eba387f0f575af8415f209e2d71000e5d9693d78b"), looks := true }, kinds := [], alts := [], laidByText := true, laidKinds := [.sentinel, .sentinel], laidTests := true, laidLooks := .later }
def LookCopiesCardSaid : Prop := Claim7.holds Tryd.pinned (.plain (OpenSpec.ofChange lookCopiesSpec)) lookCopiesCard

/-- THE TIED CARD OF 'skolemlaw10.LookSays'. -/
def lookSaysCard : Claim7 := { stood := { row := lookSaysRow, standIns := [], harness := (true, "6debbe0940da77532fd6652eba387f0f575af8415f209e2d71000e5d9693d78b"), looks := true }, kinds := [], alts := [], laidByText := true, laidKinds := [.sentinel, .sentinel], laidTests := true, laidLooks := .later }
def LookSaysCardSaid : Prop := Claim7.holds Tryd.pinned (.plain (OpenSpec.ofChange lookSaysSpec)) lookSaysCard

/-- THE TIED CARD OF 'skolemlaw24.ListOne'. -/
def listOneCard : Claim7 := { stood := { row := listOneRow, standIns := [], harness := (true, "6debbe0940da77532fd6652eba387f0f575af8415f209e2d71000e5d9693d78b"), looks := true }, kinds := [], alts := [], laidByText := true, laidKinds := [.sentinel, .sentinel, .sentinel, .sentinel, .sentinel, .sentinel, .sentinel], laidTests := true, laidLooks := .later }
def ListOneCardSaid : Prop := Claim7.holds Tryd.pinned (.plain (OpenSpec.ofChange listOneSpec)) listOneCard

/-- THE TIED CARD OF 'skolemlaw24.ListSays'. -/
def listSaysCard : Claim7 := { stood := { row := listSaysRow, standIns := [], harness := (true, "6debbe0940da77532fd6652eba387f0f575af8415f209e2d71000e5d9693d78b"), looks := true }, kinds := [], alts := [], laidByText := true, laidKinds := [.sentinel, .sentinel, .sentinel, .sentinel, .sentinel, .sentinel, .sentinel], laidTests := true, laidLooks := .later }
def ListSaysCardSaid : Prop := Claim7.holds Tryd.pinned (.plain (OpenSpec.ofChange listSaysSpec)) listSaysCard

/-- THE TIED CARD OF 'skolemlaw24.ListWorth'. -/
def listWorthCard : Claim7 := { stood := { row := listWorthRow, standIns := [], harness := (true, "6debbe0940da77532fd6652eba387f0f575af8415f209e2d71000e5d9693d78b"), looks := true }, kinds := [], alts := [], laidByText := true, laidKinds := [.sentinel, .sentinel, .sentinel, .sentinel, .sentinel, .sentinel, .sentinel], laidTests := true, laidLooks := .later }
def ListWorthCardSaid : Prop := Claim7.holds Tryd.pinned (.plain (OpenSpec.ofChange listWorthSpec)) listWorthCard

/-- THE TIED CARD OF 'skolemlaw24.ListFirst'. -/
def listFirstCard : Claim7 := { stood := { row := listFirstRow, standIns := [], harness := (true, "6debbe0940da77532fd6652eba387f0f575af8415f209e2d71000e5d9693d78b"), looks := true }, kinds := [], alts := [], laidByText := true, laidKinds := [.sentinel, .sentinel, .sentinel, .sentinel, .sentinel, .sentinel, .sentinel], laidTests := true, laidLooks := .later }
def ListFirstCardSaid : Prop := Claim7.holds Tryd.pinned (.plain (OpenSpec.ofChange listFirstSpec)) listFirstCard

/-- THE SECOND FORM's CARD OF 'skolemlaw8.GraphFolds'. -/
def graphFoldsUptoCard : Claim7 := { stood := { row := graphFoldsUptoRow, standIns := [], harness := (true, "6debbe0940da77532fd6652eba387f0f575af8415f209e2d71000e5d9693d78b"), looks := true }, kinds := [], alts := [], laidByText := true, laidKinds := [.sentinel, .sentinel], laidTests := true, laidLooks := .later }
def GraphFoldsUptoCardSaid : Prop := Claim7.holds Tryd.pinned (.plain (OpenSpec.upto graphFoldsSpec)) graphFoldsUptoCard

/-- THE SECOND FORM's CARD OF 'skolemlaw8.GraphPlays'. -/
def graphPlaysUptoCard : Claim7 := { stood := { row := graphPlaysUptoRow, standIns := [], harness := (true, "6debbe0940da77532fd6652eba387f0f575af8415f209e2d71000e5d9693d78b"), looks := true }, kinds := [], alts := [], laidByText := true, laidKinds := [.sentinel, .sentinel, .sentinel, .sentinel, .sentinel, .sentinel, .sentinel], laidTests := true, laidLooks := .later }
def GraphPlaysUptoCardSaid : Prop := Claim7.holds Tryd.pinned (.plain (OpenSpec.upto graphPlaysSpec)) graphPlaysUptoCard

/-- THE SECOND FORM's CARD OF 'skolemlaw8.GraphErrs'. -/
def graphErrsUptoCard : Claim7 := { stood := { row := graphErrsUptoRow, standIns := [], harness := (true, "6debbe0940da77532fd6652eba387f0f575af8415f209e2d71000e5d9693d78b"), looks := true }, kinds := [], alts := [], laidByText := true, laidKinds := [.sentinel, .sentinel, .sentinel, .sentinel, .sentinel, .sentinel, .sentinel], laidTests := true, laidLooks := .later }
def GraphErrsUptoCardSaid : Prop := Claim7.holds Tryd.pinned (.plain (OpenSpec.upto graphErrsSpec)) graphErrsUptoCard

/-- THE SECOND FORM's CARD OF 'skolemlaw13.TseitinForces'. -/
def tseitinForcesUptoCard : Claim7 := { stood := { row := tseitinForcesUptoRow, standIns := [], harness := (true, "6debbe0940da77532fd6652eba387f0f575af8415f209e2d71000e5d9693d78b"), looks := true }, kinds := [], alts := [], laidByText := true, laidKinds := [.sentinel, .sentinel], laidTests := true, laidLooks := .later }
def TseitinForcesUptoCardSaid : Prop := Claim7.holds Tryd.pinned (.plain (OpenSpec.upto tseitinForcesSpec)) tseitinForcesUptoCard

/-- THE SECOND FORM's CARD OF 'skolemlaw13.TseitinSizes'. -/
def tseitinSizesUptoCard : Claim7 := { stood := { row := tseitinSizesUptoRow, standIns := [], harness := (true, "6debbe0940da77532fd6652eba387f0f575af8415f209e2d71000e5d9693d78b"), looks := true }, kinds := [], alts := [], laidByText := true, laidKinds := [.sentinel, .sentinel], laidTests := true, laidLooks := .later }
def TseitinSizesUptoCardSaid : Prop := Claim7.holds Tryd.pinned (.plain (OpenSpec.upto tseitinSizesSpec)) tseitinSizesUptoCard

/-- THE SECOND FORM's CARD OF 'skolemlaw9.GateWorth'. -/
def gateWorthUptoCard : Claim7 := { stood := { row := gateWorthUptoRow, standIns := [], harness := (true, "6debbe0940da77532fd6652eba387f0f575af8415f209e2d71000e5d9693d78b"), looks := true }, kinds := [], alts := [], laidByText := true, laidKinds := [.sentinel, .sentinel], laidTests := true, laidLooks := .later }
def GateWorthUptoCardSaid : Prop := Claim7.holds Tryd.pinned (.plain (OpenSpec.upto gateWorthSpec)) gateWorthUptoCard

/-- THE SECOND FORM's CARD OF 'skolemlaw9.GateLaws'. -/
def gateLawsUptoCard : Claim7 := { stood := { row := gateLawsUptoRow, standIns := [], harness := (true, "6debbe0940da77532fd6652eba387f0f575af8415f209e2d71000e5d9693d78b"), looks := true }, kinds := [], alts := [], laidByText := true, laidKinds := [.sentinel, .sentinel], laidTests := true, laidLooks := .later }
def GateLawsUptoCardSaid : Prop := Claim7.holds Tryd.pinned (.plain (OpenSpec.upto gateLawsSpec)) gateLawsUptoCard

/-- THE SECOND FORM's CARD OF 'skolemlaw10.LookDepths'. -/
def lookDepthsUptoCard : Claim7 := { stood := { row := lookDepthsUptoRow, standIns := [], harness := (true, "6debbe0940da77532fd6652eba387f0f575af8415f209e2d71000e5d9693d78b"), looks := true }, kinds := [], alts := [], laidByText := true, laidKinds := [.sentinel, .sentinel], laidTests := true, laidLooks := .later }
def LookDepthsUptoCardSaid : Prop := Claim7.holds Tryd.pinned (.plain (OpenSpec.upto lookDepthsSpec)) lookDepthsUptoCard

/-- THE SECOND FORM's CARD OF 'skolemlaw8.GraphBuilds'. -/
def graphBuildsUptoCard : Claim7 := { stood := { row := graphBuildsUptoRow, standIns := [], harness := (true, "6debbe0940da77532fd6652eba387f0f575af8415f209e2d71000e5d9693d78b"), looks := true }, kinds := [], alts := [], laidByText := true, laidKinds := [.sentinel, .sentinel, .sentinel, .sentinel, .sentinel, .sentinel, .sentinel], laidTests := true, laidLooks := .later }
def GraphBuildsUptoCardSaid : Prop := Claim7.holds Tryd.pinned (.plain (OpenSpec.upto graphBuildsSpec)) graphBuildsUptoCard

/-- THE SECOND FORM's CARD OF 'skolemlaw8.GraphWorth'. -/
def graphWorthUptoCard : Claim7 := { stood := { row := graphWorthUptoRow, standIns := [], harness := (true, "6debbe0940da77532fd6652eba387f0f575af8415f209e2d71000e5d9693d78b"), looks := true }, kinds := [], alts := [], laidByText := true, laidKinds := [.sentinel, .sentinel], laidTests := true, laidLooks := .later }
def GraphWorthUptoCardSaid : Prop := Claim7.holds Tryd.pinned (.plain (OpenSpec.upto graphWorthSpec)) graphWorthUptoCard

/-- THE SECOND FORM's CARD OF 'skolemlaw13.TseitinSays'. -/
def tseitinSaysUptoCard : Claim7 := { stood := { row := tseitinSaysUptoRow, standIns := [], harness := (true, "6debbe0940da77532fd6652eba387f0f575af8415f209e2d71000e5d9693d78b"), looks := true }, kinds := [], alts := [], laidByText := true, laidKinds := [.sentinel, .sentinel, .sentinel, .sentinel, .sentinel, .sentinel, .sentinel], laidTests := true, laidLooks := .later }
def TseitinSaysUptoCardSaid : Prop := Claim7.holds Tryd.pinned (.plain (OpenSpec.upto tseitinSaysSpec)) tseitinSaysUptoCard

/-- THE SECOND FORM's CARD OF 'skolemlaw13.TseitinOnly'. -/
def tseitinOnlyUptoCard : Claim7 := { stood := { row := tseitinOnlyUptoRow, standIns := [], harness := (true, "6debbe0940da77532fd6652eba387f0f575af8415f209e2d71000e5d9693d78b"), looks := true }, kinds := [], alts := [], laidByText := true, laidKinds := [.sentinel, .sentinel], laidTests := true, laidLooks := .later }
def TseitinOnlyUptoCardSaid : Prop := Claim7.holds Tryd.pinned (.plain (OpenSpec.upto tseitinOnlySpec)) tseitinOnlyUptoCard

/-- THE SECOND FORM's CARD OF 'skolemlaw9.GateClauses'. -/
def gateClausesUptoCard : Claim7 := { stood := { row := gateClausesUptoRow, standIns := [], harness := (true, "6debbe0940da77532fd6652eba387f0f575af8415f209e2d71000e5d9693d78b"), looks := true }, kinds := [], alts := [], laidByText := true, laidKinds := [.sentinel, .sentinel], laidTests := true, laidLooks := .later }
def GateClausesUptoCardSaid : Prop := Claim7.holds Tryd.pinned (.plain (OpenSpec.upto gateClausesSpec)) gateClausesUptoCard

/-- THE SECOND FORM's CARD OF 'skolemlaw10.LookHangs'. -/
def lookHangsUptoCard : Claim7 := { stood := { row := lookHangsUptoRow, standIns := [], harness := (true, "6debbe0940da77532fd6652eba387f0f575af8415f209e2d71000e5d9693d78b"), looks := true }, kinds := [], alts := [], laidByText := true, laidKinds := [.sentinel, .sentinel], laidTests := true, laidLooks := .later }
def LookHangsUptoCardSaid : Prop := Claim7.holds Tryd.pinned (.plain (OpenSpec.upto lookHangsSpec)) lookHangsUptoCard

/-- THE SECOND FORM's CARD OF 'skolemlaw9.GateSays'. -/
def gateSaysUptoCard : Claim7 := { stood := { row := gateSaysUptoRow, standIns := [], harness := (true, "6debbe0940da77532fd6652eba387f0f575af8415f209e2d71000e5d9693d78b"), looks := true }, kinds := [], alts := [], laidByText := true, laidKinds := [.sentinel, .sentinel], laidTests := true, laidLooks := .later }
def GateSaysUptoCardSaid : Prop := Claim7.holds Tryd.pinned (.plain (OpenSpec.upto gateSaysSpec)) gateSaysUptoCard

/-- THE SECOND FORM's CARD OF 'skolemlaw10.LookCopies'. -/
def lookCopiesUptoCard : Claim7 := { stood := { row := lookCopiesUptoRow, standIns := [], harness := (true, "6debbe0940da77532fd6652eba387f0f575af8415f209e2d71000e5d9693d78b"), looks := true }, kinds := [], alts := [], laidByText := true, laidKinds := [.sentinel, .sentinel], laidTests := true, laidLooks := .later }
def LookCopiesUptoCardSaid : Prop := Claim7.holds Tryd.pinned (.plain (OpenSpec.upto lookCopiesSpec)) lookCopiesUptoCard

/-- THE SECOND FORM's CARD OF 'skolemlaw10.LookSays'. -/
def lookSaysUptoCard : Claim7 := { stood := { row := lookSaysUptoRow, standIns := [], harness := (true, "6debbe0940da77532fd6652eba387f0f575af8415f209e2d71000e5d9693d78b"), looks := true }, kinds := [], alts := [], laidByText := true, laidKinds := [.sentinel, .sentinel], laidTests := true, laidLooks := .later }
def LookSaysUptoCardSaid : Prop := Claim7.holds Tryd.pinned (.plain (OpenSpec.upto lookSaysSpec)) lookSaysUptoCard

/-- THE SECOND FORM's CARD OF 'skolemlaw24.ListOne'. -/
def listOneUptoCard : Claim7 := { stood := { row := listOneUptoRow, standIns := [], harness := (true, "6debbe0940da77532fd6652eba387f0f575af8415f209e2d71000e5d9693d78b"), looks := true }, kinds := [], alts := [], laidByText := true, laidKinds := [.sentinel, .sentinel, .sentinel, .sentinel, .sentinel, .sentinel, .sentinel], laidTests := true, laidLooks := .later }
def ListOneUptoCardSaid : Prop := Claim7.holds Tryd.pinned (.plain (OpenSpec.upto listOneSpec)) listOneUptoCard

/-- THE SECOND FORM's CARD OF 'skolemlaw24.ListSays'. -/
def listSaysUptoCard : Claim7 := { stood := { row := listSaysUptoRow, standIns := [], harness := (true, "6debbe0940da77532fd6652eba387f0f575af8415f209e2d71000e5d9693d78b"), looks := true }, kinds := [], alts := [], laidByText := true, laidKinds := [.sentinel, .sentinel, .sentinel, .sentinel, .sentinel, .sentinel, .sentinel], laidTests := true, laidLooks := .later }
def ListSaysUptoCardSaid : Prop := Claim7.holds Tryd.pinned (.plain (OpenSpec.upto listSaysSpec)) listSaysUptoCard

/-- THE SECOND FORM's CARD OF 'skolemlaw24.ListWorth'. -/
def listWorthUptoCard : Claim7 := { stood := { row := listWorthUptoRow, standIns := [], harness := (true, "6debbe0940da77532fd6652eba387f0f575af8415f209e2d71000e5d9693d78b"), looks := true }, kinds := [], alts := [], laidByText := true, laidKinds := [.sentinel, .sentinel, .sentinel, .sentinel, .sentinel, .sentinel, .sentinel], laidTests := true, laidLooks := .later }
def ListWorthUptoCardSaid : Prop := Claim7.holds Tryd.pinned (.plain (OpenSpec.upto listWorthSpec)) listWorthUptoCard

/-- THE SECOND FORM's CARD OF 'skolemlaw24.ListFirst'. -/
def listFirstUptoCard : Claim7 := { stood := { row := listFirstUptoRow, standIns := [], harness := (true, "6debbe0940da77532fd6652eba387f0f575af8415f209e2d71000e5d9693d78b"), looks := true }, kinds := [], alts := [], laidByText := true, laidKinds := [.sentinel, .sentinel, .sentinel, .sentinel, .sentinel, .sentinel, .sentinel], laidTests := true, laidLooks := .later }
def ListFirstUptoCardSaid : Prop := Claim7.holds Tryd.pinned (.plain (OpenSpec.upto listFirstSpec)) listFirstUptoCard
end Rows
end Go.Proofs.YtkjlgamggkencaaDoor
