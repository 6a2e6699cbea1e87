/-
  DERIVED. GIVEN WITH THE SEED: THE CARDS: each row of YtijnglngaogdjaaGreatDoorRows.lean that lists a variable, with what it lists TIED to the program's text (the seventh form; the later family's looks); each row that meets fmt, with fmt's text TOLD by the authors' own Lean function (tested against real Go, not proved from fmt's source: count such statements apart). THE CARD IS WHAT COUNTS. Prove the row's statement (the work); the ties are given (YtijnglngaogdjaaGreatDoorTie.lean); close each card by the builder's one call (the guide's Derived/Test/ToyasCard.lean, 'card_holds'). Laid BY PROGRAM, IN A SANDBOX (cutbox-door.mjs). By AI agents, Wed Nov 11 2026. No macro, syntax, notation, axiom, sorry.
-/
import Derived.Test.YtijnglngaogdjaaGreatDoorRows
import GoSem.ClaimSeven
namespace Go.Proofs.YtijnglngaogdjaaGreatDoor
namespace Rows

/-- THE TIED CARD OF 'wagonpoollaw39.ArbiterMatches'. -/
def arbiterMatchesCard : Claim7 := { stood := { row := arbiterMatchesRow, standIns := [], harness := (true, "9dea90322baf0e0099b659ec229dd3edcddd317ebf8343428959ffbecfaf43a7"), looks := true }, kinds := [], alts := [], laidByText := true, laidKinds := [.data, .funcs], laidTests := true, laidLooks := .later }
def ArbiterMatchesCardSaid : Prop := Claim7.holds Tryz.pinned (.plain (OpenSpec.ofChange arbiterMatchesSpec)) arbiterMatchesCard

/-- THE TIED CARD OF 'wagonpoollaw40.CourtDecides'. -/
def courtDecidesCard : Claim7 := { stood := { row := courtDecidesRow, standIns := [], harness := (true, "9dea90322baf0e0099b659ec229dd3edcddd317ebf8343428959ffbecfaf43a7"), looks := true }, kinds := [], alts := [], laidByText := true, laidKinds := [.data, .funcs], laidTests := true, laidLooks := .later }
def CourtDecidesCardSaid : Prop := Claim7.holds Tryz.pinned (.plain (OpenSpec.ofChange courtDecidesSpec)) courtDecidesCard

/-- THE TIED CARD OF 'wagonpoollaw40.CourtDefaults'. -/
def courtDefaultsCard : Claim7 := { stood := { row := courtDefaultsRow, standIns := [], harness := (true, "9dea90322baf0e0099b659ec229dd3edcddd317ebf8343428959ffbecfaf43a7"), looks := true }, kinds := [], alts := [], laidByText := true, laidKinds := [.data, .funcs], laidTests := true, laidLooks := .later }
def CourtDefaultsCardSaid : Prop := Claim7.holds Tryz.pinned (.plain (OpenSpec.ofChange courtDefaultsSpec)) courtDefaultsCard

/-- THE TIED CARD OF 'wagonpoollaw40.CourtEnds'. -/
def courtEndsCard : Claim7 := { stood := { row := courtEndsRow, standIns := [], harness := (true, "9dea90322baf0e0099b659ec229dd3edcddd317ebf8343428959ffbecfaf43a7"), looks := true }, kinds := [], alts := [], laidByText := true, laidKinds := [.data, .funcs], laidTests := true, laidLooks := .later }
def CourtEndsCardSaid : Prop := Claim7.holds Tryz.pinned (.plain (OpenSpec.ofChange courtEndsSpec)) courtEndsCard

/-- THE TIED CARD OF 'wagonpoollaw40.CourtMatchesReference'. -/
def courtMatchesReferenceCard : Claim7 := { stood := { row := courtMatchesReferenceRow, standIns := [], harness := (true, "9dea90322baf0e0099b659ec229dd3edcddd317ebf8343428959ffbecfaf43a7"), looks := true }, kinds := [], alts := [], laidByText := true, laidKinds := [.data, .funcs], laidTests := true, laidLooks := .later }
def CourtMatchesReferenceCardSaid : Prop := Claim7.holds Tryz.pinned (.plain (OpenSpec.ofChange courtMatchesReferenceSpec)) courtMatchesReferenceCard

/-- THE TIED CARD OF 'wagonpoollaw40.CourtOpens'. -/
def courtOpensCard : Claim7 := { stood := { row := courtOpensRow, standIns := [], harness := (true, "9dea90322baf0e0099b659ec229dd3edcddd317ebf8343428959ffbecfaf43a7"), looks := true }, kinds := [], alts := [], laidByText := true, laidKinds := [.data, .funcs], laidTests := true, laidLooks := .later }
def CourtOpensCardSaid : Prop := Claim7.holds Tryz.pinned (.plain (OpenSpec.ofChange courtOpensSpec)) courtOpensCard

/-- THE TIED CARD OF 'wagonpoollaw40.CourtProves'. -/
def courtProvesCard : Claim7 := { stood := { row := courtProvesRow, standIns := [], harness := (true, "9dea90322baf0e0099b659ec229dd3edcddd317ebf8343428959ffbecfaf43a7"), looks := true }, kinds := [], alts := [], laidByText := true, laidKinds := [.data, .funcs], laidTests := true, laidLooks := .later }
def CourtProvesCardSaid : Prop := Claim7.holds Tryz.pinned (.plain (OpenSpec.ofChange courtProvesSpec)) courtProvesCard

/-- THE TIED CARD OF 'wagonpoollaw40.CourtRefuses'. -/
def courtRefusesCard : Claim7 := { stood := { row := courtRefusesRow, standIns := [], harness := (true, "9dea90322baf0e0099b659ec229dd3edcddd317ebf8343428959ffbecfaf43a7"), looks := true }, kinds := [], alts := [], laidByText := true, laidKinds := [.data, .funcs], laidTests := true, laidLooks := .later }
def CourtRefusesCardSaid : Prop := Claim7.holds Tryz.pinned (.plain (OpenSpec.ofChange courtRefusesSpec)) courtRefusesCard

/-- THE TIED CARD OF 'wagonpoollaw40.CourtSettles'. -/
def courtSettlesCard : Claim7 := { stood := { row := courtSettlesRow, standIns := [], harness := (true, "9dea90322baf0e0099b659ec229dd3edcddd317ebf8343428959ffbecfaf43a7"), looks := true }, kinds := [], alts := [], laidByText := true, laidKinds := [.data, .funcs], laidTests := true, laidLooks := .later }
def CourtSettlesCardSaid : Prop := Claim7.holds Tryz.pinned (.plain (OpenSpec.ofChange courtSettlesSpec)) courtSettlesCard

/-- THE SECOND FORM's CARD OF 'wagonpoollaw39.ArbiterMatches'. -/
def arbiterMatchesUptoCard : Claim7 := { stood := { row := arbiterMatchesUptoRow, standIns := [], harness := (true, "9dea90322baf0e0099b659ec229dd3edcddd317ebf8343428959ffbecfaf43a7"), looks := true }, kinds := [], alts := [], laidByText := true, laidKinds := [.data, .funcs], laidTests := true, laidLooks := .later }
def ArbiterMatchesUptoCardSaid : Prop := Claim7.holds Tryz.pinned (.plain (OpenSpec.upto arbiterMatchesSpec)) arbiterMatchesUptoCard

/-- THE SECOND FORM's CARD OF 'wagonpoollaw40.CourtDecides'. -/
def courtDecidesUptoCard : Claim7 := { stood := { row := courtDecidesUptoRow, standIns := [], harness := (true, "9dea90322baf0e0099b659ec229dd3edcddd317ebf8343428959ffbecfaf43a7"), looks := true }, kinds := [], alts := [], laidByText := true, laidKinds := [.data, .funcs], laidTests := true, laidLooks := .later }
def CourtDecidesUptoCardSaid : Prop := Claim7.holds Tryz.pinned (.plain (OpenSpec.upto courtDecidesSpec)) courtDecidesUptoCard

/-- THE SECOND FORM's CARD OF 'wagonpoollaw40.CourtDefaults'. -/
def courtDefaultsUptoCard : Claim7 := { stood := { row := courtDefaultsUptoRow, standIns := [], harness := (true, "9dea90322baf0e0099b659ec229dd3edcddd317ebf8343428959ffbecfaf43a7"), looks := true }, kinds := [], alts := [], laidByText := true, laidKinds := [.data, .funcs], laidTests := true, laidLooks := .later }
def CourtDefaultsUptoCardSaid : Prop := Claim7.holds Tryz.pinned (.plain (OpenSpec.upto courtDefaultsSpec)) courtDefaultsUptoCard

/-- THE SECOND FORM's CARD OF 'wagonpoollaw40.CourtEnds'. -/
def courtEndsUptoCard : Claim7 := { stood := { row := courtEndsUptoRow, standIns := [], harness := (true, "9dea90322baf0e0099b659ec229dd3edcddd317ebf8343428959ffbecfaf43a7"), looks := true }, kinds := [], alts := [], laidByText := true, laidKinds := [.data, .funcs], laidTests := true, laidLooks := .later }
def CourtEndsUptoCardSaid : Prop := Claim7.holds Tryz.pinned (.plain (OpenSpec.upto courtEndsSpec)) courtEndsUptoCard

/-- THE SECOND FORM's CARD OF 'wagonpoollaw40.CourtMatchesReference'. -/
def courtMatchesReferenceUptoCard : Claim7 := { stood := { row := courtMatchesReferenceUptoRow, standIns := [], harness := (true, "9dea90322baf0e0099b659ec229dd3edcddd317ebf8343428959ffbecfaf43a7"), looks := true }, kinds := [], alts := [], laidByText := true, laidKinds := [.data, .funcs], laidTests := true, laidLooks := .later }
def CourtMatchesReferenceUptoCardSaid : Prop := Claim7.holds Tryz.pinned (.plain (OpenSpec.upto courtMatchesReferenceSpec)) courtMatchesReferenceUptoCard

/-- THE SECOND FORM's CARD OF 'wagonpoollaw40.CourtOpens'. -/
def courtOpensUptoCard : Claim7 := { stood := { row := courtOpensUptoRow, standIns := [], harness := (true, "9dea90322baf0e0099b659ec229dd3edcddd317ebf8343428959ffbecfaf43a7"), looks := true }, kinds := [], alts := [], laidByText := true, laidKinds := [.data, .funcs], laidTests := true, laidLooks := .later }
def CourtOpensUptoCardSaid : Prop := Claim7.holds Tryz.pinned (.plain (OpenSpec.upto courtOpensSpec)) courtOpensUptoCard

/-- THE SECOND FORM's CARD OF 'wagonpoollaw40.CourtProves'. -/
def courtProvesUptoCard : Claim7 := { stood := { row := courtProvesUptoRow, standIns := [], harness := (true, "9dea90322baf0e0099b659ec229dd3edcddd317ebf8343428959ffbecfaf43a7"), looks := true }, kinds := [], alts := [], laidByText := true, laidKinds := [.data, .funcs], laidTests := true, laidLooks := .later }
def CourtProvesUptoCardSaid : Prop := Claim7.holds Tryz.pinned (.plain (OpenSpec.upto courtProvesSpec)) courtProvesUptoCard

/-- THE SECOND FORM's CARD OF 'wagonpoollaw40.CourtRefuses'. -/
def courtRefusesUptoCard : Claim7 := { stood := { row := courtRefusesUptoRow, standIns := [], harness := (true, "9dea90322baf0e0099b659ec229dd3edcddd317ebf8343428959ffbecfaf43a7"), looks := true }, kinds := [], alts := [], laidByText := true, laidKinds := [.data, .funcs], laidTests := true, laidLooks := .later }
def CourtRefusesUptoCardSaid : Prop := Claim7.holds Tryz.pinned (.plain (OpenSpec.upto courtRefusesSpec)) courtRefusesUptoCard

/-- THE SECOND FORM's CARD OF 'wagonpoollaw40.CourtSettles'. -/
def courtSettlesUptoCard : Claim7 := { stood := { row := courtSettlesUptoRow, standIns := [], harness := (true, "9dea90322baf0e0099b659ec229dd3edcddd317ebf8343428959ffbecfaf43a7"), looks := true }, kinds := [], alts := [], laidByText := true, laidKinds := [.data, .funcs], laidTests := true, laidLooks := .later }
def CourtSettlesUptoCardSaid : Prop := Claim7.holds Tryz.pinned (.plain (OpenSpec.upto courtSettlesSpec)) courtSettlesUptoCard
end Rows
end Go.Proofs.YtijnglngaogdjaaGreatDoor
