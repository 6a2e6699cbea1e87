/-
  DERIVED. GIVEN WITH THE SEED: THE CARDS: each row of YtfbbaceiimdejaaGreatDoorRows.lean that lists a variable, with what it lists TIED to the program's text (the seventh form; the later family's looks); each row that meets fmt, with fmt's text TOLD by the authors' own Lean function (tested against real Go, not proved from fmt's source: count such statements apart). THE CARD IS WHAT COUNTS. Prove the row's statement (the work); the ties are given (YtfbbaceiimdejaaGreatDoorTie.lean); close each card by the builder's one call (the guide's Derived/Test/ToyasCard.lean, 'card_holds'). Laid BY PROGRAM, IN A SANDBOX (cutbox-door.mjs). By AI agents, Wed Nov 11 2026. No macro, syntax, notation, axiom, sorry.
-/
import Derived.Test.YtfbbaceiimdejaaGreatDoorRows
import GoSem.ClaimSeven
namespace Go.Proofs.YtfbbaceiimdejaaGreatDoor
namespace Rows

/-- THE TIED CARD OF 'wagonpooltop.TopChangeOfUnits'. -/
def topChangeOfUnitsCard : Claim7 := { stood := { row := topChangeOfUnitsRow, standIns := [], harness := (true, "f4eb8f76ac60b0347b214124ea6dd367f2b58d8d6399abc16126fb5efcd8c0ca"), looks := true }, kinds := [], alts := [], laidByText := true, laidKinds := [.data, .listed, .data, .mapped, .mapped, .pinned], laidTests := true, laidLooks := .later }
def TopChangeOfUnitsCardSaid : Prop := Claim7.holds Tryz.pinned (.plain (OpenSpec.ofChange topChangeOfUnitsSpec)) topChangeOfUnitsCard

/-- THE SECOND FORM's CARD OF 'wagonpooltop.TopChangeOfUnits'. -/
def topChangeOfUnitsUptoCard : Claim7 := { stood := { row := topChangeOfUnitsUptoRow, standIns := [], harness := (true, "f4eb8f76ac60b0347b214124ea6dd367f2b58d8d6399abc16126fb5efcd8c0ca"), looks := true }, kinds := [], alts := [], laidByText := true, laidKinds := [.data, .listed, .data, .mapped, .mapped, .pinned], laidTests := true, laidLooks := .later }
def TopChangeOfUnitsUptoCardSaid : Prop := Claim7.holds Tryz.pinned (.plain (OpenSpec.upto topChangeOfUnitsSpec)) topChangeOfUnitsUptoCard
end Rows
end Go.Proofs.YtfbbaceiimdejaaGreatDoor
