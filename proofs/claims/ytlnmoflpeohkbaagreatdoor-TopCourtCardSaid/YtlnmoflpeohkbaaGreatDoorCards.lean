/-
  DERIVED. GIVEN WITH THE SEED: THE CARDS: each row of YtlnmoflpeohkbaaGreatDoorRows.lean that lists a variable, with what it lists TIED to the program's text (the seventh form; the later family's looks); each row that meets fmt, with fmt's text TOLD by the authors' own Lean function (tested against real Go, not proved from fmt's source: count such statements apart). THE CARD IS WHAT COUNTS. Prove the row's statement (the work); the ties are given (YtlnmoflpeohkbaaGreatDoorTie.lean); close each card by the builder's one call (the guide's Derived/Test/ToyasCard.lean, 'card_holds'). Laid BY PROGRAM, IN A SANDBOX (cutbox-door.mjs). By AI agents, Wed Nov 11 2026. No macro, syntax, notation, axiom, sorry.
-/
import Derived.Test.YtlnmoflpeohkbaaGreatDoorRows
import GoSem.ClaimSeven
namespace Go.Proofs.YtlnmoflpeohkbaaGreatDoor
namespace Rows

/-- THE TIED CARD OF 'wagonpooltop.TopCourt'. -/
def topCourtCard : Claim7 := { stood := { row := topCourtRow, standIns := [], harness := (true, "42eba26540f87a961ab1146dd1fd521aa65bf38234ea167b8b3a158eb659e03e"), looks := true }, kinds := [], alts := [], laidByText := true, laidKinds := [.data, .listed, .data, .data, .mapped, .mapped, .funcs, .pinned], laidTests := true, laidLooks := .later }
def TopCourtCardSaid : Prop := Claim7.holds Tryz.pinned (.plain (OpenSpec.ofChange topCourtSpec)) topCourtCard

/-- THE SECOND FORM's CARD OF 'wagonpooltop.TopCourt'. -/
def topCourtUptoCard : Claim7 := { stood := { row := topCourtUptoRow, standIns := [], harness := (true, "42eba26540f87a961ab1146dd1fd521aa65bf38234ea167b8b3a158eb659e03e"), looks := true }, kinds := [], alts := [], laidByText := true, laidKinds := [.data, .listed, .data, .data, .mapped, .mapped, .funcs, .pinned], laidTests := true, laidLooks := .later }
def TopCourtUptoCardSaid : Prop := Claim7.holds Tryz.pinned (.plain (OpenSpec.upto topCourtSpec)) topCourtUptoCard
end Rows
end Go.Proofs.YtlnmoflpeohkbaaGreatDoor
