/-
  DERIVED. GIVEN WITH THE SEED: THE CARDS: each row of YteacnlikmagfcaaDoorRows.lean that lists a variable, with what it lists TIED to the program's text (the seventh form; the later family's looks); each row that meets fmt, with fmt's text TOLD by the authors' own Lean function (tested against real Go, not proved from fmt's source: count such statements apart). THE CARD IS WHAT COUNTS. Prove the row's statement (the work); the ties are given (YteacnlikmagfcaaDoorTie.lean); close each card by the builder's one call (the guide's Derived/Test/ToyasCard.lean, 'card_holds'). Laid BY PROGRAM, IN A SANDBOX (cutbox-door.mjs). By AI agents, Wed Nov 11 2026. No macro, syntax, notation, axiom, sorry.
-/
import Derived.Test.YteacnlikmagfcaaDoorRows
import GoSem.ClaimSeven
namespace Go.Proofs.YteacnlikmagfcaaDoor
namespace Rows

/-- THE TIED CARD OF 'wagonpoollaw13.DiskCrash'. -/
def diskCrashCard : Claim7 := { stood := { row := diskCrashRow, standIns := [], harness := (true, "95d683d07d25e7f38d69efac69090ffc29da4ebe5e72ec317b4a517003cf7f85"), looks := false }, kinds := [], alts := [], laidByText := true, laidKinds := [.data], laidTests := true, laidLooks := .later }
def DiskCrashCardSaid : Prop := Claim7.holds Tryd.pinned (.plain (OpenSpec.ofChange diskCrashSpec)) diskCrashCard

/-- THE TIED CARD OF 'wagonpoollaw13.DiskDetects'. -/
def diskDetectsCard : Claim7 := { stood := { row := diskDetectsRow, standIns := [], harness := (true, "95d683d07d25e7f38d69efac69090ffc29da4ebe5e72ec317b4a517003cf7f85"), looks := false }, kinds := [], alts := [], laidByText := true, laidKinds := [.data], laidTests := true, laidLooks := .later }
def DiskDetectsCardSaid : Prop := Claim7.holds Tryd.pinned (.plain (OpenSpec.ofChange diskDetectsSpec)) diskDetectsCard

/-- THE TIED CARD OF 'wagonpoollaw13.DiskDurable'. -/
def diskDurableCard : Claim7 := { stood := { row := diskDurableRow, standIns := [], harness := (true, "95d683d07d25e7f38d69efac69090ffc29da4ebe5e72ec317b4a517003cf7f85"), looks := false }, kinds := [], alts := [], laidByText := true, laidKinds := [.data], laidTests := true, laidLooks := .later }
def DiskDurableCardSaid : Prop := Claim7.holds Tryd.pinned (.plain (OpenSpec.ofChange diskDurableSpec)) diskDurableCard

/-- THE TIED CARD OF 'wagonpoollaw13.DiskMatchesReference'. -/
def diskMatchesReferenceCard : Claim7 := { stood := { row := diskMatchesReferenceRow, standIns := [], harness := (true, "95d683d07d25e7f38d69efac69090ffc29da4ebe5e72ec317b4a517003cf7f85"), looks := false }, kinds := [], alts := [], laidByText := true, laidKinds := [.data], laidTests := true, laidLooks := .later }
def DiskMatchesReferenceCardSaid : Prop := Claim7.holds Tryd.pinned (.plain (OpenSpec.ofChange diskMatchesReferenceSpec)) diskMatchesReferenceCard

/-- THE TIED CARD OF 'wagonpoollaw13.DiskOpens'. -/
def diskOpensCard : Claim7 := { stood := { row := diskOpensRow, standIns := [], harness := (true, "95d683d07d25e7f38d69efac69090ffc29da4ebe5e72ec317b4a517003cf7f85"), looks := false }, kinds := [], alts := [], laidByText := true, laidKinds := [.data], laidTests := true, laidLooks := .later }
def DiskOpensCardSaid : Prop := Claim7.holds Tryd.pinned (.plain (OpenSpec.ofChange diskOpensSpec)) diskOpensCard

/-- THE TIED CARD OF 'wagonpoollaw13.DiskPrefixes'. -/
def diskPrefixesCard : Claim7 := { stood := { row := diskPrefixesRow, standIns := [], harness := (true, "95d683d07d25e7f38d69efac69090ffc29da4ebe5e72ec317b4a517003cf7f85"), looks := false }, kinds := [], alts := [], laidByText := true, laidKinds := [.data], laidTests := true, laidLooks := .later }
def DiskPrefixesCardSaid : Prop := Claim7.holds Tryd.pinned (.plain (OpenSpec.ofChange diskPrefixesSpec)) diskPrefixesCard

/-- THE TIED CARD OF 'wagonpoollaw13.DiskRoundTrip'. -/
def diskRoundTripCard : Claim7 := { stood := { row := diskRoundTripRow, standIns := [], harness := (true, "95d683d07d25e7f38d69efac69090ffc29da4ebe5e72ec317b4a517003cf7f85"), looks := false }, kinds := [], alts := [], laidByText := true, laidKinds := [.data], laidTests := true, laidLooks := .later }
def DiskRoundTripCardSaid : Prop := Claim7.holds Tryd.pinned (.plain (OpenSpec.ofChange diskRoundTripSpec)) diskRoundTripCard

/-- THE SECOND FORM's CARD OF 'wagonpoollaw13.DiskCrash'. -/
def diskCrashUptoCard : Claim7 := { stood := { row := diskCrashUptoRow, standIns := [], harness := (true, "95d683d07d25e7f38d69efac69090ffc29da4ebe5e72ec317b4a517003cf7f85"), looks := false }, kinds := [], alts := [], laidByText := true, laidKinds := [.data], laidTests := true, laidLooks := .later }
def DiskCrashUptoCardSaid : Prop := Claim7.holds Tryd.pinned (.plain (OpenSpec.upto diskCrashSpec)) diskCrashUptoCard

/-- THE SECOND FORM's CARD OF 'wagonpoollaw13.DiskDetects'. -/
def diskDetectsUptoCard : Claim7 := { stood := { row := diskDetectsUptoRow, standIns := [], harness := (true, "95d683d07d25e7f38d69efac69090ffc29da4ebe5e72ec317b4a517003cf7f85"), looks := false }, kinds := [], alts := [], laidByText := true, laidKinds := [.data], laidTests := true, laidLooks := .later }
def DiskDetectsUptoCardSaid : Prop := Claim7.holds Tryd.pinned (.plain (OpenSpec.upto diskDetectsSpec)) diskDetectsUptoCard

/-- THE SECOND FORM's CARD OF 'wagonpoollaw13.DiskDurable'. -/
def diskDurableUptoCard : Claim7 := { stood := { row := diskDurableUptoRow, standIns := [], harness := (true, "95d683d07d25e7f38d69efac69090ffc29da4ebe5e72ec317b4a517003cf7f85"), looks := false }, kinds := [], alts := [], laidByText := true, laidKinds := [.data], laidTests := true, laidLooks := .later }
def DiskDurableUptoCardSaid : Prop := Claim7.holds Tryd.pinned (.plain (OpenSpec.upto diskDurableSpec)) diskDurableUptoCard

/-- THE SECOND FORM's CARD OF 'wagonpoollaw13.DiskMatchesReference'. -/
def diskMatchesReferenceUptoCard : Claim7 := { stood := { row := diskMatchesReferenceUptoRow, standIns := [], harness := (true, "95d683d07d25e7f38d69efac69090ffc29da4ebe5e72ec317b4a517003cf7f85"), looks := false }, kinds := [], alts := [], laidByText := true, laidKinds := [.data], laidTests := true, laidLooks := .later }
def DiskMatchesReferenceUptoCardSaid : Prop := Claim7.holds Tryd.pinned (.plain (OpenSpec.upto diskMatchesReferenceSpec)) diskMatchesReferenceUptoCard

/-- THE SECOND FORM's CARD OF 'wagonpoollaw13.DiskOpens'. -/
def diskOpensUptoCard : Claim7 := { stood := { row := diskOpensUptoRow, standIns := [], harness := (true, "95d683d07d25e7f38d69efac69090ffc29da4ebe5e72ec317b4a517003cf7f85"), looks := false }, kinds := [], alts := [], laidByText := true, laidKinds := [.data], laidTests := true, laidLooks := .later }
def DiskOpensUptoCardSaid : Prop := Claim7.holds Tryd.pinned (.plain (OpenSpec.upto diskOpensSpec)) diskOpensUptoCard

/-- THE SECOND FORM's CARD OF 'wagonpoollaw13.DiskPrefixes'. -/
def diskPrefixesUptoCard : Claim7 := { stood := { row := diskPrefixesUptoRow, standIns := [], harness := (true, "95d683d07d25e7f38d69efac69090ffc29da4ebe5e72ec317b4a517003cf7f85"), looks := false }, kinds := [], alts := [], laidByText := true, laidKinds := [.data], laidTests := true, laidLooks := .later }
def DiskPrefixesUptoCardSaid : Prop := Claim7.holds Tryd.pinned (.plain (OpenSpec.upto diskPrefixesSpec)) diskPrefixesUptoCard

/-- THE SECOND FORM's CARD OF 'wagonpoollaw13.DiskRoundTrip'. -/
def diskRoundTripUptoCard : Claim7 := { stood := { row := diskRoundTripUptoRow, standIns := [], harness := (true, "95d683d07d25e7f38d69efac69090ffc29da4ebe5e72ec317b4a517003cf7f85"), looks := false }, kinds := [], alts := [], laidByText := true, laidKinds := [.data], laidTests := true, laidLooks := .later }
def DiskRoundTripUptoCardSaid : Prop := Claim7.holds Tryd.pinned (.plain (OpenSpec.upto diskRoundTripSpec)) diskRoundTripUptoCard
end Rows
end Go.Proofs.YteacnlikmagfcaaDoor
