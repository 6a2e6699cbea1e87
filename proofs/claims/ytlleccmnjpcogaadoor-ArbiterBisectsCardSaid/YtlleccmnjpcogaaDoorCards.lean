/-
  DERIVED. GIVEN WITH THE SEED: THE CARDS: each row of YtlleccmnjpcogaaDoorRows.lean that lists a variable, with what it lists TIED to the program's text (the seventh form; the later family's looks); each row that meets fmt, with fmt's text TOLD by the authors' own Lean function (tested against real Go, not proved from fmt's source: count such statements apart). THE CARD IS WHAT COUNTS. Prove the row's statement (the work); the ties are given (YtlleccmnjpcogaaDoorTie.lean); close each card by the builder's one call (the guide's Derived/Test/ToyasCard.lean, 'card_holds'). Laid BY PROGRAM, IN A SANDBOX (cutbox-door.mjs). By AI agents, Wed Nov 11 2026. No macro, syntax, notation, axiom, sorry.
-/
import Derived.Test.YtlleccmnjpcogaaDoorRows
import GoSem.ClaimSeven
namespace Go.Proofs.YtlleccmnjpcogaaDoor
namespace Rows

/-- THE TIED CARD OF 'wagonpoollaw39.ArbiterBisects'. -/
def arbiterBisectsCard : Claim7 := { stood := { row := arbiterBisectsRow, standIns := [], harness := (true, "d5649636af819a0ec367bc94b3a39ae2c00fe0f453bb1dde521d5217b80b50d1"), looks := false }, kinds := [], alts := [], laidByText := true, laidKinds := [.data, .funcs], laidTests := true, laidLooks := .later }
def ArbiterBisectsCardSaid : Prop := Claim7.holds Tryd.pinned (.plain (OpenSpec.ofChange arbiterBisectsSpec)) arbiterBisectsCard

/-- THE TIED CARD OF 'wagonpoollaw39.ArbiterHonest'. -/
def arbiterHonestCard : Claim7 := { stood := { row := arbiterHonestRow, standIns := [], harness := (true, "d5649636af819a0ec367bc94b3a39ae2c00fe0f453bb1dde521d5217b80b50d1"), looks := false }, kinds := [], alts := [], laidByText := true, laidKinds := [.data, .funcs], laidTests := true, laidLooks := .later }
def ArbiterHonestCardSaid : Prop := Claim7.holds Tryd.pinned (.plain (OpenSpec.ofChange arbiterHonestSpec)) arbiterHonestCard

/-- THE TIED CARD OF 'wagonpoollaw39.ArbiterNames'. -/
def arbiterNamesCard : Claim7 := { stood := { row := arbiterNamesRow, standIns := [], harness := (true, "d5649636af819a0ec367bc94b3a39ae2c00fe0f453bb1dde521d5217b80b50d1"), looks := false }, kinds := [], alts := [], laidByText := true, laidKinds := [.data, .funcs], laidTests := true, laidLooks := .later }
def ArbiterNamesCardSaid : Prop := Claim7.holds Tryd.pinned (.plain (OpenSpec.ofChange arbiterNamesSpec)) arbiterNamesCard

/-- THE TIED CARD OF 'wagonpoollaw39.ArbiterSame'. -/
def arbiterSameCard : Claim7 := { stood := { row := arbiterSameRow, standIns := [], harness := (true, "d5649636af819a0ec367bc94b3a39ae2c00fe0f453bb1dde521d5217b80b50d1"), looks := false }, kinds := [], alts := [], laidByText := true, laidKinds := [.data, .funcs], laidTests := true, laidLooks := .later }
def ArbiterSameCardSaid : Prop := Claim7.holds Tryd.pinned (.plain (OpenSpec.ofChange arbiterSameSpec)) arbiterSameCard

/-- THE TIED CARD OF 'wagonpoollaw39.ArbiterWithout'. -/
def arbiterWithoutCard : Claim7 := { stood := { row := arbiterWithoutRow, standIns := [], harness := (true, "d5649636af819a0ec367bc94b3a39ae2c00fe0f453bb1dde521d5217b80b50d1"), looks := false }, kinds := [], alts := [], laidByText := true, laidKinds := [.data, .funcs], laidTests := true, laidLooks := .later }
def ArbiterWithoutCardSaid : Prop := Claim7.holds Tryd.pinned (.plain (OpenSpec.ofChange arbiterWithoutSpec)) arbiterWithoutCard

/-- THE SECOND FORM's CARD OF 'wagonpoollaw39.ArbiterBisects'. -/
def arbiterBisectsUptoCard : Claim7 := { stood := { row := arbiterBisectsUptoRow, standIns := [], harness := (true, "d5649636af819a0ec367bc94b3a39ae2c00fe0f453bb1dde521d5217b80b50d1"), looks := false }, kinds := [], alts := [], laidByText := true, laidKinds := [.data, .funcs], laidTests := true, laidLooks := .later }
def ArbiterBisectsUptoCardSaid : Prop := Claim7.holds Tryd.pinned (.plain (OpenSpec.upto arbiterBisectsSpec)) arbiterBisectsUptoCard

/-- THE SECOND FORM's CARD OF 'wagonpoollaw39.ArbiterHonest'. -/
def arbiterHonestUptoCard : Claim7 := { stood := { row := arbiterHonestUptoRow, standIns := [], harness := (true, "d5649636af819a0ec367bc94b3a39ae2c00fe0f453bb1dde521d5217b80b50d1"), looks := false }, kinds := [], alts := [], laidByText := true, laidKinds := [.data, .funcs], laidTests := true, laidLooks := .later }
def ArbiterHonestUptoCardSaid : Prop := Claim7.holds Tryd.pinned (.plain (OpenSpec.upto arbiterHonestSpec)) arbiterHonestUptoCard

/-- THE SECOND FORM's CARD OF 'wagonpoollaw39.ArbiterNames'. -/
def arbiterNamesUptoCard : Claim7 := { stood := { row := arbiterNamesUptoRow, standIns := [], harness := (true, "d5649636af819a0ec367bc94b3a39ae2c00fe0f453bb1dde521d5217b80b50d1"), looks := false }, kinds := [], alts := [], laidByText := true, laidKinds := [.data, .funcs], laidTests := true, laidLooks := .later }
def ArbiterNamesUptoCardSaid : Prop := Claim7.holds Tryd.pinned (.plain (OpenSpec.upto arbiterNamesSpec)) arbiterNamesUptoCard

/-- THE SECOND FORM's CARD OF 'wagonpoollaw39.ArbiterSame'. -/
def arbiterSameUptoCard : Claim7 := { stood := { row := arbiterSameUptoRow, standIns := [], harness := (true, "d5649636af819a0ec367bc94b3a39ae2c00fe0f453bb1dde521d5217b80b50d1"), looks := false }, kinds := [], alts := [], laidByText := true, laidKinds := [.data, .funcs], laidTests := true, laidLooks := .later }
def ArbiterSameUptoCardSaid : Prop := Claim7.holds Tryd.pinned (.plain (OpenSpec.upto arbiterSameSpec)) arbiterSameUptoCard

/-- THE SECOND FORM's CARD OF 'wagonpoollaw39.ArbiterWithout'. -/
def arbiterWithoutUptoCard : Claim7 := { stood := { row := arbiterWithoutUptoRow, standIns := [], harness := (true, "d5649636af819a0ec367bc94b3a39ae2c00fe0f453bb1dde521d5217b80b50d1"), looks := false }, kinds := [], alts := [], laidByText := true, laidKinds := [.data, .funcs], laidTests := true, laidLooks := .later }
def ArbiterWithoutUptoCardSaid : Prop := Claim7.holds Tryd.pinned (.plain (OpenSpec.upto arbiterWithoutSpec)) arbiterWithoutUptoCard
end Rows
end Go.Proofs.YtlleccmnjpcogaaDoor
