/-
  DERIVED. GIVEN WITH THE SEED: THE CARDS: each row of YtgnekjlciiefbaaDoorRows.lean that lists a variable, with what it lists TIED to the program's text (the seventh form; the later family's looks); each row that meets fmt, with fmt's text TOLD by the authors' own Lean function (tested against real Go, not proved from fmt's source: count such statements apart). THE CARD IS WHAT COUNTS. Prove the row's statement (the work); the ties are given (YtgnekjlciiefbaaDoorTie.lean); close each card by the builder's one call (the guide's Derived/Test/ToyasCard.lean, 'card_holds'). Laid BY PROGRAM, IN A SANDBOX (cutbox-door.mjs). By AI agents, Wed Nov 11 2026. No macro, syntax, notation, axiom, sorry.
-/
import Derived.Test.YtgnekjlciiefbaaDoorRows
import GoSem.ClaimSeven
namespace Go.Proofs.YtgnekjlciiefbaaDoor
namespace Rows

/-- THE TIED CARD OF 'wagonpoollaw03.SignChallenges'. -/
def signChallengesCard : Claim7 := { stood := { row := signChallengesRow, standIns := [], harness := (true, "df8c70725dc855590ea14a9af160a1ca5093e3bff064edcdbdfcc5495f2f9cb1"), looks := false }, kinds := [], alts := [], laidByText := true, laidKinds := [.data], laidTests := true, laidLooks := .later }
def SignChallengesCardSaid : Prop := Claim7.holds Tryd.pinned (.plain (OpenSpec.ofChange signChallengesSpec)) signChallengesCard

/-- THE TIED CARD OF 'wagonpoollaw03.SignHalves'. -/
def signHalvesCard : Claim7 := { stood := { row := signHalvesRow, standIns := [], harness := (true, "df8c70725dc855590ea14a9af160a1ca5093e3bff064edcdbdfcc5495f2f9cb1"), looks := false }, kinds := [], alts := [], laidByText := true, laidKinds := [.data], laidTests := true, laidLooks := .later }
def SignHalvesCardSaid : Prop := Claim7.holds Tryd.pinned (.plain (OpenSpec.ofChange signHalvesSpec)) signHalvesCard

/-- THE TIED CARD OF 'wagonpoollaw03.SignKeys'. -/
def signKeysCard : Claim7 := { stood := { row := signKeysRow, standIns := [], harness := (true, "df8c70725dc855590ea14a9af160a1ca5093e3bff064edcdbdfcc5495f2f9cb1"), looks := false }, kinds := [], alts := [], laidByText := true, laidKinds := [.data], laidTests := true, laidLooks := .later }
def SignKeysCardSaid : Prop := Claim7.holds Tryd.pinned (.plain (OpenSpec.ofChange signKeysSpec)) signKeysCard

/-- THE TIED CARD OF 'wagonpoollaw03.SignLimits'. -/
def signLimitsCard : Claim7 := { stood := { row := signLimitsRow, standIns := [], harness := (true, "df8c70725dc855590ea14a9af160a1ca5093e3bff064edcdbdfcc5495f2f9cb1"), looks := false }, kinds := [], alts := [], laidByText := true, laidKinds := [.data], laidTests := true, laidLooks := .later }
def SignLimitsCardSaid : Prop := Claim7.holds Tryd.pinned (.plain (OpenSpec.ofChange signLimitsSpec)) signLimitsCard

/-- THE TIED CARD OF 'wagonpoollaw03.SignMatches'. -/
def signMatchesCard : Claim7 := { stood := { row := signMatchesRow, standIns := [], harness := (true, "df8c70725dc855590ea14a9af160a1ca5093e3bff064edcdbdfcc5495f2f9cb1"), looks := false }, kinds := [], alts := [], laidByText := true, laidKinds := [.data], laidTests := true, laidLooks := .later }
def SignMatchesCardSaid : Prop := Claim7.holds Tryd.pinned (.plain (OpenSpec.ofChange signMatchesSpec)) signMatchesCard

/-- THE TIED CARD OF 'wagonpoollaw03.SignMatchesVerify'. -/
def signMatchesVerifyCard : Claim7 := { stood := { row := signMatchesVerifyRow, standIns := [], harness := (true, "df8c70725dc855590ea14a9af160a1ca5093e3bff064edcdbdfcc5495f2f9cb1"), looks := false }, kinds := [], alts := [], laidByText := true, laidKinds := [.data], laidTests := true, laidLooks := .later }
def SignMatchesVerifyCardSaid : Prop := Claim7.holds Tryd.pinned (.plain (OpenSpec.ofChange signMatchesVerifySpec)) signMatchesVerifyCard

/-- THE TIED CARD OF 'wagonpoollaw03.SignPowers'. -/
def signPowersCard : Claim7 := { stood := { row := signPowersRow, standIns := [], harness := (true, "df8c70725dc855590ea14a9af160a1ca5093e3bff064edcdbdfcc5495f2f9cb1"), looks := false }, kinds := [], alts := [], laidByText := true, laidKinds := [.data], laidTests := true, laidLooks := .later }
def SignPowersCardSaid : Prop := Claim7.holds Tryd.pinned (.plain (OpenSpec.ofChange signPowersSpec)) signPowersCard

/-- THE TIED CARD OF 'wagonpoollaw03.SignVerifies'. -/
def signVerifiesCard : Claim7 := { stood := { row := signVerifiesRow, standIns := [], harness := (true, "df8c70725dc855590ea14a9af160a1ca5093e3bff064edcdbdfcc5495f2f9cb1"), looks := false }, kinds := [], alts := [], laidByText := true, laidKinds := [.data], laidTests := true, laidLooks := .later }
def SignVerifiesCardSaid : Prop := Claim7.holds Tryd.pinned (.plain (OpenSpec.ofChange signVerifiesSpec)) signVerifiesCard

/-- THE SECOND FORM's CARD OF 'wagonpoollaw03.SignChallenges'. -/
def signChallengesUptoCard : Claim7 := { stood := { row := signChallengesUptoRow, standIns := [], harness := (true, "df8c70725dc855590ea14a9af160a1ca5093e3bff064edcdbdfcc5495f2f9cb1"), looks := false }, kinds := [], alts := [], laidByText := true, laidKinds := [.data], laidTests := true, laidLooks := .later }
def SignChallengesUptoCardSaid : Prop := Claim7.holds Tryd.pinned (.plain (OpenSpec.upto signChallengesSpec)) signChallengesUptoCard

/-- THE SECOND FORM's CARD OF 'wagonpoollaw03.SignHalves'. -/
def signHalvesUptoCard : Claim7 := { stood := { row := signHalvesUptoRow, standIns := [], harness := (true, "df8c70725dc855590ea14a9af160a1ca5093e3bff064edcdbdfcc5495f2f9cb1"), looks := false }, kinds := [], alts := [], laidByText := true, laidKinds := [.data], laidTests := true, laidLooks := .later }
def SignHalvesUptoCardSaid : Prop := Claim7.holds Tryd.pinned (.plain (OpenSpec.upto signHalvesSpec)) signHalvesUptoCard

/-- THE SECOND FORM's CARD OF 'wagonpoollaw03.SignKeys'. -/
def signKeysUptoCard : Claim7 := { stood := { row := signKeysUptoRow, standIns := [], harness := (true, "df8c70725dc855590ea14a9af160a1ca5093e3bff064edcdbdfcc5495f2f9cb1"), looks := false }, kinds := [], alts := [], laidByText := true, laidKinds := [.data], laidTests := true, laidLooks := .later }
def SignKeysUptoCardSaid : Prop := Claim7.holds Tryd.pinned (.plain (OpenSpec.upto signKeysSpec)) signKeysUptoCard

/-- THE SECOND FORM's CARD OF 'wagonpoollaw03.SignLimits'. -/
def signLimitsUptoCard : Claim7 := { stood := { row := signLimitsUptoRow, standIns := [], harness := (true, "df8c70725dc855590ea14a9af160a1ca5093e3bff064edcdbdfcc5495f2f9cb1"), looks := false }, kinds := [], alts := [], laidByText := true, laidKinds := [.data], laidTests := true, laidLooks := .later }
def SignLimitsUptoCardSaid : Prop := Claim7.holds Tryd.pinned (.plain (OpenSpec.upto signLimitsSpec)) signLimitsUptoCard

/-- THE SECOND FORM's CARD OF 'wagonpoollaw03.SignMatches'. -/
def signMatchesUptoCard : Claim7 := { stood := { row := signMatchesUptoRow, standIns := [], harness := (true, "df8c70725dc855590ea14a9af160a1ca5093e3bff064edcdbdfcc5495f2f9cb1"), looks := false }, kinds := [], alts := [], laidByText := true, laidKinds := [.data], laidTests := true, laidLooks := .later }
def SignMatchesUptoCardSaid : Prop := Claim7.holds Tryd.pinned (.plain (OpenSpec.upto signMatchesSpec)) signMatchesUptoCard

/-- THE SECOND FORM's CARD OF 'wagonpoollaw03.SignMatchesVerify'. -/
def signMatchesVerifyUptoCard : Claim7 := { stood := { row := signMatchesVerifyUptoRow, standIns := [], harness := (true, "df8c70725dc855590ea14a9af160a1ca5093e3bff064edcdbdfcc5495f2f9cb1"), looks := false }, kinds := [], alts := [], laidByText := true, laidKinds := [.data], laidTests := true, laidLooks := .later }
def SignMatchesVerifyUptoCardSaid : Prop := Claim7.holds Tryd.pinned (.plain (OpenSpec.upto signMatchesVerifySpec)) signMatchesVerifyUptoCard

/-- THE SECOND FORM's CARD OF 'wagonpoollaw03.SignPowers'. -/
def signPowersUptoCard : Claim7 := { stood := { row := signPowersUptoRow, standIns := [], harness := (true, "df8c70725dc855590ea14a9af160a1ca5093e3bff064edcdbdfcc5495f2f9cb1"), looks := false }, kinds := [], alts := [], laidByText := true, laidKinds := [.data], laidTests := true, laidLooks := .later }
def SignPowersUptoCardSaid : Prop := Claim7.holds Tryd.pinned (.plain (OpenSpec.upto signPowersSpec)) signPowersUptoCard

/-- THE SECOND FORM's CARD OF 'wagonpoollaw03.SignVerifies'. -/
def signVerifiesUptoCard : Claim7 := { stood := { row := signVerifiesUptoRow, standIns := [], harness := (true, "df8c70725dc855590ea14a9af160a1ca5093e3bff064edcdbdfcc5495f2f9cb1"), looks := false }, kinds := [], alts := [], laidByText := true, laidKinds := [.data], laidTests := true, laidLooks := .later }
def SignVerifiesUptoCardSaid : Prop := Claim7.holds Tryd.pinned (.plain (OpenSpec.upto signVerifiesSpec)) signVerifiesUptoCard
end Rows
end Go.Proofs.YtgnekjlciiefbaaDoor
