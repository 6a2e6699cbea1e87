/-
  DERIVED. GIVEN WITH THE SEED: THE CARDS: each row of YtokhnpjchpmndaaDoorRows.lean that lists a variable, with what it lists TIED to the program's text (the seventh form; the later family's looks); each row that meets fmt, with fmt's text TOLD by the authors' own Lean function (tested against real Go, not proved from fmt's source: count such statements apart). THE CARD IS WHAT COUNTS. Prove the row's statement (the work); the ties are given (YtokhnpjchpmndaaDoorTie.lean); close each card by the builder's one call (the guide's Derived/Test/ToyasCard.lean, 'card_holds'). Laid BY PROGRAM, IN A SANDBOX (cutbox-door.mjs). By AI agents, Wed Nov 11 2026. No macro, syntax, notation, axiom, sorry.
-/
import Derived.Test.YtokhnpjchpmndaaDoorRows
import GoSem.ClaimSeven
namespace Go.Proofs.YtokhnpjchpmndaaDoor
namespace Rows

/-- THE TIED CARD OF 'wagonpoollaw38.BisectAgreedBefore'. -/
def bisectAgreedBeforeCard : Claim7 := { stood := { row := bisectAgreedBeforeRow, standIns := [], harness := (true, "2db65e7d294ef025cd20e6717a7c02149a61a9c61838b297fe3df28c075751db"), looks := false }, kinds := [], alts := [], laidByText := true, laidKinds := [.data], laidTests := true, laidLooks := .later }
def BisectAgreedBeforeCardSaid : Prop := Claim7.holds Tryd.pinned (.plain (OpenSpec.ofChange bisectAgreedBeforeSpec)) bisectAgreedBeforeCard

/-- THE TIED CARD OF 'wagonpoollaw38.BisectAnswerMatchesReference'. -/
def bisectAnswerMatchesReferenceCard : Claim7 := { stood := { row := bisectAnswerMatchesReferenceRow, standIns := [], harness := (true, "2db65e7d294ef025cd20e6717a7c02149a61a9c61838b297fe3df28c075751db"), looks := false }, kinds := [], alts := [], laidByText := true, laidKinds := [.data], laidTests := true, laidLooks := .later }
def BisectAnswerMatchesReferenceCardSaid : Prop := Claim7.holds Tryd.pinned (.plain (OpenSpec.ofChange bisectAnswerMatchesReferenceSpec)) bisectAnswerMatchesReferenceCard

/-- THE TIED CARD OF 'wagonpoollaw38.BisectBegins'. -/
def bisectBeginsCard : Claim7 := { stood := { row := bisectBeginsRow, standIns := [], harness := (true, "2db65e7d294ef025cd20e6717a7c02149a61a9c61838b297fe3df28c075751db"), looks := false }, kinds := [], alts := [], laidByText := true, laidKinds := [.data], laidTests := true, laidLooks := .later }
def BisectBeginsCardSaid : Prop := Claim7.holds Tryd.pinned (.plain (OpenSpec.ofChange bisectBeginsSpec)) bisectBeginsCard

/-- THE TIED CARD OF 'wagonpoollaw38.BisectFindsFirst'. -/
def bisectFindsFirstCard : Claim7 := { stood := { row := bisectFindsFirstRow, standIns := [], harness := (true, "2db65e7d294ef025cd20e6717a7c02149a61a9c61838b297fe3df28c075751db"), looks := false }, kinds := [], alts := [], laidByText := true, laidKinds := [.data], laidTests := true, laidLooks := .later }
def BisectFindsFirstCardSaid : Prop := Claim7.holds Tryd.pinned (.plain (OpenSpec.ofChange bisectFindsFirstSpec)) bisectFindsFirstCard

/-- THE TIED CARD OF 'wagonpoollaw38.BisectHonestParty'. -/
def bisectHonestPartyCard : Claim7 := { stood := { row := bisectHonestPartyRow, standIns := [], harness := (true, "2db65e7d294ef025cd20e6717a7c02149a61a9c61838b297fe3df28c075751db"), looks := false }, kinds := [], alts := [], laidByText := true, laidKinds := [.data], laidTests := true, laidLooks := .later }
def BisectHonestPartyCardSaid : Prop := Claim7.holds Tryd.pinned (.plain (OpenSpec.ofChange bisectHonestPartySpec)) bisectHonestPartyCard

/-- THE TIED CARD OF 'wagonpoollaw38.BisectMatchesReference'. -/
def bisectMatchesReferenceCard : Claim7 := { stood := { row := bisectMatchesReferenceRow, standIns := [], harness := (true, "2db65e7d294ef025cd20e6717a7c02149a61a9c61838b297fe3df28c075751db"), looks := false }, kinds := [], alts := [], laidByText := true, laidKinds := [.data], laidTests := true, laidLooks := .later }
def BisectMatchesReferenceCardSaid : Prop := Claim7.holds Tryd.pinned (.plain (OpenSpec.ofChange bisectMatchesReferenceSpec)) bisectMatchesReferenceCard

/-- THE TIED CARD OF 'wagonpoollaw38.BisectOrder'. -/
def bisectOrderCard : Claim7 := { stood := { row := bisectOrderRow, standIns := [], harness := (true, "2db65e7d294ef025cd20e6717a7c02149a61a9c61838b297fe3df28c075751db"), looks := false }, kinds := [], alts := [], laidByText := true, laidKinds := [.data], laidTests := true, laidLooks := .later }
def BisectOrderCardSaid : Prop := Claim7.holds Tryd.pinned (.plain (OpenSpec.ofChange bisectOrderSpec)) bisectOrderCard

/-- THE TIED CARD OF 'wagonpoollaw38.BisectRefuses'. -/
def bisectRefusesCard : Claim7 := { stood := { row := bisectRefusesRow, standIns := [], harness := (true, "2db65e7d294ef025cd20e6717a7c02149a61a9c61838b297fe3df28c075751db"), looks := false }, kinds := [], alts := [], laidByText := true, laidKinds := [.data], laidTests := true, laidLooks := .later }
def BisectRefusesCardSaid : Prop := Claim7.holds Tryd.pinned (.plain (OpenSpec.ofChange bisectRefusesSpec)) bisectRefusesCard

/-- THE SECOND FORM's CARD OF 'wagonpoollaw38.BisectAgreedBefore'. -/
def bisectAgreedBeforeUptoCard : Claim7 := { stood := { row := bisectAgreedBeforeUptoRow, standIns := [], harness := (true, "2db65e7d294ef025cd20e6717a7c02149a61a9c61838b297fe3df28c075751db"), looks := false }, kinds := [], alts := [], laidByText := true, laidKinds := [.data], laidTests := true, laidLooks := .later }
def BisectAgreedBeforeUptoCardSaid : Prop := Claim7.holds Tryd.pinned (.plain (OpenSpec.upto bisectAgreedBeforeSpec)) bisectAgreedBeforeUptoCard

/-- THE SECOND FORM's CARD OF 'wagonpoollaw38.BisectAnswerMatchesReference'. -/
def bisectAnswerMatchesReferenceUptoCard : Claim7 := { stood := { row := bisectAnswerMatchesReferenceUptoRow, standIns := [], harness := (true, "2db65e7d294ef025cd20e6717a7c02149a61a9c61838b297fe3df28c075751db"), looks := false }, kinds := [], alts := [], laidByText := true, laidKinds := [.data], laidTests := true, laidLooks := .later }
def BisectAnswerMatchesReferenceUptoCardSaid : Prop := Claim7.holds Tryd.pinned (.plain (OpenSpec.upto bisectAnswerMatchesReferenceSpec)) bisectAnswerMatchesReferenceUptoCard

/-- THE SECOND FORM's CARD OF 'wagonpoollaw38.BisectBegins'. -/
def bisectBeginsUptoCard : Claim7 := { stood := { row := bisectBeginsUptoRow, standIns := [], harness := (true, "2db65e7d294ef025cd20e6717a7c02149a61a9c61838b297fe3df28c075751db"), looks := false }, kinds := [], alts := [], laidByText := true, laidKinds := [.data], laidTests := true, laidLooks := .later }
def BisectBeginsUptoCardSaid : Prop := Claim7.holds Tryd.pinned (.plain (OpenSpec.upto bisectBeginsSpec)) bisectBeginsUptoCard

/-- THE SECOND FORM's CARD OF 'wagonpoollaw38.BisectFindsFirst'. -/
def bisectFindsFirstUptoCard : Claim7 := { stood := { row := bisectFindsFirstUptoRow, standIns := [], harness := (true, "2db65e7d294ef025cd20e6717a7c02149a61a9c61838b297fe3df28c075751db"), looks := false }, kinds := [], alts := [], laidByText := true, laidKinds := [.data], laidTests := true, laidLooks := .later }
def BisectFindsFirstUptoCardSaid : Prop := Claim7.holds Tryd.pinned (.plain (OpenSpec.upto bisectFindsFirstSpec)) bisectFindsFirstUptoCard

/-- THE SECOND FORM's CARD OF 'wagonpoollaw38.BisectHonestParty'. -/
def bisectHonestPartyUptoCard : Claim7 := { stood := { row := bisectHonestPartyUptoRow, standIns := [], harness := (true, "2db65e7d294ef025cd20e6717a7c02149a61a9c61838b297fe3df28c075751db"), looks := false }, kinds := [], alts := [], laidByText := true, laidKinds := [.data], laidTests := true, laidLooks := .later }
def BisectHonestPartyUptoCardSaid : Prop := Claim7.holds Tryd.pinned (.plain (OpenSpec.upto bisectHonestPartySpec)) bisectHonestPartyUptoCard

/-- THE SECOND FORM's CARD OF 'wagonpoollaw38.BisectMatchesReference'. -/
def bisectMatchesReferenceUptoCard : Claim7 := { stood := { row := bisectMatchesReferenceUptoRow, standIns := [], harness := (true, "2db65e7d294ef025cd20e6717a7c02149a61a9c61838b297fe3df28c075751db"), looks := false }, kinds := [], alts := [], laidByText := true, laidKinds := [.data], laidTests := true, laidLooks := .later }
def BisectMatchesReferenceUptoCardSaid : Prop := Claim7.holds Tryd.pinned (.plain (OpenSpec.upto bisectMatchesReferenceSpec)) bisectMatchesReferenceUptoCard

/-- THE SECOND FORM's CARD OF 'wagonpoollaw38.BisectOrder'. -/
def bisectOrderUptoCard : Claim7 := { stood := { row := bisectOrderUptoRow, standIns := [], harness := (true, "2db65e7d294ef025cd20e6717a7c02149a61a9c61838b297fe3df28c075751db"), looks := false }, kinds := [], alts := [], laidByText := true, laidKinds := [.data], laidTests := true, laidLooks := .later }
def BisectOrderUptoCardSaid : Prop := Claim7.holds Tryd.pinned (.plain (OpenSpec.upto bisectOrderSpec)) bisectOrderUptoCard

/-- THE SECOND FORM's CARD OF 'wagonpoollaw38.BisectRefuses'. -/
def bisectRefusesUptoCard : Claim7 := { stood := { row := bisectRefusesUptoRow, standIns := [], harness := (true, "2db65e7d294ef025cd20e6717a7c02149a61a9c61838b297fe3df28c075751db"), looks := false }, kinds := [], alts := [], laidByText := true, laidKinds := [.data], laidTests := true, laidLooks := .later }
def BisectRefusesUptoCardSaid : Prop := Claim7.holds Tryd.pinned (.plain (OpenSpec.upto bisectRefusesSpec)) bisectRefusesUptoCard
end Rows
end Go.Proofs.YtokhnpjchpmndaaDoor
