/-
  DERIVED. GIVEN WITH THE SEED: THE CARDS: each row of YtfplilhbfkhenaaDoorRows.lean that lists a variable, with what it lists TIED to the program's text (the seventh form; the later family's looks); each row that meets fmt, with fmt's text TOLD by the authors' own Lean function (tested against real Go, not proved from fmt's source: count such statements apart). THE CARD IS WHAT COUNTS. Prove the row's statement (the work); the ties are given (YtfplilhbfkhenaaDoorTie.lean); close each card by the builder's one call (the guide's Derived/Test/ToyasCard.lean, 'card_holds'). Laid BY PROGRAM, IN A SANDBOX (cutbox-door.mjs). By AI agents, Wed Nov 11 2026. No macro, syntax, notation, axiom, sorry.
-/
import Derived.Test.YtfplilhbfkhenaaDoorRows
import GoSem.ClaimSeven
namespace Go.Proofs.YtfplilhbfkhenaaDoor
namespace Rows

/-- THE TIED CARD OF 'wagonpoollaw04.MerkleMatchesReference'. -/
def merkleMatchesReferenceCard : Claim7 := { stood := { row := merkleMatchesReferenceRow, standIns := [], harness := (true, "ea83294f5b67d008c3aa80d7c08f5dc94fc0d0607cdbc7283e27c890a7edc858"), looks := false }, kinds := [], alts := [], laidByText := true, laidKinds := [.data], laidTests := true, laidLooks := .later }
def MerkleMatchesReferenceCardSaid : Prop := Claim7.holds Tryd.pinned (.plain (OpenSpec.ofChange merkleMatchesReferenceSpec)) merkleMatchesReferenceCard

/-- THE TIED CARD OF 'wagonpoollaw04.MerkleIncludesMatchesReference'. -/
def merkleIncludesMatchesReferenceCard : Claim7 := { stood := { row := merkleIncludesMatchesReferenceRow, standIns := [], harness := (true, "ea83294f5b67d008c3aa80d7c08f5dc94fc0d0607cdbc7283e27c890a7edc858"), looks := false }, kinds := [], alts := [], laidByText := true, laidKinds := [.data], laidTests := true, laidLooks := .later }
def MerkleIncludesMatchesReferenceCardSaid : Prop := Claim7.holds Tryd.pinned (.plain (OpenSpec.ofChange merkleIncludesMatchesReferenceSpec)) merkleIncludesMatchesReferenceCard

/-- THE TIED CARD OF 'wagonpoollaw04.MerklePathsProve'. -/
def merklePathsProveCard : Claim7 := { stood := { row := merklePathsProveRow, standIns := [], harness := (true, "ea83294f5b67d008c3aa80d7c08f5dc94fc0d0607cdbc7283e27c890a7edc858"), looks := false }, kinds := [], alts := [], laidByText := true, laidKinds := [.data], laidTests := true, laidLooks := .later }
def MerklePathsProveCardSaid : Prop := Claim7.holds Tryd.pinned (.plain (OpenSpec.ofChange merklePathsProveSpec)) merklePathsProveCard

/-- THE TIED CARD OF 'wagonpoollaw04.MerkleDepth'. -/
def merkleDepthCard : Claim7 := { stood := { row := merkleDepthRow, standIns := [], harness := (true, "ea83294f5b67d008c3aa80d7c08f5dc94fc0d0607cdbc7283e27c890a7edc858"), looks := false }, kinds := [], alts := [], laidByText := true, laidKinds := [.data], laidTests := true, laidLooks := .later }
def MerkleDepthCardSaid : Prop := Claim7.holds Tryd.pinned (.plain (OpenSpec.ofChange merkleDepthSpec)) merkleDepthCard

/-- THE TIED CARD OF 'wagonpoollaw04.MerkleNodes'. -/
def merkleNodesCard : Claim7 := { stood := { row := merkleNodesRow, standIns := [], harness := (true, "ea83294f5b67d008c3aa80d7c08f5dc94fc0d0607cdbc7283e27c890a7edc858"), looks := false }, kinds := [], alts := [], laidByText := true, laidKinds := [.data], laidTests := true, laidLooks := .later }
def MerkleNodesCardSaid : Prop := Claim7.holds Tryd.pinned (.plain (OpenSpec.ofChange merkleNodesSpec)) merkleNodesCard

/-- THE TIED CARD OF 'wagonpoollaw04.MerklePads'. -/
def merklePadsCard : Claim7 := { stood := { row := merklePadsRow, standIns := [], harness := (true, "ea83294f5b67d008c3aa80d7c08f5dc94fc0d0607cdbc7283e27c890a7edc858"), looks := false }, kinds := [], alts := [], laidByText := true, laidKinds := [.data], laidTests := true, laidLooks := .later }
def MerklePadsCardSaid : Prop := Claim7.holds Tryd.pinned (.plain (OpenSpec.ofChange merklePadsSpec)) merklePadsCard

/-- THE TIED CARD OF 'wagonpoollaw04.MerkleUpdates'. -/
def merkleUpdatesCard : Claim7 := { stood := { row := merkleUpdatesRow, standIns := [], harness := (true, "ea83294f5b67d008c3aa80d7c08f5dc94fc0d0607cdbc7283e27c890a7edc858"), looks := false }, kinds := [], alts := [], laidByText := true, laidKinds := [.data], laidTests := true, laidLooks := .later }
def MerkleUpdatesCardSaid : Prop := Claim7.holds Tryd.pinned (.plain (OpenSpec.ofChange merkleUpdatesSpec)) merkleUpdatesCard

/-- THE TIED CARD OF 'wagonpoollaw04.MerkleDescent'. -/
def merkleDescentCard : Claim7 := { stood := { row := merkleDescentRow, standIns := [], harness := (true, "ea83294f5b67d008c3aa80d7c08f5dc94fc0d0607cdbc7283e27c890a7edc858"), looks := false }, kinds := [], alts := [], laidByText := true, laidKinds := [.data], laidTests := true, laidLooks := .later }
def MerkleDescentCardSaid : Prop := Claim7.holds Tryd.pinned (.plain (OpenSpec.ofChange merkleDescentSpec)) merkleDescentCard

/-- THE SECOND FORM's CARD OF 'wagonpoollaw04.MerkleMatchesReference'. -/
def merkleMatchesReferenceUptoCard : Claim7 := { stood := { row := merkleMatchesReferenceUptoRow, standIns := [], harness := (true, "ea83294f5b67d008c3aa80d7c08f5dc94fc0d0607cdbc7283e27c890a7edc858"), looks := false }, kinds := [], alts := [], laidByText := true, laidKinds := [.data], laidTests := true, laidLooks := .later }
def MerkleMatchesReferenceUptoCardSaid : Prop := Claim7.holds Tryd.pinned (.plain (OpenSpec.upto merkleMatchesReferenceSpec)) merkleMatchesReferenceUptoCard

/-- THE SECOND FORM's CARD OF 'wagonpoollaw04.MerkleIncludesMatchesReference'. -/
def merkleIncludesMatchesReferenceUptoCard : Claim7 := { stood := { row := merkleIncludesMatchesReferenceUptoRow, standIns := [], harness := (true, "ea83294f5b67d008c3aa80d7c08f5dc94fc0d0607cdbc7283e27c890a7edc858"), looks := false }, kinds := [], alts := [], laidByText := true, laidKinds := [.data], laidTests := true, laidLooks := .later }
def MerkleIncludesMatchesReferenceUptoCardSaid : Prop := Claim7.holds Tryd.pinned (.plain (OpenSpec.upto merkleIncludesMatchesReferenceSpec)) merkleIncludesMatchesReferenceUptoCard

/-- THE SECOND FORM's CARD OF 'wagonpoollaw04.MerklePathsProve'. -/
def merklePathsProveUptoCard : Claim7 := { stood := { row := merklePathsProveUptoRow, standIns := [], harness := (true, "ea83294f5b67d008c3aa80d7c08f5dc94fc0d0607cdbc7283e27c890a7edc858"), looks := false }, kinds := [], alts := [], laidByText := true, laidKinds := [.data], laidTests := true, laidLooks := .later }
def MerklePathsProveUptoCardSaid : Prop := Claim7.holds Tryd.pinned (.plain (OpenSpec.upto merklePathsProveSpec)) merklePathsProveUptoCard

/-- THE SECOND FORM's CARD OF 'wagonpoollaw04.MerkleDepth'. -/
def merkleDepthUptoCard : Claim7 := { stood := { row := merkleDepthUptoRow, standIns := [], harness := (true, "ea83294f5b67d008c3aa80d7c08f5dc94fc0d0607cdbc7283e27c890a7edc858"), looks := false }, kinds := [], alts := [], laidByText := true, laidKinds := [.data], laidTests := true, laidLooks := .later }
def MerkleDepthUptoCardSaid : Prop := Claim7.holds Tryd.pinned (.plain (OpenSpec.upto merkleDepthSpec)) merkleDepthUptoCard

/-- THE SECOND FORM's CARD OF 'wagonpoollaw04.MerkleNodes'. -/
def merkleNodesUptoCard : Claim7 := { stood := { row := merkleNodesUptoRow, standIns := [], harness := (true, "ea83294f5b67d008c3aa80d7c08f5dc94fc0d0607cdbc7283e27c890a7edc858"), looks := false }, kinds := [], alts := [], laidByText := true, laidKinds := [.data], laidTests := true, laidLooks := .later }
def MerkleNodesUptoCardSaid : Prop := Claim7.holds Tryd.pinned (.plain (OpenSpec.upto merkleNodesSpec)) merkleNodesUptoCard

/-- THE SECOND FORM's CARD OF 'wagonpoollaw04.MerklePads'. -/
def merklePadsUptoCard : Claim7 := { stood := { row := merklePadsUptoRow, standIns := [], harness := (true, "ea83294f5b67d008c3aa80d7c08f5dc94fc0d0607cdbc7283e27c890a7edc858"), looks := false }, kinds := [], alts := [], laidByText := true, laidKinds := [.data], laidTests := true, laidLooks := .later }
def MerklePadsUptoCardSaid : Prop := Claim7.holds Tryd.pinned (.plain (OpenSpec.upto merklePadsSpec)) merklePadsUptoCard

/-- THE SECOND FORM's CARD OF 'wagonpoollaw04.MerkleUpdates'. -/
def merkleUpdatesUptoCard : Claim7 := { stood := { row := merkleUpdatesUptoRow, standIns := [], harness := (true, "ea83294f5b67d008c3aa80d7c08f5dc94fc0d0607cdbc7283e27c890a7edc858"), looks := false }, kinds := [], alts := [], laidByText := true, laidKinds := [.data], laidTests := true, laidLooks := .later }
def MerkleUpdatesUptoCardSaid : Prop := Claim7.holds Tryd.pinned (.plain (OpenSpec.upto merkleUpdatesSpec)) merkleUpdatesUptoCard

/-- THE SECOND FORM's CARD OF 'wagonpoollaw04.MerkleDescent'. -/
def merkleDescentUptoCard : Claim7 := { stood := { row := merkleDescentUptoRow, standIns := [], harness := (true, "ea83294f5b67d008c3aa80d7c08f5dc94fc0d0607cdbc7283e27c890a7edc858"), looks := false }, kinds := [], alts := [], laidByText := true, laidKinds := [.data], laidTests := true, laidLooks := .later }
def MerkleDescentUptoCardSaid : Prop := Claim7.holds Tryd.pinned (.plain (OpenSpec.upto merkleDescentSpec)) merkleDescentUptoCard
end Rows
end Go.Proofs.YtfplilhbfkhenaaDoor
