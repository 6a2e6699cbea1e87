/-
  NARROWER THAN 'FOR EVERY INPUT', by the rows' own cells (each row's printed sentence says how): MerkleMatchesReference: laid · MerkleIncludesMatchesReference: laid · MerklePathsProve: laid · MerkleDepth: laid · MerkleNodes: laid · MerklePads: laid · MerkleUpdates: laid · MerkleDescent: laid.
  DERIVED. THE GIVEN ROWS OF THIS SEAT. 8 by the template 'for every input the law returns true; each argument reads behind the call as it read before'; 0 by the template 'total and deterministic' (their statements: YtfplilhbfkhenaaDoorTotals.lean).
  GIVEN WITH THE SEED: the statements are not yours to turn. If you find one false, say at which input.
  Laid BY PROGRAM, IN A SANDBOX (cutbox-rows.mjs): the forced cells as the released guide's own fill.sh prints them over the translation db5d0f5633668978… (all of the seat's roots in one cut). By AI agents, Wed Nov 11 2026. No macro, syntax, notation, axiom, sorry.
-/
import Derived.Test.YtfplilhbfkhenaaDoorChecked
import GoSem.Claim
import GoSem.ClaimJoined
import GoSem.ClaimMapViews
import Derived.JoinedTies
import Derived.KernelRfl
namespace Go.Proofs.YtfplilhbfkhenaaDoor
/- THE CELL 'sum', in the pinned program and in every row, IS THE sha256 OF THE DUMP (.gsa) THAT YtfplilhbfkhenaaDoorProg.lean LOADS. Nothing in Lean hashes anything: it is a label: what it is worth is what the hold of that sum in a sandbox is worth. -/
noncomputable def Tryd.pinned : Pinned := { name := "ytfplilhbfkhenaadoor", sum := "db5d0f56336689787a52b0ccb7d130f8f60cbfc24e4743c3f1239e02104a5da0", checked := Tryd.checked }
namespace Rows
def none {H : Type} : Left H := { results := [], args := [] }

/- WHAT THE LISTED PACKAGE-LEVEL VARIABLES READ AS WHEN THE CALL BEGINS. Each datum BY PROGRAM (the guide's laid-datum.mjs) off the statement by which the dump's own 'gosem.cut.vars' lays the variable. In a bare row this is a premise. The card (YtfplilhbfkhenaaDoorCards.lean) ties it to the program's text. -/
def laid_wagonpool_digest_k {H : Type} : DataW H := .agg [.lit (.int .u32 1116352408), .lit (.int .u32 1899447441), .lit (.int .u32 3049323471), .lit (.int .u32 3921009573), .lit (.int .u32 961987163), .lit (.int .u32 1508970993), .lit (.int .u32 2453635748), .lit (.int .u32 2870763221), .lit (.int .u32 3624381080), .lit (.int .u32 310598401), .lit (.int .u32 607225278), .lit (.int .u32 1426881987), .lit (.int .u32 1925078388), .lit (.int .u32 2162078206), .lit (.int .u32 2614888103), .lit (.int .u32 3248222580), .lit (.int .u32 3835390401), .lit (.int .u32 4022224774), .lit (.int .u32 264347078), .lit (.int .u32 604807628), .lit (.int .u32 770255983), .lit (.int .u32 1249150122), .lit (.int .u32 1555081692), .lit (.int .u32 1996064986), .lit (.int .u32 2554220882), .lit (.int .u32 2821834349), .lit (.int .u32 2952996808), .lit (.int .u32 3210313671), .lit (.int .u32 3336571891), .lit (.int .u32 3584528711), .lit (.int .u32 113926993), .lit (.int .u32 338241895), .lit (.int .u32 666307205), .lit (.int .u32 773529912), .lit (.int .u32 1294757372), .lit (.int .u32 1396182291), .lit (.int .u32 1695183700), .lit (.int .u32 1986661051), .lit (.int .u32 2177026350), .lit (.int .u32 2456956037), .lit (.int .u32 2730485921), .lit (.int .u32 2820302411), .lit (.int .u32 3259730800), .lit (.int .u32 3345764771), .lit (.int .u32 3516065817), .lit (.int .u32 3600352804), .lit (.int .u32 4094571909), .lit (.int .u32 275423344), .lit (.int .u32 430227734), .lit (.int .u32 506948616), .lit (.int .u32 659060556), .lit (.int .u32 883997877), .lit (.int .u32 958139571), .lit (.int .u32 1322822218), .lit (.int .u32 1537002063), .lit (.int .u32 1747873779), .lit (.int .u32 1955562222), .lit (.int .u32 2024104815), .lit (.int .u32 2227730452), .lit (.int .u32 2361852424), .lit (.int .u32 2428436474), .lit (.int .u32 2756734187), .lit (.int .u32 3204031479), .lit (.int .u32 3329325298)]

/-- 'wagonpoollaw04.MerkleMatchesReference': WHATEVER THE INPUT: true; the input reads as it did. -/
def merkleMatchesReferenceSpec : ChangeSpec := { name := "merkleMatchesReference", fn := fun _ => fun
  | [d1, d2, d3, d4, d5] => { results := [.lit (.bool true)], args := [d1, d2, d3, d4, d5] }
  | _ => none }
def merkleMatchesReferenceRow : OpenClaim := { program := "ytfplilhbfkhenaadoor", sum := "db5d0f56336689787a52b0ccb7d130f8f60cbfc24e4743c3f1239e02104a5da0", func := "wagonpool/wagonpoollaw04.MerkleMatchesReference", spec := "merkleMatchesReference", unfollowed := true, recurses := true, named := ["wagonpool/digest.k"], apart := false, laid := [("wagonpool/digest.k", laid_wagonpool_digest_k)] }
def MerkleMatchesReferenceSaid : Prop := merkleMatchesReferenceRow.holds Tryd.pinned (OpenSpec.ofChange merkleMatchesReferenceSpec)

/-- ITS FALSE NEIGHBOUR: 'it returns false'. Refute it at one input. -/
def merkleMatchesReferenceWrong : ChangeSpec := { name := "merkleMatchesReference", fn := fun _ => fun
  | [d1, d2, d3, d4, d5] => { results := [.lit (.bool false)], args := [d1, d2, d3, d4, d5] }
  | _ => none }
def MerkleMatchesReferenceWrongFalsely : Prop := merkleMatchesReferenceRow.holds Tryd.pinned (OpenSpec.ofChange merkleMatchesReferenceWrong)

/-- 'wagonpoollaw04.MerkleIncludesMatchesReference': WHATEVER THE INPUT: true; the input reads as it did. -/
def merkleIncludesMatchesReferenceSpec : ChangeSpec := { name := "merkleIncludesMatchesReference", fn := fun _ => fun
  | [d1, d2, d3, d4] => { results := [.lit (.bool true)], args := [d1, d2, d3, d4] }
  | _ => none }
def merkleIncludesMatchesReferenceRow : OpenClaim := { program := "ytfplilhbfkhenaadoor", sum := "db5d0f56336689787a52b0ccb7d130f8f60cbfc24e4743c3f1239e02104a5da0", func := "wagonpool/wagonpoollaw04.MerkleIncludesMatchesReference", spec := "merkleIncludesMatchesReference", unfollowed := true, recurses := true, named := ["wagonpool/digest.k"], apart := false, laid := [("wagonpool/digest.k", laid_wagonpool_digest_k)] }
def MerkleIncludesMatchesReferenceSaid : Prop := merkleIncludesMatchesReferenceRow.holds Tryd.pinned (OpenSpec.ofChange merkleIncludesMatchesReferenceSpec)

/-- ITS FALSE NEIGHBOUR: 'it returns false'. Refute it at one input. -/
def merkleIncludesMatchesReferenceWrong : ChangeSpec := { name := "merkleIncludesMatchesReference", fn := fun _ => fun
  | [d1, d2, d3, d4] => { results := [.lit (.bool false)], args := [d1, d2, d3, d4] }
  | _ => none }
def MerkleIncludesMatchesReferenceWrongFalsely : Prop := merkleIncludesMatchesReferenceRow.holds Tryd.pinned (OpenSpec.ofChange merkleIncludesMatchesReferenceWrong)

/-- 'wagonpoollaw04.MerklePathsProve': WHATEVER THE INPUT: true; the input reads as it did. -/
def merklePathsProveSpec : ChangeSpec := { name := "merklePathsProve", fn := fun _ => fun
  | [d1, d2] => { results := [.lit (.bool true)], args := [d1, d2] }
  | _ => none }
def merklePathsProveRow : OpenClaim := { program := "ytfplilhbfkhenaadoor", sum := "db5d0f56336689787a52b0ccb7d130f8f60cbfc24e4743c3f1239e02104a5da0", func := "wagonpool/wagonpoollaw04.MerklePathsProve", spec := "merklePathsProve", unfollowed := true, recurses := true, named := ["wagonpool/digest.k"], apart := false, laid := [("wagonpool/digest.k", laid_wagonpool_digest_k)] }
def MerklePathsProveSaid : Prop := merklePathsProveRow.holds Tryd.pinned (OpenSpec.ofChange merklePathsProveSpec)

/-- ITS FALSE NEIGHBOUR: 'it returns false'. Refute it at one input. -/
def merklePathsProveWrong : ChangeSpec := { name := "merklePathsProve", fn := fun _ => fun
  | [d1, d2] => { results := [.lit (.bool false)], args := [d1, d2] }
  | _ => none }
def MerklePathsProveWrongFalsely : Prop := merklePathsProveRow.holds Tryd.pinned (OpenSpec.ofChange merklePathsProveWrong)

/-- 'wagonpoollaw04.MerkleDepth': WHATEVER THE INPUT: true; the input reads as it did. -/
def merkleDepthSpec : ChangeSpec := { name := "merkleDepth", fn := fun _ => fun
  | [d] => { results := [.lit (.bool true)], args := [d] }
  | _ => none }
def merkleDepthRow : OpenClaim := { program := "ytfplilhbfkhenaadoor", sum := "db5d0f56336689787a52b0ccb7d130f8f60cbfc24e4743c3f1239e02104a5da0", func := "wagonpool/wagonpoollaw04.MerkleDepth", spec := "merkleDepth", unfollowed := true, recurses := true, named := ["wagonpool/digest.k"], apart := false, laid := [("wagonpool/digest.k", laid_wagonpool_digest_k)] }
def MerkleDepthSaid : Prop := merkleDepthRow.holds Tryd.pinned (OpenSpec.ofChange merkleDepthSpec)

/-- ITS FALSE NEIGHBOUR: 'it returns false'. Refute it at one input. -/
def merkleDepthWrong : ChangeSpec := { name := "merkleDepth", fn := fun _ => fun
  | [d] => { results := [.lit (.bool false)], args := [d] }
  | _ => none }
def MerkleDepthWrongFalsely : Prop := merkleDepthRow.holds Tryd.pinned (OpenSpec.ofChange merkleDepthWrong)

/-- 'wagonpoollaw04.MerkleNodes': WHATEVER THE INPUT: true; the input reads as it did. -/
def merkleNodesSpec : ChangeSpec := { name := "merkleNodes", fn := fun _ => fun
  | [d1, d2, d3] => { results := [.lit (.bool true)], args := [d1, d2, d3] }
  | _ => none }
def merkleNodesRow : OpenClaim := { program := "ytfplilhbfkhenaadoor", sum := "db5d0f56336689787a52b0ccb7d130f8f60cbfc24e4743c3f1239e02104a5da0", func := "wagonpool/wagonpoollaw04.MerkleNodes", spec := "merkleNodes", unfollowed := true, recurses := true, named := ["wagonpool/digest.k"], apart := false, laid := [("wagonpool/digest.k", laid_wagonpool_digest_k)] }
def MerkleNodesSaid : Prop := merkleNodesRow.holds Tryd.pinned (OpenSpec.ofChange merkleNodesSpec)

/-- ITS FALSE NEIGHBOUR: 'it returns false'. Refute it at one input. -/
def merkleNodesWrong : ChangeSpec := { name := "merkleNodes", fn := fun _ => fun
  | [d1, d2, d3] => { results := [.lit (.bool false)], args := [d1, d2, d3] }
  | _ => none }
def MerkleNodesWrongFalsely : Prop := merkleNodesRow.holds Tryd.pinned (OpenSpec.ofChange merkleNodesWrong)

/-- 'wagonpoollaw04.MerklePads': WHATEVER THE INPUT: true; the input reads as it did. -/
def merklePadsSpec : ChangeSpec := { name := "merklePads", fn := fun _ => fun
  | [d1, d2, d3, d4] => { results := [.lit (.bool true)], args := [d1, d2, d3, d4] }
  | _ => none }
def merklePadsRow : OpenClaim := { program := "ytfplilhbfkhenaadoor", sum := "db5d0f56336689787a52b0ccb7d130f8f60cbfc24e4743c3f1239e02104a5da0", func := "wagonpool/wagonpoollaw04.MerklePads", spec := "merklePads", unfollowed := true, recurses := true, named := ["wagonpool/digest.k"], apart := false, laid := [("wagonpool/digest.k", laid_wagonpool_digest_k)] }
def MerklePadsSaid : Prop := merklePadsRow.holds Tryd.pinned (OpenSpec.ofChange merklePadsSpec)

/-- ITS FALSE NEIGHBOUR: 'it returns false'. Refute it at one input. -/
def merklePadsWrong : ChangeSpec := { name := "merklePads", fn := fun _ => fun
  | [d1, d2, d3, d4] => { results := [.lit (.bool false)], args := [d1, d2, d3, d4] }
  | _ => none }
def MerklePadsWrongFalsely : Prop := merklePadsRow.holds Tryd.pinned (OpenSpec.ofChange merklePadsWrong)

/-- 'wagonpoollaw04.MerkleUpdates': WHATEVER THE INPUT: true; the input reads as it did. -/
def merkleUpdatesSpec : ChangeSpec := { name := "merkleUpdates", fn := fun _ => fun
  | [d1, d2, d3] => { results := [.lit (.bool true)], args := [d1, d2, d3] }
  | _ => none }
def merkleUpdatesRow : OpenClaim := { program := "ytfplilhbfkhenaadoor", sum := "db5d0f56336689787a52b0ccb7d130f8f60cbfc24e4743c3f1239e02104a5da0", func := "wagonpool/wagonpoollaw04.MerkleUpdates", spec := "merkleUpdates", unfollowed := true, recurses := true, named := ["wagonpool/digest.k"], apart := false, laid := [("wagonpool/digest.k", laid_wagonpool_digest_k)] }
def MerkleUpdatesSaid : Prop := merkleUpdatesRow.holds Tryd.pinned (OpenSpec.ofChange merkleUpdatesSpec)

/-- ITS FALSE NEIGHBOUR: 'it returns false'. Refute it at one input. -/
def merkleUpdatesWrong : ChangeSpec := { name := "merkleUpdates", fn := fun _ => fun
  | [d1, d2, d3] => { results := [.lit (.bool false)], args := [d1, d2, d3] }
  | _ => none }
def MerkleUpdatesWrongFalsely : Prop := merkleUpdatesRow.holds Tryd.pinned (OpenSpec.ofChange merkleUpdatesWrong)

/-- 'wagonpoollaw04.MerkleDescent': WHATEVER THE INPUT: true; the input reads as it did. -/
def merkleDescentSpec : ChangeSpec := { name := "merkleDescent", fn := fun _ => fun
  | [d1, d2] => { results := [.lit (.bool true)], args := [d1, d2] }
  | _ => none }
def merkleDescentRow : OpenClaim := { program := "ytfplilhbfkhenaadoor", sum := "db5d0f56336689787a52b0ccb7d130f8f60cbfc24e4743c3f1239e02104a5da0", func := "wagonpool/wagonpoollaw04.MerkleDescent", spec := "merkleDescent", unfollowed := true, recurses := true, named := ["wagonpool/digest.k"], apart := false, laid := [("wagonpool/digest.k", laid_wagonpool_digest_k)] }
def MerkleDescentSaid : Prop := merkleDescentRow.holds Tryd.pinned (OpenSpec.ofChange merkleDescentSpec)

/-- ITS FALSE NEIGHBOUR: 'it returns false'. Refute it at one input. -/
def merkleDescentWrong : ChangeSpec := { name := "merkleDescent", fn := fun _ => fun
  | [d1, d2] => { results := [.lit (.bool false)], args := [d1, d2] }
  | _ => none }
def MerkleDescentWrongFalsely : Prop := merkleDescentRow.holds Tryd.pinned (OpenSpec.ofChange merkleDescentWrong)

/- THE SECOND FORM. 'bulk': how many values and letters a reading holds, each counted each time it is reached (what is shared counts as often as it is met; a slice's spare places count too). A statement '..UptoSaid' is the law's where the arguments, and the package variables that the reading takes, are together of bulk at most 1048576: NARROWER than '..Said'. Prove '..Said' where nothing that the law and all that it calls make is longer than what came in: it says more and counts as full. Else prove '..UptoSaid'. A law counts once. -/
mutual
def uptoBulk {H : Type} : DataW H → Nat
  | .lit (.string bytes) => bytes.length + 1
  | .lit _ => 1
  | .nil => 1
  | .ptr d => uptoBulk d + 1
  | .slice elems spare => uptoBulkAll elems + uptoBulkAll spare + 1
  | .agg parts => uptoBulkAll parts + 1
  | .iface _ d => uptoBulk d + 1
  | .map entries => uptoBulkEntries entries + 1
  | .held _ => 1
def uptoBulkAll {H : Type} : List (DataW H) → Nat
  | [] => 0
  | d :: r => uptoBulk d + uptoBulkAll r
def uptoBulkEntries {H : Type} : List (Lit × DataW H) → Nat
  | [] => 0
  | x :: r => uptoBulkEntry x + uptoBulkEntries r
def uptoBulkEntry {H : Type} : Lit × DataW H → Nat
  | (.string bytes, d) => bytes.length + uptoBulk d + 1
  | (_, d) => uptoBulk d + 1
 end
def uptoSmall : (H : Type) → List (DataW H) → Bool := fun _ ds => decide (uptoBulkAll ds ≤ 1048576)
def OpenSpec.upto (s : _root_.Go.ChangeSpec) : _root_.Go.OpenSpec := { _root_.Go.OpenSpec.ofChange s with cond := some uptoSmall }

/-- 'wagonpoollaw04.MerkleMatchesReference', WHERE WHAT IT READS IS OF BULK AT MOST 1048576: true; the input reads as it did. -/
def merkleMatchesReferenceUptoRow : OpenClaim := { program := "ytfplilhbfkhenaadoor", sum := "db5d0f56336689787a52b0ccb7d130f8f60cbfc24e4743c3f1239e02104a5da0", func := "wagonpool/wagonpoollaw04.MerkleMatchesReference", spec := "merkleMatchesReference", unfollowed := true, recurses := true, named := ["wagonpool/digest.k"], apart := false, laid := [("wagonpool/digest.k", laid_wagonpool_digest_k)], narrowed := true }
def MerkleMatchesReferenceUptoSaid : Prop := merkleMatchesReferenceUptoRow.holds Tryd.pinned (OpenSpec.upto merkleMatchesReferenceSpec)

/-- 'wagonpoollaw04.MerkleIncludesMatchesReference', WHERE WHAT IT READS IS OF BULK AT MOST 1048576: true; the input reads as it did. -/
def merkleIncludesMatchesReferenceUptoRow : OpenClaim := { program := "ytfplilhbfkhenaadoor", sum := "db5d0f56336689787a52b0ccb7d130f8f60cbfc24e4743c3f1239e02104a5da0", func := "wagonpool/wagonpoollaw04.MerkleIncludesMatchesReference", spec := "merkleIncludesMatchesReference", unfollowed := true, recurses := true, named := ["wagonpool/digest.k"], apart := false, laid := [("wagonpool/digest.k", laid_wagonpool_digest_k)], narrowed := true }
def MerkleIncludesMatchesReferenceUptoSaid : Prop := merkleIncludesMatchesReferenceUptoRow.holds Tryd.pinned (OpenSpec.upto merkleIncludesMatchesReferenceSpec)

/-- 'wagonpoollaw04.MerklePathsProve', WHERE WHAT IT READS IS OF BULK AT MOST 1048576: true; the input reads as it did. -/
def merklePathsProveUptoRow : OpenClaim := { program := "ytfplilhbfkhenaadoor", sum := "db5d0f56336689787a52b0ccb7d130f8f60cbfc24e4743c3f1239e02104a5da0", func := "wagonpool/wagonpoollaw04.MerklePathsProve", spec := "merklePathsProve", unfollowed := true, recurses := true, named := ["wagonpool/digest.k"], apart := false, laid := [("wagonpool/digest.k", laid_wagonpool_digest_k)], narrowed := true }
def MerklePathsProveUptoSaid : Prop := merklePathsProveUptoRow.holds Tryd.pinned (OpenSpec.upto merklePathsProveSpec)

/-- 'wagonpoollaw04.MerkleDepth', WHERE WHAT IT READS IS OF BULK AT MOST 1048576: true; the input reads as it did. -/
def merkleDepthUptoRow : OpenClaim := { program := "ytfplilhbfkhenaadoor", sum := "db5d0f56336689787a52b0ccb7d130f8f60cbfc24e4743c3f1239e02104a5da0", func := "wagonpool/wagonpoollaw04.MerkleDepth", spec := "merkleDepth", unfollowed := true, recurses := true, named := ["wagonpool/digest.k"], apart := false, laid := [("wagonpool/digest.k", laid_wagonpool_digest_k)], narrowed := true }
def MerkleDepthUptoSaid : Prop := merkleDepthUptoRow.holds Tryd.pinned (OpenSpec.upto merkleDepthSpec)

/-- 'wagonpoollaw04.MerkleNodes', WHERE WHAT IT READS IS OF BULK AT MOST 1048576: true; the input reads as it did. -/
def merkleNodesUptoRow : OpenClaim := { program := "ytfplilhbfkhenaadoor", sum := "db5d0f56336689787a52b0ccb7d130f8f60cbfc24e4743c3f1239e02104a5da0", func := "wagonpool/wagonpoollaw04.MerkleNodes", spec := "merkleNodes", unfollowed := true, recurses := true, named := ["wagonpool/digest.k"], apart := false, laid := [("wagonpool/digest.k", laid_wagonpool_digest_k)], narrowed := true }
def MerkleNodesUptoSaid : Prop := merkleNodesUptoRow.holds Tryd.pinned (OpenSpec.upto merkleNodesSpec)

/-- 'wagonpoollaw04.MerklePads', WHERE WHAT IT READS IS OF BULK AT MOST 1048576: true; the input reads as it did. -/
def merklePadsUptoRow : OpenClaim := { program := "ytfplilhbfkhenaadoor", sum := "db5d0f56336689787a52b0ccb7d130f8f60cbfc24e4743c3f1239e02104a5da0", func := "wagonpool/wagonpoollaw04.MerklePads", spec := "merklePads", unfollowed := true, recurses := true, named := ["wagonpool/digest.k"], apart := false, laid := [("wagonpool/digest.k", laid_wagonpool_digest_k)], narrowed := true }
def MerklePadsUptoSaid : Prop := merklePadsUptoRow.holds Tryd.pinned (OpenSpec.upto merklePadsSpec)

/-- 'wagonpoollaw04.MerkleUpdates', WHERE WHAT IT READS IS OF BULK AT MOST 1048576: true; the input reads as it did. -/
def merkleUpdatesUptoRow : OpenClaim := { program := "ytfplilhbfkhenaadoor", sum := "db5d0f56336689787a52b0ccb7d130f8f60cbfc24e4743c3f1239e02104a5da0", func := "wagonpool/wagonpoollaw04.MerkleUpdates", spec := "merkleUpdates", unfollowed := true, recurses := true, named := ["wagonpool/digest.k"], apart := false, laid := [("wagonpool/digest.k", laid_wagonpool_digest_k)], narrowed := true }
def MerkleUpdatesUptoSaid : Prop := merkleUpdatesUptoRow.holds Tryd.pinned (OpenSpec.upto merkleUpdatesSpec)

/-- 'wagonpoollaw04.MerkleDescent', WHERE WHAT IT READS IS OF BULK AT MOST 1048576: true; the input reads as it did. -/
def merkleDescentUptoRow : OpenClaim := { program := "ytfplilhbfkhenaadoor", sum := "db5d0f56336689787a52b0ccb7d130f8f60cbfc24e4743c3f1239e02104a5da0", func := "wagonpool/wagonpoollaw04.MerkleDescent", spec := "merkleDescent", unfollowed := true, recurses := true, named := ["wagonpool/digest.k"], apart := false, laid := [("wagonpool/digest.k", laid_wagonpool_digest_k)], narrowed := true }
def MerkleDescentUptoSaid : Prop := merkleDescentUptoRow.holds Tryd.pinned (OpenSpec.upto merkleDescentSpec)

end Rows
end Go.Proofs.YtfplilhbfkhenaaDoor
