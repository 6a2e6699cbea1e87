/-
  NARROWER THAN 'FOR EVERY INPUT', by the rows' own cells (each row's printed sentence says how): ArbiterMatches: laid · CourtDecides: laid · CourtDefaults: laid · CourtEnds: laid · CourtMatchesReference: laid · CourtOpens: laid · CourtProves: laid · CourtRefuses: laid · CourtSettles: laid.
  DERIVED. THE GIVEN ROWS OF THIS SEAT. 9 by the template 'for every input the law returns true; each argument reads behind the call as it read before'; 0 by the template 'total and deterministic' (their statements: YtijnglngaogdjaaGreatDoorTotals.lean).
  GIVEN WITH THE SEED: the statements are not yours to turn. If you find one false, say at which input.
  Laid BY PROGRAM, IN A SANDBOX (cutbox-rows.mjs): the forced cells as the released guide's own fill.sh prints them over the translation adeb848dd36a4e17… (all of the seat's roots in one cut). By AI agents, Wed Nov 11 2026. No macro, syntax, notation, axiom, sorry.
-/
import Derived.Test.YtijnglngaogdjaaGreatDoorChecked
import GoSem.Claim
import GoSem.ClaimJoined
import GoSem.ClaimMapViews
import Derived.JoinedTies
import Derived.KernelRfl
namespace Go.Proofs.YtijnglngaogdjaaGreatDoor
/- THE CELL 'sum', in the pinned program and in every row, IS THE sha256 OF THE DUMP (.gsa) THAT YtijnglngaogdjaaGreatDoorProg.lean LOADS. Nothing in Lean hashes anything: it is a label: what it is worth is what the hold of that sum in a sandbox is worth. -/
noncomputable def Tryz.pinned : Pinned := { name := "ytijnglngaogdjaagreatdoor", sum := "adeb848dd36a4e175a3c6af67728456e8b1260278db2f8403fe0fa9bea3800fd", checked := Tryz.checked }
namespace Rows
def none {H : Type} : Left H := { results := [], args := [] }

/- WHAT THE LISTED PACKAGE-LEVEL VARIABLES READ AS WHEN THE CALL BEGINS. Each datum BY PROGRAM (the guide's laid-datum.mjs) off the statement by which the dump's own 'gosem.cut.vars' lays the variable. In a bare row this is a premise. The card (YtijnglngaogdjaaGreatDoorCards.lean) ties it to the program's text. -/
def laid_wagonpool_digest_k {H : Type} : DataW H := .agg [.lit (.int .u32 1116352408), .lit (.int .u32 1899447441), .lit (.int .u32 3049323471), .lit (.int .u32 3921009573), .lit (.int .u32 961987163), .lit (.int .u32 1508970993), .lit (.int .u32 2453635748), .lit (.int .u32 2870763221), .lit (.int .u32 3624381080), .lit (.int .u32 310598401), .lit (.int .u32 607225278), .lit (.int .u32 1426881987), .lit (.int .u32 1925078388), .lit (.int .u32 2162078206), .lit (.int .u32 2614888103), .lit (.int .u32 3248222580), .lit (.int .u32 3835390401), .lit (.int .u32 4022224774), .lit (.int .u32 264347078), .lit (.int .u32 604807628), .lit (.int .u32 770255983), .lit (.int .u32 1249150122), .lit (.int .u32 1555081692), .lit (.int .u32 1996064986), .lit (.int .u32 2554220882), .lit (.int .u32 2821834349), .lit (.int .u32 2952996808), .lit (.int .u32 3210313671), .lit (.int .u32 3336571891), .lit (.int .u32 3584528711), .lit (.int .u32 113926993), .lit (.int .u32 338241895), .lit (.int .u32 666307205), .lit (.int .u32 773529912), .lit (.int .u32 1294757372), .lit (.int .u32 1396182291), .lit (.int .u32 1695183700), .lit (.int .u32 1986661051), .lit (.int .u32 2177026350), .lit (.int .u32 2456956037), .lit (.int .u32 2730485921), .lit (.int .u32 2820302411), .lit (.int .u32 3259730800), .lit (.int .u32 3345764771), .lit (.int .u32 3516065817), .lit (.int .u32 3600352804), .lit (.int .u32 4094571909), .lit (.int .u32 275423344), .lit (.int .u32 430227734), .lit (.int .u32 506948616), .lit (.int .u32 659060556), .lit (.int .u32 883997877), .lit (.int .u32 958139571), .lit (.int .u32 1322822218), .lit (.int .u32 1537002063), .lit (.int .u32 1747873779), .lit (.int .u32 1955562222), .lit (.int .u32 2024104815), .lit (.int .u32 2227730452), .lit (.int .u32 2361852424), .lit (.int .u32 2428436474), .lit (.int .u32 2756734187), .lit (.int .u32 3204031479), .lit (.int .u32 3329325298)]
def laid_wagonpool_tvm_binaries {H : Type} : DataW H := .iface "func table" (.map [(.int .i64 3, .agg [.iface "func" (.lit (.string [119, 97, 103, 111, 110, 112, 111, 111, 108, 47, 109, 111, 110, 101, 121, 46, 65, 100, 100]))]), (.int .i64 4, .agg [.iface "func" (.lit (.string [119, 97, 103, 111, 110, 112, 111, 111, 108, 47, 109, 111, 110, 101, 121, 46, 83, 117, 98]))]), (.int .i64 5, .agg [.iface "func" (.lit (.string [119, 97, 103, 111, 110, 112, 111, 111, 108, 47, 109, 111, 110, 101, 121, 46, 77, 117, 108]))]), (.int .i64 6, .agg [.iface "func" (.lit (.string [119, 97, 103, 111, 110, 112, 111, 111, 108, 47, 116, 118, 109, 46, 98, 105, 110, 97, 114, 105, 101, 115, 36, 49]))]), (.int .i64 7, .agg [.iface "func" (.lit (.string [119, 97, 103, 111, 110, 112, 111, 111, 108, 47, 116, 118, 109, 46, 98, 105, 110, 97, 114, 105, 101, 115, 36, 50]))]), (.int .i64 8, .agg [.iface "func" (.lit (.string [119, 97, 103, 111, 110, 112, 111, 111, 108, 47, 116, 118, 109, 46, 98, 105, 110, 97, 114, 105, 101, 115, 36, 51]))]), (.int .i64 9, .agg [.iface "func" (.lit (.string [119, 97, 103, 111, 110, 112, 111, 111, 108, 47, 116, 118, 109, 46, 98, 105, 110, 97, 114, 105, 101, 115, 36, 52]))]), (.int .i64 10, .agg [.iface "func" (.lit (.string [119, 97, 103, 111, 110, 112, 111, 111, 108, 47, 116, 118, 109, 46, 98, 105, 110, 97, 114, 105, 101, 115, 36, 53]))]), (.int .i64 11, .agg [.iface "func" (.lit (.string [119, 97, 103, 111, 110, 112, 111, 111, 108, 47, 116, 118, 109, 46, 98, 105, 110, 97, 114, 105, 101, 115, 36, 54]))])])

/-- 'wagonpoollaw39.ArbiterMatches': WHATEVER THE INPUT: true; the input reads as it did. -/
def arbiterMatchesSpec : ChangeSpec := { name := "arbiterMatches", fn := fun _ => fun
  | [d1, d2, d3, d4, d5] => { results := [.lit (.bool true)], args := [d1, d2, d3, d4, d5] }
  | _ => none }
def arbiterMatchesRow : OpenClaim := { program := "ytijnglngaogdjaagreatdoor", sum := "adeb848dd36a4e175a3c6af67728456e8b1260278db2f8403fe0fa9bea3800fd", func := "wagonpool/wagonpoollaw39.ArbiterMatches", spec := "arbiterMatches", unfollowed := true, recurses := true, named := ["wagonpool/tvm.binaries", "wagonpool/digest.k"], apart := false, laid := [("wagonpool/digest.k", laid_wagonpool_digest_k), ("wagonpool/tvm.binaries", laid_wagonpool_tvm_binaries)] }
def ArbiterMatchesSaid : Prop := arbiterMatchesRow.holds Tryz.pinned (OpenSpec.ofChange arbiterMatchesSpec)

/-- ITS FALSE NEIGHBOUR: 'it returns false'. Refute it at one input. -/
def arbiterMatchesWrong : ChangeSpec := { name := "arbiterMatches", fn := fun _ => fun
  | [d1, d2, d3, d4, d5] => { results := [.lit (.bool false)], args := [d1, d2, d3, d4, d5] }
  | _ => none }
def ArbiterMatchesWrongFalsely : Prop := arbiterMatchesRow.holds Tryz.pinned (OpenSpec.ofChange arbiterMatchesWrong)

/-- 'wagonpoollaw40.CourtDecides': WHATEVER THE INPUT: true; the input reads as it did. -/
def courtDecidesSpec : ChangeSpec := { name := "courtDecides", fn := fun _ => fun
  | [d1, d2, d3, d4, d5, d6] => { results := [.lit (.bool true)], args := [d1, d2, d3, d4, d5, d6] }
  | _ => none }
def courtDecidesRow : OpenClaim := { program := "ytijnglngaogdjaagreatdoor", sum := "adeb848dd36a4e175a3c6af67728456e8b1260278db2f8403fe0fa9bea3800fd", func := "wagonpool/wagonpoollaw40.CourtDecides", spec := "courtDecides", unfollowed := true, recurses := true, named := ["wagonpool/digest.k", "wagonpool/tvm.binaries"], apart := false, laid := [("wagonpool/digest.k", laid_wagonpool_digest_k), ("wagonpool/tvm.binaries", laid_wagonpool_tvm_binaries)] }
def CourtDecidesSaid : Prop := courtDecidesRow.holds Tryz.pinned (OpenSpec.ofChange courtDecidesSpec)

/-- ITS FALSE NEIGHBOUR: 'it returns false'. Refute it at one input. -/
def courtDecidesWrong : ChangeSpec := { name := "courtDecides", fn := fun _ => fun
  | [d1, d2, d3, d4, d5, d6] => { results := [.lit (.bool false)], args := [d1, d2, d3, d4, d5, d6] }
  | _ => none }
def CourtDecidesWrongFalsely : Prop := courtDecidesRow.holds Tryz.pinned (OpenSpec.ofChange courtDecidesWrong)

/-- 'wagonpoollaw40.CourtDefaults': WHATEVER THE INPUT: true; the input reads as it did. -/
def courtDefaultsSpec : ChangeSpec := { name := "courtDefaults", fn := fun _ => fun
  | [d1, d2] => { results := [.lit (.bool true)], args := [d1, d2] }
  | _ => none }
def courtDefaultsRow : OpenClaim := { program := "ytijnglngaogdjaagreatdoor", sum := "adeb848dd36a4e175a3c6af67728456e8b1260278db2f8403fe0fa9bea3800fd", func := "wagonpool/wagonpoollaw40.CourtDefaults", spec := "courtDefaults", unfollowed := true, recurses := true, named := ["wagonpool/digest.k", "wagonpool/tvm.binaries"], apart := false, laid := [("wagonpool/digest.k", laid_wagonpool_digest_k), ("wagonpool/tvm.binaries", laid_wagonpool_tvm_binaries)] }
def CourtDefaultsSaid : Prop := courtDefaultsRow.holds Tryz.pinned (OpenSpec.ofChange courtDefaultsSpec)

/-- ITS FALSE NEIGHBOUR: 'it returns false'. Refute it at one input. -/
def courtDefaultsWrong : ChangeSpec := { name := "courtDefaults", fn := fun _ => fun
  | [d1, d2] => { results := [.lit (.bool false)], args := [d1, d2] }
  | _ => none }
def CourtDefaultsWrongFalsely : Prop := courtDefaultsRow.holds Tryz.pinned (OpenSpec.ofChange courtDefaultsWrong)

/-- 'wagonpoollaw40.CourtEnds': WHATEVER THE INPUT: true; the input reads as it did. -/
def courtEndsSpec : ChangeSpec := { name := "courtEnds", fn := fun _ => fun
  | [d1, d2, d3, d4, d5] => { results := [.lit (.bool true)], args := [d1, d2, d3, d4, d5] }
  | _ => none }
def courtEndsRow : OpenClaim := { program := "ytijnglngaogdjaagreatdoor", sum := "adeb848dd36a4e175a3c6af67728456e8b1260278db2f8403fe0fa9bea3800fd", func := "wagonpool/wagonpoollaw40.CourtEnds", spec := "courtEnds", unfollowed := true, recurses := true, named := ["wagonpool/digest.k", "wagonpool/tvm.binaries"], apart := false, laid := [("wagonpool/digest.k", laid_wagonpool_digest_k), ("wagonpool/tvm.binaries", laid_wagonpool_tvm_binaries)] }
def CourtEndsSaid : Prop := courtEndsRow.holds Tryz.pinned (OpenSpec.ofChange courtEndsSpec)

/-- ITS FALSE NEIGHBOUR: 'it returns false'. Refute it at one input. -/
def courtEndsWrong : ChangeSpec := { name := "courtEnds", fn := fun _ => fun
  | [d1, d2, d3, d4, d5] => { results := [.lit (.bool false)], args := [d1, d2, d3, d4, d5] }
  | _ => none }
def CourtEndsWrongFalsely : Prop := courtEndsRow.holds Tryz.pinned (OpenSpec.ofChange courtEndsWrong)

/-- 'wagonpoollaw40.CourtMatchesReference': WHATEVER THE INPUT: true; the input reads as it did. -/
def courtMatchesReferenceSpec : ChangeSpec := { name := "courtMatchesReference", fn := fun _ => fun
  | [d1, d2, d3, d4, d5] => { results := [.lit (.bool true)], args := [d1, d2, d3, d4, d5] }
  | _ => none }
def courtMatchesReferenceRow : OpenClaim := { program := "ytijnglngaogdjaagreatdoor", sum := "adeb848dd36a4e175a3c6af67728456e8b1260278db2f8403fe0fa9bea3800fd", func := "wagonpool/wagonpoollaw40.CourtMatchesReference", spec := "courtMatchesReference", unfollowed := true, recurses := true, named := ["wagonpool/digest.k", "wagonpool/tvm.binaries"], apart := false, laid := [("wagonpool/digest.k", laid_wagonpool_digest_k), ("wagonpool/tvm.binaries", laid_wagonpool_tvm_binaries)] }
def CourtMatchesReferenceSaid : Prop := courtMatchesReferenceRow.holds Tryz.pinned (OpenSpec.ofChange courtMatchesReferenceSpec)

/-- ITS FALSE NEIGHBOUR: 'it returns false'. Refute it at one input. -/
def courtMatchesReferenceWrong : ChangeSpec := { name := "courtMatchesReference", fn := fun _ => fun
  | [d1, d2, d3, d4, d5] => { results := [.lit (.bool false)], args := [d1, d2, d3, d4, d5] }
  | _ => none }
def CourtMatchesReferenceWrongFalsely : Prop := courtMatchesReferenceRow.holds Tryz.pinned (OpenSpec.ofChange courtMatchesReferenceWrong)

/-- 'wagonpoollaw40.CourtOpens': WHATEVER THE INPUT: true; the input reads as it did. -/
def courtOpensSpec : ChangeSpec := { name := "courtOpens", fn := fun _ => fun
  | [d1, d2, d3, d4, d5] => { results := [.lit (.bool true)], args := [d1, d2, d3, d4, d5] }
  | _ => none }
def courtOpensRow : OpenClaim := { program := "ytijnglngaogdjaagreatdoor", sum := "adeb848dd36a4e175a3c6af67728456e8b1260278db2f8403fe0fa9bea3800fd", func := "wagonpool/wagonpoollaw40.CourtOpens", spec := "courtOpens", unfollowed := true, recurses := true, named := ["wagonpool/digest.k", "wagonpool/tvm.binaries"], apart := false, laid := [("wagonpool/digest.k", laid_wagonpool_digest_k), ("wagonpool/tvm.binaries", laid_wagonpool_tvm_binaries)] }
def CourtOpensSaid : Prop := courtOpensRow.holds Tryz.pinned (OpenSpec.ofChange courtOpensSpec)

/-- ITS FALSE NEIGHBOUR: 'it returns false'. Refute it at one input. -/
def courtOpensWrong : ChangeSpec := { name := "courtOpens", fn := fun _ => fun
  | [d1, d2, d3, d4, d5] => { results := [.lit (.bool false)], args := [d1, d2, d3, d4, d5] }
  | _ => none }
def CourtOpensWrongFalsely : Prop := courtOpensRow.holds Tryz.pinned (OpenSpec.ofChange courtOpensWrong)

/-- 'wagonpoollaw40.CourtProves': WHATEVER THE INPUT: true; the input reads as it did. -/
def courtProvesSpec : ChangeSpec := { name := "courtProves", fn := fun _ => fun
  | [d1, d2, d3, d4, d5, d6] => { results := [.lit (.bool true)], args := [d1, d2, d3, d4, d5, d6] }
  | _ => none }
def courtProvesRow : OpenClaim := { program := "ytijnglngaogdjaagreatdoor", sum := "adeb848dd36a4e175a3c6af67728456e8b1260278db2f8403fe0fa9bea3800fd", func := "wagonpool/wagonpoollaw40.CourtProves", spec := "courtProves", unfollowed := true, recurses := true, named := ["wagonpool/digest.k", "wagonpool/tvm.binaries"], apart := false, laid := [("wagonpool/digest.k", laid_wagonpool_digest_k), ("wagonpool/tvm.binaries", laid_wagonpool_tvm_binaries)] }
def CourtProvesSaid : Prop := courtProvesRow.holds Tryz.pinned (OpenSpec.ofChange courtProvesSpec)

/-- ITS FALSE NEIGHBOUR: 'it returns false'. Refute it at one input. -/
def courtProvesWrong : ChangeSpec := { name := "courtProves", fn := fun _ => fun
  | [d1, d2, d3, d4, d5, d6] => { results := [.lit (.bool false)], args := [d1, d2, d3, d4, d5, d6] }
  | _ => none }
def CourtProvesWrongFalsely : Prop := courtProvesRow.holds Tryz.pinned (OpenSpec.ofChange courtProvesWrong)

/-- 'wagonpoollaw40.CourtRefuses': WHATEVER THE INPUT: true; the input reads as it did. -/
def courtRefusesSpec : ChangeSpec := { name := "courtRefuses", fn := fun _ => fun
  | [d1, d2, d3, d4, d5] => { results := [.lit (.bool true)], args := [d1, d2, d3, d4, d5] }
  | _ => none }
def courtRefusesRow : OpenClaim := { program := "ytijnglngaogdjaagreatdoor", sum := "adeb848dd36a4e175a3c6af67728456e8b1260278db2f8403fe0fa9bea3800fd", func := "wagonpool/wagonpoollaw40.CourtRefuses", spec := "courtRefuses", unfollowed := true, recurses := true, named := ["wagonpool/digest.k", "wagonpool/tvm.binaries"], apart := false, laid := [("wagonpool/digest.k", laid_wagonpool_digest_k), ("wagonpool/tvm.binaries", laid_wagonpool_tvm_binaries)] }
def CourtRefusesSaid : Prop := courtRefusesRow.holds Tryz.pinned (OpenSpec.ofChange courtRefusesSpec)

/-- ITS FALSE NEIGHBOUR: 'it returns false'. Refute it at one input. -/
def courtRefusesWrong : ChangeSpec := { name := "courtRefuses", fn := fun _ => fun
  | [d1, d2, d3, d4, d5] => { results := [.lit (.bool false)], args := [d1, d2, d3, d4, d5] }
  | _ => none }
def CourtRefusesWrongFalsely : Prop := courtRefusesRow.holds Tryz.pinned (OpenSpec.ofChange courtRefusesWrong)

/-- 'wagonpoollaw40.CourtSettles': WHATEVER THE INPUT: true; the input reads as it did. -/
def courtSettlesSpec : ChangeSpec := { name := "courtSettles", fn := fun _ => fun
  | [d1, d2, d3, d4] => { results := [.lit (.bool true)], args := [d1, d2, d3, d4] }
  | _ => none }
def courtSettlesRow : OpenClaim := { program := "ytijnglngaogdjaagreatdoor", sum := "adeb848dd36a4e175a3c6af67728456e8b1260278db2f8403fe0fa9bea3800fd", func := "wagonpool/wagonpoollaw40.CourtSettles", spec := "courtSettles", unfollowed := true, recurses := true, named := ["wagonpool/digest.k", "wagonpool/tvm.binaries"], apart := false, laid := [("wagonpool/digest.k", laid_wagonpool_digest_k), ("wagonpool/tvm.binaries", laid_wagonpool_tvm_binaries)] }
def CourtSettlesSaid : Prop := courtSettlesRow.holds Tryz.pinned (OpenSpec.ofChange courtSettlesSpec)

/-- ITS FALSE NEIGHBOUR: 'it returns false'. Refute it at one input. -/
def courtSettlesWrong : ChangeSpec := { name := "courtSettles", fn := fun _ => fun
  | [d1, d2, d3, d4] => { results := [.lit (.bool false)], args := [d1, d2, d3, d4] }
  | _ => none }
def CourtSettlesWrongFalsely : Prop := courtSettlesRow.holds Tryz.pinned (OpenSpec.ofChange courtSettlesWrong)

/- THE SECOND FORM. 'bulk': how many values and letters a reading holds, each counted each time it is reached (what is shared counts as often as it is met; a slice's spare places count too). A statement '..UptoSaid' is the law's where the arguments, and the package variables that the reading takes, are together of bulk at most 1048576: NARROWER than '..Said'. Prove '..Said' where nothing that the law and all that it calls make is longer than what came in: it says more and counts as full. Else prove '..UptoSaid'. A law counts once. -/
mutual
def uptoBulk {H : Type} : DataW H → Nat
  | .lit (.string bytes) => bytes.length + 1
  | .lit _ => 1
  | .nil => 1
  | .ptr d => uptoBulk d + 1
  | .slice elems spare => uptoBulkAll elems + uptoBulkAll spare + 1
  | .agg parts => uptoBulkAll parts + 1
  | .iface _ d => uptoBulk d + 1
  | .map entries => uptoBulkEntries entries + 1
  | .held _ => 1
def uptoBulkAll {H : Type} : List (DataW H) → Nat
  | [] => 0
  | d :: r => uptoBulk d + uptoBulkAll r
def uptoBulkEntries {H : Type} : List (Lit × DataW H) → Nat
  | [] => 0
  | x :: r => uptoBulkEntry x + uptoBulkEntries r
def uptoBulkEntry {H : Type} : Lit × DataW H → Nat
  | (.string bytes, d) => bytes.length + uptoBulk d + 1
  | (_, d) => uptoBulk d + 1
 end
def uptoSmall : (H : Type) → List (DataW H) → Bool := fun _ ds => decide (uptoBulkAll ds ≤ 1048576)
def OpenSpec.upto (s : _root_.Go.ChangeSpec) : _root_.Go.OpenSpec := { _root_.Go.OpenSpec.ofChange s with cond := some uptoSmall }

/-- 'wagonpoollaw39.ArbiterMatches', WHERE WHAT IT READS IS OF BULK AT MOST 1048576: true; the input reads as it did. -/
def arbiterMatchesUptoRow : OpenClaim := { program := "ytijnglngaogdjaagreatdoor", sum := "adeb848dd36a4e175a3c6af67728456e8b1260278db2f8403fe0fa9bea3800fd", func := "wagonpool/wagonpoollaw39.ArbiterMatches", spec := "arbiterMatches", unfollowed := true, recurses := true, named := ["wagonpool/tvm.binaries", "wagonpool/digest.k"], apart := false, laid := [("wagonpool/digest.k", laid_wagonpool_digest_k), ("wagonpool/tvm.binaries", laid_wagonpool_tvm_binaries)], narrowed := true }
def ArbiterMatchesUptoSaid : Prop := arbiterMatchesUptoRow.holds Tryz.pinned (OpenSpec.upto arbiterMatchesSpec)

/-- 'wagonpoollaw40.CourtDecides', WHERE WHAT IT READS IS OF BULK AT MOST 1048576: true; the input reads as it did. -/
def courtDecidesUptoRow : OpenClaim := { program := "ytijnglngaogdjaagreatdoor", sum := "adeb848dd36a4e175a3c6af67728456e8b1260278db2f8403fe0fa9bea3800fd", func := "wagonpool/wagonpoollaw40.CourtDecides", spec := "courtDecides", unfollowed := true, recurses := true, named := ["wagonpool/digest.k", "wagonpool/tvm.binaries"], apart := false, laid := [("wagonpool/digest.k", laid_wagonpool_digest_k), ("wagonpool/tvm.binaries", laid_wagonpool_tvm_binaries)], narrowed := true }
def CourtDecidesUptoSaid : Prop := courtDecidesUptoRow.holds Tryz.pinned (OpenSpec.upto courtDecidesSpec)

/-- 'wagonpoollaw40.CourtDefaults', WHERE WHAT IT READS IS OF BULK AT MOST 1048576: true; the input reads as it did. -/
def courtDefaultsUptoRow : OpenClaim := { program := "ytijnglngaogdjaagreatdoor", sum := "adeb848dd36a4e175a3c6af67728456e8b1260278db2f8403fe0fa9bea3800fd", func := "wagonpool/wagonpoollaw40.CourtDefaults", spec := "courtDefaults", unfollowed := true, recurses := true, named := ["wagonpool/digest.k", "wagonpool/tvm.binaries"], apart := false, laid := [("wagonpool/digest.k", laid_wagonpool_digest_k), ("wagonpool/tvm.binaries", laid_wagonpool_tvm_binaries)], narrowed := true }
def CourtDefaultsUptoSaid : Prop := courtDefaultsUptoRow.holds Tryz.pinned (OpenSpec.upto courtDefaultsSpec)

/-- 'wagonpoollaw40.CourtEnds', WHERE WHAT IT READS IS OF BULK AT MOST 1048576: true; the input reads as it did. -/
def courtEndsUptoRow : OpenClaim := { program := "ytijnglngaogdjaagreatdoor", sum := "adeb848dd36a4e175a3c6af67728456e8b1260278db2f8403fe0fa9bea3800fd", func := "wagonpool/wagonpoollaw40.CourtEnds", spec := "courtEnds", unfollowed := true, recurses := true, named := ["wagonpool/digest.k", "wagonpool/tvm.binaries"], apart := false, laid := [("wagonpool/digest.k", laid_wagonpool_digest_k), ("wagonpool/tvm.binaries", laid_wagonpool_tvm_binaries)], narrowed := true }
def CourtEndsUptoSaid : Prop := courtEndsUptoRow.holds Tryz.pinned (OpenSpec.upto courtEndsSpec)

/-- 'wagonpoollaw40.CourtMatchesReference', WHERE WHAT IT READS IS OF BULK AT MOST 1048576: true; the input reads as it did. -/
def courtMatchesReferenceUptoRow : OpenClaim := { program := "ytijnglngaogdjaagreatdoor", sum := "adeb848dd36a4e175a3c6af67728456e8b1260278db2f8403fe0fa9bea3800fd", func := "wagonpool/wagonpoollaw40.CourtMatchesReference", spec := "courtMatchesReference", unfollowed := true, recurses := true, named := ["wagonpool/digest.k", "wagonpool/tvm.binaries"], apart := false, laid := [("wagonpool/digest.k", laid_wagonpool_digest_k), ("wagonpool/tvm.binaries", laid_wagonpool_tvm_binaries)], narrowed := true }
def CourtMatchesReferenceUptoSaid : Prop := courtMatchesReferenceUptoRow.holds Tryz.pinned (OpenSpec.upto courtMatchesReferenceSpec)

/-- 'wagonpoollaw40.CourtOpens', WHERE WHAT IT READS IS OF BULK AT MOST 1048576: true; the input reads as it did. -/
def courtOpensUptoRow : OpenClaim := { program := "ytijnglngaogdjaagreatdoor", sum := "adeb848dd36a4e175a3c6af67728456e8b1260278db2f8403fe0fa9bea3800fd", func := "wagonpool/wagonpoollaw40.CourtOpens", spec := "courtOpens", unfollowed := true, recurses := true, named := ["wagonpool/digest.k", "wagonpool/tvm.binaries"], apart := false, laid := [("wagonpool/digest.k", laid_wagonpool_digest_k), ("wagonpool/tvm.binaries", laid_wagonpool_tvm_binaries)], narrowed := true }
def CourtOpensUptoSaid : Prop := courtOpensUptoRow.holds Tryz.pinned (OpenSpec.upto courtOpensSpec)

/-- 'wagonpoollaw40.CourtProves', WHERE WHAT IT READS IS OF BULK AT MOST 1048576: true; the input reads as it did. -/
def courtProvesUptoRow : OpenClaim := { program := "ytijnglngaogdjaagreatdoor", sum := "adeb848dd36a4e175a3c6af67728456e8b1260278db2f8403fe0fa9bea3800fd", func := "wagonpool/wagonpoollaw40.CourtProves", spec := "courtProves", unfollowed := true, recurses := true, named := ["wagonpool/digest.k", "wagonpool/tvm.binaries"], apart := false, laid := [("wagonpool/digest.k", laid_wagonpool_digest_k), ("wagonpool/tvm.binaries", laid_wagonpool_tvm_binaries)], narrowed := true }
def CourtProvesUptoSaid : Prop := courtProvesUptoRow.holds Tryz.pinned (OpenSpec.upto courtProvesSpec)

/-- 'wagonpoollaw40.CourtRefuses', WHERE WHAT IT READS IS OF BULK AT MOST 1048576: true; the input reads as it did. -/
def courtRefusesUptoRow : OpenClaim := { program := "ytijnglngaogdjaagreatdoor", sum := "adeb848dd36a4e175a3c6af67728456e8b1260278db2f8403fe0fa9bea3800fd", func := "wagonpool/wagonpoollaw40.CourtRefuses", spec := "courtRefuses", unfollowed := true, recurses := true, named := ["wagonpool/digest.k", "wagonpool/tvm.binaries"], apart := false, laid := [("wagonpool/digest.k", laid_wagonpool_digest_k), ("wagonpool/tvm.binaries", laid_wagonpool_tvm_binaries)], narrowed := true }
def CourtRefusesUptoSaid : Prop := courtRefusesUptoRow.holds Tryz.pinned (OpenSpec.upto courtRefusesSpec)

/-- 'wagonpoollaw40.CourtSettles', WHERE WHAT IT READS IS OF BULK AT MOST 1048576: true; the input reads as it did. -/
def courtSettlesUptoRow : OpenClaim := { program := "ytijnglngaogdjaagreatdoor", sum := "adeb848dd36a4e175a3c6af67728456e8b1260278db2f8403fe0fa9bea3800fd", func := "wagonpool/wagonpoollaw40.CourtSettles", spec := "courtSettles", unfollowed := true, recurses := true, named := ["wagonpool/digest.k", "wagonpool/tvm.binaries"], apart := false, laid := [("wagonpool/digest.k", laid_wagonpool_digest_k), ("wagonpool/tvm.binaries", laid_wagonpool_tvm_binaries)], narrowed := true }
def CourtSettlesUptoSaid : Prop := courtSettlesUptoRow.holds Tryz.pinned (OpenSpec.upto courtSettlesSpec)

end Rows
end Go.Proofs.YtijnglngaogdjaaGreatDoor
