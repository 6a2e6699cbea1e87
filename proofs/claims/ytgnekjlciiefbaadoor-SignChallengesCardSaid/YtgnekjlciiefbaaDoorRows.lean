/-
  NARROWER THAN 'FOR EVERY INPUT', by the rows' own cells (each row's printed sentence says how): SignChallenges: laid · SignHalves: laid · SignKeys: laid · SignLimits: laid · SignMatches: laid · SignMatchesVerify: laid · SignPowers: laid · SignVerifies: laid.
  DERIVED. THE GIVEN ROWS OF THIS SEAT. 8 by the template 'for every input the law returns true; each argument reads behind the call as it read before'; 0 by the template 'total and deterministic' (their statements: YtgnekjlciiefbaaDoorTotals.lean).
  GIVEN WITH THE SEED: the statements are not yours to turn. If you find one false, say at which input.
  Laid BY PROGRAM, IN A SANDBOX (cutbox-rows.mjs): the forced cells as the released guide's own fill.sh prints them over the translation 7a6fe7aa472cd1a1… (all of the seat's roots in one cut). By AI agents, Wed Nov 11 2026. No macro, syntax, notation, axiom, sorry.
-/
import Derived.Test.YtgnekjlciiefbaaDoorChecked
import GoSem.Claim
import GoSem.ClaimJoined
import GoSem.ClaimMapViews
import Derived.JoinedTies
import Derived.KernelRfl
namespace Go.Proofs.YtgnekjlciiefbaaDoor
/- THE CELL 'sum', in the pinned program and in every row, IS THE sha256 OF THE DUMP (.gsa) THAT YtgnekjlciiefbaaDoorProg.lean LOADS. Nothing in Lean hashes anything: it is a label: what it is worth is what the hold of that sum in a sandbox is worth. -/
noncomputable def Tryd.pinned : Pinned := { name := "ytgnekjlciiefbaadoor", sum := "7a6fe7aa472cd1a14e2b0b71df7a1ea85dffc18e8d05d39dcbb303ab7ddebea4", checked := Tryd.checked }
namespace Rows
def none {H : Type} : Left H := { results := [], args := [] }

/- WHAT THE LISTED PACKAGE-LEVEL VARIABLES READ AS WHEN THE CALL BEGINS. Each datum BY PROGRAM (the guide's laid-datum.mjs) off the statement by which the dump's own 'gosem.cut.vars' lays the variable. In a bare row this is a premise. The card (YtgnekjlciiefbaaDoorCards.lean) ties it to the program's text. -/
def laid_wagonpool_digest_k {H : Type} : DataW H := .agg [.lit (.int .u32 1116352408), .lit (.int .u32 1899447441), .lit (.int .u32 3049323471), .lit (.int .u32 3921009573), .lit (.int .u32 961987163), .lit (.int .u32 1508970993), .lit (.int .u32 2453635748), .lit (.int .u32 2870763221), .lit (.int .u32 3624381080), .lit (.int .u32 310598401), .lit (.int .u32 607225278), .lit (.int .u32 1426881987), .lit (.int .u32 1925078388), .lit (.int .u32 2162078206), .lit (.int .u32 2614888103), .lit (.int .u32 3248222580), .lit (.int .u32 3835390401), .lit (.int .u32 4022224774), .lit (.int .u32 264347078), .lit (.int .u32 604807628), .lit (.int .u32 770255983), .lit (.int .u32 1249150122), .lit (.int .u32 1555081692), .lit (.int .u32 1996064986), .lit (.int .u32 2554220882), .lit (.int .u32 2821834349), .lit (.int .u32 2952996808), .lit (.int .u32 3210313671), .lit (.int .u32 3336571891), .lit (.int .u32 3584528711), .lit (.int .u32 113926993), .lit (.int .u32 338241895), .lit (.int .u32 666307205), .lit (.int .u32 773529912), .lit (.int .u32 1294757372), .lit (.int .u32 1396182291), .lit (.int .u32 1695183700), .lit (.int .u32 1986661051), .lit (.int .u32 2177026350), .lit (.int .u32 2456956037), .lit (.int .u32 2730485921), .lit (.int .u32 2820302411), .lit (.int .u32 3259730800), .lit (.int .u32 3345764771), .lit (.int .u32 3516065817), .lit (.int .u32 3600352804), .lit (.int .u32 4094571909), .lit (.int .u32 275423344), .lit (.int .u32 430227734), .lit (.int .u32 506948616), .lit (.int .u32 659060556), .lit (.int .u32 883997877), .lit (.int .u32 958139571), .lit (.int .u32 1322822218), .lit (.int .u32 1537002063), .lit (.int .u32 1747873779), .lit (.int .u32 1955562222), .lit (.int .u32 2024104815), .lit (.int .u32 2227730452), .lit (.int .u32 2361852424), .lit (.int .u32 2428436474), .lit (.int .u32 2756734187), .lit (.int .u32 3204031479), .lit (.int .u32 3329325298)]

/-- 'wagonpoollaw03.SignChallenges': WHATEVER THE INPUT: true; the input reads as it did. -/
def signChallengesSpec : ChangeSpec := { name := "signChallenges", fn := fun _ => fun
  | [d1, d2, d3] => { results := [.lit (.bool true)], args := [d1, d2, d3] }
  | _ => none }
def signChallengesRow : OpenClaim := { program := "ytgnekjlciiefbaadoor", sum := "7a6fe7aa472cd1a14e2b0b71df7a1ea85dffc18e8d05d39dcbb303ab7ddebea4", func := "wagonpool/wagonpoollaw03.SignChallenges", spec := "signChallenges", unfollowed := true, recurses := true, named := ["math/bits.divideError", "math/bits.overflowError", "wagonpool/digest.k"], apart := false, laid := [("wagonpool/digest.k", laid_wagonpool_digest_k)] }
def SignChallengesSaid : Prop := signChallengesRow.holds Tryd.pinned (OpenSpec.ofChange signChallengesSpec)

/-- ITS FALSE NEIGHBOUR: 'it returns false'. Refute it at one input. -/
def signChallengesWrong : ChangeSpec := { name := "signChallenges", fn := fun _ => fun
  | [d1, d2, d3] => { results := [.lit (.bool false)], args := [d1, d2, d3] }
  | _ => none }
def SignChallengesWrongFalsely : Prop := signChallengesRow.holds Tryd.pinned (OpenSpec.ofChange signChallengesWrong)

/-- 'wagonpoollaw03.SignHalves': WHATEVER THE INPUT: true; the input reads as it did. -/
def signHalvesSpec : ChangeSpec := { name := "signHalves", fn := fun _ => fun
  | [d] => { results := [.lit (.bool true)], args := [d] }
  | _ => none }
def signHalvesRow : OpenClaim := { program := "ytgnekjlciiefbaadoor", sum := "7a6fe7aa472cd1a14e2b0b71df7a1ea85dffc18e8d05d39dcbb303ab7ddebea4", func := "wagonpool/wagonpoollaw03.SignHalves", spec := "signHalves", unfollowed := true, recurses := true, named := ["math/bits.divideError", "math/bits.overflowError", "wagonpool/digest.k"], apart := false, laid := [("wagonpool/digest.k", laid_wagonpool_digest_k)] }
def SignHalvesSaid : Prop := signHalvesRow.holds Tryd.pinned (OpenSpec.ofChange signHalvesSpec)

/-- ITS FALSE NEIGHBOUR: 'it returns false'. Refute it at one input. -/
def signHalvesWrong : ChangeSpec := { name := "signHalves", fn := fun _ => fun
  | [d] => { results := [.lit (.bool false)], args := [d] }
  | _ => none }
def SignHalvesWrongFalsely : Prop := signHalvesRow.holds Tryd.pinned (OpenSpec.ofChange signHalvesWrong)

/-- 'wagonpoollaw03.SignKeys': WHATEVER THE INPUT: true; the input reads as it did. -/
def signKeysSpec : ChangeSpec := { name := "signKeys", fn := fun _ => fun
  | [d1, d2] => { results := [.lit (.bool true)], args := [d1, d2] }
  | _ => none }
def signKeysRow : OpenClaim := { program := "ytgnekjlciiefbaadoor", sum := "7a6fe7aa472cd1a14e2b0b71df7a1ea85dffc18e8d05d39dcbb303ab7ddebea4", func := "wagonpool/wagonpoollaw03.SignKeys", spec := "signKeys", unfollowed := true, recurses := true, named := ["math/bits.divideError", "math/bits.overflowError", "wagonpool/digest.k"], apart := false, laid := [("wagonpool/digest.k", laid_wagonpool_digest_k)] }
def SignKeysSaid : Prop := signKeysRow.holds Tryd.pinned (OpenSpec.ofChange signKeysSpec)

/-- ITS FALSE NEIGHBOUR: 'it returns false'. Refute it at one input. -/
def signKeysWrong : ChangeSpec := { name := "signKeys", fn := fun _ => fun
  | [d1, d2] => { results := [.lit (.bool false)], args := [d1, d2] }
  | _ => none }
def SignKeysWrongFalsely : Prop := signKeysRow.holds Tryd.pinned (OpenSpec.ofChange signKeysWrong)

/-- 'wagonpoollaw03.SignLimits': WHATEVER THE INPUT: true; the input reads as it did. -/
def signLimitsSpec : ChangeSpec := { name := "signLimits", fn := fun _ => fun
  | [d1, d2, d3] => { results := [.lit (.bool true)], args := [d1, d2, d3] }
  | _ => none }
def signLimitsRow : OpenClaim := { program := "ytgnekjlciiefbaadoor", sum := "7a6fe7aa472cd1a14e2b0b71df7a1ea85dffc18e8d05d39dcbb303ab7ddebea4", func := "wagonpool/wagonpoollaw03.SignLimits", spec := "signLimits", unfollowed := true, recurses := true, named := ["math/bits.divideError", "math/bits.overflowError", "wagonpool/digest.k"], apart := false, laid := [("wagonpool/digest.k", laid_wagonpool_digest_k)] }
def SignLimitsSaid : Prop := signLimitsRow.holds Tryd.pinned (OpenSpec.ofChange signLimitsSpec)

/-- ITS FALSE NEIGHBOUR: 'it returns false'. Refute it at one input. -/
def signLimitsWrong : ChangeSpec := { name := "signLimits", fn := fun _ => fun
  | [d1, d2, d3] => { results := [.lit (.bool false)], args := [d1, d2, d3] }
  | _ => none }
def SignLimitsWrongFalsely : Prop := signLimitsRow.holds Tryd.pinned (OpenSpec.ofChange signLimitsWrong)

/-- 'wagonpoollaw03.SignMatches': WHATEVER THE INPUT: true; the input reads as it did. -/
def signMatchesSpec : ChangeSpec := { name := "signMatches", fn := fun _ => fun
  | [d1, d2, d3] => { results := [.lit (.bool true)], args := [d1, d2, d3] }
  | _ => none }
def signMatchesRow : OpenClaim := { program := "ytgnekjlciiefbaadoor", sum := "7a6fe7aa472cd1a14e2b0b71df7a1ea85dffc18e8d05d39dcbb303ab7ddebea4", func := "wagonpool/wagonpoollaw03.SignMatches", spec := "signMatches", unfollowed := true, recurses := true, named := ["math/bits.divideError", "math/bits.overflowError", "wagonpool/digest.k"], apart := false, laid := [("wagonpool/digest.k", laid_wagonpool_digest_k)] }
def SignMatchesSaid : Prop := signMatchesRow.holds Tryd.pinned (OpenSpec.ofChange signMatchesSpec)

/-- ITS FALSE NEIGHBOUR: 'it returns false'. Refute it at one input. -/
def signMatchesWrong : ChangeSpec := { name := "signMatches", fn := fun _ => fun
  | [d1, d2, d3] => { results := [.lit (.bool false)], args := [d1, d2, d3] }
  | _ => none }
def SignMatchesWrongFalsely : Prop := signMatchesRow.holds Tryd.pinned (OpenSpec.ofChange signMatchesWrong)

/-- 'wagonpoollaw03.SignMatchesVerify': WHATEVER THE INPUT: true; the input reads as it did. -/
def signMatchesVerifySpec : ChangeSpec := { name := "signMatchesVerify", fn := fun _ => fun
  | [d1, d2, d3] => { results := [.lit (.bool true)], args := [d1, d2, d3] }
  | _ => none }
def signMatchesVerifyRow : OpenClaim := { program := "ytgnekjlciiefbaadoor", sum := "7a6fe7aa472cd1a14e2b0b71df7a1ea85dffc18e8d05d39dcbb303ab7ddebea4", func := "wagonpool/wagonpoollaw03.SignMatchesVerify", spec := "signMatchesVerify", unfollowed := true, recurses := true, named := ["math/bits.divideError", "math/bits.overflowError", "wagonpool/digest.k"], apart := false, laid := [("wagonpool/digest.k", laid_wagonpool_digest_k)] }
def SignMatchesVerifySaid : Prop := signMatchesVerifyRow.holds Tryd.pinned (OpenSpec.ofChange signMatchesVerifySpec)

/-- ITS FALSE NEIGHBOUR: 'it returns false'. Refute it at one input. -/
def signMatchesVerifyWrong : ChangeSpec := { name := "signMatchesVerify", fn := fun _ => fun
  | [d1, d2, d3] => { results := [.lit (.bool false)], args := [d1, d2, d3] }
  | _ => none }
def SignMatchesVerifyWrongFalsely : Prop := signMatchesVerifyRow.holds Tryd.pinned (OpenSpec.ofChange signMatchesVerifyWrong)

/-- 'wagonpoollaw03.SignPowers': WHATEVER THE INPUT: true; the input reads as it did. -/
def signPowersSpec : ChangeSpec := { name := "signPowers", fn := fun _ => fun
  | [d1, d2, d3] => { results := [.lit (.bool true)], args := [d1, d2, d3] }
  | _ => none }
def signPowersRow : OpenClaim := { program := "ytgnekjlciiefbaadoor", sum := "7a6fe7aa472cd1a14e2b0b71df7a1ea85dffc18e8d05d39dcbb303ab7ddebea4", func := "wagonpool/wagonpoollaw03.SignPowers", spec := "signPowers", unfollowed := true, recurses := true, named := ["math/bits.divideError", "math/bits.overflowError", "wagonpool/digest.k"], apart := false, laid := [("wagonpool/digest.k", laid_wagonpool_digest_k)] }
def SignPowersSaid : Prop := signPowersRow.holds Tryd.pinned (OpenSpec.ofChange signPowersSpec)

/-- ITS FALSE NEIGHBOUR: 'it returns false'. Refute it at one input. -/
def signPowersWrong : ChangeSpec := { name := "signPowers", fn := fun _ => fun
  | [d1, d2, d3] => { results := [.lit (.bool false)], args := [d1, d2, d3] }
  | _ => none }
def SignPowersWrongFalsely : Prop := signPowersRow.holds Tryd.pinned (OpenSpec.ofChange signPowersWrong)

/-- 'wagonpoollaw03.SignVerifies': WHATEVER THE INPUT: true; the input reads as it did. -/
def signVerifiesSpec : ChangeSpec := { name := "signVerifies", fn := fun _ => fun
  | [d1, d2] => { results := [.lit (.bool true)], args := [d1, d2] }
  | _ => none }
def signVerifiesRow : OpenClaim := { program := "ytgnekjlciiefbaadoor", sum := "7a6fe7aa472cd1a14e2b0b71df7a1ea85dffc18e8d05d39dcbb303ab7ddebea4", func := "wagonpool/wagonpoollaw03.SignVerifies", spec := "signVerifies", unfollowed := true, recurses := true, named := ["math/bits.divideError", "math/bits.overflowError", "wagonpool/digest.k"], apart := false, laid := [("wagonpool/digest.k", laid_wagonpool_digest_k)] }
def SignVerifiesSaid : Prop := signVerifiesRow.holds Tryd.pinned (OpenSpec.ofChange signVerifiesSpec)

/-- ITS FALSE NEIGHBOUR: 'it returns false'. Refute it at one input. -/
def signVerifiesWrong : ChangeSpec := { name := "signVerifies", fn := fun _ => fun
  | [d1, d2] => { results := [.lit (.bool false)], args := [d1, d2] }
  | _ => none }
def SignVerifiesWrongFalsely : Prop := signVerifiesRow.holds Tryd.pinned (OpenSpec.ofChange signVerifiesWrong)

/- THE SECOND FORM. 'bulk': how many values and letters a reading holds, each counted each time it is reached (what is shared counts as often as it is met; a slice's spare places count too). A statement '..UptoSaid' is the law's where the arguments, and the package variables that the reading takes, are together of bulk at most 1048576: NARROWER than '..Said'. Prove '..Said' where nothing that the law and all that it calls make is longer than what came in: it says more and counts as full. Else prove '..UptoSaid'. A law counts once. -/
mutual
def uptoBulk {H : Type} : DataW H → Nat
  | .lit (.string bytes) => bytes.length + 1
  | .lit _ => 1
  | .nil => 1
  | .ptr d => uptoBulk d + 1
  | .slice elems spare => uptoBulkAll elems + uptoBulkAll spare + 1
  | .agg parts => uptoBulkAll parts + 1
  | .iface _ d => uptoBulk d + 1
  | .map entries => uptoBulkEntries entries + 1
  | .held _ => 1
def uptoBulkAll {H : Type} : List (DataW H) → Nat
  | [] => 0
  | d :: r => uptoBulk d + uptoBulkAll r
def uptoBulkEntries {H : Type} : List (Lit × DataW H) → Nat
  | [] => 0
  | x :: r => uptoBulkEntry x + uptoBulkEntries r
def uptoBulkEntry {H : Type} : Lit × DataW H → Nat
  | (.string bytes, d) => bytes.length + uptoBulk d + 1
  | (_, d) => uptoBulk d + 1
 end
def uptoSmall : (H : Type) → List (DataW H) → Bool := fun _ ds => decide (uptoBulkAll ds ≤ 1048576)
def OpenSpec.upto (s : _root_.Go.ChangeSpec) : _root_.Go.OpenSpec := { _root_.Go.OpenSpec.ofChange s with cond := some uptoSmall }

/-- 'wagonpoollaw03.SignChallenges', WHERE WHAT IT READS IS OF BULK AT MOST 1048576: true; the input reads as it did. -/
def signChallengesUptoRow : OpenClaim := { program := "ytgnekjlciiefbaadoor", sum := "7a6fe7aa472cd1a14e2b0b71df7a1ea85dffc18e8d05d39dcbb303ab7ddebea4", func := "wagonpool/wagonpoollaw03.SignChallenges", spec := "signChallenges", unfollowed := true, recurses := true, named := ["math/bits.divideError", "math/bits.overflowError", "wagonpool/digest.k"], apart := false, laid := [("wagonpool/digest.k", laid_wagonpool_digest_k)], narrowed := true }
def SignChallengesUptoSaid : Prop := signChallengesUptoRow.holds Tryd.pinned (OpenSpec.upto signChallengesSpec)

/-- 'wagonpoollaw03.SignHalves', WHERE WHAT IT READS IS OF BULK AT MOST 1048576: true; the input reads as it did. -/
def signHalvesUptoRow : OpenClaim := { program := "ytgnekjlciiefbaadoor", sum := "7a6fe7aa472cd1a14e2b0b71df7a1ea85dffc18e8d05d39dcbb303ab7ddebea4", func := "wagonpool/wagonpoollaw03.SignHalves", spec := "signHalves", unfollowed := true, recurses := true, named := ["math/bits.divideError", "math/bits.overflowError", "wagonpool/digest.k"], apart := false, laid := [("wagonpool/digest.k", laid_wagonpool_digest_k)], narrowed := true }
def SignHalvesUptoSaid : Prop := signHalvesUptoRow.holds Tryd.pinned (OpenSpec.upto signHalvesSpec)

/-- 'wagonpoollaw03.SignKeys', WHERE WHAT IT READS IS OF BULK AT MOST 1048576: true; the input reads as it did. -/
def signKeysUptoRow : OpenClaim := { program := "ytgnekjlciiefbaadoor", sum := "7a6fe7aa472cd1a14e2b0b71df7a1ea85dffc18e8d05d39dcbb303ab7ddebea4", func := "wagonpool/wagonpoollaw03.SignKeys", spec := "signKeys", unfollowed := true, recurses := true, named := ["math/bits.divideError", "math/bits.overflowError", "wagonpool/digest.k"], apart := false, laid := [("wagonpool/digest.k", laid_wagonpool_digest_k)], narrowed := true }
def SignKeysUptoSaid : Prop := signKeysUptoRow.holds Tryd.pinned (OpenSpec.upto signKeysSpec)

/-- 'wagonpoollaw03.SignLimits', WHERE WHAT IT READS IS OF BULK AT MOST 1048576: true; the input reads as it did. -/
def signLimitsUptoRow : OpenClaim := { program := "ytgnekjlciiefbaadoor", sum := "7a6fe7aa472cd1a14e2b0b71df7a1ea85dffc18e8d05d39dcbb303ab7ddebea4", func := "wagonpool/wagonpoollaw03.SignLimits", spec := "signLimits", unfollowed := true, recurses := true, named := ["math/bits.divideError", "math/bits.overflowError", "wagonpool/digest.k"], apart := false, laid := [("wagonpool/digest.k", laid_wagonpool_digest_k)], narrowed := true }
def SignLimitsUptoSaid : Prop := signLimitsUptoRow.holds Tryd.pinned (OpenSpec.upto signLimitsSpec)

/-- 'wagonpoollaw03.SignMatches', WHERE WHAT IT READS IS OF BULK AT MOST 1048576: true; the input reads as it did. -/
def signMatchesUptoRow : OpenClaim := { program := "ytgnekjlciiefbaadoor", sum := "7a6fe7aa472cd1a14e2b0b71df7a1ea85dffc18e8d05d39dcbb303ab7ddebea4", func := "wagonpool/wagonpoollaw03.SignMatches", spec := "signMatches", unfollowed := true, recurses := true, named := ["math/bits.divideError", "math/bits.overflowError", "wagonpool/digest.k"], apart := false, laid := [("wagonpool/digest.k", laid_wagonpool_digest_k)], narrowed := true }
def SignMatchesUptoSaid : Prop := signMatchesUptoRow.holds Tryd.pinned (OpenSpec.upto signMatchesSpec)

/-- 'wagonpoollaw03.SignMatchesVerify', WHERE WHAT IT READS IS OF BULK AT MOST 1048576: true; the input reads as it did. -/
def signMatchesVerifyUptoRow : OpenClaim := { program := "ytgnekjlciiefbaadoor", sum := "7a6fe7aa472cd1a14e2b0b71df7a1ea85dffc18e8d05d39dcbb303ab7ddebea4", func := "wagonpool/wagonpoollaw03.SignMatchesVerify", spec := "signMatchesVerify", unfollowed := true, recurses := true, named := ["math/bits.divideError", "math/bits.overflowError", "wagonpool/digest.k"], apart := false, laid := [("wagonpool/digest.k", laid_wagonpool_digest_k)], narrowed := true }
def SignMatchesVerifyUptoSaid : Prop := signMatchesVerifyUptoRow.holds Tryd.pinned (OpenSpec.upto signMatchesVerifySpec)

/-- 'wagonpoollaw03.SignPowers', WHERE WHAT IT READS IS OF BULK AT MOST 1048576: true; the input reads as it did. -/
def signPowersUptoRow : OpenClaim := { program := "ytgnekjlciiefbaadoor", sum := "7a6fe7aa472cd1a14e2b0b71df7a1ea85dffc18e8d05d39dcbb303ab7ddebea4", func := "wagonpool/wagonpoollaw03.SignPowers", spec := "signPowers", unfollowed := true, recurses := true, named := ["math/bits.divideError", "math/bits.overflowError", "wagonpool/digest.k"], apart := false, laid := [("wagonpool/digest.k", laid_wagonpool_digest_k)], narrowed := true }
def SignPowersUptoSaid : Prop := signPowersUptoRow.holds Tryd.pinned (OpenSpec.upto signPowersSpec)

/-- 'wagonpoollaw03.SignVerifies', WHERE WHAT IT READS IS OF BULK AT MOST 1048576: true; the input reads as it did. -/
def signVerifiesUptoRow : OpenClaim := { program := "ytgnekjlciiefbaadoor", sum := "7a6fe7aa472cd1a14e2b0b71df7a1ea85dffc18e8d05d39dcbb303ab7ddebea4", func := "wagonpool/wagonpoollaw03.SignVerifies", spec := "signVerifies", unfollowed := true, recurses := true, named := ["math/bits.divideError", "math/bits.overflowError", "wagonpool/digest.k"], apart := false, laid := [("wagonpool/digest.k", laid_wagonpool_digest_k)], narrowed := true }
def SignVerifiesUptoSaid : Prop := signVerifiesUptoRow.holds Tryd.pinned (OpenSpec.upto signVerifiesSpec)

end Rows
end Go.Proofs.YtgnekjlciiefbaaDoor
