/-
  NARROWER THAN 'FOR EVERY INPUT', by the rows' own cells (each row's printed sentence says how): BisectAgreedBefore: laid · BisectAnswerMatchesReference: laid · BisectBegins: laid · BisectFindsFirst: laid · BisectHonestParty: laid · BisectMatchesReference: laid · BisectOrder: laid · BisectRefuses: laid.
  DERIVED. THE GIVEN ROWS OF THIS SEAT. 8 by the template 'for every input the law returns true; each argument reads behind the call as it read before'; 0 by the template 'total and deterministic' (their statements: YtokhnpjchpmndaaDoorTotals.lean).
  GIVEN WITH THE SEED: the statements are not yours to turn. If you find one false, say at which input.
  Laid BY PROGRAM, IN A SANDBOX (cutbox-rows.mjs): the forced cells as the released guide's own fill.sh prints them over the translation 27f2c9848dbcd144… (all of the seat's roots in one cut). By AI agents, Wed Nov 11 2026. No macro, syntax, notation, axiom, sorry.
-/
import Derived.Test.YtokhnpjchpmndaaDoorChecked
import GoSem.Claim
import GoSem.ClaimJoined
import GoSem.ClaimMapViews
import Derived.JoinedTies
import Derived.KernelRfl
namespace Go.Proofs.YtokhnpjchpmndaaDoor
/- THE CELL 'sum', in the pinned program and in every row, IS THE sha256 OF THE DUMP (.gsa) THAT YtokhnpjchpmndaaDoorProg.lean LOADS. Nothing in Lean hashes anything: it is a label: what it is worth is what the hold of that sum in a sandbox is worth. -/
noncomputable def Tryd.pinned : Pinned := { name := "ytokhnpjchpmndaadoor", sum := "27f2c9848dbcd144d03c79688aa302207e28fc50d094f237e10374c3ca0a9fd8", checked := Tryd.checked }
namespace Rows
def none {H : Type} : Left H := { results := [], args := [] }

/- WHAT THE LISTED PACKAGE-LEVEL VARIABLES READ AS WHEN THE CALL BEGINS. Each datum BY PROGRAM (the guide's laid-datum.mjs) off the statement by which the dump's own 'gosem.cut.vars' lays the variable. In a bare row this is a premise. The card (YtokhnpjchpmndaaDoorCards.lean) ties it to the program's text. -/
def laid_wagonpool_digest_k {H : Type} : DataW H := .agg [.lit (.int .u32 1116352408), .lit (.int .u32 1899447441), .lit (.int .u32 3049323471), .lit (.int .u32 3921009573), .lit (.int .u32 961987163), .lit (.int .u32 1508970993), .lit (.int .u32 2453635748), .lit (.int .u32 2870763221), .lit (.int .u32 3624381080), .lit (.int .u32 310598401), .lit (.int .u32 607225278), .lit (.int .u32 1426881987), .lit (.int .u32 1925078388), .lit (.int .u32 2162078206), .lit (.int .u32 2614888103), .lit (.int .u32 3248222580), .lit (.int .u32 3835390401), .lit (.int .u32 4022224774), .lit (.int .u32 264347078), .lit (.int .u32 604807628), .lit (.int .u32 770255983), .lit (.int .u32 1249150122), .lit (.int .u32 1555081692), .lit (.int .u32 1996064986), .lit (.int .u32 2554220882), .lit (.int .u32 2821834349), .lit (.int .u32 2952996808), .lit (.int .u32 3210313671), .lit (.int .u32 3336571891), .lit (.int .u32 3584528711), .lit (.int .u32 113926993), .lit (.int .u32 338241895), .lit (.int .u32 666307205), .lit (.int .u32 773529912), .lit (.int .u32 1294757372), .lit (.int .u32 1396182291), .lit (.int .u32 1695183700), .lit (.int .u32 1986661051), .lit (.int .u32 2177026350), .lit (.int .u32 2456956037), .lit (.int .u32 2730485921), .lit (.int .u32 2820302411), .lit (.int .u32 3259730800), .lit (.int .u32 3345764771), .lit (.int .u32 3516065817), .lit (.int .u32 3600352804), .lit (.int .u32 4094571909), .lit (.int .u32 275423344), .lit (.int .u32 430227734), .lit (.int .u32 506948616), .lit (.int .u32 659060556), .lit (.int .u32 883997877), .lit (.int .u32 958139571), .lit (.int .u32 1322822218), .lit (.int .u32 1537002063), .lit (.int .u32 1747873779), .lit (.int .u32 1955562222), .lit (.int .u32 2024104815), .lit (.int .u32 2227730452), .lit (.int .u32 2361852424), .lit (.int .u32 2428436474), .lit (.int .u32 2756734187), .lit (.int .u32 3204031479), .lit (.int .u32 3329325298)]

/-- 'wagonpoollaw38.BisectAgreedBefore': WHATEVER THE INPUT: true; the input reads as it did. -/
def bisectAgreedBeforeSpec : ChangeSpec := { name := "bisectAgreedBefore", fn := fun _ => fun
  | [d1, d2] => { results := [.lit (.bool true)], args := [d1, d2] }
  | _ => none }
def bisectAgreedBeforeRow : OpenClaim := { program := "ytokhnpjchpmndaadoor", sum := "27f2c9848dbcd144d03c79688aa302207e28fc50d094f237e10374c3ca0a9fd8", func := "wagonpool/wagonpoollaw38.BisectAgreedBefore", spec := "bisectAgreedBefore", unfollowed := true, recurses := true, named := ["wagonpool/digest.k"], apart := false, laid := [("wagonpool/digest.k", laid_wagonpool_digest_k)] }
def BisectAgreedBeforeSaid : Prop := bisectAgreedBeforeRow.holds Tryd.pinned (OpenSpec.ofChange bisectAgreedBeforeSpec)

/-- ITS FALSE NEIGHBOUR: 'it returns false'. Refute it at one input. -/
def bisectAgreedBeforeWrong : ChangeSpec := { name := "bisectAgreedBefore", fn := fun _ => fun
  | [d1, d2] => { results := [.lit (.bool false)], args := [d1, d2] }
  | _ => none }
def BisectAgreedBeforeWrongFalsely : Prop := bisectAgreedBeforeRow.holds Tryd.pinned (OpenSpec.ofChange bisectAgreedBeforeWrong)

/-- 'wagonpoollaw38.BisectAnswerMatchesReference': WHATEVER THE INPUT: true; the input reads as it did. -/
def bisectAnswerMatchesReferenceSpec : ChangeSpec := { name := "bisectAnswerMatchesReference", fn := fun _ => fun
  | [d1, d2] => { results := [.lit (.bool true)], args := [d1, d2] }
  | _ => none }
def bisectAnswerMatchesReferenceRow : OpenClaim := { program := "ytokhnpjchpmndaadoor", sum := "27f2c9848dbcd144d03c79688aa302207e28fc50d094f237e10374c3ca0a9fd8", func := "wagonpool/wagonpoollaw38.BisectAnswerMatchesReference", spec := "bisectAnswerMatchesReference", unfollowed := true, recurses := true, named := ["wagonpool/digest.k"], apart := false, laid := [("wagonpool/digest.k", laid_wagonpool_digest_k)] }
def BisectAnswerMatchesReferenceSaid : Prop := bisectAnswerMatchesReferenceRow.holds Tryd.pinned (OpenSpec.ofChange bisectAnswerMatchesReferenceSpec)

/-- ITS FALSE NEIGHBOUR: 'it returns false'. Refute it at one input. -/
def bisectAnswerMatchesReferenceWrong : ChangeSpec := { name := "bisectAnswerMatchesReference", fn := fun _ => fun
  | [d1, d2] => { results := [.lit (.bool false)], args := [d1, d2] }
  | _ => none }
def BisectAnswerMatchesReferenceWrongFalsely : Prop := bisectAnswerMatchesReferenceRow.holds Tryd.pinned (OpenSpec.ofChange bisectAnswerMatchesReferenceWrong)

/-- 'wagonpoollaw38.BisectBegins': WHATEVER THE INPUT: true; the input reads as it did. -/
def bisectBeginsSpec : ChangeSpec := { name := "bisectBegins", fn := fun _ => fun
  | [d1, d2] => { results := [.lit (.bool true)], args := [d1, d2] }
  | _ => none }
def bisectBeginsRow : OpenClaim := { program := "ytokhnpjchpmndaadoor", sum := "27f2c9848dbcd144d03c79688aa302207e28fc50d094f237e10374c3ca0a9fd8", func := "wagonpool/wagonpoollaw38.BisectBegins", spec := "bisectBegins", unfollowed := true, recurses := true, named := ["wagonpool/digest.k"], apart := false, laid := [("wagonpool/digest.k", laid_wagonpool_digest_k)] }
def BisectBeginsSaid : Prop := bisectBeginsRow.holds Tryd.pinned (OpenSpec.ofChange bisectBeginsSpec)

/-- ITS FALSE NEIGHBOUR: 'it returns false'. Refute it at one input. -/
def bisectBeginsWrong : ChangeSpec := { name := "bisectBegins", fn := fun _ => fun
  | [d1, d2] => { results := [.lit (.bool false)], args := [d1, d2] }
  | _ => none }
def BisectBeginsWrongFalsely : Prop := bisectBeginsRow.holds Tryd.pinned (OpenSpec.ofChange bisectBeginsWrong)

/-- 'wagonpoollaw38.BisectFindsFirst': WHATEVER THE INPUT: true; the input reads as it did. -/
def bisectFindsFirstSpec : ChangeSpec := { name := "bisectFindsFirst", fn := fun _ => fun
  | [d1, d2, d3] => { results := [.lit (.bool true)], args := [d1, d2, d3] }
  | _ => none }
def bisectFindsFirstRow : OpenClaim := { program := "ytokhnpjchpmndaadoor", sum := "27f2c9848dbcd144d03c79688aa302207e28fc50d094f237e10374c3ca0a9fd8", func := "wagonpool/wagonpoollaw38.BisectFindsFirst", spec := "bisectFindsFirst", unfollowed := true, recurses := true, named := ["wagonpool/digest.k"], apart := false, laid := [("wagonpool/digest.k", laid_wagonpool_digest_k)] }
def BisectFindsFirstSaid : Prop := bisectFindsFirstRow.holds Tryd.pinned (OpenSpec.ofChange bisectFindsFirstSpec)

/-- ITS FALSE NEIGHBOUR: 'it returns false'. Refute it at one input. -/
def bisectFindsFirstWrong : ChangeSpec := { name := "bisectFindsFirst", fn := fun _ => fun
  | [d1, d2, d3] => { results := [.lit (.bool false)], args := [d1, d2, d3] }
  | _ => none }
def BisectFindsFirstWrongFalsely : Prop := bisectFindsFirstRow.holds Tryd.pinned (OpenSpec.ofChange bisectFindsFirstWrong)

/-- 'wagonpoollaw38.BisectHonestParty': WHATEVER THE INPUT: true; the input reads as it did. -/
def bisectHonestPartySpec : ChangeSpec := { name := "bisectHonestParty", fn := fun _ => fun
  | [d1, d2, d3, d4] => { results := [.lit (.bool true)], args := [d1, d2, d3, d4] }
  | _ => none }
def bisectHonestPartyRow : OpenClaim := { program := "ytokhnpjchpmndaadoor", sum := "27f2c9848dbcd144d03c79688aa302207e28fc50d094f237e10374c3ca0a9fd8", func := "wagonpool/wagonpoollaw38.BisectHonestParty", spec := "bisectHonestParty", unfollowed := true, recurses := true, named := ["wagonpool/digest.k"], apart := false, laid := [("wagonpool/digest.k", laid_wagonpool_digest_k)] }
def BisectHonestPartySaid : Prop := bisectHonestPartyRow.holds Tryd.pinned (OpenSpec.ofChange bisectHonestPartySpec)

/-- ITS FALSE NEIGHBOUR: 'it returns false'. Refute it at one input. -/
def bisectHonestPartyWrong : ChangeSpec := { name := "bisectHonestParty", fn := fun _ => fun
  | [d1, d2, d3, d4] => { results := [.lit (.bool false)], args := [d1, d2, d3, d4] }
  | _ => none }
def BisectHonestPartyWrongFalsely : Prop := bisectHonestPartyRow.holds Tryd.pinned (OpenSpec.ofChange bisectHonestPartyWrong)

/-- 'wagonpoollaw38.BisectMatchesReference': WHATEVER THE INPUT: true; the input reads as it did. -/
def bisectMatchesReferenceSpec : ChangeSpec := { name := "bisectMatchesReference", fn := fun _ => fun
  | [d1, d2, d3, d4, d5, d6] => { results := [.lit (.bool true)], args := [d1, d2, d3, d4, d5, d6] }
  | _ => none }
def bisectMatchesReferenceRow : OpenClaim := { program := "ytokhnpjchpmndaadoor", sum := "27f2c9848dbcd144d03c79688aa302207e28fc50d094f237e10374c3ca0a9fd8", func := "wagonpool/wagonpoollaw38.BisectMatchesReference", spec := "bisectMatchesReference", unfollowed := true, recurses := true, named := ["wagonpool/digest.k"], apart := false, laid := [("wagonpool/digest.k", laid_wagonpool_digest_k)] }
def BisectMatchesReferenceSaid : Prop := bisectMatchesReferenceRow.holds Tryd.pinned (OpenSpec.ofChange bisectMatchesReferenceSpec)

/-- ITS FALSE NEIGHBOUR: 'it returns false'. Refute it at one input. -/
def bisectMatchesReferenceWrong : ChangeSpec := { name := "bisectMatchesReference", fn := fun _ => fun
  | [d1, d2, d3, d4, d5, d6] => { results := [.lit (.bool false)], args := [d1, d2, d3, d4, d5, d6] }
  | _ => none }
def BisectMatchesReferenceWrongFalsely : Prop := bisectMatchesReferenceRow.holds Tryd.pinned (OpenSpec.ofChange bisectMatchesReferenceWrong)

/-- 'wagonpoollaw38.BisectOrder': WHATEVER THE INPUT: true; the input reads as it did. -/
def bisectOrderSpec : ChangeSpec := { name := "bisectOrder", fn := fun _ => fun
  | [d1, d2] => { results := [.lit (.bool true)], args := [d1, d2] }
  | _ => none }
def bisectOrderRow : OpenClaim := { program := "ytokhnpjchpmndaadoor", sum := "27f2c9848dbcd144d03c79688aa302207e28fc50d094f237e10374c3ca0a9fd8", func := "wagonpool/wagonpoollaw38.BisectOrder", spec := "bisectOrder", unfollowed := true, recurses := true, named := ["wagonpool/digest.k"], apart := false, laid := [("wagonpool/digest.k", laid_wagonpool_digest_k)] }
def BisectOrderSaid : Prop := bisectOrderRow.holds Tryd.pinned (OpenSpec.ofChange bisectOrderSpec)

/-- ITS FALSE NEIGHBOUR: 'it returns false'. Refute it at one input. -/
def bisectOrderWrong : ChangeSpec := { name := "bisectOrder", fn := fun _ => fun
  | [d1, d2] => { results := [.lit (.bool false)], args := [d1, d2] }
  | _ => none }
def BisectOrderWrongFalsely : Prop := bisectOrderRow.holds Tryd.pinned (OpenSpec.ofChange bisectOrderWrong)

/-- 'wagonpoollaw38.BisectRefuses': WHATEVER THE INPUT: true; the input reads as it did. -/
def bisectRefusesSpec : ChangeSpec := { name := "bisectRefuses", fn := fun _ => fun
  | [d1, d2, d3] => { results := [.lit (.bool true)], args := [d1, d2, d3] }
  | _ => none }
def bisectRefusesRow : OpenClaim := { program := "ytokhnpjchpmndaadoor", sum := "27f2c9848dbcd144d03c79688aa302207e28fc50d094f237e10374c3ca0a9fd8", func := "wagonpool/wagonpoollaw38.BisectRefuses", spec := "bisectRefuses", unfollowed := true, recurses := true, named := ["wagonpool/digest.k"], apart := false, laid := [("wagonpool/digest.k", laid_wagonpool_digest_k)] }
def BisectRefusesSaid : Prop := bisectRefusesRow.holds Tryd.pinned (OpenSpec.ofChange bisectRefusesSpec)

/-- ITS FALSE NEIGHBOUR: 'it returns false'. Refute it at one input. -/
def bisectRefusesWrong : ChangeSpec := { name := "bisectRefuses", fn := fun _ => fun
  | [d1, d2, d3] => { results := [.lit (.bool false)], args := [d1, d2, d3] }
  | _ => none }
def BisectRefusesWrongFalsely : Prop := bisectRefusesRow.holds Tryd.pinned (OpenSpec.ofChange bisectRefusesWrong)

/- THE SECOND FORM. 'bulk': how many values and letters a reading holds, each counted each time it is reached (what is shared counts as often as it is met; a slice's spare places count too). A statement '..UptoSaid' is the law's where the arguments, and the package variables that the reading takes, are together of bulk at most 1048576: NARROWER than '..Said'. Prove '..Said' where nothing that the law and all that it calls make is longer than what came in: it says more and counts as full. Else prove '..UptoSaid'. A law counts once. -/
mutual
def uptoBulk {H : Type} : DataW H → Nat
  | .lit (.string bytes) => bytes.length + 1
  | .lit _ => 1
  | .nil => 1
  | .ptr d => uptoBulk d + 1
  | .slice elems spare => uptoBulkAll elems + uptoBulkAll spare + 1
  | .agg parts => uptoBulkAll parts + 1
  | .iface _ d => uptoBulk d + 1
  | .map entries => uptoBulkEntries entries + 1
  | .held _ => 1
def uptoBulkAll {H : Type} : List (DataW H) → Nat
  | [] => 0
  | d :: r => uptoBulk d + uptoBulkAll r
def uptoBulkEntries {H : Type} : List (Lit × DataW H) → Nat
  | [] => 0
  | x :: r => uptoBulkEntry x + uptoBulkEntries r
def uptoBulkEntry {H : Type} : Lit × DataW H → Nat
  | (.string bytes, d) => bytes.length + uptoBulk d + 1
  | (_, d) => uptoBulk d + 1
 end
def uptoSmall : (H : Type) → List (DataW H) → Bool := fun _ ds => decide (uptoBulkAll ds ≤ 1048576)
def OpenSpec.upto (s : _root_.Go.ChangeSpec) : _root_.Go.OpenSpec := { _root_.Go.OpenSpec.ofChange s with cond := some uptoSmall }

/-- 'wagonpoollaw38.BisectAgreedBefore', WHERE WHAT IT READS IS OF BULK AT MOST 1048576: true; the input reads as it did. -/
def bisectAgreedBeforeUptoRow : OpenClaim := { program := "ytokhnpjchpmndaadoor", sum := "27f2c9848dbcd144d03c79688aa302207e28fc50d094f237e10374c3ca0a9fd8", func := "wagonpool/wagonpoollaw38.BisectAgreedBefore", spec := "bisectAgreedBefore", unfollowed := true, recurses := true, named := ["wagonpool/digest.k"], apart := false, laid := [("wagonpool/digest.k", laid_wagonpool_digest_k)], narrowed := true }
def BisectAgreedBeforeUptoSaid : Prop := bisectAgreedBeforeUptoRow.holds Tryd.pinned (OpenSpec.upto bisectAgreedBeforeSpec)

/-- 'wagonpoollaw38.BisectAnswerMatchesReference', WHERE WHAT IT READS IS OF BULK AT MOST 1048576: true; the input reads as it did. -/
def bisectAnswerMatchesReferenceUptoRow : OpenClaim := { program := "ytokhnpjchpmndaadoor", sum := "27f2c9848dbcd144d03c79688aa302207e28fc50d094f237e10374c3ca0a9fd8", func := "wagonpool/wagonpoollaw38.BisectAnswerMatchesReference", spec := "bisectAnswerMatchesReference", unfollowed := true, recurses := true, named := ["wagonpool/digest.k"], apart := false, laid := [("wagonpool/digest.k", laid_wagonpool_digest_k)], narrowed := true }
def BisectAnswerMatchesReferenceUptoSaid : Prop := bisectAnswerMatchesReferenceUptoRow.holds Tryd.pinned (OpenSpec.upto bisectAnswerMatchesReferenceSpec)

/-- 'wagonpoollaw38.BisectBegins', WHERE WHAT IT READS IS OF BULK AT MOST 1048576: true; the input reads as it did. -/
def bisectBeginsUptoRow : OpenClaim := { program := "ytokhnpjchpmndaadoor", sum := "27f2c9848dbcd144d03c79688aa302207e28fc50d094f237e10374c3ca0a9fd8", func := "wagonpool/wagonpoollaw38.BisectBegins", spec := "bisectBegins", unfollowed := true, recurses := true, named := ["wagonpool/digest.k"], apart := false, laid := [("wagonpool/digest.k", laid_wagonpool_digest_k)], narrowed := true }
def BisectBeginsUptoSaid : Prop := bisectBeginsUptoRow.holds Tryd.pinned (OpenSpec.upto bisectBeginsSpec)

/-- 'wagonpoollaw38.BisectFindsFirst', WHERE WHAT IT READS IS OF BULK AT MOST 1048576: true; the input reads as it did. -/
def bisectFindsFirstUptoRow : OpenClaim := { program := "ytokhnpjchpmndaadoor", sum := "27f2c9848dbcd144d03c79688aa302207e28fc50d094f237e10374c3ca0a9fd8", func := "wagonpool/wagonpoollaw38.BisectFindsFirst", spec := "bisectFindsFirst", unfollowed := true, recurses := true, named := ["wagonpool/digest.k"], apart := false, laid := [("wagonpool/digest.k", laid_wagonpool_digest_k)], narrowed := true }
def BisectFindsFirstUptoSaid : Prop := bisectFindsFirstUptoRow.holds Tryd.pinned (OpenSpec.upto bisectFindsFirstSpec)

/-- 'wagonpoollaw38.BisectHonestParty', WHERE WHAT IT READS IS OF BULK AT MOST 1048576: true; the input reads as it did. -/
def bisectHonestPartyUptoRow : OpenClaim := { program := "ytokhnpjchpmndaadoor", sum := "27f2c9848dbcd144d03c79688aa302207e28fc50d094f237e10374c3ca0a9fd8", func := "wagonpool/wagonpoollaw38.BisectHonestParty", spec := "bisectHonestParty", unfollowed := true, recurses := true, named := ["wagonpool/digest.k"], apart := false, laid := [("wagonpool/digest.k", laid_wagonpool_digest_k)], narrowed := true }
def BisectHonestPartyUptoSaid : Prop := bisectHonestPartyUptoRow.holds Tryd.pinned (OpenSpec.upto bisectHonestPartySpec)

/-- 'wagonpoollaw38.BisectMatchesReference', WHERE WHAT IT READS IS OF BULK AT MOST 1048576: true; the input reads as it did. -/
def bisectMatchesReferenceUptoRow : OpenClaim := { program := "ytokhnpjchpmndaadoor", sum := "27f2c9848dbcd144d03c79688aa302207e28fc50d094f237e10374c3ca0a9fd8", func := "wagonpool/wagonpoollaw38.BisectMatchesReference", spec := "bisectMatchesReference", unfollowed := true, recurses := true, named := ["wagonpool/digest.k"], apart := false, laid := [("wagonpool/digest.k", laid_wagonpool_digest_k)], narrowed := true }
def BisectMatchesReferenceUptoSaid : Prop := bisectMatchesReferenceUptoRow.holds Tryd.pinned (OpenSpec.upto bisectMatchesReferenceSpec)

/-- 'wagonpoollaw38.BisectOrder', WHERE WHAT IT READS IS OF BULK AT MOST 1048576: true; the input reads as it did. -/
def bisectOrderUptoRow : OpenClaim := { program := "ytokhnpjchpmndaadoor", sum := "27f2c9848dbcd144d03c79688aa302207e28fc50d094f237e10374c3ca0a9fd8", func := "wagonpool/wagonpoollaw38.BisectOrder", spec := "bisectOrder", unfollowed := true, recurses := true, named := ["wagonpool/digest.k"], apart := false, laid := [("wagonpool/digest.k", laid_wagonpool_digest_k)], narrowed := true }
def BisectOrderUptoSaid : Prop := bisectOrderUptoRow.holds Tryd.pinned (OpenSpec.upto bisectOrderSpec)

/-- 'wagonpoollaw38.BisectRefuses', WHERE WHAT IT READS IS OF BULK AT MOST 1048576: true; the input reads as it did. -/
def bisectRefusesUptoRow : OpenClaim := { program := "ytokhnpjchpmndaadoor", sum := "27f2c9848dbcd144d03c79688aa302207e28fc50d094f237e10374c3ca0a9fd8", func := "wagonpool/wagonpoollaw38.BisectRefuses", spec := "bisectRefuses", unfollowed := true, recurses := true, named := ["wagonpool/digest.k"], apart := false, laid := [("wagonpool/digest.k", laid_wagonpool_digest_k)], narrowed := true }
def BisectRefusesUptoSaid : Prop := bisectRefusesUptoRow.holds Tryd.pinned (OpenSpec.upto bisectRefusesSpec)

end Rows
end Go.Proofs.YtokhnpjchpmndaaDoor
