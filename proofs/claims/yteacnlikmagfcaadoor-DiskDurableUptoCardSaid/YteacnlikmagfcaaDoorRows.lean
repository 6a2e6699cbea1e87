/-
  NARROWER THAN 'FOR EVERY INPUT', by the rows' own cells (each row's printed sentence says how): DiskCrash: laid · DiskDetects: laid · DiskDurable: laid · DiskMatchesReference: laid · DiskOpens: laid · DiskPrefixes: laid · DiskRoundTrip: laid.
  DERIVED. THE GIVEN ROWS OF THIS SEAT. 7 by the template 'for every input the law returns true; each argument reads behind the call as it read before'; 0 by the template 'total and deterministic' (their statements: YteacnlikmagfcaaDoorTotals.lean).
  GIVEN WITH THE SEED: the statements are not yours to turn. If you find one false, say at which input.
  Laid BY PROGRAM, IN A SANDBOX (cutbox-rows.mjs): the forced cells as the released guide's own fill.sh prints them over the translation b8b162f9726ae4c7… (all of the seat's roots in one cut). By AI agents, Wed Nov 11 2026. No macro, syntax, notation, axiom, sorry.
-/
import Derived.Test.YteacnlikmagfcaaDoorChecked
import GoSem.Claim
import GoSem.ClaimJoined
import GoSem.ClaimMapViews
import Derived.JoinedTies
import Derived.KernelRfl
namespace Go.Proofs.YteacnlikmagfcaaDoor
/- THE CELL 'sum', in the pinned program and in every row, IS THE sha256 OF THE DUMP (.gsa) THAT YteacnlikmagfcaaDoorProg.lean LOADS. Nothing in Lean hashes anything: it is a label: what it is worth is what the hold of that sum in a sandbox is worth. -/
noncomputable def Tryd.pinned : Pinned := { name := "yteacnlikmagfcaadoor", sum := "b8b162f9726ae4c783c35e6e639e71c4e108b7c808de0adafcd317d492e58893", checked := Tryd.checked }
namespace Rows
def none {H : Type} : Left H := { results := [], args := [] }

/- WHAT THE LISTED PACKAGE-LEVEL VARIABLES READ AS WHEN THE CALL BEGINS. Each datum BY PROGRAM (the guide's laid-datum.mjs) off the statement by which the dump's own 'gosem.cut.vars' lays the variable. In a bare row this is a premise. The card (YteacnlikmagfcaaDoorCards.lean) ties it to the program's text. -/
def laid_wagonpool_digest_k {H : Type} : DataW H := .agg [.lit (.int .u32 1116352408), .lit (.int .u32 1899447441), .lit (.int .u32 3049323471), .lit (.int .u32 3921009573), .lit (.int .u32 961987163), .lit (.int .u32 1508970993), .lit (.int .u32 2453635748), .lit (.int .u32 2870763221), .lit (.int .u32 3624381080), .lit (.int .u32 310598401), .lit (.int .u32 607225278), .lit (.int .u32 1426881987), .lit (.int .u32 1925078388), .lit (.int .u32 2162078206), .lit (.int .u32 2614888103), .lit (.int .u32 3248222580), .lit (.int .u32 3835390401), .lit (.int .u32 4022224774), .lit (.int .u32 264347078), .lit (.int .u32 604807628), .lit (.int .u32 770255983), .lit (.int .u32 1249150122), .lit (.int .u32 1555081692), .lit (.int .u32 1996064986), .lit (.int .u32 2554220882), .lit (.int .u32 2821834349), .lit (.int .u32 2952996808), .lit (.int .u32 3210313671), .lit (.int .u32 3336571891), .lit (.int .u32 3584528711), .lit (.int .u32 113926993), .lit (.int .u32 338241895), .lit (.int .u32 666307205), .lit (.int .u32 773529912), .lit (.int .u32 1294757372), .lit (.int .u32 1396182291), .lit (.int .u32 1695183700), .lit (.int .u32 1986661051), .lit (.int .u32 2177026350), .lit (.int .u32 2456956037), .lit (.int .u32 2730485921), .lit (.int .u32 2820302411), .lit (.int .u32 3259730800), .lit (.int .u32 3345764771), .lit (.int .u32 3516065817), .lit (.int .u32 3600352804), .lit (.int .u32 4094571909), .lit (.int .u32 275423344), .lit (.int .u32 430227734), .lit (.int .u32 506948616), .lit (.int .u32 659060556), .lit (.int .u32 883997877), .lit (.int .u32 958139571), .lit (.int .u32 1322822218), .lit (.int .u32 1537002063), .lit (.int .u32 1747873779), .lit (.int .u32 1955562222), .lit (.int .u32 2024104815), .lit (.int .u32 2227730452), .lit (.int .u32 2361852424), .lit (.int .u32 2428436474), .lit (.int .u32 2756734187), .lit (.int .u32 3204031479), .lit (.int .u32 3329325298)]

/-- 'wagonpoollaw13.DiskCrash': WHATEVER THE INPUT: true; the input reads as it did. -/
def diskCrashSpec : ChangeSpec := { name := "diskCrash", fn := fun _ => fun
  | [d1, d2, d3] => { results := [.lit (.bool true)], args := [d1, d2, d3] }
  | _ => none }
def diskCrashRow : OpenClaim := { program := "yteacnlikmagfcaadoor", sum := "b8b162f9726ae4c783c35e6e639e71c4e108b7c808de0adafcd317d492e58893", func := "wagonpool/wagonpoollaw13.DiskCrash", spec := "diskCrash", unfollowed := true, recurses := true, named := ["wagonpool/digest.k"], apart := false, laid := [("wagonpool/digest.k", laid_wagonpool_digest_k)] }
def DiskCrashSaid : Prop := diskCrashRow.holds Tryd.pinned (OpenSpec.ofChange diskCrashSpec)

/-- ITS FALSE NEIGHBOUR: 'it returns false'. Refute it at one input. -/
def diskCrashWrong : ChangeSpec := { name := "diskCrash", fn := fun _ => fun
  | [d1, d2, d3] => { results := [.lit (.bool false)], args := [d1, d2, d3] }
  | _ => none }
def DiskCrashWrongFalsely : Prop := diskCrashRow.holds Tryd.pinned (OpenSpec.ofChange diskCrashWrong)

/-- 'wagonpoollaw13.DiskDetects': WHATEVER THE INPUT: true; the input reads as it did. -/
def diskDetectsSpec : ChangeSpec := { name := "diskDetects", fn := fun _ => fun
  | [d1, d2, d3] => { results := [.lit (.bool true)], args := [d1, d2, d3] }
  | _ => none }
def diskDetectsRow : OpenClaim := { program := "yteacnlikmagfcaadoor", sum := "b8b162f9726ae4c783c35e6e639e71c4e108b7c808de0adafcd317d492e58893", func := "wagonpool/wagonpoollaw13.DiskDetects", spec := "diskDetects", unfollowed := true, recurses := true, named := ["wagonpool/digest.k"], apart := false, laid := [("wagonpool/digest.k", laid_wagonpool_digest_k)] }
def DiskDetectsSaid : Prop := diskDetectsRow.holds Tryd.pinned (OpenSpec.ofChange diskDetectsSpec)

/-- ITS FALSE NEIGHBOUR: 'it returns false'. Refute it at one input. -/
def diskDetectsWrong : ChangeSpec := { name := "diskDetects", fn := fun _ => fun
  | [d1, d2, d3] => { results := [.lit (.bool false)], args := [d1, d2, d3] }
  | _ => none }
def DiskDetectsWrongFalsely : Prop := diskDetectsRow.holds Tryd.pinned (OpenSpec.ofChange diskDetectsWrong)

/-- 'wagonpoollaw13.DiskDurable': WHATEVER THE INPUT: true; the input reads as it did. -/
def diskDurableSpec : ChangeSpec := { name := "diskDurable", fn := fun _ => fun
  | [d] => { results := [.lit (.bool true)], args := [d] }
  | _ => none }
def diskDurableRow : OpenClaim := { program := "yteacnlikmagfcaadoor", sum := "b8b162f9726ae4c783c35e6e639e71c4e108b7c808de0adafcd317d492e58893", func := "wagonpool/wagonpoollaw13.DiskDurable", spec := "diskDurable", unfollowed := true, recurses := true, named := ["wagonpool/digest.k"], apart := false, laid := [("wagonpool/digest.k", laid_wagonpool_digest_k)] }
def DiskDurableSaid : Prop := diskDurableRow.holds Tryd.pinned (OpenSpec.ofChange diskDurableSpec)

/-- ITS FALSE NEIGHBOUR: 'it returns false'. Refute it at one input. -/
def diskDurableWrong : ChangeSpec := { name := "diskDurable", fn := fun _ => fun
  | [d] => { results := [.lit (.bool false)], args := [d] }
  | _ => none }
def DiskDurableWrongFalsely : Prop := diskDurableRow.holds Tryd.pinned (OpenSpec.ofChange diskDurableWrong)

/-- 'wagonpoollaw13.DiskMatchesReference': WHATEVER THE INPUT: true; the input reads as it did. -/
def diskMatchesReferenceSpec : ChangeSpec := { name := "diskMatchesReference", fn := fun _ => fun
  | [d1, d2, d3] => { results := [.lit (.bool true)], args := [d1, d2, d3] }
  | _ => none }
def diskMatchesReferenceRow : OpenClaim := { program := "yteacnlikmagfcaadoor", sum := "b8b162f9726ae4c783c35e6e639e71c4e108b7c808de0adafcd317d492e58893", func := "wagonpool/wagonpoollaw13.DiskMatchesReference", spec := "diskMatchesReference", unfollowed := true, recurses := true, named := ["wagonpool/digest.k"], apart := false, laid := [("wagonpool/digest.k", laid_wagonpool_digest_k)] }
def DiskMatchesReferenceSaid : Prop := diskMatchesReferenceRow.holds Tryd.pinned (OpenSpec.ofChange diskMatchesReferenceSpec)

/-- ITS FALSE NEIGHBOUR: 'it returns false'. Refute it at one input. -/
def diskMatchesReferenceWrong : ChangeSpec := { name := "diskMatchesReference", fn := fun _ => fun
  | [d1, d2, d3] => { results := [.lit (.bool false)], args := [d1, d2, d3] }
  | _ => none }
def DiskMatchesReferenceWrongFalsely : Prop := diskMatchesReferenceRow.holds Tryd.pinned (OpenSpec.ofChange diskMatchesReferenceWrong)

/-- 'wagonpoollaw13.DiskOpens': WHATEVER THE INPUT: true; the input reads as it did. -/
def diskOpensSpec : ChangeSpec := { name := "diskOpens", fn := fun _ => fun
  | [d1, d2] => { results := [.lit (.bool true)], args := [d1, d2] }
  | _ => none }
def diskOpensRow : OpenClaim := { program := "yteacnlikmagfcaadoor", sum := "b8b162f9726ae4c783c35e6e639e71c4e108b7c808de0adafcd317d492e58893", func := "wagonpool/wagonpoollaw13.DiskOpens", spec := "diskOpens", unfollowed := true, recurses := true, named := ["wagonpool/digest.k"], apart := false, laid := [("wagonpool/digest.k", laid_wagonpool_digest_k)] }
def DiskOpensSaid : Prop := diskOpensRow.holds Tryd.pinned (OpenSpec.ofChange diskOpensSpec)

/-- ITS FALSE NEIGHBOUR: 'it returns false'. Refute it at one input. -/
def diskOpensWrong : ChangeSpec := { name := "diskOpens", fn := fun _ => fun
  | [d1, d2] => { results := [.lit (.bool false)], args := [d1, d2] }
  | _ => none }
def DiskOpensWrongFalsely : Prop := diskOpensRow.holds Tryd.pinned (OpenSpec.ofChange diskOpensWrong)

/-- 'wagonpoollaw13.DiskPrefixes': WHATEVER THE INPUT: true; the input reads as it did. -/
def diskPrefixesSpec : ChangeSpec := { name := "diskPrefixes", fn := fun _ => fun
  | [d1, d2] => { results := [.lit (.bool true)], args := [d1, d2] }
  | _ => none }
def diskPrefixesRow : OpenClaim := { program := "yteacnlikmagfcaadoor", sum := "b8b162f9726ae4c783c35e6e639e71c4e108b7c808de0adafcd317d492e58893", func := "wagonpool/wagonpoollaw13.DiskPrefixes", spec := "diskPrefixes", unfollowed := true, recurses := true, named := ["wagonpool/digest.k"], apart := false, laid := [("wagonpool/digest.k", laid_wagonpool_digest_k)] }
def DiskPrefixesSaid : Prop := diskPrefixesRow.holds Tryd.pinned (OpenSpec.ofChange diskPrefixesSpec)

/-- ITS FALSE NEIGHBOUR: 'it returns false'. Refute it at one input. -/
def diskPrefixesWrong : ChangeSpec := { name := "diskPrefixes", fn := fun _ => fun
  | [d1, d2] => { results := [.lit (.bool false)], args := [d1, d2] }
  | _ => none }
def DiskPrefixesWrongFalsely : Prop := diskPrefixesRow.holds Tryd.pinned (OpenSpec.ofChange diskPrefixesWrong)

/-- 'wagonpoollaw13.DiskRoundTrip': WHATEVER THE INPUT: true; the input reads as it did. -/
def diskRoundTripSpec : ChangeSpec := { name := "diskRoundTrip", fn := fun _ => fun
  | [d] => { results := [.lit (.bool true)], args := [d] }
  | _ => none }
def diskRoundTripRow : OpenClaim := { program := "yteacnlikmagfcaadoor", sum := "b8b162f9726ae4c783c35e6e639e71c4e108b7c808de0adafcd317d492e58893", func := "wagonpool/wagonpoollaw13.DiskRoundTrip", spec := "diskRoundTrip", unfollowed := true, recurses := true, named := ["wagonpool/digest.k"], apart := false, laid := [("wagonpool/digest.k", laid_wagonpool_digest_k)] }
def DiskRoundTripSaid : Prop := diskRoundTripRow.holds Tryd.pinned (OpenSpec.ofChange diskRoundTripSpec)

/-- ITS FALSE NEIGHBOUR: 'it returns false'. Refute it at one input. -/
def diskRoundTripWrong : ChangeSpec := { name := "diskRoundTrip", fn := fun _ => fun
  | [d] => { results := [.lit (.bool false)], args := [d] }
  | _ => none }
def DiskRoundTripWrongFalsely : Prop := diskRoundTripRow.holds Tryd.pinned (OpenSpec.ofChange diskRoundTripWrong)

/- THE SECOND FORM. 'bulk': how many values and letters a reading holds, each counted each time it is reached (what is shared counts as often as it is met; a slice's spare places count too). A statement '..UptoSaid' is the law's where the arguments, and the package variables that the reading takes, are together of bulk at most 1048576: NARROWER than '..Said'. Prove '..Said' where nothing that the law and all that it calls make is longer than what came in: it says more and counts as full. Else prove '..UptoSaid'. A law counts once. -/
mutual
def uptoBulk {H : Type} : DataW H → Nat
  | .lit (.string bytes) => bytes.length + 1
  | .lit _ => 1
  | .nil => 1
  | .ptr d => uptoBulk d + 1
  | .slice elems spare => uptoBulkAll elems + uptoBulkAll spare + 1
  | .agg parts => uptoBulkAll parts + 1
  | .iface _ d => uptoBulk d + 1
  | .map entries => uptoBulkEntries entries + 1
  | .held _ => 1
def uptoBulkAll {H : Type} : List (DataW H) → Nat
  | [] => 0
  | d :: r => uptoBulk d + uptoBulkAll r
def uptoBulkEntries {H : Type} : List (Lit × DataW H) → Nat
  | [] => 0
  | x :: r => uptoBulkEntry x + uptoBulkEntries r
def uptoBulkEntry {H : Type} : Lit × DataW H → Nat
  | (.string bytes, d) => bytes.length + uptoBulk d + 1
  | (_, d) => uptoBulk d + 1
 end
def uptoSmall : (H : Type) → List (DataW H) → Bool := fun _ ds => decide (uptoBulkAll ds ≤ 1048576)
def OpenSpec.upto (s : _root_.Go.ChangeSpec) : _root_.Go.OpenSpec := { _root_.Go.OpenSpec.ofChange s with cond := some uptoSmall }

/-- 'wagonpoollaw13.DiskCrash', WHERE WHAT IT READS IS OF BULK AT MOST 1048576: true; the input reads as it did. -/
def diskCrashUptoRow : OpenClaim := { program := "yteacnlikmagfcaadoor", sum := "b8b162f9726ae4c783c35e6e639e71c4e108b7c808de0adafcd317d492e58893", func := "wagonpool/wagonpoollaw13.DiskCrash", spec := "diskCrash", unfollowed := true, recurses := true, named := ["wagonpool/digest.k"], apart := false, laid := [("wagonpool/digest.k", laid_wagonpool_digest_k)], narrowed := true }
def DiskCrashUptoSaid : Prop := diskCrashUptoRow.holds Tryd.pinned (OpenSpec.upto diskCrashSpec)

/-- 'wagonpoollaw13.DiskDetects', WHERE WHAT IT READS IS OF BULK AT MOST 1048576: true; the input reads as it did. -/
def diskDetectsUptoRow : OpenClaim := { program := "yteacnlikmagfcaadoor", sum := "b8b162f9726ae4c783c35e6e639e71c4e108b7c808de0adafcd317d492e58893", func := "wagonpool/wagonpoollaw13.DiskDetects", spec := "diskDetects", unfollowed := true, recurses := true, named := ["wagonpool/digest.k"], apart := false, laid := [("wagonpool/digest.k", laid_wagonpool_digest_k)], narrowed := true }
def DiskDetectsUptoSaid : Prop := diskDetectsUptoRow.holds Tryd.pinned (OpenSpec.upto diskDetectsSpec)

/-- 'wagonpoollaw13.DiskDurable', WHERE WHAT IT READS IS OF BULK AT MOST 1048576: true; the input reads as it did. -/
def diskDurableUptoRow : OpenClaim := { program := "yteacnlikmagfcaadoor", sum := "b8b162f9726ae4c783c35e6e639e71c4e108b7c808de0adafcd317d492e58893", func := "wagonpool/wagonpoollaw13.DiskDurable", spec := "diskDurable", unfollowed := true, recurses := true, named := ["wagonpool/digest.k"], apart := false, laid := [("wagonpool/digest.k", laid_wagonpool_digest_k)], narrowed := true }
def DiskDurableUptoSaid : Prop := diskDurableUptoRow.holds Tryd.pinned (OpenSpec.upto diskDurableSpec)

/-- 'wagonpoollaw13.DiskMatchesReference', WHERE WHAT IT READS IS OF BULK AT MOST 1048576: true; the input reads as it did. -/
def diskMatchesReferenceUptoRow : OpenClaim := { program := "yteacnlikmagfcaadoor", sum := "b8b162f9726ae4c783c35e6e639e71c4e108b7c808de0adafcd317d492e58893", func := "wagonpool/wagonpoollaw13.DiskMatchesReference", spec := "diskMatchesReference", unfollowed := true, recurses := true, named := ["wagonpool/digest.k"], apart := false, laid := [("wagonpool/digest.k", laid_wagonpool_digest_k)], narrowed := true }
def DiskMatchesReferenceUptoSaid : Prop := diskMatchesReferenceUptoRow.holds Tryd.pinned (OpenSpec.upto diskMatchesReferenceSpec)

/-- 'wagonpoollaw13.DiskOpens', WHERE WHAT IT READS IS OF BULK AT MOST 1048576: true; the input reads as it did. -/
def diskOpensUptoRow : OpenClaim := { program := "yteacnlikmagfcaadoor", sum := "b8b162f9726ae4c783c35e6e639e71c4e108b7c808de0adafcd317d492e58893", func := "wagonpool/wagonpoollaw13.DiskOpens", spec := "diskOpens", unfollowed := true, recurses := true, named := ["wagonpool/digest.k"], apart := false, laid := [("wagonpool/digest.k", laid_wagonpool_digest_k)], narrowed := true }
def DiskOpensUptoSaid : Prop := diskOpensUptoRow.holds Tryd.pinned (OpenSpec.upto diskOpensSpec)

/-- 'wagonpoollaw13.DiskPrefixes', WHERE WHAT IT READS IS OF BULK AT MOST 1048576: true; the input reads as it did. -/
def diskPrefixesUptoRow : OpenClaim := { program := "yteacnlikmagfcaadoor", sum := "b8b162f9726ae4c783c35e6e639e71c4e108b7c808de0adafcd317d492e58893", func := "wagonpool/wagonpoollaw13.DiskPrefixes", spec := "diskPrefixes", unfollowed := true, recurses := true, named := ["wagonpool/digest.k"], apart := false, laid := [("wagonpool/digest.k", laid_wagonpool_digest_k)], narrowed := true }
def DiskPrefixesUptoSaid : Prop := diskPrefixesUptoRow.holds Tryd.pinned (OpenSpec.upto diskPrefixesSpec)

/-- 'wagonpoollaw13.DiskRoundTrip', WHERE WHAT IT READS IS OF BULK AT MOST 1048576: true; the input reads as it did. -/
def diskRoundTripUptoRow : OpenClaim := { program := "yteacnlikmagfcaadoor", sum := "b8b162f9726ae4c783c35e6e639e71c4e108b7c808de0adafcd317d492e58893", func := "wagonpool/wagonpoollaw13.DiskRoundTrip", spec := "diskRoundTrip", unfollowed := true, recurses := true, named := ["wagonpool/digest.k"], apart := false, laid := [("wagonpool/digest.k", laid_wagonpool_digest_k)], narrowed := true }
def DiskRoundTripUptoSaid : Prop := diskRoundTripUptoRow.holds Tryd.pinned (OpenSpec.upto diskRoundTripSpec)

end Rows
end Go.Proofs.YteacnlikmagfcaaDoor
