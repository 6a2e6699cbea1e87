/-
  NARROWER THAN 'FOR EVERY INPUT', by the rows' own cells (each row's printed sentence says how): ArbiterBisects: laid · ArbiterHonest: laid · ArbiterNames: laid · ArbiterSame: laid · ArbiterWithout: laid.
  DERIVED. THE GIVEN ROWS OF THIS SEAT. 5 by the template 'for every input the law returns true; each argument reads behind the call as it read before'; 0 by the template 'total and deterministic' (their statements: YtlleccmnjpcogaaDoorTotals.lean).
  GIVEN WITH THE SEED: the statements are not yours to turn. If you find one false, say at which input.
  Laid BY PROGRAM, IN A SANDBOX (cutbox-rows.mjs): the forced cells as the released guide's own fill.sh prints them over the translation eb0a065fc64948b9… (all of the seat's roots in one cut). By AI agents, Wed Nov 11 2026. No macro, syntax, notation, axiom, sorry.
-/
import Derived.Test.YtlleccmnjpcogaaDoorChecked
import GoSem.Claim
import GoSem.ClaimJoined
import GoSem.ClaimMapViews
import Derived.JoinedTies
import Derived.KernelRfl
namespace Go.Proofs.YtlleccmnjpcogaaDoor
/- THE CELL 'sum', in the pinned program and in every row, IS THE sha256 OF THE DUMP (.gsa) THAT YtlleccmnjpcogaaDoorProg.lean LOADS. Nothing in Lean hashes anything: it is a label: what it is worth is what the hold of that sum in a sandbox is worth. -/
noncomputable def Tryd.pinned : Pinned := { name := "ytlleccmnjpcogaadoor", sum := "eb0a065fc64948b9f68b424c35eff9fd171b1a798915e56e294f1504141b3c8c", checked := Tryd.checked }
namespace Rows
def none {H : Type} : Left H := { results := [], args := [] }

/- WHAT THE LISTED PACKAGE-LEVEL VARIABLES READ AS WHEN THE CALL BEGINS. Each datum BY PROGRAM (the guide's laid-datum.mjs) off the statement by which the dump's own 'gosem.cut.vars' lays the variable. In a bare row this is a premise. The card (YtlleccmnjpcogaaDoorCards.lean) ties it to the program's text. -/
def laid_wagonpool_digest_k {H : Type} : DataW H := .agg [.lit (.int .u32 1116352408), .lit (.int .u32 1899447441), .lit (.int .u32 3049323471), .lit (.int .u32 3921009573), .lit (.int .u32 961987163), .lit (.int .u32 1508970993), .lit (.int .u32 2453635748), .lit (.int .u32 2870763221), .lit (.int .u32 3624381080), .lit (.int .u32 310598401), .lit (.int .u32 607225278), .lit (.int .u32 1426881987), .lit (.int .u32 1925078388), .lit (.int .u32 2162078206), .lit (.int .u32 2614888103), .lit (.int .u32 3248222580), .lit (.int .u32 3835390401), .lit (.int .u32 4022224774), .lit (.int .u32 264347078), .lit (.int .u32 604807628), .lit (.int .u32 770255983), .lit (.int .u32 1249150122), .lit (.int .u32 1555081692), .lit (.int .u32 1996064986), .lit (.int .u32 2554220882), .lit (.int .u32 2821834349), .lit (.int .u32 2952996808), .lit (.int .u32 3210313671), .lit (.int .u32 3336571891), .lit (.int .u32 3584528711), .lit (.int .u32 113926993), .lit (.int .u32 338241895), .lit (.int .u32 666307205), .lit (.int .u32 773529912), .lit (.int .u32 1294757372), .lit (.int .u32 1396182291), .lit (.int .u32 1695183700), .lit (.int .u32 1986661051), .lit (.int .u32 2177026350), .lit (.int .u32 2456956037), .lit (.int .u32 2730485921), .lit (.int .u32 2820302411), .lit (.int .u32 3259730800), .lit (.int .u32 3345764771), .lit (.int .u32 3516065817), .lit (.int .u32 3600352804), .lit (.int .u32 4094571909), .lit (.int .u32 275423344), .lit (.int .u32 430227734), .lit (.int .u32 506948616), .lit (.int .u32 659060556), .lit (.int .u32 883997877), .lit (.int .u32 958139571), .lit (.int .u32 1322822218), .lit (.int .u32 1537002063), .lit (.int .u32 1747873779), .lit (.int .u32 1955562222), .lit (.int .u32 2024104815), .lit (.int .u32 2227730452), .lit (.int .u32 2361852424), .lit (.int .u32 2428436474), .lit (.int .u32 2756734187), .lit (.int .u32 3204031479), .lit (.int .u32 3329325298)]
def laid_wagonpool_tvm_binaries {H : Type} : DataW H := .iface "func table" (.map [(.int .i64 3, .agg [.iface "func" (.lit (.string [119, 97, 103, 111, 110, 112, 111, 111, 108, 47, 109, 111, 110, 101, 121, 46, 65, 100, 100]))]), (.int .i64 4, .agg [.iface "func" (.lit (.string [119, 97, 103, 111, 110, 112, 111, 111, 108, 47, 109, 111, 110, 101, 121, 46, 83, 117, 98]))]), (.int .i64 5, .agg [.iface "func" (.lit (.string [119, 97, 103, 111, 110, 112, 111, 111, 108, 47, 109, 111, 110, 101, 121, 46, 77, 117, 108]))]), (.int .i64 6, .agg [.iface "func" (.lit (.string [119, 97, 103, 111, 110, 112, 111, 111, 108, 47, 116, 118, 109, 46, 98, 105, 110, 97, 114, 105, 101, 115, 36, 49]))]), (.int .i64 7, .agg [.iface "func" (.lit (.string [119, 97, 103, 111, 110, 112, 111, 111, 108, 47, 116, 118, 109, 46, 98, 105, 110, 97, 114, 105, 101, 115, 36, 50]))]), (.int .i64 8, .agg [.iface "func" (.lit (.string [119, 97, 103, 111, 110, 112, 111, 111, 108, 47, 116, 118, 109, 46, 98, 105, 110, 97, 114, 105, 101, 115, 36, 51]))]), (.int .i64 9, .agg [.iface "func" (.lit (.string [119, 97, 103, 111, 110, 112, 111, 111, 108, 47, 116, 118, 109, 46, 98, 105, 110, 97, 114, 105, 101, 115, 36, 52]))]), (.int .i64 10, .agg [.iface "func" (.lit (.string [119, 97, 103, 111, 110, 112, 111, 111, 108, 47, 116, 118, 109, 46, 98, 105, 110, 97, 114, 105, 101, 115, 36, 53]))]), (.int .i64 11, .agg [.iface "func" (.lit (.string [119, 97, 103, 111, 110, 112, 111, 111, 108, 47, 116, 118, 109, 46, 98, 105, 110, 97, 114, 105, 101, 115, 36, 54]))])])

/-- 'wagonpoollaw39.ArbiterBisects': WHATEVER THE INPUT: true; the input reads as it did. -/
def arbiterBisectsSpec : ChangeSpec := { name := "arbiterBisects", fn := fun _ => fun
  | [d1, d2, d3, d4] => { results := [.lit (.bool true)], args := [d1, d2, d3, d4] }
  | _ => none }
def arbiterBisectsRow : OpenClaim := { program := "ytlleccmnjpcogaadoor", sum := "eb0a065fc64948b9f68b424c35eff9fd171b1a798915e56e294f1504141b3c8c", func := "wagonpool/wagonpoollaw39.ArbiterBisects", spec := "arbiterBisects", unfollowed := true, recurses := true, named := ["wagonpool/tvm.binaries", "wagonpool/digest.k"], apart := false, laid := [("wagonpool/digest.k", laid_wagonpool_digest_k), ("wagonpool/tvm.binaries", laid_wagonpool_tvm_binaries)] }
def ArbiterBisectsSaid : Prop := arbiterBisectsRow.holds Tryd.pinned (OpenSpec.ofChange arbiterBisectsSpec)

/-- ITS FALSE NEIGHBOUR: 'it returns false'. Refute it at one input. -/
def arbiterBisectsWrong : ChangeSpec := { name := "arbiterBisects", fn := fun _ => fun
  | [d1, d2, d3, d4] => { results := [.lit (.bool false)], args := [d1, d2, d3, d4] }
  | _ => none }
def ArbiterBisectsWrongFalsely : Prop := arbiterBisectsRow.holds Tryd.pinned (OpenSpec.ofChange arbiterBisectsWrong)

/-- 'wagonpoollaw39.ArbiterHonest': WHATEVER THE INPUT: true; the input reads as it did. -/
def arbiterHonestSpec : ChangeSpec := { name := "arbiterHonest", fn := fun _ => fun
  | [d1, d2, d3, d4, d5] => { results := [.lit (.bool true)], args := [d1, d2, d3, d4, d5] }
  | _ => none }
def arbiterHonestRow : OpenClaim := { program := "ytlleccmnjpcogaadoor", sum := "eb0a065fc64948b9f68b424c35eff9fd171b1a798915e56e294f1504141b3c8c", func := "wagonpool/wagonpoollaw39.ArbiterHonest", spec := "arbiterHonest", unfollowed := true, recurses := true, named := ["wagonpool/tvm.binaries", "wagonpool/digest.k"], apart := false, laid := [("wagonpool/digest.k", laid_wagonpool_digest_k), ("wagonpool/tvm.binaries", laid_wagonpool_tvm_binaries)] }
def ArbiterHonestSaid : Prop := arbiterHonestRow.holds Tryd.pinned (OpenSpec.ofChange arbiterHonestSpec)

/-- ITS FALSE NEIGHBOUR: 'it returns false'. Refute it at one input. -/
def arbiterHonestWrong : ChangeSpec := { name := "arbiterHonest", fn := fun _ => fun
  | [d1, d2, d3, d4, d5] => { results := [.lit (.bool false)], args := [d1, d2, d3, d4, d5] }
  | _ => none }
def ArbiterHonestWrongFalsely : Prop := arbiterHonestRow.holds Tryd.pinned (OpenSpec.ofChange arbiterHonestWrong)

/-- 'wagonpoollaw39.ArbiterNames': WHATEVER THE INPUT: true; the input reads as it did. -/
def arbiterNamesSpec : ChangeSpec := { name := "arbiterNames", fn := fun _ => fun
  | [d1, d2, d3, d4] => { results := [.lit (.bool true)], args := [d1, d2, d3, d4] }
  | _ => none }
def arbiterNamesRow : OpenClaim := { program := "ytlleccmnjpcogaadoor", sum := "eb0a065fc64948b9f68b424c35eff9fd171b1a798915e56e294f1504141b3c8c", func := "wagonpool/wagonpoollaw39.ArbiterNames", spec := "arbiterNames", unfollowed := true, recurses := true, named := ["wagonpool/tvm.binaries", "wagonpool/digest.k"], apart := false, laid := [("wagonpool/digest.k", laid_wagonpool_digest_k), ("wagonpool/tvm.binaries", laid_wagonpool_tvm_binaries)] }
def ArbiterNamesSaid : Prop := arbiterNamesRow.holds Tryd.pinned (OpenSpec.ofChange arbiterNamesSpec)

/-- ITS FALSE NEIGHBOUR: 'it returns false'. Refute it at one input. -/
def arbiterNamesWrong : ChangeSpec := { name := "arbiterNames", fn := fun _ => fun
  | [d1, d2, d3, d4] => { results := [.lit (.bool false)], args := [d1, d2, d3, d4] }
  | _ => none }
def ArbiterNamesWrongFalsely : Prop := arbiterNamesRow.holds Tryd.pinned (OpenSpec.ofChange arbiterNamesWrong)

/-- 'wagonpoollaw39.ArbiterSame': WHATEVER THE INPUT: true; the input reads as it did. -/
def arbiterSameSpec : ChangeSpec := { name := "arbiterSame", fn := fun _ => fun
  | [d1, d2, d3, d4, d5, d6] => { results := [.lit (.bool true)], args := [d1, d2, d3, d4, d5, d6] }
  | _ => none }
def arbiterSameRow : OpenClaim := { program := "ytlleccmnjpcogaadoor", sum := "eb0a065fc64948b9f68b424c35eff9fd171b1a798915e56e294f1504141b3c8c", func := "wagonpool/wagonpoollaw39.ArbiterSame", spec := "arbiterSame", unfollowed := true, recurses := true, named := ["wagonpool/tvm.binaries", "wagonpool/digest.k"], apart := false, laid := [("wagonpool/digest.k", laid_wagonpool_digest_k), ("wagonpool/tvm.binaries", laid_wagonpool_tvm_binaries)] }
def ArbiterSameSaid : Prop := arbiterSameRow.holds Tryd.pinned (OpenSpec.ofChange arbiterSameSpec)

/-- ITS FALSE NEIGHBOUR: 'it returns false'. Refute it at one input. -/
def arbiterSameWrong : ChangeSpec := { name := "arbiterSame", fn := fun _ => fun
  | [d1, d2, d3, d4, d5, d6] => { results := [.lit (.bool false)], args := [d1, d2, d3, d4, d5, d6] }
  | _ => none }
def ArbiterSameWrongFalsely : Prop := arbiterSameRow.holds Tryd.pinned (OpenSpec.ofChange arbiterSameWrong)

/-- 'wagonpoollaw39.ArbiterWithout': WHATEVER THE INPUT: true; the input reads as it did. -/
def arbiterWithoutSpec : ChangeSpec := { name := "arbiterWithout", fn := fun _ => fun
  | [d1, d2, d3] => { results := [.lit (.bool true)], args := [d1, d2, d3] }
  | _ => none }
def arbiterWithoutRow : OpenClaim := { program := "ytlleccmnjpcogaadoor", sum := "eb0a065fc64948b9f68b424c35eff9fd171b1a798915e56e294f1504141b3c8c", func := "wagonpool/wagonpoollaw39.ArbiterWithout", spec := "arbiterWithout", unfollowed := true, recurses := true, named := ["wagonpool/tvm.binaries", "wagonpool/digest.k"], apart := false, laid := [("wagonpool/digest.k", laid_wagonpool_digest_k), ("wagonpool/tvm.binaries", laid_wagonpool_tvm_binaries)] }
def ArbiterWithoutSaid : Prop := arbiterWithoutRow.holds Tryd.pinned (OpenSpec.ofChange arbiterWithoutSpec)

/-- ITS FALSE NEIGHBOUR: 'it returns false'. Refute it at one input. -/
def arbiterWithoutWrong : ChangeSpec := { name := "arbiterWithout", fn := fun _ => fun
  | [d1, d2, d3] => { results := [.lit (.bool false)], args := [d1, d2, d3] }
  | _ => none }
def ArbiterWithoutWrongFalsely : Prop := arbiterWithoutRow.holds Tryd.pinned (OpenSpec.ofChange arbiterWithoutWrong)

/- THE SECOND FORM. 'bulk': how many values and letters a reading holds, each counted each time it is reached (what is shared counts as often as it is met; a slice's spare places count too). A statement '..UptoSaid' is the law's where the arguments, and the package variables that the reading takes, are together of bulk at most 1048576: NARROWER than '..Said'. Prove '..Said' where nothing that the law and all that it calls make is longer than what came in: it says more and counts as full. Else prove '..UptoSaid'. A law counts once. -/
mutual
def uptoBulk {H : Type} : DataW H → Nat
  | .lit (.string bytes) => bytes.length + 1
  | .lit _ => 1
  | .nil => 1
  | .ptr d => uptoBulk d + 1
  | .slice elems spare => uptoBulkAll elems + uptoBulkAll spare + 1
  | .agg parts => uptoBulkAll parts + 1
  | .iface _ d => uptoBulk d + 1
  | .map entries => uptoBulkEntries entries + 1
  | .held _ => 1
def uptoBulkAll {H : Type} : List (DataW H) → Nat
  | [] => 0
  | d :: r => uptoBulk d + uptoBulkAll r
def uptoBulkEntries {H : Type} : List (Lit × DataW H) → Nat
  | [] => 0
  | x :: r => uptoBulkEntry x + uptoBulkEntries r
def uptoBulkEntry {H : Type} : Lit × DataW H → Nat
  | (.string bytes, d) => bytes.length + uptoBulk d + 1
  | (_, d) => uptoBulk d + 1
 end
def uptoSmall : (H : Type) → List (DataW H) → Bool := fun _ ds => decide (uptoBulkAll ds ≤ 1048576)
def OpenSpec.upto (s : _root_.Go.ChangeSpec) : _root_.Go.OpenSpec := { _root_.Go.OpenSpec.ofChange s with cond := some uptoSmall }

/-- 'wagonpoollaw39.ArbiterBisects', WHERE WHAT IT READS IS OF BULK AT MOST 1048576: true; the input reads as it did. -/
def arbiterBisectsUptoRow : OpenClaim := { program := "ytlleccmnjpcogaadoor", sum := "eb0a065fc64948b9f68b424c35eff9fd171b1a798915e56e294f1504141b3c8c", func := "wagonpool/wagonpoollaw39.ArbiterBisects", spec := "arbiterBisects", unfollowed := true, recurses := true, named := ["wagonpool/tvm.binaries", "wagonpool/digest.k"], apart := false, laid := [("wagonpool/digest.k", laid_wagonpool_digest_k), ("wagonpool/tvm.binaries", laid_wagonpool_tvm_binaries)], narrowed := true }
def ArbiterBisectsUptoSaid : Prop := arbiterBisectsUptoRow.holds Tryd.pinned (OpenSpec.upto arbiterBisectsSpec)

/-- 'wagonpoollaw39.ArbiterHonest', WHERE WHAT IT READS IS OF BULK AT MOST 1048576: true; the input reads as it did. -/
def arbiterHonestUptoRow : OpenClaim := { program := "ytlleccmnjpcogaadoor", sum := "eb0a065fc64948b9f68b424c35eff9fd171b1a798915e56e294f1504141b3c8c", func := "wagonpool/wagonpoollaw39.ArbiterHonest", spec := "arbiterHonest", unfollowed := true, recurses := true, named := ["wagonpool/tvm.binaries", "wagonpool/digest.k"], apart := false, laid := [("wagonpool/digest.k", laid_wagonpool_digest_k), ("wagonpool/tvm.binaries", laid_wagonpool_tvm_binaries)], narrowed := true }
def ArbiterHonestUptoSaid : Prop := arbiterHonestUptoRow.holds Tryd.pinned (OpenSpec.upto arbiterHonestSpec)

/-- 'wagonpoollaw39.ArbiterNames', WHERE WHAT IT READS IS OF BULK AT MOST 1048576: true; the input reads as it did. -/
def arbiterNamesUptoRow : OpenClaim := { program := "ytlleccmnjpcogaadoor", sum := "eb0a065fc64948b9f68b424c35eff9fd171b1a798915e56e294f1504141b3c8c", func := "wagonpool/wagonpoollaw39.ArbiterNames", spec := "arbiterNames", unfollowed := true, recurses := true, named := ["wagonpool/tvm.binaries", "wagonpool/digest.k"], apart := false, laid := [("wagonpool/digest.k", laid_wagonpool_digest_k), ("wagonpool/tvm.binaries", laid_wagonpool_tvm_binaries)], narrowed := true }
def ArbiterNamesUptoSaid : Prop := arbiterNamesUptoRow.holds Tryd.pinned (OpenSpec.upto arbiterNamesSpec)

/-- 'wagonpoollaw39.ArbiterSame', WHERE WHAT IT READS IS OF BULK AT MOST 1048576: true; the input reads as it did. -/
def arbiterSameUptoRow : OpenClaim := { program := "ytlleccmnjpcogaadoor", sum := "eb0a065fc64948b9f68b424c35eff9fd171b1a798915e56e294f1504141b3c8c", func := "wagonpool/wagonpoollaw39.ArbiterSame", spec := "arbiterSame", unfollowed := true, recurses := true, named := ["wagonpool/tvm.binaries", "wagonpool/digest.k"], apart := false, laid := [("wagonpool/digest.k", laid_wagonpool_digest_k), ("wagonpool/tvm.binaries", laid_wagonpool_tvm_binaries)], narrowed := true }
def ArbiterSameUptoSaid : Prop := arbiterSameUptoRow.holds Tryd.pinned (OpenSpec.upto arbiterSameSpec)

/-- 'wagonpoollaw39.ArbiterWithout', WHERE WHAT IT READS IS OF BULK AT MOST 1048576: true; the input reads as it did. -/
def arbiterWithoutUptoRow : OpenClaim := { program := "ytlleccmnjpcogaadoor", sum := "eb0a065fc64948b9f68b424c35eff9fd171b1a798915e56e294f1504141b3c8c", func := "wagonpool/wagonpoollaw39.ArbiterWithout", spec := "arbiterWithout", unfollowed := true, recurses := true, named := ["wagonpool/tvm.binaries", "wagonpool/digest.k"], apart := false, laid := [("wagonpool/digest.k", laid_wagonpool_digest_k), ("wagonpool/tvm.binaries", laid_wagonpool_tvm_binaries)], narrowed := true }
def ArbiterWithoutUptoSaid : Prop := arbiterWithoutUptoRow.holds Tryd.pinned (OpenSpec.upto arbiterWithoutSpec)

end Rows
end Go.Proofs.YtlleccmnjpcogaaDoor
