/-
  NARROWER THAN 'FOR EVERY INPUT', by the rows' own cells (each row's printed sentence says how): TboxBox: loops · TboxFewerGaps: loops · TboxGaps: loops · TboxJoins: loops · TboxMatchesReference: loops · TboxOrder: loops · TboxOverlaps: loops.
  DERIVED. THE GIVEN ROWS OF THIS SEAT. 7 by the template 'for every input the law returns true; each argument reads behind the call as it read before'; 0 by the template 'total and deterministic' (their statements: YtgppecaeegaooaaTotals.lean).
  GIVEN WITH THE SEED: the statements are not yours to turn. If you find one false, say at which input.
  Laid BY PROGRAM, IN A SANDBOX (cutbox-rows.mjs): the forced cells as the released guide's own fill.sh prints them over the translation 9cad26f8cbf51134… (all of the seat's roots in one cut). By AI agents, Wed Nov 11 2026. No macro, syntax, notation, axiom, sorry.
-/
import Derived.Test.YtgppecaeegaooaaChecked
import GoSem.Claim
import GoSem.ClaimJoined
import GoSem.ClaimMapViews
import Derived.JoinedTies
import Derived.KernelRfl
namespace Go.Proofs.Ytgppecaeegaooaa
/- THE CELL 'sum', in the pinned program and in every row, IS THE sha256 OF THE DUMP (.gsa) THAT YtgppecaeegaooaaProg.lean LOADS. Nothing in Lean hashes anything: it is a label: what it is worth is what the hold of that sum in a sandbox is worth. -/
noncomputable def Try.pinned : Pinned := { name := "ytgppecaeegaooaa", sum := "9cad26f8cbf5113404807e1b4b6514bccb4ee52126a6997fa1a85533e88a98e5", checked := Try.checked }
namespace Rows
def none {H : Type} : Left H := { results := [], args := [] }

/-- 'wagonpoollaw19.TboxBox': WHATEVER THE INPUT: true; the input reads as it did. -/
def tboxBoxSpec : ChangeSpec := { name := "tboxBox", fn := fun _ => fun
  | [d1, d2] => { results := [.lit (.bool true)], args := [d1, d2] }
  | _ => none }
def tboxBoxRow : OpenClaim := { program := "ytgppecaeegaooaa", sum := "9cad26f8cbf5113404807e1b4b6514bccb4ee52126a6997fa1a85533e88a98e5", func := "wagonpool/wagonpoollaw19.TboxBox", spec := "tboxBox", unfollowed := true, recurses := true, loops := true, plainKeys := false, apart := false }
def TboxBoxSaid : Prop := tboxBoxRow.holds Try.pinned (OpenSpec.ofChange tboxBoxSpec)

/-- ITS FALSE NEIGHBOUR: 'it returns false'. Refute it at one input. -/
def tboxBoxWrong : ChangeSpec := { name := "tboxBox", fn := fun _ => fun
  | [d1, d2] => { results := [.lit (.bool false)], args := [d1, d2] }
  | _ => none }
def TboxBoxWrongFalsely : Prop := tboxBoxRow.holds Try.pinned (OpenSpec.ofChange tboxBoxWrong)

/-- 'wagonpoollaw19.TboxFewerGaps': WHATEVER THE INPUT: true; the input reads as it did. -/
def tboxFewerGapsSpec : ChangeSpec := { name := "tboxFewerGaps", fn := fun _ => fun
  | [d1, d2, d3] => { results := [.lit (.bool true)], args := [d1, d2, d3] }
  | _ => none }
def tboxFewerGapsRow : OpenClaim := { program := "ytgppecaeegaooaa", sum := "9cad26f8cbf5113404807e1b4b6514bccb4ee52126a6997fa1a85533e88a98e5", func := "wagonpool/wagonpoollaw19.TboxFewerGaps", spec := "tboxFewerGaps", unfollowed := true, recurses := true, loops := true, plainKeys := false, apart := false }
def TboxFewerGapsSaid : Prop := tboxFewerGapsRow.holds Try.pinned (OpenSpec.ofChange tboxFewerGapsSpec)

/-- ITS FALSE NEIGHBOUR: 'it returns false'. Refute it at one input. -/
def tboxFewerGapsWrong : ChangeSpec := { name := "tboxFewerGaps", fn := fun _ => fun
  | [d1, d2, d3] => { results := [.lit (.bool false)], args := [d1, d2, d3] }
  | _ => none }
def TboxFewerGapsWrongFalsely : Prop := tboxFewerGapsRow.holds Try.pinned (OpenSpec.ofChange tboxFewerGapsWrong)

/-- 'wagonpoollaw19.TboxGaps': WHATEVER THE INPUT: true; the input reads as it did. -/
def tboxGapsSpec : ChangeSpec := { name := "tboxGaps", fn := fun _ => fun
  | [d1, d2, d3] => { results := [.lit (.bool true)], args := [d1, d2, d3] }
  | _ => none }
def tboxGapsRow : OpenClaim := { program := "ytgppecaeegaooaa", sum := "9cad26f8cbf5113404807e1b4b6514bccb4ee52126a6997fa1a85533e88a98e5", func := "wagonpool/wagonpoollaw19.TboxGaps", spec := "tboxGaps", unfollowed := true, recurses := true, loops := true, plainKeys := false, apart := false }
def TboxGapsSaid : Prop := tboxGapsRow.holds Try.pinned (OpenSpec.ofChange tboxGapsSpec)

/-- ITS FALSE NEIGHBOUR: 'it returns false'. Refute it at one input. -/
def tboxGapsWrong : ChangeSpec := { name := "tboxGaps", fn := fun _ => fun
  | [d1, d2, d3] => { results := [.lit (.bool false)], args := [d1, d2, d3] }
  | _ => none }
def TboxGapsWrongFalsely : Prop := tboxGapsRow.holds Try.pinned (OpenSpec.ofChange tboxGapsWrong)

/-- 'wagonpoollaw19.TboxJoins': WHATEVER THE INPUT: true; the input reads as it did. -/
def tboxJoinsSpec : ChangeSpec := { name := "tboxJoins", fn := fun _ => fun
  | [d1, d2] => { results := [.lit (.bool true)], args := [d1, d2] }
  | _ => none }
def tboxJoinsRow : OpenClaim := { program := "ytgppecaeegaooaa", sum := "9cad26f8cbf5113404807e1b4b6514bccb4ee52126a6997fa1a85533e88a98e5", func := "wagonpool/wagonpoollaw19.TboxJoins", spec := "tboxJoins", unfollowed := true, recurses := true, loops := true, plainKeys := false, apart := false }
def TboxJoinsSaid : Prop := tboxJoinsRow.holds Try.pinned (OpenSpec.ofChange tboxJoinsSpec)

/-- ITS FALSE NEIGHBOUR: 'it returns false'. Refute it at one input. -/
def tboxJoinsWrong : ChangeSpec := { name := "tboxJoins", fn := fun _ => fun
  | [d1, d2] => { results := [.lit (.bool false)], args := [d1, d2] }
  | _ => none }
def TboxJoinsWrongFalsely : Prop := tboxJoinsRow.holds Try.pinned (OpenSpec.ofChange tboxJoinsWrong)

/-- 'wagonpoollaw19.TboxMatchesReference': WHATEVER THE INPUT: true; the input reads as it did. -/
def tboxMatchesReferenceSpec : ChangeSpec := { name := "tboxMatchesReference", fn := fun _ => fun
  | [d1, d2] => { results := [.lit (.bool true)], args := [d1, d2] }
  | _ => none }
def tboxMatchesReferenceRow : OpenClaim := { program := "ytgppecaeegaooaa", sum := "9cad26f8cbf5113404807e1b4b6514bccb4ee52126a6997fa1a85533e88a98e5", func := "wagonpool/wagonpoollaw19.TboxMatchesReference", spec := "tboxMatchesReference", unfollowed := true, recurses := true, loops := true, plainKeys := false, apart := false }
def TboxMatchesReferenceSaid : Prop := tboxMatchesReferenceRow.holds Try.pinned (OpenSpec.ofChange tboxMatchesReferenceSpec)

/-- ITS FALSE NEIGHBOUR: 'it returns false'. Refute it at one input. -/
def tboxMatchesReferenceWrong : ChangeSpec := { name := "tboxMatchesReference", fn := fun _ => fun
  | [d1, d2] => { results := [.lit (.bool false)], args := [d1, d2] }
  | _ => none }
def TboxMatchesReferenceWrongFalsely : Prop := tboxMatchesReferenceRow.holds Try.pinned (OpenSpec.ofChange tboxMatchesReferenceWrong)

/-- 'wagonpoollaw19.TboxOrder': WHATEVER THE INPUT: true; the input reads as it did. -/
def tboxOrderSpec : ChangeSpec := { name := "tboxOrder", fn := fun _ => fun
  | [d1, d2] => { results := [.lit (.bool true)], args := [d1, d2] }
  | _ => none }
def tboxOrderRow : OpenClaim := { program := "ytgppecaeegaooaa", sum := "9cad26f8cbf5113404807e1b4b6514bccb4ee52126a6997fa1a85533e88a98e5", func := "wagonpool/wagonpoollaw19.TboxOrder", spec := "tboxOrder", unfollowed := true, recurses := true, loops := true, plainKeys := false, apart := false }
def TboxOrderSaid : Prop := tboxOrderRow.holds Try.pinned (OpenSpec.ofChange tboxOrderSpec)

/-- ITS FALSE NEIGHBOUR: 'it returns false'. Refute it at one input. -/
def tboxOrderWrong : ChangeSpec := { name := "tboxOrder", fn := fun _ => fun
  | [d1, d2] => { results := [.lit (.bool false)], args := [d1, d2] }
  | _ => none }
def TboxOrderWrongFalsely : Prop := tboxOrderRow.holds Try.pinned (OpenSpec.ofChange tboxOrderWrong)

/-- 'wagonpoollaw19.TboxOverlaps': WHATEVER THE INPUT: true; the input reads as it did. -/
def tboxOverlapsSpec : ChangeSpec := { name := "tboxOverlaps", fn := fun _ => fun
  | [d1, d2] => { results := [.lit (.bool true)], args := [d1, d2] }
  | _ => none }
def tboxOverlapsRow : OpenClaim := { program := "ytgppecaeegaooaa", sum := "9cad26f8cbf5113404807e1b4b6514bccb4ee52126a6997fa1a85533e88a98e5", func := "wagonpool/wagonpoollaw19.TboxOverlaps", spec := "tboxOverlaps", unfollowed := true, recurses := true, loops := true, plainKeys := false, apart := false }
def TboxOverlapsSaid : Prop := tboxOverlapsRow.holds Try.pinned (OpenSpec.ofChange tboxOverlapsSpec)

/-- ITS FALSE NEIGHBOUR: 'it returns false'. Refute it at one input. -/
def tboxOverlapsWrong : ChangeSpec := { name := "tboxOverlaps", fn := fun _ => fun
  | [d1, d2] => { results := [.lit (.bool false)], args := [d1, d2] }
  | _ => none }
def TboxOverlapsWrongFalsely : Prop := tboxOverlapsRow.holds Try.pinned (OpenSpec.ofChange tboxOverlapsWrong)

/- THE SECOND FORM. 'bulk': how many values and letters a reading holds, each counted each time it is reached (what is shared counts as often as it is met; a slice's spare places count too). A statement '..UptoSaid' is the law's where the arguments, and the package variables that the reading takes, are together of bulk at most 1048576: NARROWER than '..Said'. Prove '..Said' where nothing that the law and all that it calls make is longer than what came in: it says more and counts as full. Else prove '..UptoSaid'. A law counts once. -/
mutual
def uptoBulk {H : Type} : DataW H → Nat
  | .lit (.string bytes) => bytes.length + 1
  | .lit _ => 1
  | .nil => 1
  | .ptr d => uptoBulk d + 1
  | .slice elems spare => uptoBulkAll elems + uptoBulkAll spare + 1
  | .agg parts => uptoBulkAll parts + 1
  | .iface _ d => uptoBulk d + 1
  | .map entries => uptoBulkEntries entries + 1
  | .held _ => 1
def uptoBulkAll {H : Type} : List (DataW H) → Nat
  | [] => 0
  | d :: r => uptoBulk d + uptoBulkAll r
def uptoBulkEntries {H : Type} : List (Lit × DataW H) → Nat
  | [] => 0
  | x :: r => uptoBulkEntry x + uptoBulkEntries r
def uptoBulkEntry {H : Type} : Lit × DataW H → Nat
  | (.string bytes, d) => bytes.length + uptoBulk d + 1
  | (_, d) => uptoBulk d + 1
 end
def uptoSmall : (H : Type) → List (DataW H) → Bool := fun _ ds => decide (uptoBulkAll ds ≤ 1048576)
def OpenSpec.upto (s : _root_.Go.ChangeSpec) : _root_.Go.OpenSpec := { _root_.Go.OpenSpec.ofChange s with cond := some uptoSmall }

/-- 'wagonpoollaw19.TboxBox', WHERE WHAT IT READS IS OF BULK AT MOST 1048576: true; the input reads as it did. -/
def tboxBoxUptoRow : OpenClaim := { program := "ytgppecaeegaooaa", sum := "9cad26f8cbf5113404807e1b4b6514bccb4ee52126a6997fa1a85533e88a98e5", func := "wagonpool/wagonpoollaw19.TboxBox", spec := "tboxBox", unfollowed := true, recurses := true, loops := true, plainKeys := false, apart := false, narrowed := true }
def TboxBoxUptoSaid : Prop := tboxBoxUptoRow.holds Try.pinned (OpenSpec.upto tboxBoxSpec)

/-- 'wagonpoollaw19.TboxFewerGaps', WHERE WHAT IT READS IS OF BULK AT MOST 1048576: true; the input reads as it did. -/
def tboxFewerGapsUptoRow : OpenClaim := { program := "ytgppecaeegaooaa", sum := "9cad26f8cbf5113404807e1b4b6514bccb4ee52126a6997fa1a85533e88a98e5", func := "wagonpool/wagonpoollaw19.TboxFewerGaps", spec := "tboxFewerGaps", unfollowed := true, recurses := true, loops := true, plainKeys := false, apart := false, narrowed := true }
def TboxFewerGapsUptoSaid : Prop := tboxFewerGapsUptoRow.holds Try.pinned (OpenSpec.upto tboxFewerGapsSpec)

/-- 'wagonpoollaw19.TboxGaps', WHERE WHAT IT READS IS OF BULK AT MOST 1048576: true; the input reads as it did. -/
def tboxGapsUptoRow : OpenClaim := { program := "ytgppecaeegaooaa", sum := "9cad26f8cbf5113404807e1b4b6514bccb4ee52126a6997fa1a85533e88a98e5", func := "wagonpool/wagonpoollaw19.TboxGaps", spec := "tboxGaps", unfollowed := true, recurses := true, loops := true, plainKeys := false, apart := false, narrowed := true }
def TboxGapsUptoSaid : Prop := tboxGapsUptoRow.holds Try.pinned (OpenSpec.upto tboxGapsSpec)

/-- 'wagonpoollaw19.TboxJoins', WHERE WHAT IT READS IS OF BULK AT MOST 1048576: true; the input reads as it did. -/
def tboxJoinsUptoRow : OpenClaim := { program := "ytgppecaeegaooaa", sum := "9cad26f8cbf5113404807e1b4b6514bccb4ee52126a6997fa1a85533e88a98e5", func := "wagonpool/wagonpoollaw19.TboxJoins", spec := "tboxJoins", unfollowed := true, recurses := true, loops := true, plainKeys := false, apart := false, narrowed := true }
def TboxJoinsUptoSaid : Prop := tboxJoinsUptoRow.holds Try.pinned (OpenSpec.upto tboxJoinsSpec)

/-- 'wagonpoollaw19.TboxMatchesReference', WHERE WHAT IT READS IS OF BULK AT MOST 1048576: true; the input reads as it did. -/
def tboxMatchesReferenceUptoRow : OpenClaim := { program := "ytgppecaeegaooaa", sum := "9cad26f8cbf5113404807e1b4b6514bccb4ee52126a6997fa1a85533e88a98e5", func := "wagonpool/wagonpoollaw19.TboxMatchesReference", spec := "tboxMatchesReference", unfollowed := true, recurses := true, loops := true, plainKeys := false, apart := false, narrowed := true }
def TboxMatchesReferenceUptoSaid : Prop := tboxMatchesReferenceUptoRow.holds Try.pinned (OpenSpec.upto tboxMatchesReferenceSpec)

/-- 'wagonpoollaw19.TboxOrder', WHERE WHAT IT READS IS OF BULK AT MOST 1048576: true; the input reads as it did. -/
def tboxOrderUptoRow : OpenClaim := { program := "ytgppecaeegaooaa", sum := "9cad26f8cbf5113404807e1b4b6514bccb4ee52126a6997fa1a85533e88a98e5", func := "wagonpool/wagonpoollaw19.TboxOrder", spec := "tboxOrder", unfollowed := true, recurses := true, loops := true, plainKeys := false, apart := false, narrowed := true }
def TboxOrderUptoSaid : Prop := tboxOrderUptoRow.holds Try.pinned (OpenSpec.upto tboxOrderSpec)

/-- 'wagonpoollaw19.TboxOverlaps', WHERE WHAT IT READS IS OF BULK AT MOST 1048576: true; the input reads as it did. -/
def tboxOverlapsUptoRow : OpenClaim := { program := "ytgppecaeegaooaa", sum := "9cad26f8cbf5113404807e1b4b6514bccb4ee52126a6997fa1a85533e88a98e5", func := "wagonpool/wagonpoollaw19.TboxOverlaps", spec := "tboxOverlaps", unfollowed := true, recurses := true, loops := true, plainKeys := false, apart := false, narrowed := true }
def TboxOverlapsUptoSaid : Prop := tboxOverlapsUptoRow.holds Try.pinned (OpenSpec.upto tboxOverlapsSpec)

end Rows
end Go.Proofs.Ytgppecaeegaooaa
