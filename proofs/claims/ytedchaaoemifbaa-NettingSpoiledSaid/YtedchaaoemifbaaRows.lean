/-
  No cell of these rows narrows 'for every input' (looked for: loops, veiled, ifaces, maps, wideKeys, modest, calm, conditions, laid).
  DERIVED. THE GIVEN ROWS OF THIS SEAT. 6 by the template 'for every input the law returns true; each argument reads behind the call as it read before'; 0 by the template 'total and deterministic' (their statements: YtedchaaoemifbaaTotals.lean).
  GIVEN WITH THE SEED: the statements are not yours to turn. If you find one false, say at which input.
  Laid BY PROGRAM, IN A SANDBOX (cutbox-rows.mjs): the forced cells as the released guide's own fill.sh prints them over the translation b5db348b4e397ce4… (all of the seat's roots in one cut). By AI agents, Wed Nov 11 2026. No macro, syntax, notation, axiom, sorry.
-/
import Derived.Test.YtedchaaoemifbaaChecked
import GoSem.Claim
import GoSem.ClaimJoined
import GoSem.ClaimMapViews
import Derived.JoinedTies
import Derived.KernelRfl
namespace Go.Proofs.Ytedchaaoemifbaa
/- THE CELL 'sum', in the pinned program and in every row, IS THE sha256 OF THE DUMP (.gsa) THAT YtedchaaoemifbaaProg.lean LOADS. Nothing in Lean hashes anything: it is a label: what it is worth is what the hold of that sum in a sandbox is worth. -/
noncomputable def Try.pinned : Pinned := { name := "ytedchaaoemifbaa", sum := "b5db348b4e397ce414e1a80fbff15d2997e4162def34ab00ed59ec3780717794", checked := Try.checked }
namespace Rows
def none {H : Type} : Left H := { results := [], args := [] }

/-- 'wagonpoollaw34.NettingConserves': WHATEVER THE INPUT: true; the input reads as it did. -/
def nettingConservesSpec : ChangeSpec := { name := "nettingConserves", fn := fun _ => fun
  | [d1, d2, d3] => { results := [.lit (.bool true)], args := [d1, d2, d3] }
  | _ => none }
def nettingConservesRow : OpenClaim := { program := "ytedchaaoemifbaa", sum := "b5db348b4e397ce414e1a80fbff15d2997e4162def34ab00ed59ec3780717794", func := "wagonpool/wagonpoollaw34.NettingConserves", spec := "nettingConserves", inPlace := ["math/bits.Add64"], unfollowed := true, recurses := true, apart := false }
def NettingConservesSaid : Prop := nettingConservesRow.holds Try.pinned (OpenSpec.ofChange nettingConservesSpec)

/-- ITS FALSE NEIGHBOUR: 'it returns false'. Refute it at one input. -/
def nettingConservesWrong : ChangeSpec := { name := "nettingConserves", fn := fun _ => fun
  | [d1, d2, d3] => { results := [.lit (.bool false)], args := [d1, d2, d3] }
  | _ => none }
def NettingConservesWrongFalsely : Prop := nettingConservesRow.holds Try.pinned (OpenSpec.ofChange nettingConservesWrong)

/-- 'wagonpoollaw34.NettingExact': WHATEVER THE INPUT: true; the input reads as it did. -/
def nettingExactSpec : ChangeSpec := { name := "nettingExact", fn := fun _ => fun
  | [d1, d2] => { results := [.lit (.bool true)], args := [d1, d2] }
  | _ => none }
def nettingExactRow : OpenClaim := { program := "ytedchaaoemifbaa", sum := "b5db348b4e397ce414e1a80fbff15d2997e4162def34ab00ed59ec3780717794", func := "wagonpool/wagonpoollaw34.NettingExact", spec := "nettingExact", inPlace := ["math/bits.Add64"], unfollowed := true, recurses := true, apart := false }
def NettingExactSaid : Prop := nettingExactRow.holds Try.pinned (OpenSpec.ofChange nettingExactSpec)

/-- ITS FALSE NEIGHBOUR: 'it returns false'. Refute it at one input. -/
def nettingExactWrong : ChangeSpec := { name := "nettingExact", fn := fun _ => fun
  | [d1, d2] => { results := [.lit (.bool false)], args := [d1, d2] }
  | _ => none }
def NettingExactWrongFalsely : Prop := nettingExactRow.holds Try.pinned (OpenSpec.ofChange nettingExactWrong)

/-- 'wagonpoollaw34.NettingMatchesReference': WHATEVER THE INPUT: true; the input reads as it did. -/
def nettingMatchesReferenceSpec : ChangeSpec := { name := "nettingMatchesReference", fn := fun _ => fun
  | [d1, d2] => { results := [.lit (.bool true)], args := [d1, d2] }
  | _ => none }
def nettingMatchesReferenceRow : OpenClaim := { program := "ytedchaaoemifbaa", sum := "b5db348b4e397ce414e1a80fbff15d2997e4162def34ab00ed59ec3780717794", func := "wagonpool/wagonpoollaw34.NettingMatchesReference", spec := "nettingMatchesReference", inPlace := ["math/bits.Add64"], unfollowed := true, recurses := true, apart := false }
def NettingMatchesReferenceSaid : Prop := nettingMatchesReferenceRow.holds Try.pinned (OpenSpec.ofChange nettingMatchesReferenceSpec)

/-- ITS FALSE NEIGHBOUR: 'it returns false'. Refute it at one input. -/
def nettingMatchesReferenceWrong : ChangeSpec := { name := "nettingMatchesReference", fn := fun _ => fun
  | [d1, d2] => { results := [.lit (.bool false)], args := [d1, d2] }
  | _ => none }
def NettingMatchesReferenceWrongFalsely : Prop := nettingMatchesReferenceRow.holds Try.pinned (OpenSpec.ofChange nettingMatchesReferenceWrong)

/-- 'wagonpoollaw34.NettingOrder': WHATEVER THE INPUT: true; the input reads as it did. -/
def nettingOrderSpec : ChangeSpec := { name := "nettingOrder", fn := fun _ => fun
  | [d] => { results := [.lit (.bool true)], args := [d] }
  | _ => none }
def nettingOrderRow : OpenClaim := { program := "ytedchaaoemifbaa", sum := "b5db348b4e397ce414e1a80fbff15d2997e4162def34ab00ed59ec3780717794", func := "wagonpool/wagonpoollaw34.NettingOrder", spec := "nettingOrder", inPlace := ["math/bits.Add64"], unfollowed := true, recurses := true, apart := false }
def NettingOrderSaid : Prop := nettingOrderRow.holds Try.pinned (OpenSpec.ofChange nettingOrderSpec)

/-- ITS FALSE NEIGHBOUR: 'it returns false'. Refute it at one input. -/
def nettingOrderWrong : ChangeSpec := { name := "nettingOrder", fn := fun _ => fun
  | [d] => { results := [.lit (.bool false)], args := [d] }
  | _ => none }
def NettingOrderWrongFalsely : Prop := nettingOrderRow.holds Try.pinned (OpenSpec.ofChange nettingOrderWrong)

/-- 'wagonpoollaw34.NettingSettles': WHATEVER THE INPUT: true; the input reads as it did. -/
def nettingSettlesSpec : ChangeSpec := { name := "nettingSettles", fn := fun _ => fun
  | [d] => { results := [.lit (.bool true)], args := [d] }
  | _ => none }
def nettingSettlesRow : OpenClaim := { program := "ytedchaaoemifbaa", sum := "b5db348b4e397ce414e1a80fbff15d2997e4162def34ab00ed59ec3780717794", func := "wagonpool/wagonpoollaw34.NettingSettles", spec := "nettingSettles", inPlace := ["math/bits.Add64"], unfollowed := true, recurses := true, apart := false }
def NettingSettlesSaid : Prop := nettingSettlesRow.holds Try.pinned (OpenSpec.ofChange nettingSettlesSpec)

/-- ITS FALSE NEIGHBOUR: 'it returns false'. Refute it at one input. -/
def nettingSettlesWrong : ChangeSpec := { name := "nettingSettles", fn := fun _ => fun
  | [d] => { results := [.lit (.bool false)], args := [d] }
  | _ => none }
def NettingSettlesWrongFalsely : Prop := nettingSettlesRow.holds Try.pinned (OpenSpec.ofChange nettingSettlesWrong)

/-- 'wagonpoollaw34.NettingSpoiled': WHATEVER THE INPUT: true; the input reads as it did. -/
def nettingSpoiledSpec : ChangeSpec := { name := "nettingSpoiled", fn := fun _ => fun
  | [d1, d2, d3, d4] => { results := [.lit (.bool true)], args := [d1, d2, d3, d4] }
  | _ => none }
def nettingSpoiledRow : OpenClaim := { program := "ytedchaaoemifbaa", sum := "b5db348b4e397ce414e1a80fbff15d2997e4162def34ab00ed59ec3780717794", func := "wagonpool/wagonpoollaw34.NettingSpoiled", spec := "nettingSpoiled", inPlace := ["math/bits.Add64"], unfollowed := true, recurses := true, apart := false }
def NettingSpoiledSaid : Prop := nettingSpoiledRow.holds Try.pinned (OpenSpec.ofChange nettingSpoiledSpec)

/-- ITS FALSE NEIGHBOUR: 'it returns false'. Refute it at one input. -/
def nettingSpoiledWrong : ChangeSpec := { name := "nettingSpoiled", fn := fun _ => fun
  | [d1, d2, d3, d4] => { results := [.lit (.bool false)], args := [d1, d2, d3, d4] }
  | _ => none }
def NettingSpoiledWrongFalsely : Prop := nettingSpoiledRow.holds Try.pinned (OpenSpec.ofChange nettingSpoiledWrong)

/- THE SECOND FORM. 'bulk': how many values and letters a reading holds, each counted each time it is reached (what is shared counts as often as it is met; a slice's spare places count too). A statement '..UptoSaid' is the law's where the arguments, and the package variables that the reading takes, are together of bulk at most 1048576: NARROWER than '..Said'. Prove '..Said' where nothing that the law and all that it calls make is longer than what came in: it says more and counts as full. Else prove '..UptoSaid'. A law counts once. -/
mutual
def uptoBulk {H : Type} : DataW H → Nat
  | .lit (.string bytes) => bytes.length + 1
  | .lit _ => 1
  | .nil => 1
  | .ptr d => uptoBulk d + 1
  | .slice elems spare => uptoBulkAll elems + uptoBulkAll spare + 1
  | .agg parts => uptoBulkAll parts + 1
  | .iface _ d => uptoBulk d + 1
  | .map entries => uptoBulkEntries entries + 1
  | .held _ => 1
def uptoBulkAll {H : Type} : List (DataW H) → Nat
  | [] => 0
  | d :: r => uptoBulk d + uptoBulkAll r
def uptoBulkEntries {H : Type} : List (Lit × DataW H) → Nat
  | [] => 0
  | x :: r => uptoBulkEntry x + uptoBulkEntries r
def uptoBulkEntry {H : Type} : Lit × DataW H → Nat
  | (.string bytes, d) => bytes.length + uptoBulk d + 1
  | (_, d) => uptoBulk d + 1
 end
def uptoSmall : (H : Type) → List (DataW H) → Bool := fun _ ds => decide (uptoBulkAll ds ≤ 1048576)
def OpenSpec.upto (s : _root_.Go.ChangeSpec) : _root_.Go.OpenSpec := { _root_.Go.OpenSpec.ofChange s with cond := some uptoSmall }

/-- 'wagonpoollaw34.NettingConserves', WHERE WHAT IT READS IS OF BULK AT MOST 1048576: true; the input reads as it did. -/
def nettingConservesUptoRow : OpenClaim := { program := "ytedchaaoemifbaa", sum := "b5db348b4e397ce414e1a80fbff15d2997e4162def34ab00ed59ec3780717794", func := "wagonpool/wagonpoollaw34.NettingConserves", spec := "nettingConserves", inPlace := ["math/bits.Add64"], unfollowed := true, recurses := true, apart := false, narrowed := true }
def NettingConservesUptoSaid : Prop := nettingConservesUptoRow.holds Try.pinned (OpenSpec.upto nettingConservesSpec)

/-- 'wagonpoollaw34.NettingExact', WHERE WHAT IT READS IS OF BULK AT MOST 1048576: true; the input reads as it did. -/
def nettingExactUptoRow : OpenClaim := { program := "ytedchaaoemifbaa", sum := "b5db348b4e397ce414e1a80fbff15d2997e4162def34ab00ed59ec3780717794", func := "wagonpool/wagonpoollaw34.NettingExact", spec := "nettingExact", inPlace := ["math/bits.Add64"], unfollowed := true, recurses := true, apart := false, narrowed := true }
def NettingExactUptoSaid : Prop := nettingExactUptoRow.holds Try.pinned (OpenSpec.upto nettingExactSpec)

/-- 'wagonpoollaw34.NettingMatchesReference', WHERE WHAT IT READS IS OF BULK AT MOST 1048576: true; the input reads as it did. -/
def nettingMatchesReferenceUptoRow : OpenClaim := { program := "ytedchaaoemifbaa", sum := "b5db348b4e397ce414e1a80fbff15d2997e4162def34ab00ed59ec3780717794", func := "wagonpool/wagonpoollaw34.NettingMatchesReference", spec := "nettingMatchesReference", inPlace := ["math/bits.Add64"], unfollowed := true, recurses := true, apart := false, narrowed := true }
def NettingMatchesReferenceUptoSaid : Prop := nettingMatchesReferenceUptoRow.holds Try.pinned (OpenSpec.upto nettingMatchesReferenceSpec)

/-- 'wagonpoollaw34.NettingOrder', WHERE WHAT IT READS IS OF BULK AT MOST 1048576: true; the input reads as it did. -/
def nettingOrderUptoRow : OpenClaim := { program := "ytedchaaoemifbaa", sum := "b5db348b4e397ce414e1a80fbff15d2997e4162def34ab00ed59ec3780717794", func := "wagonpool/wagonpoollaw34.NettingOrder", spec := "nettingOrder", inPlace := ["math/bits.Add64"], unfollowed := true, recurses := true, apart := false, narrowed := true }
def NettingOrderUptoSaid : Prop := nettingOrderUptoRow.holds Try.pinned (OpenSpec.upto nettingOrderSpec)

/-- 'wagonpoollaw34.NettingSettles', WHERE WHAT IT READS IS OF BULK AT MOST 1048576: true; the input reads as it did. -/
def nettingSettlesUptoRow : OpenClaim := { program := "ytedchaaoemifbaa", sum := "b5db348b4e397ce414e1a80fbff15d2997e4162def34ab00ed59ec3780717794", func := "wagonpool/wagonpoollaw34.NettingSettles", spec := "nettingSettles", inPlace := ["math/bits.Add64"], unfollowed := true, recurses := true, apart := false, narrowed := true }
def NettingSettlesUptoSaid : Prop := nettingSettlesUptoRow.holds Try.pinned (OpenSpec.upto nettingSettlesSpec)

/-- 'wagonpoollaw34.NettingSpoiled', WHERE WHAT IT READS IS OF BULK AT MOST 1048576: true; the input reads as it did. -/
def nettingSpoiledUptoRow : OpenClaim := { program := "ytedchaaoemifbaa", sum := "b5db348b4e397ce414e1a80fbff15d2997e4162def34ab00ed59ec3780717794", func := "wagonpool/wagonpoollaw34.NettingSpoiled", spec := "nettingSpoiled", inPlace := ["math/bits.Add64"], unfollowed := true, recurses := true, apart := false, narrowed := true }
def NettingSpoiledUptoSaid : Prop := nettingSpoiledUptoRow.holds Try.pinned (OpenSpec.upto nettingSpoiledSpec)

end Rows
end Go.Proofs.Ytedchaaoemifbaa
