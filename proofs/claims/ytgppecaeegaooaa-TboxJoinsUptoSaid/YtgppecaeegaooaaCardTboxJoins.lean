/-
  'TboxJoins' holds for every input: the function returns true, and the input reads as it did.
  Conditions: the input's bulk is at most 1048576; the row's own: the table of the digest's round constants reads as its initialiser lays it (the card ties it).
-/
import Derived.Test.YtgppecaeegaooaaRows
import Derived.WalkKit
import Derived.ProofKit
import Derived.OpenShut
import Derived.Deep.DeepHandedRow
import Derived.Test.YtgppecaeegaooaaTbU
namespace Go.Proofs.Ytgppecaeegaooaa.cTboxJoins
open Go.ChangeShapes Go.WideShapes Go.ChangeAt Go.RowKit
set_option linter.unusedVariables false

theorem own : ownKnob Try.prog.godebug = none := by kernel_rfl
mutual
theorem blk_le {H : Type} : (d : DataW H) → PI.blk d ≤ Rows.uptoBulk d
  | .lit l => by cases l <;> simp [PI.blk, Rows.uptoBulk]
  | .nil => by simp [PI.blk, Rows.uptoBulk]
  | .ptr d => by simp [PI.blk]
  | .slice e s => by have := blks_le e; simp only [PI.blk, Rows.uptoBulk]; omega
  | .agg p => by have := blks_le p; simp only [PI.blk, Rows.uptoBulk]; omega
  | .iface _ d => by simp [PI.blk]
  | .map e => by simp [PI.blk]
  | .held _ => by simp [PI.blk]
theorem blks_le {H : Type} : (l : List (DataW H)) → PI.blks l ≤ Rows.uptoBulkAll l
  | [] => by simp [PI.blks, Rows.uptoBulkAll]
  | d :: l => by have h1 := blk_le d; have h2 := blks_le l; simp only [PI.blks, Rows.uptoBulkAll]; omega
end
theorem blks_append {H : Type} : ∀ (a b : List (DataW H)), PI.blks a ≤ PI.blks (a ++ b)
  | [], b => by simp [PI.blks]
  | d :: l, b => by have := blks_append l b; simp only [List.cons_append, PI.blks]; omega
theorem bulk_of {H : Type} {ds gs : List (DataW H)} (h : Rows.uptoSmall H (ds ++ gs) = true) : PI.blks ds ≤ 1048576 :=
  Nat.le_trans (blks_append ds gs) (Nat.le_trans (blks_le _) (of_decide_eq_true h))

set_option maxRecDepth 100000 in
theorem contract (H : Type) (enc : TypeId × Value → H) (W : World) (args : Array Value) (ds gs : List (DataW H)) (before : List MemPlace)
    (hval : ∀ (j : Nat) t v, Try.f6.params[j]? = some t → args[j]? = some v → Value.okWide Try.prog W .any 0 t v)
    (hW : DataW.Whole enc Try.prog Try.f6.params.toList Rows.tboxJoinsSpec.vars false W args.toList ds gs before) (hN : PI.blks ds ≤ 1048576) (hL : laidMetH Try.prog Rows.tboxJoinsUptoRow.laid W) :
    Calls Try.prog 6 args W fun e W' => ∃ v, e = .returned v ∧ Rows.tboxJoinsSpec.post enc Try.prog Try.f6 false true false false W args v W' := by
  refine PI.law_contractU (N := 1048576) (tys := [PI.tyCls4, PI.tyCls4]) (n := 4) PI.law_TboxJoins (by kernel_rfl) rfl ⟨_, rfl, by kernel_rfl⟩ ?_ (fun _ h hN => PI.lawSpU_true h hN) (fun n d h => by cases h) hN hval hW
  intro H ds hd
  match ds, hd with
  | [_, _], _ => exact ⟨rfl, rfl, rfl⟩

noncomputable def laidWorld (os : Os) : World :=
  World.holding Try.prog os ⟨#[], #[], []⟩
def wit : Array Value := #[.agg #[.string ByteArray.empty, .slice none 0 0, .int .i64 0, .int .i64 0, .int .i64 0, .int .i64 0, .int .i64 0, .int .i64 0, .slice none 0 0], .agg #[.string ByteArray.empty, .slice none 0 0, .int .i64 0, .int .i64 0, .int .i64 0, .int .i64 0, .int .i64 0, .int .i64 0, .slice none 0 0]]
theorem laid_met (os : Os) : laidMet Try.prog Rows.tboxJoinsUptoRow.laid ((laidWorld os).forCall (fun _ _ => 0) ⟨#[], wit, []⟩).memory :=
  laidMet_of_run' 8 (by kernel_rfl) (by kernel_rfl)
theorem reads (os : Os) {H : Type} (enc : TypeId × Value → H) : ∃ places, DataW.whole enc Try.prog ((laidWorld os).forCall (fun _ _ => 0) ⟨#[], wit, []⟩).memory Try.f6.params.toList Rows.tboxJoinsSpec.vars false wit.toList 8 = some ([.agg [.lit (.string []), .nil, .agg [.lit (.int .i64 0), .lit (.int .i64 0), .agg [.lit (.int .i64 0), .lit (.int .i64 0), .lit (.int .i64 0), .lit (.int .i64 0)], .nil]], .agg [.lit (.string []), .nil, .agg [.lit (.int .i64 0), .lit (.int .i64 0), .agg [.lit (.int .i64 0), .lit (.int .i64 0), .lit (.int .i64 0), .lit (.int .i64 0)], .nil]]], [], places) :=
  ⟨[], by kernel_rfl⟩

set_option maxRecDepth 100000 in
theorem lifted (os : Os) (started : os.Started) (H : Type) (enc : TypeId × Value → H) (F : Stop.Interp) :
    ReturnsInHanded {} Try.checked os 6 .any ((Rows.OpenSpec.upto Rows.tboxJoinsSpec).preRow enc Try.prog Try.f6 Rows.tboxJoinsUptoRow.domain false Rows.tboxJoinsUptoRow.laid) (((Rows.OpenSpec.upto Rows.tboxJoinsSpec).at F).post enc Try.prog Try.f6 false true false false) := by
  obtain ⟨places, hx⟩ := reads os enc
  refine returnsInHanded_of_row (C := Try.checked) (s := Rows.OpenSpec.upto Rows.tboxJoinsSpec) own started (by kernel_rfl) Try.func6
    (witness_row_at (enc := enc) (C := Try.checked) false (laidWorld os) wit rfl (by kernel_rfl) (by kernel_rfl) (by kernel_rfl)
      (OpenSpec.preRow_of_cond 8 hx (by kernel_rfl) (fun k hk => by cases hk; kernel_rfl) (by kernel_rfl) (laid_met os))) ?_
  intro W base args ds gs before hval hW _ hk _ hL _ _
  exact contract H enc W args ds gs before (fun j t v h1 h2 => hval j t v h1 h2) hW (bulk_of (hk _ rfl)) hL

theorem said : Rows.TboxJoinsUptoSaid :=
  OpenClaim.holds_of_cond 6 Try.f6 rfl rfl rfl rfl rfl rfl rfl ⟨rfl, rfl, rfl, rfl, rfl⟩ rfl rfl rfl rfl rfl (by kernel_rfl) Try.func6 (by kernel_rfl)
    (of_decide_eq_true (by kernel_rfl)) (by unfold Func.isWrapper; first | (rw [if_pos (by decide +kernel)]; kernel_rfl) | (rw [if_neg (by decide +kernel)]; exact ⟨rfl, rfl⟩))
    (fun os started H enc _ F => by rw [OpenClaim.pre_eq_preRow]; exact lifted os started H enc F)

end Go.Proofs.Ytgppecaeegaooaa.cTboxJoins

