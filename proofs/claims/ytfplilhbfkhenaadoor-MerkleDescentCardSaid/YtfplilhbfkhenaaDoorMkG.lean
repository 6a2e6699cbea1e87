/-
  merkle: the statements' functions return true.
  Conditions: none; these are lemmas.
-/
import Derived.Test.YtfplilhbfkhenaaDoorMkF
import Derived.Test.YtfplilhbfkhenaaDoorEngLaw
namespace Go.Proofs.YtfplilhbfkhenaaDoor.PI
open Go
set_option linter.unusedSimpArgs false
set_option linter.unusedVariables false

abbrev tDig : Ty := .agg (List.replicate 32 (.int .u8))
abbrev tCommit : Ty := .agg [.int .i64, tDig]

set_option maxHeartbeats 4000000 in
theorem law_MerkleIncludesMatchesReference : Contract Tryd.prog GG 4 (lawSp [tCommit, .int .i64, tDig, .slc tDig]) := by
  refine lawC tr_wagonpoollaw04_MerkleIncludesMatchesReference (T := tb [(11, sp_sane), (28, sp_mIncludes), (29, sp_rIncludes)] [])
    (tb_ok (all_cons c_sane (all_cons c_mIncludes (all_cons c_rIncludes all_nil))) all_nil) ?_
  intro xs h
  obtain ⟨x0, xs, rfl, h0, h⟩ := hasAll_cons h
  obtain ⟨x1, xs, rfl, h1, h⟩ := hasAll_cons h
  obtain ⟨x2, xs, rfl, h2, h⟩ := hasAll_cons h
  obtain ⟨x3, xs, rfl, h3, h⟩ := hasAll_cons h
  obtain rfl := hasAll_nil h
  obtain ⟨c, rfl⟩ := has_commit h0
  obtain ⟨i, rfl, hi1, hi2⟩ := has_i64 h1
  obtain ⟨x, rfl⟩ := has_dig h2
  obtain ⟨p, rfl, hp⟩ := has_digs h3
  unfold F_wagonpoollaw04_MerkleIncludesMatchesReference
  simp (disch := omega) only [push_cast, ↓reduceIte, Nat.reduceEqDiff, Nat.reduceLT, Nat.reduceLeDiff, Nat.reduceAdd, Nat.reduceSub, Nat.reduceMul, Nat.reduceBEq, Int.reduceLT, Int.reduceLE, Int.reduceToNat, Int.reduceNeg, Int.reducePow, Int.reduceAdd, Int.reduceMul, Int.reduceSub, ↓Int.reduceNatCast', call_sane]
  refine ifD_split (fun h4 => ?_) (fun h4 => ?_)
  · simp only [push_cast, ↓reduceIte, Nat.reduceEqDiff, Nat.reduceLT, Nat.reduceLeDiff, Nat.reduceAdd, Nat.reduceSub, Nat.reduceMul, Nat.reduceBEq, Int.reduceLT, Int.reduceLE, Int.reduceToNat, Int.reduceNeg, Int.reducePow, Int.reduceAdd, Int.reduceMul, Int.reduceSub, ↓Int.reduceNatCast']
  · simp (disch := omega) only [push_cast, ↓reduceIte, Nat.reduceEqDiff, Nat.reduceLT, Nat.reduceLeDiff, Nat.reduceAdd, Nat.reduceSub, Nat.reduceMul, Nat.reduceBEq, Int.reduceLT, Int.reduceLE, Int.reduceToNat, Int.reduceNeg, Int.reducePow, Int.reduceAdd, Int.reduceMul, Int.reduceSub, ↓Int.reduceNatCast', call_mIncludes, call_rIncludes]

end Go.Proofs.YtfplilhbfkhenaaDoor.PI
