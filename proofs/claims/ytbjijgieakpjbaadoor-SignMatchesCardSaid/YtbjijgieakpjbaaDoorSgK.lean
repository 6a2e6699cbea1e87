/-
  sign: 'SignMatches' returns true.
  Conditions: none; these are lemmas.
-/
import Derived.Test.YtbjijgieakpjbaaDoorSgJ
namespace Go.Proofs.YtbjijgieakpjbaaDoor.PI
open Go
set_option linter.unusedSimpArgs false
set_option linter.unusedVariables false

set_option maxHeartbeats 4000000 in
set_option maxRecDepth 20000 in
theorem lw_SignMatches (seed : List UInt8) (hseed : seed.length ≤ maxLen) (x : Int) (hx1 : 0 ≤ x) (hx2 : x < 18446744073709551616) (msg : List UInt8) (hmsg : msg.length ≤ maxLen) : @wW GG (tb [(11, sp_ssane), (16, sp_short), (21, sp_sSecret), (22, sp_rSecret), (15, sp_sPublic), (23, sp_rPublic), (24, sp_sSign), (25, sp_rSign)] []) F_wagonpoollaw03_SignMatches.code (argF [.slc (nz 1 (seed.map byteD)) (seed.map byteD) false, .int .u64 x, .slc (nz 1 (msg.map byteD)) (msg.map byteD) false]) [] ⟨retQ F_wagonpoollaw03_SignMatches.res (.bool true)⟩ := by
  unfold F_wagonpoollaw03_SignMatches
  simp (disch := first | omega | decide) only [push_cast, ↓reduceIte, Nat.reduceEqDiff, Nat.reduceLT, Nat.reduceLeDiff, Nat.reduceAdd, Nat.reduceSub, Nat.reduceMul, Nat.reduceBEq, Int.reduceLT, Int.reduceLE, Int.reduceToNat, Int.reduceNeg, Int.reducePow, Int.reduceAdd, Int.reduceMul, Int.reduceSub, ↓Int.reduceNatCast', call_ssane]
  refine ifD_split (fun h1 => ?_) (fun h1 => ?_)
  · simp (disch := first | omega | decide) only [push_cast, ↓reduceIte, Nat.reduceEqDiff, Nat.reduceLT, Nat.reduceLeDiff, Nat.reduceAdd, Nat.reduceSub, Nat.reduceMul, Nat.reduceBEq, Int.reduceLT, Int.reduceLE, Int.reduceToNat, Int.reduceNeg, Int.reducePow, Int.reduceAdd, Int.reduceMul, Int.reduceSub, ↓Int.reduceNatCast', h1]
  · simp (disch := first | omega | decide) only [push_cast, ↓reduceIte, Nat.reduceEqDiff, Nat.reduceLT, Nat.reduceLeDiff, Nat.reduceAdd, Nat.reduceSub, Nat.reduceMul, Nat.reduceBEq, Int.reduceLT, Int.reduceLE, Int.reduceToNat, Int.reduceNeg, Int.reducePow, Int.reduceAdd, Int.reduceMul, Int.reduceSub, ↓Int.reduceNatCast', h1, call_short]
    refine ifD_split (fun h2 => ?_) (fun h2 => ?_)
    · have ce : paeq [0, 0] false (.agg [.int .u64 (sigC x msg), .int .u64 (sigS x msg)]) (.agg [.int .u64 (sigC x msg), .int .u64 (sigS x msg)]) = some (.bool true) := by
        have hf : flatEq [0, 0] [.int .u64 (sigC x msg), .int .u64 (sigS x msg)] [.int .u64 (sigC x msg), .int .u64 (sigS x msg)] = some true := by
          simp [flatEq, flatEq1]
        simp only [paeq, hf, Option.map_some]; rfl
      have cb : boxD (.agg [.int .u64 0, .int .u64 0]) = some [.int .u64 0, .int .u64 0] := rfl
      simp (disch := first | omega | decide) only [push_cast, ↓reduceIte, Nat.reduceEqDiff, Nat.reduceLT, Nat.reduceLeDiff, Nat.reduceAdd, Nat.reduceSub, Nat.reduceMul, Nat.reduceBEq, Int.reduceLT, Int.reduceLE, Int.reduceToNat, Int.reduceNeg, Int.reducePow, Int.reduceAdd, Int.reduceMul, Int.reduceSub, ↓Int.reduceNatCast', cb, ce, h1, h2, call_sSecret, call_rSecret, call_sPublic, call_rPublic, call_sSign, call_rSign, stO_2, ldO_2]
    · simp (disch := first | omega | decide) only [push_cast, ↓reduceIte, Nat.reduceEqDiff, Nat.reduceLT, Nat.reduceLeDiff, Nat.reduceAdd, Nat.reduceSub, Nat.reduceMul, Nat.reduceBEq, Int.reduceLT, Int.reduceLE, Int.reduceToNat, Int.reduceNeg, Int.reducePow, Int.reduceAdd, Int.reduceMul, Int.reduceSub, ↓Int.reduceNatCast', h1, h2]
theorem law_SignMatches : Contract Tryd.prog GG 7 (lawSp [.slc (.int .u8), .int .u64, .slc (.int .u8)]) := by
  refine lawC tr_wagonpoollaw03_SignMatches (T := tb [(11, sp_ssane), (16, sp_short), (21, sp_sSecret), (22, sp_rSecret), (15, sp_sPublic), (23, sp_rPublic), (24, sp_sSign), (25, sp_rSign)] []) (tb_ok (all_cons c_ssane (all_cons c_short (all_cons c_sSecret (all_cons c_rSecret (all_cons c_sPublic (all_cons c_rPublic (all_cons c_sSign (all_cons c_rSign all_nil)))))))) all_nil) ?_
  intro xs h
  obtain ⟨x0, xs, rfl, h0, h⟩ := hasAll_cons h
  obtain ⟨x1, xs, rfl, h1, h⟩ := hasAll_cons h
  obtain ⟨x2, xs, rfl, h2, h⟩ := hasAll_cons h
  obtain rfl := hasAll_nil h
  obtain ⟨y0, rfl, ya0⟩ := has_bytes h0
  obtain ⟨y1, rfl, ya1, yb1⟩ := has_u64 h1
  obtain ⟨y2, rfl, ya2⟩ := has_bytes h2
  exact lw_SignMatches y0 ya0 y1 ya1 yb1 y2 ya2
end Go.Proofs.YtbjijgieakpjbaaDoor.PI
