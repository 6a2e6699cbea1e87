/-
  sign: Verify, of the program and of the reference.
  Conditions: none; these are lemmas.
-/
import Derived.Test.YtgnekjlciiefbaaDoorSgJ
namespace Go.Proofs.YtgnekjlciiefbaaDoor.PI
open Go
set_option linter.unusedSimpArgs false
set_option linter.unusedVariables false

/-- is it a signature? -/
def verL (p : Int) (m : List UInt8) (c s : Int) : Bool :=
  if 65536 < (m.length : Int) then false else if 1152921504606845399 ≤ c then false else if 1152921504606845399 ≤ s then false else if validL p = true then
    decide (chL (powZ 4 s * powZ p (1152921504606845399 - c) % 2305843009213690799) p m = c) else false

theorem u64_sub {a b : Int} (h0 : 0 ≤ a - b) (h1 : a - b < 18446744073709551616) : pbin .sub (.int .u64 a) (.int .u64 b) = some (.int .u64 (a - b)) := by
  simp only [pbin, if_true, iarith, Option.map_some, wrapU_id h0 h1]

noncomputable def sp_rVerify : List D → Option D := spOf (α := Int × List UInt8 × (Int × Int)) (fun a => [.int .u64 a.1, .slc (nz 1 (a.2.1.map byteD)) (a.2.1.map byteD) false, .agg [.int .u64 (a.2.2).1, .int .u64 (a.2.2).2]]) (fun a => 0 ≤ a.1 ∧ a.1 < 18446744073709551616 ∧ 0 ≤ a.2.2.1 ∧ a.2.2.1 < 18446744073709551616 ∧ 0 ≤ a.2.2.2 ∧ a.2.2.2 < 18446744073709551616) (fun a => .bool (verL a.1 a.2.1 a.2.2.1 a.2.2.2))
theorem call_rVerify (p : Int) (m : List UInt8) (z : Int × Int) (h : 0 ≤ p ∧ p < 18446744073709551616 ∧ 0 ≤ z.1 ∧ z.1 < 18446744073709551616 ∧ 0 ≤ z.2 ∧ z.2 < 18446744073709551616) : sp_rVerify [.int .u64 p, .slc (nz 1 (m.map byteD)) (m.map byteD) false, .agg [.int .u64 (z).1, .int .u64 (z).2]] = some (.bool (verL p m z.1 z.2)) :=
  spOf_enc (fun ⟨a0, a1, a2⟩ ⟨b0, b1, b2⟩ h => by simp only [List.cons.injEq, D.slc.injEq, D.int.injEq, D.bool.injEq, D.str.injEq, D.agg.injEq, digs_iff, dig_iff, digC_iff, bytes_iff, byte_iff, words_iff, word_iff, Sha.St8.list_iff, bsl_iff, true_and, and_true] at h; simp [h, Prod.ext_iff]) (p, m, z) h
set_option maxHeartbeats 4000000 in
set_option maxRecDepth 20000 in
theorem w_rVerify (p : Int) (m : List UInt8) (z : Int × Int) (h : 0 ≤ p ∧ p < 18446744073709551616 ∧ 0 ≤ z.1 ∧ z.1 < 18446744073709551616 ∧ 0 ≤ z.2 ∧ z.2 < 18446744073709551616) : @wW GG (tb [(27, sp_rValid), (28, sp_rPow), (33, sp_Times), (38, sp_rChal)] []) F_wagonpoolref03_Verify.code (argF [.int .u64 p, .slc (nz 1 (m.map byteD)) (m.map byteD) false, .agg [.int .u64 (z).1, .int .u64 (z).2]]) [] ⟨retQ F_wagonpoolref03_Verify.res (.bool (verL p m z.1 z.2))⟩ := by
  obtain ⟨c, s⟩ := z
  dsimp only at h ⊢
  obtain ⟨hp0, hp1, hc0, hc1, hs0, hs1⟩ := h
  have cb : boxD (.agg [.int .u64 c, .int .u64 s]) = some [.int .u64 c, .int .u64 s] := rfl
  unfold F_wagonpoolref03_Verify verL
  by_cases h1 : 65536 < (m.length : Int)
  · simp (disch := first | omega | decide) only [push_cast, ↓wF_free, ↓reduceIte, Nat.reduceEqDiff, Nat.reduceLT, Nat.reduceLeDiff, Nat.reduceAdd, Nat.reduceSub, Nat.reduceMul, Nat.reduceBEq, Int.reduceLT, Int.reduceLE, Int.reduceToNat, Int.reduceNeg, Int.reducePow, Int.reduceAdd, Int.reduceMul, Int.reduceSub, ↓Int.reduceNatCast', cb, h1]
  by_cases h2 : 1152921504606845399 ≤ c
  · simp (disch := first | omega | decide) only [push_cast, ↓wF_free, ↓reduceIte, Nat.reduceEqDiff, Nat.reduceLT, Nat.reduceLeDiff, Nat.reduceAdd, Nat.reduceSub, Nat.reduceMul, Nat.reduceBEq, Int.reduceLT, Int.reduceLE, Int.reduceToNat, Int.reduceNeg, Int.reducePow, Int.reduceAdd, Int.reduceMul, Int.reduceSub, ↓Int.reduceNatCast', cb, h1, h2, ldO_one, ldO_succ]
  by_cases h3 : 1152921504606845399 ≤ s
  · simp (disch := first | omega | decide) only [push_cast, ↓wF_free, ↓reduceIte, Nat.reduceEqDiff, Nat.reduceLT, Nat.reduceLeDiff, Nat.reduceAdd, Nat.reduceSub, Nat.reduceMul, Nat.reduceBEq, Int.reduceLT, Int.reduceLE, Int.reduceToNat, Int.reduceNeg, Int.reducePow, Int.reduceAdd, Int.reduceMul, Int.reduceSub, ↓Int.reduceNatCast', cb, h1, h2, h3, ldO_one, ldO_succ]
  have cv := call_rValid p ⟨hp0, hp1⟩
  by_cases h4 : validL p = true
  · rw [h4] at cv
    have w1 := powZ_range 4 s
    have w2 := powZ_range p (1152921504606845399 - c)
    have c1 := call_rPow 4 s ⟨by omega, by omega, by omega, by omega⟩
    have c2 := call_rPow p (1152921504606845399 - c) ⟨by omega, by omega, by omega, by omega⟩
    have c3 := call_Times (powZ 4 s) (powZ p (1152921504606845399 - c)) 2305843009213690799 ⟨by omega, by omega, by omega, by omega, by omega⟩
    have r0 : 0 ≤ powZ 4 s * powZ p (1152921504606845399 - c) % 2305843009213690799 := Int.emod_nonneg _ (by decide)
    have r1 : powZ 4 s * powZ p (1152921504606845399 - c) % 2305843009213690799 < 2305843009213690799 := Int.emod_lt_of_pos _ (by decide)
    have c4 := call_rChal (powZ 4 s * powZ p (1152921504606845399 - c) % 2305843009213690799) p m ⟨by omega, by omega, by omega, by omega, by omega⟩
    simp (disch := first | omega | decide) only [push_cast, ↓wF_free, ↓reduceIte, Nat.reduceEqDiff, Nat.reduceLT, Nat.reduceLeDiff, Nat.reduceAdd, Nat.reduceSub, Nat.reduceMul, Nat.reduceBEq, Int.reduceLT, Int.reduceLE, Int.reduceToNat, Int.reduceNeg, Int.reducePow, Int.reduceAdd, Int.reduceMul, Int.reduceSub, ↓Int.reduceNatCast', cb, h1, h2, h3, h4, cv, c1, c2, c3, c4, ldO_one, ldO_succ, u64_sub]
  · have h5 : validL p = false := by simpa using h4
    rw [h5] at cv
    simp (disch := first | omega | decide) only [push_cast, ↓wF_free, ↓reduceIte, Nat.reduceEqDiff, Nat.reduceLT, Nat.reduceLeDiff, Nat.reduceAdd, Nat.reduceSub, Nat.reduceMul, Nat.reduceBEq, Int.reduceLT, Int.reduceLE, Int.reduceToNat, Int.reduceNeg, Int.reducePow, Int.reduceAdd, Int.reduceMul, Int.reduceSub, ↓Int.reduceNatCast', cb, h1, h2, h3, h5, cv, ldO_one, ldO_succ]
theorem c_rVerify : Contract Tryd.prog GG 26 sp_rVerify :=
  contract_of tr_wagonpoolref03_Verify (tb_ok (all_cons c_rValid (all_cons c_rPow (all_cons c_Times (all_cons c_rChal all_nil)))) all_nil) (fun a h => w_rVerify a.1 a.2.1 a.2.2 h)

noncomputable def sm_modulo : List D → Option ((Nat → D) × Obj)
  | [.int .u64 m] => some (fun k => .clo 39 [.ptr k 0], ⟨false, 1, [.int .u64 m], false⟩)
  | _ => none
theorem callm_modulo (m : Int) : sm_modulo [.int .u64 m] = some (fun k => .clo 39 [.ptr k 0], ⟨false, 1, [.int .u64 m], false⟩) := rfl
theorem cm_modulo : IContract Tryd.prog GG 31 (fun ds st => (sm_modulo ds).map fun r => (r.1 st.length, st ++ [r.2])) := by
  refine ci_modulo.weaken ?_
  intro ds st r h
  unfold sm_modulo at h
  split at h
  · rename_i m
    rw [call_modulo]
    exact h
  · cases h

noncomputable def sp_sVerify : List D → Option D := spOf (α := Int × List UInt8 × (Int × Int)) (fun a => [.int .u64 a.1, .slc (nz 1 (a.2.1.map byteD)) (a.2.1.map byteD) false, .agg [.int .u64 (a.2.2).1, .int .u64 (a.2.2).2]]) (fun a => 0 ≤ a.1 ∧ a.1 < 18446744073709551616 ∧ 0 ≤ a.2.2.1 ∧ a.2.2.1 < 18446744073709551616 ∧ 0 ≤ a.2.2.2 ∧ a.2.2.2 < 18446744073709551616) (fun a => .bool (verL a.1 a.2.1 a.2.2.1 a.2.2.2))
theorem call_sVerify (p : Int) (m : List UInt8) (z : Int × Int) (h : 0 ≤ p ∧ p < 18446744073709551616 ∧ 0 ≤ z.1 ∧ z.1 < 18446744073709551616 ∧ 0 ≤ z.2 ∧ z.2 < 18446744073709551616) : sp_sVerify [.int .u64 p, .slc (nz 1 (m.map byteD)) (m.map byteD) false, .agg [.int .u64 (z).1, .int .u64 (z).2]] = some (.bool (verL p m z.1 z.2)) :=
  spOf_enc (fun ⟨a0, a1, a2⟩ ⟨b0, b1, b2⟩ h => by simp only [List.cons.injEq, D.slc.injEq, D.int.injEq, D.bool.injEq, D.str.injEq, D.agg.injEq, digs_iff, dig_iff, digC_iff, bytes_iff, byte_iff, words_iff, word_iff, Sha.St8.list_iff, bsl_iff, true_and, and_true] at h; simp [h, Prod.ext_iff]) (p, m, z) h
set_option maxHeartbeats 4000000 in
set_option maxRecDepth 20000 in
theorem w_sVerify (p : Int) (m : List UInt8) (z : Int × Int) (h : 0 ≤ p ∧ p < 18446744073709551616 ∧ 0 ≤ z.1 ∧ z.1 < 18446744073709551616 ∧ 0 ≤ z.2 ∧ z.2 < 18446744073709551616) :
    @wW GG (tb [(21, sp_sValid), (15, sp_sPow), (30, sp_sChal)] [(39, si_mul)] [(31, sm_modulo)]) F_sign_Verify.code
      (argF [.int .u64 p, .slc (nz 1 (m.map byteD)) (m.map byteD) false, .agg [.int .u64 z.1, .int .u64 z.2]]) [] ⟨retQ F_sign_Verify.res (.bool (verL p m z.1 z.2))⟩ := by
  obtain ⟨c, s⟩ := z
  dsimp only at h ⊢
  obtain ⟨hp0, hp1, hc0, hc1, hs0, hs1⟩ := h
  have cb : boxD (.agg [.int .u64 c, .int .u64 s]) = some [.int .u64 c, .int .u64 s] := rfl
  unfold F_sign_Verify verL
  by_cases h1 : 65536 < (m.length : Int)
  · simp (disch := first | omega | decide) only [push_cast, ↓wF_free, ↓reduceIte, Nat.reduceEqDiff, Nat.reduceLT, Nat.reduceLeDiff, Nat.reduceAdd, Nat.reduceSub, Nat.reduceMul, Nat.reduceBEq, Int.reduceLT, Int.reduceLE, Int.reduceToNat, Int.reduceNeg, Int.reducePow, Int.reduceAdd, Int.reduceMul, Int.reduceSub, ↓Int.reduceNatCast', cb, h1]
  by_cases h2 : 1152921504606845399 ≤ c
  · simp (disch := first | omega | decide) only [push_cast, ↓wF_free, ↓reduceIte, Nat.reduceEqDiff, Nat.reduceLT, Nat.reduceLeDiff, Nat.reduceAdd, Nat.reduceSub, Nat.reduceMul, Nat.reduceBEq, Int.reduceLT, Int.reduceLE, Int.reduceToNat, Int.reduceNeg, Int.reducePow, Int.reduceAdd, Int.reduceMul, Int.reduceSub, ↓Int.reduceNatCast', cb, h1, h2, ldO_one, ldO_succ]
  by_cases h3 : 1152921504606845399 ≤ s
  · simp (disch := first | omega | decide) only [push_cast, ↓wF_free, ↓reduceIte, Nat.reduceEqDiff, Nat.reduceLT, Nat.reduceLeDiff, Nat.reduceAdd, Nat.reduceSub, Nat.reduceMul, Nat.reduceBEq, Int.reduceLT, Int.reduceLE, Int.reduceToNat, Int.reduceNeg, Int.reducePow, Int.reduceAdd, Int.reduceMul, Int.reduceSub, ↓Int.reduceNatCast', cb, h1, h2, h3, ldO_one, ldO_succ]
  have cv := call_sValid p ⟨hp0, hp1⟩
  by_cases h4 : validL p = true
  · rw [h4] at cv
    have w1 := powZ_range 4 s
    have w2 := powZ_range p (1152921504606845399 - c)
    have c1 := call_sPow 4 s ⟨by omega, by omega, by omega, by omega⟩
    have c2 := call_sPow p (1152921504606845399 - c) ⟨by omega, by omega, by omega, by omega⟩
    have c3 := fun o => call_mul1 o (powZ 4 s) (powZ p (1152921504606845399 - c)) 2305843009213690799 ⟨by omega, by omega, by omega, by omega, by omega, by omega⟩
    have r0 : 0 ≤ powZ 4 s * powZ p (1152921504606845399 - c) % 2305843009213690799 := Int.emod_nonneg _ (by decide)
    have r1 : powZ 4 s * powZ p (1152921504606845399 - c) % 2305843009213690799 < 2305843009213690799 := Int.emod_lt_of_pos _ (by decide)
    have c4 := call_sChal (powZ 4 s * powZ p (1152921504606845399 - c) % 2305843009213690799) p m ⟨by omega, by omega, by omega, by omega, by omega⟩
    simp (disch := first | omega | decide) only [push_cast, ↓wF_free, ↓reduceIte, Nat.reduceEqDiff, Nat.reduceLT, Nat.reduceLeDiff, Nat.reduceAdd, Nat.reduceSub, Nat.reduceMul, Nat.reduceBEq, Int.reduceLT, Int.reduceLE, Int.reduceToNat, Int.reduceNeg, Int.reducePow, Int.reduceAdd, Int.reduceMul, Int.reduceSub, ↓Int.reduceNatCast', cb, h1, h2, h3, h4, cv, c1, c2, c3, c4, callm_modulo, ldO_one, ldO_succ, u64_sub]
  · have h5 : validL p = false := by simpa using h4
    rw [h5] at cv
    simp (disch := first | omega | decide) only [push_cast, ↓wF_free, ↓reduceIte, Nat.reduceEqDiff, Nat.reduceLT, Nat.reduceLeDiff, Nat.reduceAdd, Nat.reduceSub, Nat.reduceMul, Nat.reduceBEq, Int.reduceLT, Int.reduceLE, Int.reduceToNat, Int.reduceNeg, Int.reducePow, Int.reduceAdd, Int.reduceMul, Int.reduceSub, ↓Int.reduceNatCast', cb, h1, h2, h3, h5, cv, ldO_one, ldO_succ]
theorem c_sVerify : Contract Tryd.prog GG 20 sp_sVerify :=
  contract_of tr_sign_Verify (tb_okm (all_cons c_sValid (all_cons c_sPow (all_cons c_sChal all_nil))) (all_cons ci_mul all_nil) (all_cons cm_modulo all_nil)) (fun a h => w_sVerify a.1 a.2.1 a.2.2 h)

end Go.Proofs.YtgnekjlciiefbaaDoor.PI
