/-
  sign: keys; the examples with which each statement begins hold.
  Conditions: none; these are lemmas.
-/
import Derived.Test.YtgnekjlciiefbaaDoorSgC
namespace Go.Proofs.YtgnekjlciiefbaaDoor.PI
open Go
set_option linter.unusedSimpArgs false
set_option linter.unusedVariables false

def pubL (n : Int) : Int := if 1 ≤ n ∧ n < 1152921504606845399 then powZ 4 n else 0
def pubE (n : Int) : Int := if 1 ≤ n ∧ n < 1152921504606845399 then 0 else 30
noncomputable def sp_sPublic : List D → Option D := spOf (α := Int) (fun a => [.int .u64 a]) (fun a => 0 ≤ a ∧ a < 18446744073709551616) (fun a => .tup [.int .u64 (pubL a), .int .i64 (pubE a)])
theorem call_sPublic (n : Int) (h : 0 ≤ n ∧ n < 18446744073709551616) : sp_sPublic [.int .u64 n] = some (.tup [.int .u64 (pubL n), .int .i64 (pubE n)]) :=
  spOf_enc (fun a b h => by simp only [List.cons.injEq, D.slc.injEq, D.int.injEq, D.bool.injEq, D.str.injEq, D.agg.injEq, digs_iff, dig_iff, digC_iff, bytes_iff, byte_iff, words_iff, word_iff, Sha.St8.list_iff, bsl_iff, true_and, and_true] at h; simp [h, Prod.ext_iff]) (n) h
set_option maxHeartbeats 4000000 in
set_option maxRecDepth 20000 in
theorem w_sPublic (n : Int) (h : 0 ≤ n ∧ n < 18446744073709551616) : @wW GG (tb [(15, sp_sPow)] []) F_sign_Public.code (argF [.int .u64 n]) [] ⟨retQ F_sign_Public.res (.tup [.int .u64 (pubL n), .int .i64 (pubE n)])⟩ := by
  unfold F_sign_Public
  simp (disch := omega) only [push_cast, ↓wF_free, ↓reduceIte, Nat.reduceEqDiff, Nat.reduceLT, Nat.reduceLeDiff, Nat.reduceAdd, Nat.reduceSub, Nat.reduceMul, Nat.reduceBEq, Int.reduceLT, Int.reduceLE, Int.reduceToNat, Int.reduceNeg, Int.reducePow, Int.reduceAdd, Int.reduceMul, Int.reduceSub, ↓Int.reduceNatCast']
  refine ifD_split (fun h1 => ?_) (fun h1 => ?_)
  · have e1 : pubL n = 0 := if_neg (by omega)
    have e2 : pubE n = 30 := if_neg (by omega)
    simp (disch := omega) only [push_cast, ↓wF_free, ↓reduceIte, Nat.reduceEqDiff, Nat.reduceLT, Nat.reduceLeDiff, Nat.reduceAdd, Nat.reduceSub, Nat.reduceMul, Nat.reduceBEq, Int.reduceLT, Int.reduceLE, Int.reduceToNat, Int.reduceNeg, Int.reducePow, Int.reduceAdd, Int.reduceMul, Int.reduceSub, ↓Int.reduceNatCast', h1, e1, e2]
  · simp (disch := omega) only [push_cast, ↓wF_free, ↓reduceIte, Nat.reduceEqDiff, Nat.reduceLT, Nat.reduceLeDiff, Nat.reduceAdd, Nat.reduceSub, Nat.reduceMul, Nat.reduceBEq, Int.reduceLT, Int.reduceLE, Int.reduceToNat, Int.reduceNeg, Int.reducePow, Int.reduceAdd, Int.reduceMul, Int.reduceSub, ↓Int.reduceNatCast', h1]
    refine ifD_split (fun h2 => ?_) (fun h2 => ?_)
    · have e1 : pubL n = 0 := if_neg (by omega)
      have e2 : pubE n = 30 := if_neg (by omega)
      simp (disch := omega) only [push_cast, ↓wF_free, ↓reduceIte, Nat.reduceEqDiff, Nat.reduceLT, Nat.reduceLeDiff, Nat.reduceAdd, Nat.reduceSub, Nat.reduceMul, Nat.reduceBEq, Int.reduceLT, Int.reduceLE, Int.reduceToNat, Int.reduceNeg, Int.reducePow, Int.reduceAdd, Int.reduceMul, Int.reduceSub, ↓Int.reduceNatCast', h1, h2, e1, e2]
    · have e1 : pubL n = powZ 4 n := if_pos (by omega)
      have e2 : pubE n = 0 := if_pos (by omega)
      simp (disch := omega) only [push_cast, ↓wF_free, ↓reduceIte, Nat.reduceEqDiff, Nat.reduceLT, Nat.reduceLeDiff, Nat.reduceAdd, Nat.reduceSub, Nat.reduceMul, Nat.reduceBEq, Int.reduceLT, Int.reduceLE, Int.reduceToNat, Int.reduceNeg, Int.reducePow, Int.reduceAdd, Int.reduceMul, Int.reduceSub, ↓Int.reduceNatCast', h1, h2, e1, e2, call_sPow]
theorem c_sPublic : Contract Tryd.prog GG 13 sp_sPublic :=
  contract_of tr_sign_Public (tb_ok (all_cons c_sPow all_nil) all_nil) (fun a h => w_sPublic a h)

noncomputable def sp_sValid : List D → Option D := spOf (α := Int) (fun a => [.int .u64 a]) (fun a => 0 ≤ a ∧ a < 18446744073709551616) (fun a => .bool (validL a))
theorem call_sValid (x : Int) (h : 0 ≤ x ∧ x < 18446744073709551616) : sp_sValid [.int .u64 x] = some (.bool (validL x)) :=
  spOf_enc (fun a b h => by simp only [List.cons.injEq, D.slc.injEq, D.int.injEq, D.bool.injEq, D.str.injEq, D.agg.injEq, digs_iff, dig_iff, digC_iff, bytes_iff, byte_iff, words_iff, word_iff, Sha.St8.list_iff, bsl_iff, true_and, and_true] at h; simp [h, Prod.ext_iff]) (x) h
set_option maxHeartbeats 4000000 in
set_option maxRecDepth 20000 in
theorem w_sValid (x : Int) (h : 0 ≤ x ∧ x < 18446744073709551616) : @wW GG (tb [(15, sp_sPow)] []) F_sign_Valid.code (argF [.int .u64 x]) [] ⟨retQ F_sign_Valid.res (.bool (validL x))⟩ := by
  unfold F_sign_Valid
  simp (disch := omega) only [push_cast, ↓wF_free, ↓reduceIte, Nat.reduceEqDiff, Nat.reduceLT, Nat.reduceLeDiff, Nat.reduceAdd, Nat.reduceSub, Nat.reduceMul, Nat.reduceBEq, Int.reduceLT, Int.reduceLE, Int.reduceToNat, Int.reduceNeg, Int.reducePow, Int.reduceAdd, Int.reduceMul, Int.reduceSub, ↓Int.reduceNatCast']
  refine ifD_split (fun h1 => ?_) (fun h1 => ?_)
  · simp (disch := omega) only [push_cast, ↓wF_free, ↓reduceIte, Nat.reduceEqDiff, Nat.reduceLT, Nat.reduceLeDiff, Nat.reduceAdd, Nat.reduceSub, Nat.reduceMul, Nat.reduceBEq, Int.reduceLT, Int.reduceLE, Int.reduceToNat, Int.reduceNeg, Int.reducePow, Int.reduceAdd, Int.reduceMul, Int.reduceSub, ↓Int.reduceNatCast', h1]
    refine ifD_split (fun h2 => ?_) (fun h2 => ?_)
    · have e : validL x = decide (powZ x 1152921504606845399 = 1) := by unfold validL; simp [h1, h2]
      simp (disch := omega) only [push_cast, ↓wF_free, ↓reduceIte, Nat.reduceEqDiff, Nat.reduceLT, Nat.reduceLeDiff, Nat.reduceAdd, Nat.reduceSub, Nat.reduceMul, Nat.reduceBEq, Int.reduceLT, Int.reduceLE, Int.reduceToNat, Int.reduceNeg, Int.reducePow, Int.reduceAdd, Int.reduceMul, Int.reduceSub, ↓Int.reduceNatCast', h1, h2, e, call_sPow]
    · have e : validL x = false := by unfold validL; simp [h2]
      simp (disch := omega) only [push_cast, ↓wF_free, ↓reduceIte, Nat.reduceEqDiff, Nat.reduceLT, Nat.reduceLeDiff, Nat.reduceAdd, Nat.reduceSub, Nat.reduceMul, Nat.reduceBEq, Int.reduceLT, Int.reduceLE, Int.reduceToNat, Int.reduceNeg, Int.reducePow, Int.reduceAdd, Int.reduceMul, Int.reduceSub, ↓Int.reduceNatCast', h1, h2, e]
  · have e : validL x = false := by unfold validL; simp [h1]
    simp (disch := omega) only [push_cast, ↓wF_free, ↓reduceIte, Nat.reduceEqDiff, Nat.reduceLT, Nat.reduceLeDiff, Nat.reduceAdd, Nat.reduceSub, Nat.reduceMul, Nat.reduceBEq, Int.reduceLT, Int.reduceLE, Int.reduceToNat, Int.reduceNeg, Int.reducePow, Int.reduceAdd, Int.reduceMul, Int.reduceSub, ↓Int.reduceNatCast', h1, e]
theorem c_sValid : Contract Tryd.prog GG 21 sp_sValid :=
  contract_of tr_sign_Valid (tb_ok (all_cons c_sPow all_nil) all_nil) (fun a h => w_sValid a h)

noncomputable def sp_sSecBad : List D → Option D := spOf (α := List UInt8) (fun a => [.slc (nz 1 (a.map byteD)) (a.map byteD) false]) (fun a => (a.length : Int) < 1 ∨ 64 < (a.length : Int)) (fun a => .tup [.int .u64 0, .int .i64 1])
theorem call_sSecBad (b : List UInt8) (h : (b.length : Int) < 1 ∨ 64 < (b.length : Int)) : sp_sSecBad [.slc (nz 1 (b.map byteD)) (b.map byteD) false] = some (.tup [.int .u64 0, .int .i64 1]) :=
  spOf_enc (fun a b h => by simp only [List.cons.injEq, D.slc.injEq, D.int.injEq, D.bool.injEq, D.str.injEq, D.agg.injEq, digs_iff, dig_iff, digC_iff, bytes_iff, byte_iff, words_iff, word_iff, Sha.St8.list_iff, bsl_iff, true_and, and_true] at h; simp [h, Prod.ext_iff]) (b) h
set_option maxHeartbeats 4000000 in
set_option maxRecDepth 20000 in
theorem w_sSecBad (b : List UInt8) (h : (b.length : Int) < 1 ∨ 64 < (b.length : Int)) : @wW GG (tb [] []) F_sign_Secret.code (argF [.slc (nz 1 (b.map byteD)) (b.map byteD) false]) [] ⟨retQ F_sign_Secret.res (.tup [.int .u64 0, .int .i64 1])⟩ := by
  unfold F_sign_Secret
  simp (disch := omega) only [push_cast, ↓wF_free, ↓reduceIte, Nat.reduceEqDiff, Nat.reduceLT, Nat.reduceLeDiff, Nat.reduceAdd, Nat.reduceSub, Nat.reduceMul, Nat.reduceBEq, Int.reduceLT, Int.reduceLE, Int.reduceToNat, Int.reduceNeg, Int.reducePow, Int.reduceAdd, Int.reduceMul, Int.reduceSub, ↓Int.reduceNatCast']
  refine ifD_split (fun h1 => ?_) (fun h1 => ?_)
  · simp (disch := omega) only [push_cast, ↓wF_free, ↓reduceIte, Nat.reduceEqDiff, Nat.reduceLT, Nat.reduceLeDiff, Nat.reduceAdd, Nat.reduceSub, Nat.reduceMul, Nat.reduceBEq, Int.reduceLT, Int.reduceLE, Int.reduceToNat, Int.reduceNeg, Int.reducePow, Int.reduceAdd, Int.reduceMul, Int.reduceSub, ↓Int.reduceNatCast', h1]
  · have h2 : 64 < (b.length : Int) := by omega
    simp (disch := omega) only [push_cast, ↓wF_free, ↓reduceIte, Nat.reduceEqDiff, Nat.reduceLT, Nat.reduceLeDiff, Nat.reduceAdd, Nat.reduceSub, Nat.reduceMul, Nat.reduceBEq, Int.reduceLT, Int.reduceLE, Int.reduceToNat, Int.reduceNeg, Int.reducePow, Int.reduceAdd, Int.reduceMul, Int.reduceSub, ↓Int.reduceNatCast', h1, h2]
theorem c_sSecBad : Contract Tryd.prog GG 12 sp_sSecBad :=
  contract_of tr_sign_Secret (tb_ok all_nil all_nil) (fun a h => w_sSecBad a h)

noncomputable def sp_ssane : List D → Option D := spOf (α := Unit) (fun _ => []) (fun _ => True) (fun _ => .bool true)
theorem call_ssane : sp_ssane [] = some (.bool true) :=
  spOf_enc (fun _ _ _ => rfl) () trivial
set_option maxHeartbeats 4000000 in
set_option maxRecDepth 20000 in
theorem w_ssane : @wW GG (tb [(13, sp_sPublic), (12, sp_sSecBad), (15, sp_sPow), (21, sp_sValid)] []) F_wagonpoollaw03_sane.code (argF []) [] ⟨retQ F_wagonpoollaw03_sane.res (.bool true)⟩ := by
  have p1 : sp_sPublic [.int .u64 1] = some (.tup [.int .u64 4, .int .i64 0]) := by
    rw [call_sPublic 1 (by decide), show pubL 1 = 4 by decide +kernel, show pubE 1 = 0 by decide]
  have p2 : sp_sPublic [.int .u64 5] = some (.tup [.int .u64 1024, .int .i64 0]) := by
    rw [call_sPublic 5 (by decide), show pubL 5 = 1024 by decide +kernel, show pubE 5 = 0 by decide]
  have p3 : sp_sPublic [.int .u64 0] = some (.tup [.int .u64 0, .int .i64 30]) := by
    rw [call_sPublic 0 (by decide), show pubL 0 = 0 from if_neg (by decide), show pubE 0 = 30 by decide]
  have p4 : sp_sPublic [.int .u64 1152921504606845399] = some (.tup [.int .u64 0, .int .i64 30]) := by
    rw [call_sPublic 1152921504606845399 (by decide), show pubL 1152921504606845399 = 0 from if_neg (by decide), show pubE 1152921504606845399 = 30 from if_neg (by decide)]
  have s1 : sp_sSecBad [.slc 0 [] false] = some (.tup [.int .u64 0, .int .i64 1]) := call_sSecBad [] (by decide)
  have w1 : sp_sPow [.int .u64 2, .int .u64 10] = some (.int .u64 1024) := by
    rw [call_sPow 2 10 (by decide), show powZ 2 10 = 1024 by decide +kernel]
  have w2 : sp_sPow [.int .u64 3, .int .u64 0] = some (.int .u64 1) := by
    rw [call_sPow 3 0 (by decide), show powZ 3 0 = 1 by decide +kernel]
  have w3 : sp_sPow [.int .u64 2305843009213690799, .int .u64 5] = some (.int .u64 0) := by
    rw [call_sPow 2305843009213690799 5 (by decide), show powZ 2305843009213690799 5 = 0 by decide +kernel]
  have w4 : sp_sPow [.int .u64 2305843009213690798, .int .u64 3] = some (.int .u64 2305843009213690798) := by
    rw [call_sPow 2305843009213690798 3 (by decide), show powZ 2305843009213690798 3 = 2305843009213690798 by decide +kernel]
  have w5 : sp_sPow [.int .u64 4, .int .u64 1152921504606845399] = some (.int .u64 1) := by
    rw [call_sPow 4 1152921504606845399 (by decide), powZ_g]
  have g4 : validL 4 = true := by unfold validL; rw [powZ_g]; decide
  have v1 : sp_sValid [.int .u64 4] = some (.bool true) := by rw [call_sValid 4 (by decide), g4]
  have v2 : sp_sValid [.int .u64 2305843009213690795] = some (.bool false) := by
    have e := valid_half (x := 4) (by decide) (by decide)
    rw [show (2305843009213690799 : Int) - 4 = 2305843009213690795 by decide, g4] at e
    rw [call_sValid 2305843009213690795 (by decide), e]; rfl
  have v3 : sp_sValid [.int .u64 1] = some (.bool false) := by
    rw [call_sValid 1 (by decide), valid_edge (x := 1) (by decide) (by decide) (by decide)]
  have v4 : sp_sValid [.int .u64 0] = some (.bool false) := by
    rw [call_sValid 0 (by decide), valid_edge (x := 0) (by decide) (by decide) (by decide)]
  have cm : mkslcD 1 1 (.int .u8 0) (.int .i64 65) (.int .i64 65) = some (((List.replicate 65 (0 : UInt8))).length, ⟨true, 1, (List.replicate 65 (0 : UInt8)).map byteD, false⟩) := by rfl
  have s2 := call_sSecBad (List.replicate 65 0) (by decide)
  generalize List.replicate 65 (0 : UInt8) = z at *
  unfold F_wagonpoollaw03_sane
  simp (disch := first | omega | decide) only [push_cast, ↓wF_free, ↓reduceIte, Nat.reduceEqDiff, Nat.reduceLT, Nat.reduceLeDiff, Nat.reduceAdd, Nat.reduceSub, Nat.reduceMul, Nat.reduceBEq, Int.reduceLT, Int.reduceLE, Int.reduceToNat, Int.reduceNeg, Int.reducePow, Int.reduceAdd, Int.reduceMul, Int.reduceSub, ↓Int.reduceNatCast', cm, p1, p2, p3, p4, s1, s2, w1, w2, w3, w4, w5, v1, v2, v3, v4]
theorem c_ssane : Contract Tryd.prog GG 11 sp_ssane :=
  contract_of tr_wagonpoollaw03_sane (tb_ok (all_cons c_sPublic (all_cons c_sSecBad (all_cons c_sPow (all_cons c_sValid all_nil)))) all_nil) (fun a h => w_ssane )
end Go.Proofs.YtgnekjlciiefbaaDoor.PI
