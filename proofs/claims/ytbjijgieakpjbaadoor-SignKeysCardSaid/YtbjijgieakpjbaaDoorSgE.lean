/-
  sign: the statements' functions return true: powers, halves, keys.
  Conditions: none; these are lemmas.
-/
import Derived.Test.YtbjijgieakpjbaaDoorSgD
namespace Go.Proofs.YtbjijgieakpjbaaDoor.PI
open Go
set_option linter.unusedSimpArgs false
set_option linter.unusedVariables false

set_option maxHeartbeats 4000000 in
set_option maxRecDepth 20000 in
theorem lw_SignPowers (b : Int) (hb1 : 0 ≤ b) (hb2 : b < 18446744073709551616) (m : Int) (hm1 : 0 ≤ m) (hm2 : m < 18446744073709551616) (n : Int) (hn1 : 0 ≤ n) (hn2 : n < 18446744073709551616) : @wW GG (tb [(11, sp_ssane), (12, sp_sPow), (13, sp_times)] []) F_wagonpoollaw03_SignPowers.code (argF [.int .u64 b, .int .u64 m, .int .u64 n]) [] ⟨retQ F_wagonpoollaw03_SignPowers.res (.bool true)⟩ := by
  have w1 := powZ_range b (m / 2)
  have w2 := powZ_range b (n / 2)
  have w3 := powZ_add b (m := m / 2) (n := n / 2) (by omega) (by omega)
  have w4 := powZ_comm b (m / 2) (n / 2)
  have c1 := call_sPow b (m / 2) ⟨hb1, hb2, by omega, by omega⟩
  have c2 := call_sPow b (n / 2) ⟨hb1, hb2, by omega, by omega⟩
  have c3 := call_sPow b (m / 2 + n / 2) ⟨hb1, hb2, by omega, by omega⟩
  rw [w3] at c3
  have c4 := call_sPow (powZ b (m / 2)) (n / 2) ⟨by omega, by omega, by omega, by omega⟩
  rw [w4] at c4
  have c5 := call_sPow (powZ b (n / 2)) (m / 2) ⟨by omega, by omega, by omega, by omega⟩
  have c6 := call_times (powZ b (m / 2)) (powZ b (n / 2)) 2305843009213690799 ⟨by omega, by omega, by omega, by omega, by omega⟩
  have l1 : powZ b (m / 2) < 2305843009213690799 := w1.2
  have l2 : powZ b (n / 2) < 2305843009213690799 := w2.2
  unfold F_wagonpoollaw03_SignPowers
  simp (disch := first | omega | decide) only [push_cast, ↓reduceIte, Nat.reduceEqDiff, Nat.reduceLT, Nat.reduceLeDiff, Nat.reduceAdd, Nat.reduceSub, Nat.reduceMul, Nat.reduceBEq, Int.reduceLT, Int.reduceLE, Int.reduceToNat, Int.reduceNeg, Int.reducePow, Int.reduceAdd, Int.reduceMul, Int.reduceSub, ↓Int.reduceNatCast', call_ssane, shr_u, c1, c2, l1, l2, add_u, c3, c4, c5, c6]
theorem law_SignPowers : Contract Tryd.prog GG 3 (lawSp [.int .u64, .int .u64, .int .u64]) := by
  refine lawC tr_wagonpoollaw03_SignPowers (T := tb [(11, sp_ssane), (12, sp_sPow), (13, sp_times)] []) (tb_ok (all_cons c_ssane (all_cons c_sPow (all_cons c_times all_nil))) all_nil) ?_
  intro xs h
  obtain ⟨x0, xs, rfl, h0, h⟩ := hasAll_cons h
  obtain ⟨x1, xs, rfl, h1, h⟩ := hasAll_cons h
  obtain ⟨x2, xs, rfl, h2, h⟩ := hasAll_cons h
  obtain rfl := hasAll_nil h
  obtain ⟨y0, rfl, ya0, yb0⟩ := has_u64 h0
  obtain ⟨y1, rfl, ya1, yb1⟩ := has_u64 h1
  obtain ⟨y2, rfl, ya2, yb2⟩ := has_u64 h2
  exact lw_SignPowers y0 ya0 yb0 y1 ya1 yb1 y2 ya2 yb2

set_option maxHeartbeats 4000000 in
set_option maxRecDepth 20000 in
theorem lw_SignHalves (x : Int) (hx1 : 0 ≤ x) (hx2 : x < 18446744073709551616) : @wW GG (tb [(11, sp_ssane), (14, sp_sValid), (12, sp_sPow)] []) F_wagonpoollaw03_SignHalves.code (argF [.int .u64 x]) [] ⟨retQ F_wagonpoollaw03_SignHalves.res (.bool true)⟩ := by
  have hr1 : 0 ≤ x % 2305843009213690799 := Int.emod_nonneg _ (by decide)
  have hr2 : x % 2305843009213690799 < 2305843009213690799 := Int.emod_lt_of_pos _ (by decide)
  unfold F_wagonpoollaw03_SignHalves
  simp (disch := first | omega | decide) only [push_cast, ↓reduceIte, Nat.reduceEqDiff, Nat.reduceLT, Nat.reduceLeDiff, Nat.reduceAdd, Nat.reduceSub, Nat.reduceMul, Nat.reduceBEq, Int.reduceLT, Int.reduceLE, Int.reduceToNat, Int.reduceNeg, Int.reducePow, Int.reduceAdd, Int.reduceMul, Int.reduceSub, ↓Int.reduceNatCast', call_ssane, rem_u]
  generalize x % 2305843009213690799 = y at *
  refine ifD_split (fun h1 => ?_) (fun h1 => ?_)
  · have e := valid_edge hr1 hr2 (.inl h1)
    simp (disch := omega) only [push_cast, ↓reduceIte, Nat.reduceEqDiff, Nat.reduceLT, Nat.reduceLeDiff, Nat.reduceAdd, Nat.reduceSub, Nat.reduceMul, Nat.reduceBEq, Int.reduceLT, Int.reduceLE, Int.reduceToNat, Int.reduceNeg, Int.reducePow, Int.reduceAdd, Int.reduceMul, Int.reduceSub, ↓Int.reduceNatCast', h1, call_sValid, e]
  · simp (disch := omega) only [push_cast, ↓reduceIte, Nat.reduceEqDiff, Nat.reduceLT, Nat.reduceLeDiff, Nat.reduceAdd, Nat.reduceSub, Nat.reduceMul, Nat.reduceBEq, Int.reduceLT, Int.reduceLE, Int.reduceToNat, Int.reduceNeg, Int.reducePow, Int.reduceAdd, Int.reduceMul, Int.reduceSub, ↓Int.reduceNatCast', h1]
    refine ifD_split (fun h2 => ?_) (fun h2 => ?_)
    · have e := valid_edge hr1 hr2 (.inr h2)
      simp (disch := omega) only [push_cast, ↓reduceIte, Nat.reduceEqDiff, Nat.reduceLT, Nat.reduceLeDiff, Nat.reduceAdd, Nat.reduceSub, Nat.reduceMul, Nat.reduceBEq, Int.reduceLT, Int.reduceLE, Int.reduceToNat, Int.reduceNeg, Int.reducePow, Int.reduceAdd, Int.reduceMul, Int.reduceSub, ↓Int.reduceNatCast', h1, h2, call_sValid, e]
    · have e1 := valid_half (x := y) (by omega) (by omega)
      have e2 : validL y = decide (powZ y 1152921504606845399 = 1) := by
        unfold validL
        simp [show 2 ≤ y by omega, hr2]
      have e3 := powZ_fermat (x := y) (by omega) (by omega)
      have c1 := call_sPow y 2305843009213690798 ⟨by omega, by omega, by omega, by omega⟩
      rw [e3] at c1
      have z1 : ∀ v : Bool, (v == !v) = false := by decide
      have z2 : ∀ v : Bool, (v == v) = true := by decide
      simp (disch := omega) only [push_cast, ↓reduceIte, Nat.reduceEqDiff, Nat.reduceLT, Nat.reduceLeDiff, Nat.reduceAdd, Nat.reduceSub, Nat.reduceMul, Nat.reduceBEq, Int.reduceLT, Int.reduceLE, Int.reduceToNat, Int.reduceNeg, Int.reducePow, Int.reduceAdd, Int.reduceMul, Int.reduceSub, ↓Int.reduceNatCast', h1, h2, sub_u, call_sValid, call_sPow, e1, e2, c1, z1, z2]
theorem law_SignHalves : Contract Tryd.prog GG 4 (lawSp [.int .u64]) := by
  refine lawC tr_wagonpoollaw03_SignHalves (T := tb [(11, sp_ssane), (14, sp_sValid), (12, sp_sPow)] []) (tb_ok (all_cons c_ssane (all_cons c_sValid (all_cons c_sPow all_nil))) all_nil) ?_
  intro xs h
  obtain ⟨x0, xs, rfl, h0, h⟩ := hasAll_cons h
  obtain rfl := hasAll_nil h
  obtain ⟨y0, rfl, ya0, yb0⟩ := has_u64 h0
  exact lw_SignHalves y0 ya0 yb0

set_option maxHeartbeats 4000000 in
set_option maxRecDepth 20000 in
theorem lw_SignKeys (a : Int) (ha1 : 0 ≤ a) (ha2 : a < 18446744073709551616) (b : Int) (hb1 : 0 ≤ b) (hb2 : b < 18446744073709551616) : @wW GG (tb [(11, sp_ssane), (15, sp_sPublic), (13, sp_times)] []) F_wagonpoollaw03_SignKeys.code (argF [.int .u64 a, .int .u64 b]) [] ⟨retQ F_wagonpoollaw03_SignKeys.res (.bool true)⟩ := by
  have ha1' : 0 ≤ a % 1152921504606845398 := Int.emod_nonneg _ (by decide)
  have ha2' : a % 1152921504606845398 < 1152921504606845398 := Int.emod_lt_of_pos _ (by decide)
  have hb1' : 0 ≤ b % 1152921504606845398 := Int.emod_nonneg _ (by decide)
  have hb2' : b % 1152921504606845398 < 1152921504606845398 := Int.emod_lt_of_pos _ (by decide)
  unfold F_wagonpoollaw03_SignKeys
  simp (disch := first | omega | decide) only [push_cast, ↓reduceIte, Nat.reduceEqDiff, Nat.reduceLT, Nat.reduceLeDiff, Nat.reduceAdd, Nat.reduceSub, Nat.reduceMul, Nat.reduceBEq, Int.reduceLT, Int.reduceLE, Int.reduceToNat, Int.reduceNeg, Int.reducePow, Int.reduceAdd, Int.reduceMul, Int.reduceSub, ↓Int.reduceNatCast', call_ssane, rem_u, add_u]
  generalize hx : a % 1152921504606845398 + 1 = x at *
  generalize hy : b % 1152921504606845398 + 1 = y at *
  have x1 : 1 ≤ x ∧ x < 1152921504606845399 := by omega
  have y1 : 1 ≤ y ∧ y < 1152921504606845399 := by omega
  have p1 : pubL x = powZ 4 x := if_pos x1
  have p2 : pubE x = 0 := if_pos x1
  have p3 : pubL y = powZ 4 y := if_pos y1
  have p4 : pubE y = 0 := if_pos y1
  have w1 := powZ_range 4 x
  have w2 := powZ_range 4 y
  have n1 : ¬ 2305843009213690799 ≤ powZ 4 x := by omega
  have n2 : ¬ 2305843009213690799 ≤ powZ 4 y := by omega
  have k := keys_sum (a := x) (b := y) (by omega) (by omega)
  have ct := call_times (powZ 4 x) (powZ 4 y) 2305843009213690799 ⟨by omega, by omega, by omega, by omega, by omega⟩
  rw [← k] at ct
  have s1 : 0 ≤ (x + y) % 1152921504606845399 := Int.emod_nonneg _ (by decide)
  have s2 : (x + y) % 1152921504606845399 < 1152921504606845399 := Int.emod_lt_of_pos _ (by decide)
  simp (disch := first | omega | decide) only [push_cast, ↓reduceIte, Nat.reduceEqDiff, Nat.reduceLT, Nat.reduceLeDiff, Nat.reduceAdd, Nat.reduceSub, Nat.reduceMul, Nat.reduceBEq, Int.reduceLT, Int.reduceLE, Int.reduceToNat, Int.reduceNeg, Int.reducePow, Int.reduceAdd, Int.reduceMul, Int.reduceSub, ↓Int.reduceNatCast', call_sPublic, p1, p2, p3, p4, n1, n2, rem_u, add_u]
  refine ifD_split (fun h => ?_) (fun h => ?_)
  · have pe : pubE 0 = 30 := by decide
    rw [h, show powZ 4 0 = 1 from powI_zero 4] at ct
    simp (disch := first | omega | decide) only [push_cast, ↓reduceIte, Nat.reduceEqDiff, Nat.reduceLT, Nat.reduceLeDiff, Nat.reduceAdd, Nat.reduceSub, Nat.reduceMul, Nat.reduceBEq, Int.reduceLT, Int.reduceLE, Int.reduceToNat, Int.reduceNeg, Int.reducePow, Int.reduceAdd, Int.reduceMul, Int.reduceSub, ↓Int.reduceNatCast', h, pe, ct]
  · have pl : pubL ((x + y) % 1152921504606845399) = powZ 4 ((x + y) % 1152921504606845399) := if_pos (by omega)
    have pe : pubE ((x + y) % 1152921504606845399) = 0 := if_pos (by omega)
    simp (disch := first | omega | decide) only [push_cast, ↓reduceIte, Nat.reduceEqDiff, Nat.reduceLT, Nat.reduceLeDiff, Nat.reduceAdd, Nat.reduceSub, Nat.reduceMul, Nat.reduceBEq, Int.reduceLT, Int.reduceLE, Int.reduceToNat, Int.reduceNeg, Int.reducePow, Int.reduceAdd, Int.reduceMul, Int.reduceSub, ↓Int.reduceNatCast', h, pl, pe, ct]
theorem law_SignKeys : Contract Tryd.prog GG 5 (lawSp [.int .u64, .int .u64]) := by
  refine lawC tr_wagonpoollaw03_SignKeys (T := tb [(11, sp_ssane), (15, sp_sPublic), (13, sp_times)] []) (tb_ok (all_cons c_ssane (all_cons c_sPublic (all_cons c_times all_nil))) all_nil) ?_
  intro xs h
  obtain ⟨x0, xs, rfl, h0, h⟩ := hasAll_cons h
  obtain ⟨x1, xs, rfl, h1, h⟩ := hasAll_cons h
  obtain rfl := hasAll_nil h
  obtain ⟨y0, rfl, ya0, yb0⟩ := has_u64 h0
  obtain ⟨y1, rfl, ya1, yb1⟩ := has_u64 h1
  exact lw_SignKeys y0 ya0 yb0 y1 ya1 yb1
end Go.Proofs.YtbjijgieakpjbaaDoor.PI
