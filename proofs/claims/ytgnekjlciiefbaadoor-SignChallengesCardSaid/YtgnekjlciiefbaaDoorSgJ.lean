/-
  sign: Sign.
  Conditions: none; these are lemmas.
-/
import Derived.Test.YtgnekjlciiefbaaDoorSgH
import Derived.Test.YtgnekjlciiefbaaDoorSgI
namespace Go.Proofs.YtgnekjlciiefbaaDoor.PI
open Go
set_option linter.unusedSimpArgs false
set_option linter.unusedVariables false

theorem call_mul1 (o : Obj) (a b m : Int) (h : 0 ≤ a ∧ a < 18446744073709551616 ∧ 0 ≤ b ∧ b < 18446744073709551616 ∧ 0 < m ∧ m < 9223372036854775808) :
    si_mul [.int .u64 a, .int .u64 b, .ptr 1 0] [o, ⟨false, 1, [.int .u64 m], false⟩] = some (.int .u64 (a * b % m), [o, ⟨false, 1, [.int .u64 m], false⟩]) := by
  refine siOf_enc ?_ (([o] : St), a, b, m) h rfl
  rintro ⟨st, a, b, m⟩ ⟨st', a', b', m'⟩ h
  simp only [Prod.mk.injEq, List.cons.injEq, D.int.injEq, D.ptr.injEq, true_and, and_true] at h
  obtain ⟨⟨rfl, rfl, h1⟩, h2⟩ := h
  have h3 := List.append_inj h2 h1
  obtain ⟨rfl, h4⟩ := h3
  simp at h4
  rw [h4]
theorem call_modulo1 (o : Obj) (m : Int) : si_modulo [.int .u64 m] [o] = some (.clo 39 [.ptr 1 0], [o, ⟨false, 1, [.int .u64 m], false⟩]) := call_modulo [o] m

noncomputable def sp_sSign : List D → Option D := spOf (α := Int × List UInt8) (fun a => [.int .u64 a.1, .slc (nz 1 (a.2.map byteD)) (a.2.map byteD) false]) (fun a => 0 ≤ a.1 ∧ a.1 < 18446744073709551616) (fun a => .tup [.agg [.int .u64 (sigC a.1 a.2), .int .u64 (sigS a.1 a.2)], .int .i64 (sigE a.1 a.2)])
theorem call_sSign (x : Int) (m : List UInt8) (h : 0 ≤ x ∧ x < 18446744073709551616) : sp_sSign [.int .u64 x, .slc (nz 1 (m.map byteD)) (m.map byteD) false] = some (.tup [.agg [.int .u64 (sigC x m), .int .u64 (sigS x m)], .int .i64 (sigE x m)]) :=
  spOf_enc (fun ⟨a0, a1⟩ ⟨b0, b1⟩ h => by simp only [List.cons.injEq, D.slc.injEq, D.int.injEq, D.bool.injEq, D.str.injEq, D.agg.injEq, digs_iff, dig_iff, digC_iff, bytes_iff, byte_iff, words_iff, word_iff, Sha.St8.list_iff, bsl_iff, true_and, and_true] at h; simp [h, Prod.ext_iff]) (x, m) h
set_option maxHeartbeats 4000000 in
set_option maxRecDepth 20000 in
theorem w_sSign (x : Int) (m : List UInt8) (h : 0 ≤ x ∧ x < 18446744073709551616) : @wW GG (tb [(13, sp_sPublic), (29, sp_joined), (19, sp_tagged), (18, sp_sNumber), (15, sp_sPow), (30, sp_sChal)] [(31, si_modulo), (39, si_mul)]) F_sign_Sign.code (argF [.int .u64 x, .slc (nz 1 (m.map byteD)) (m.map byteD) false]) [] ⟨retQ F_sign_Sign.res (.tup [.agg [.int .u64 (sigC x m), .int .u64 (sigS x m)], .int .i64 (sigE x m)])⟩ := by
  obtain ⟨hx0, hx1⟩ := h
  have cp := call_sPublic x ⟨hx0, hx1⟩
  have cb : boxD (.agg [.int .u64 0, .int .u64 0]) = some [.int .u64 0, .int .u64 0] := rfl
  unfold F_sign_Sign
  by_cases hx : 1 ≤ x ∧ x < 1152921504606845399
  · rw [show pubE x = 0 from if_pos hx, show pubL x = powZ 4 x from if_pos hx] at cp
    simp (disch := first | omega | decide) only [push_cast, ↓wF_free, ↓reduceIte, Nat.reduceEqDiff, Nat.reduceLT, Nat.reduceLeDiff, Nat.reduceAdd, Nat.reduceSub, Nat.reduceMul, Nat.reduceBEq, Int.reduceLT, Int.reduceLE, Int.reduceToNat, Int.reduceNeg, Int.reducePow, Int.reduceAdd, Int.reduceMul, Int.reduceSub, ↓Int.reduceNatCast', cb, cp]
    refine ifD_split (fun h2 => ?_) (fun h2 => ?_)
    · have hn : ¬ sigOk x m := fun h => by have := h.2; omega
      have e1 : sigC x m = 0 := if_neg hn
      have e2 : sigS x m = 0 := if_neg hn
      have e3 : sigE x m = 2 := by unfold sigE; rw [if_pos hx, if_neg (by omega)]
      rw [e1, e2, e3]
      simp (disch := first | omega | decide) only [push_cast, ↓wF_free, ↓reduceIte, Nat.reduceEqDiff, Nat.reduceLT, Nat.reduceLeDiff, Nat.reduceAdd, Nat.reduceSub, Nat.reduceMul, Nat.reduceBEq, Int.reduceLT, Int.reduceLE, Int.reduceToNat, Int.reduceNeg, Int.reducePow, Int.reduceAdd, Int.reduceMul, Int.reduceSub, ↓Int.reduceNatCast', h2, stO_2, ldO_2]
    · have hn : sigOk x m := ⟨hx, by omega⟩
      have e1 : sigC x m = chL (powZ 4 (nonceL x m)) (powZ 4 x) m := if_pos hn
      have e2 : sigS x m = (nonceL x m + chL (powZ 4 (nonceL x m)) (powZ 4 x) m * x % 1152921504606845399) % 1152921504606845399 := if_pos hn
      have e3 : sigE x m = 0 := by unfold sigE; rw [if_pos hx, if_pos (by omega)]
      rw [e1, e2, e3]
      obtain ⟨n0, n1⟩ := nonce_range x m
      have w1 := powZ_range 4 x
      have w2 := powZ_range 4 (nonceL x m)
      obtain ⟨g0, g1⟩ := ch_range (powZ 4 (nonceL x m)) (powZ 4 x) m
      have l1 : (be8 x).length = 8 := be8N_length x 8
      have cj : sp_joined [.slc (nz 1 (m.map byteD)) (m.map byteD) false, .slc 1 [.int .u64 x] false] = some (.slc (nz 1 ((be8 x ++ m).map byteD)) ((be8 x ++ m).map byteD) false) := by
        have := call_joined m [x] ⟨by omega, by simp, by simp; omega⟩
        rw [show [x].flatMap be8 = be8 x by simp] at this
        exact this
      have cl : litD 1 [.int .u64 x] = some (.slc 1 [.int .u64 x] true) := rfl
      have c := call_tagged [110, 111, 110, 99, 101] (be8 x ++ m) (by simp only [List.length_cons, List.length_nil, List.length_append]; omega)
      have q := numF8 (taggedL [110, 111, 110, 99, 101] (be8 x ++ m))
      have q2 : numF ((taggedL [110, 111, 110, 99, 101] (be8 x ++ m)).bs.take 8) % 1152921504606845398 + 1 = nonceL x m := rfl
      have c2 := call_sPow 4 (nonceL x m) ⟨by omega, by omega, by omega, by omega⟩
      have c4 := fun o => call_mul1 o (chL (powZ 4 (nonceL x m)) (powZ 4 x) m) x 1152921504606845399 ⟨by omega, by omega, by omega, by omega, by omega, by omega⟩
      have t0 : 0 ≤ chL (powZ 4 (nonceL x m)) (powZ 4 x) m * x % 1152921504606845399 := Int.emod_nonneg _ (by decide)
      have t1 : chL (powZ 4 (nonceL x m)) (powZ 4 x) m * x % 1152921504606845399 < 1152921504606845399 := Int.emod_lt_of_pos _ (by decide)
      have c3 := call_sChal (powZ 4 (nonceL x m)) (powZ 4 x) m ⟨by omega, by omega, by omega, by omega, by omega⟩
      simp (disch := first | omega | decide) only [push_cast, ↓wF_free, ↓reduceIte, Nat.reduceEqDiff, Nat.reduceLT, Nat.reduceLeDiff, Nat.reduceAdd, Nat.reduceSub, Nat.reduceMul, Nat.reduceBEq, Int.reduceLT, Int.reduceLE, Int.reduceToNat, Int.reduceNeg, Int.reducePow, Int.reduceAdd, Int.reduceMul, Int.reduceSub, ↓Int.reduceNatCast', h2, cl, cj, c, call_sNumber, rem_u, add_u, q2, c2, c3, call_modulo1, c4, fill_2, stO_2, ldO_2]
  · rw [show pubE x = 30 from if_neg hx] at cp
    have e1 : sigC x m = 0 := if_neg fun h => hx h.1
    have e2 : sigS x m = 0 := if_neg fun h => hx h.1
    have e3 : sigE x m = 30 := if_neg hx
    rw [e1, e2, e3]
    have h30 : ¬ (30 : Int) = 0 := by decide
    simp (disch := first | omega | decide) only [push_cast, ↓wF_free, ↓reduceIte, Nat.reduceEqDiff, Nat.reduceLT, Nat.reduceLeDiff, Nat.reduceAdd, Nat.reduceSub, Nat.reduceMul, Nat.reduceBEq, Int.reduceLT, Int.reduceLE, Int.reduceToNat, Int.reduceNeg, Int.reducePow, Int.reduceAdd, Int.reduceMul, Int.reduceSub, ↓Int.reduceNatCast', cb, cp, h30, stO_2, ldO_2]
theorem c_sSign : Contract Tryd.prog GG 14 sp_sSign :=
  contract_of tr_sign_Sign (tb_ok (all_cons c_sPublic (all_cons c_joined (all_cons c_tagged (all_cons c_sNumber (all_cons c_sPow (all_cons c_sChal all_nil)))))) (all_cons ci_modulo (all_cons ci_mul all_nil))) (fun a h => w_sSign a.1 a.2 h)
end Go.Proofs.YtgnekjlciiefbaaDoor.PI
