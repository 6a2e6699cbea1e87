/-
  sign: Sign of the reference.
  Conditions: none; these are lemmas.
-/
import Derived.Test.YtgnekjlciiefbaaDoorSgG
namespace Go.Proofs.YtgnekjlciiefbaaDoor.PI
open Go
set_option linter.unusedSimpArgs false
set_option linter.unusedVariables false

def nonceL (x : Int) (m : List UInt8) : Int := numF ((taggedL [110, 111, 110, 99, 101] (be8 x ++ m)).bs.take 8) % 1152921504606845398 + 1
theorem nonce_range (x : Int) (m : List UInt8) : 1 ≤ nonceL x m ∧ nonceL x m < 1152921504606845399 := by
  unfold nonceL
  have h1 := Int.emod_nonneg (numF ((taggedL [110, 111, 110, 99, 101] (be8 x ++ m)).bs.take 8)) (show (1152921504606845398 : Int) ≠ 0 by decide)
  have h2 := Int.emod_lt_of_pos (numF ((taggedL [110, 111, 110, 99, 101] (be8 x ++ m)).bs.take 8)) (show (0 : Int) < 1152921504606845398 by decide)
  omega
theorem ch_range (r p : Int) (m : List UInt8) : 0 ≤ chL r p m ∧ chL r p m < 1152921504606845399 := by
  unfold chL
  exact ⟨Int.emod_nonneg _ (by decide), Int.emod_lt_of_pos _ (by decide)⟩
def sigOk (x : Int) (m : List UInt8) : Prop := (1 ≤ x ∧ x < 1152921504606845399) ∧ (m.length : Int) ≤ 65536
instance (x : Int) (m : List UInt8) : Decidable (sigOk x m) := by unfold sigOk; exact inferInstance
def sigC (x : Int) (m : List UInt8) : Int := if sigOk x m then chL (powZ 4 (nonceL x m)) (powZ 4 x) m else 0
def sigS (x : Int) (m : List UInt8) : Int := if sigOk x m then (nonceL x m + chL (powZ 4 (nonceL x m)) (powZ 4 x) m * x % 1152921504606845399) % 1152921504606845399 else 0
def sigE (x : Int) (m : List UInt8) : Int := if 1 ≤ x ∧ x < 1152921504606845399 then (if (m.length : Int) ≤ 65536 then 0 else 2) else 30
theorem stO_2 (x y a b : Int) : stO (some ⟨false, 1, [.int .u64 x, .int .u64 y], false⟩) 2 0 (.agg [.int .u64 a, .int .u64 b]) = some ⟨false, 1, [.int .u64 a, .int .u64 b], false⟩ := by
  simp [stO, splice, D.cells, D.isCell]
theorem ldO_2 (a b : Int) (l : Bool) : ldO (some ⟨false, 1, [.int .u64 a, .int .u64 b], l⟩) 2 true 0 = some (.agg [.int .u64 a, .int .u64 b]) := by
  simp [ldO]
  rfl
theorem fill_2 (a b : Int) : fillD [.int .u64 0, .int .u64 0] [(0, 1, .int .u64 a), (1, 1, .int .u64 b)] = some [.int .u64 a, .int .u64 b] := rfl
noncomputable def sp_rSign : List D → Option D := spOf (α := Int × List UInt8) (fun a => [.int .u64 a.1, .slc (nz 1 (a.2.map byteD)) (a.2.map byteD) false]) (fun a => 0 ≤ a.1 ∧ a.1 < 18446744073709551616) (fun a => .tup [.agg [.int .u64 (sigC a.1 a.2), .int .u64 (sigS a.1 a.2)], .int .i64 (sigE a.1 a.2)])
theorem call_rSign (x : Int) (m : List UInt8) (h : 0 ≤ x ∧ x < 18446744073709551616) : sp_rSign [.int .u64 x, .slc (nz 1 (m.map byteD)) (m.map byteD) false] = some (.tup [.agg [.int .u64 (sigC x m), .int .u64 (sigS x m)], .int .i64 (sigE x m)]) :=
  spOf_enc (fun ⟨a0, a1⟩ ⟨b0, b1⟩ h => by simp only [List.cons.injEq, D.slc.injEq, D.int.injEq, D.bool.injEq, D.str.injEq, D.agg.injEq, digs_iff, dig_iff, digC_iff, bytes_iff, byte_iff, words_iff, word_iff, Sha.St8.list_iff, bsl_iff, true_and, and_true] at h; simp [h, Prod.ext_iff]) (x, m) h
set_option maxHeartbeats 4000000 in
set_option maxRecDepth 20000 in
theorem w_rSign (x : Int) (m : List UInt8) (h : 0 ≤ x ∧ x < 18446744073709551616) : @wW GG (tb [(24, sp_rPublic), (36, sp_rtagged), (35, sp_rNumber), (28, sp_rPow), (38, sp_rChal), (33, sp_Times)] [(37, si_Bytes)]) F_wagonpoolref03_Sign.code (argF [.int .u64 x, .slc (nz 1 (m.map byteD)) (m.map byteD) false]) [] ⟨retQ F_wagonpoolref03_Sign.res (.tup [.agg [.int .u64 (sigC x m), .int .u64 (sigS x m)], .int .i64 (sigE x m)])⟩ := by
  obtain ⟨hx0, hx1⟩ := h
  have cp := call_rPublic x ⟨hx0, hx1⟩
  have cb : boxD (.agg [.int .u64 0, .int .u64 0]) = some [.int .u64 0, .int .u64 0] := rfl
  unfold F_wagonpoolref03_Sign
  by_cases hx : 1 ≤ x ∧ x < 1152921504606845399
  · rw [show pubE x = 0 from if_pos hx, show pubL x = powZ 4 x from if_pos hx] at cp
    simp (disch := first | omega | decide) only [push_cast, ↓wF_free, ↓reduceIte, Nat.reduceEqDiff, Nat.reduceLT, Nat.reduceLeDiff, Nat.reduceAdd, Nat.reduceSub, Nat.reduceMul, Nat.reduceBEq, Int.reduceLT, Int.reduceLE, Int.reduceToNat, Int.reduceNeg, Int.reducePow, Int.reduceAdd, Int.reduceMul, Int.reduceSub, ↓Int.reduceNatCast', cb, cp]
    refine ifD_split (fun h2 => ?_) (fun h2 => ?_)
    · have hn : ¬ sigOk x m := fun h => by have := h.2; omega
      have e1 : sigC x m = 0 := if_neg hn
      have e2 : sigS x m = 0 := if_neg hn
      have e3 : sigE x m = 2 := by unfold sigE; rw [if_pos hx, if_neg (by omega)]
      rw [e1, e2, e3]
      simp (disch := first | omega | decide) only [push_cast, ↓wF_free, ↓reduceIte, Nat.reduceEqDiff, Nat.reduceLT, Nat.reduceLeDiff, Nat.reduceAdd, Nat.reduceSub, Nat.reduceMul, Nat.reduceBEq, Int.reduceLT, Int.reduceLE, Int.reduceToNat, Int.reduceNeg, Int.reducePow, Int.reduceAdd, Int.reduceMul, Int.reduceSub, ↓Int.reduceNatCast', h2, stO_2, ldO_2]
    · have hn : sigOk x m := ⟨hx, by omega⟩
      have e1 : sigC x m = chL (powZ 4 (nonceL x m)) (powZ 4 x) m := if_pos hn
      have e2 : sigS x m = (nonceL x m + chL (powZ 4 (nonceL x m)) (powZ 4 x) m * x % 1152921504606845399) % 1152921504606845399 := if_pos hn
      have e3 : sigE x m = 0 := by unfold sigE; rw [if_pos hx, if_pos (by omega)]
      rw [e1, e2, e3]
      obtain ⟨n0, n1⟩ := nonce_range x m
      have w1 := powZ_range 4 x
      have w2 := powZ_range 4 (nonceL x m)
      obtain ⟨g0, g1⟩ := ch_range (powZ 4 (nonceL x m)) (powZ 4 x) m
      have l1 : (be8 x).length = 8 := be8N_length x 8
      have c := call_rtagged [110, 111, 110, 99, 101] (be8 x ++ m) (by simp only [List.length_cons, List.length_nil, List.length_append]; omega)
      have q := numF8 (taggedL [110, 111, 110, 99, 101] (be8 x ++ m))
      have q2 : numF ((taggedL [110, 111, 110, 99, 101] (be8 x ++ m)).bs.take 8) % 1152921504606845398 + 1 = nonceL x m := rfl
      have c2 := call_rPow 4 (nonceL x m) ⟨by omega, by omega, by omega, by omega⟩
      have c4 := call_Times (chL (powZ 4 (nonceL x m)) (powZ 4 x) m) x 1152921504606845399 ⟨by omega, by omega, by omega, by omega, by omega⟩
      have t0 : 0 ≤ chL (powZ 4 (nonceL x m)) (powZ 4 x) m * x % 1152921504606845399 := Int.emod_nonneg _ (by decide)
      have t1 : chL (powZ 4 (nonceL x m)) (powZ 4 x) m * x % 1152921504606845399 < 1152921504606845399 := Int.emod_lt_of_pos _ (by decide)
      have c3 := call_rChal (powZ 4 (nonceL x m)) (powZ 4 x) m ⟨by omega, by omega, by omega, by omega, by omega⟩
      simp (disch := first | omega | decide) only [push_cast, ↓wF_free, ↓reduceIte, Nat.reduceEqDiff, Nat.reduceLT, Nat.reduceLeDiff, Nat.reduceAdd, Nat.reduceSub, Nat.reduceMul, Nat.reduceBEq, Int.reduceLT, Int.reduceLE, Int.reduceToNat, Int.reduceNeg, Int.reducePow, Int.reduceAdd, Int.reduceMul, Int.reduceSub, ↓Int.reduceNatCast', h2, call_Bytes2 x ⟨hx0, hx1⟩, c, call_rNumber, rem_u, add_u, q2, c2, c3, c4, fill_2, stO_2, ldO_2]
  · rw [show pubE x = 30 from if_neg hx] at cp
    have e1 : sigC x m = 0 := if_neg fun h => hx h.1
    have e2 : sigS x m = 0 := if_neg fun h => hx h.1
    have e3 : sigE x m = 30 := if_neg hx
    rw [e1, e2, e3]
    have h30 : ¬ (30 : Int) = 0 := by decide
    simp (disch := first | omega | decide) only [push_cast, ↓wF_free, ↓reduceIte, Nat.reduceEqDiff, Nat.reduceLT, Nat.reduceLeDiff, Nat.reduceAdd, Nat.reduceSub, Nat.reduceMul, Nat.reduceBEq, Int.reduceLT, Int.reduceLE, Int.reduceToNat, Int.reduceNeg, Int.reducePow, Int.reduceAdd, Int.reduceMul, Int.reduceSub, ↓Int.reduceNatCast', cb, cp, h30, stO_2, ldO_2]
theorem c_rSign : Contract Tryd.prog GG 25 sp_rSign :=
  contract_of tr_wagonpoolref03_Sign (tb_ok (all_cons c_rPublic (all_cons c_rtagged (all_cons c_rNumber (all_cons c_rPow (all_cons c_rChal (all_cons c_Times all_nil)))))) (all_cons ci_Bytes all_nil)) (fun a h => w_rSign a.1 a.2 h)
end Go.Proofs.YtgnekjlciiefbaaDoor.PI
