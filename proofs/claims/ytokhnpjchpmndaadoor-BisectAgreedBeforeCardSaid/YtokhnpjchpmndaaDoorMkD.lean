/-
  merkle: the trees of the program: levels and the closures that it calls.
  Conditions: none; these are lemmas.
-/
import Derived.Test.YtokhnpjchpmndaaDoorMkC
import Derived.Test.YtokhnpjchpmndaaDoorEngV2
namespace Go.Proofs.YtokhnpjchpmndaaDoor.PI
open Go
set_option linter.unusedSimpArgs false
set_option linter.unusedVariables false

/-- a row of nodes: an argument, or an object of the store -/
def rowH (r : Bool) (key : Nat) (row : List Dig) : D := if r then .row key row.length 0 row.length else .slc (nz 32 (row.map digD)) (row.map digD) false
def rowS (r : Bool) (row : List Dig) : St := if r then [⟨true, 32, row.map digD, false⟩] else []
theorem rowH_f (key : Nat) (row : List Dig) : rowH false key row = .slc (nz 32 (row.map digD)) (row.map digD) false := rfl
theorem rowH_t (key : Nat) (row : List Dig) : rowH true key row = .row key row.length 0 row.length := rfl
theorem rowS_f (row : List Dig) : rowS false row = [] := rfl
theorem rowS_t (row : List Dig) : rowS true row = [⟨true, 32, row.map digD, false⟩] := rfl

noncomputable def si_node1 : List D → St → Option (D × St) := siOf (α := Int × Int × Dig × Dig × List Dig × Bool × Int × Dig)
  (fun ⟨lv, k, d, pz, row, r, j, pad⟩ => ([.int .i64 j, rowH r 4 row, digD pad, .ptr 0 0, .ptr 1 0, .ptr 2 0], [⟨false, 1, [.int .i64 lv], false⟩, ⟨false, 1, [.int .i64 k], false⟩, ⟨false, 1, digC d, false⟩, ⟨false, 1, digC pz, false⟩] ++ rowS r row))
  (fun ⟨_, k, _, _, _, _, _, _⟩ => 0 ≤ k)
  (fun ⟨lv, k, d, pz, row, r, j, pad⟩ => (.tup [], [⟨false, 1, [.int .i64 lv], false⟩, ⟨false, 1, [.int .i64 k], false⟩, ⟨false, 1, digC (if j = lv then atL row k pad else d), false⟩, ⟨false, 1, digC pz, false⟩] ++ rowS r row))
theorem call_node1f (lv k : Int) (d pz : Dig) (row : List Dig) (j : Int) (pad : Dig) (h : 0 ≤ k) :
    si_node1 [.int .i64 j, .slc (nz 32 (row.map digD)) (row.map digD) false, digD pad, .ptr 0 0, .ptr 1 0, .ptr 2 0] [⟨false, 1, [.int .i64 lv], false⟩, ⟨false, 1, [.int .i64 k], false⟩, ⟨false, 1, digC d, false⟩, ⟨false, 1, digC pz, false⟩] =
      some (.tup [], [⟨false, 1, [.int .i64 lv], false⟩, ⟨false, 1, [.int .i64 k], false⟩, ⟨false, 1, digC (if j = lv then atL row k pad else d), false⟩, ⟨false, 1, digC pz, false⟩]) := by
  refine siOf_enc ?_ (lv, k, d, pz, row, false, j, pad) h rfl
  rintro ⟨lv, k, d, pz, row, r, j, pad⟩ ⟨lv', k', d', pz', row', r', j', pad'⟩ h
  cases r <;> cases r' <;> simp [rowH, rowS, digs_iff, dig_iff, digC_iff, Int.natCast_inj] at h
  all_goals simp [h]
theorem call_node1t (lv k : Int) (d pz : Dig) (row : List Dig) (j : Int) (pad : Dig) (h : 0 ≤ k) :
    si_node1 [.int .i64 j, .row 4 row.length 0 row.length, digD pad, .ptr 0 0, .ptr 1 0, .ptr 2 0] [⟨false, 1, [.int .i64 lv], false⟩, ⟨false, 1, [.int .i64 k], false⟩, ⟨false, 1, digC d, false⟩, ⟨false, 1, digC pz, false⟩, ⟨true, 32, row.map digD, false⟩] =
      some (.tup [], [⟨false, 1, [.int .i64 lv], false⟩, ⟨false, 1, [.int .i64 k], false⟩, ⟨false, 1, digC (if j = lv then atL row k pad else d), false⟩, ⟨false, 1, digC pz, false⟩, ⟨true, 32, row.map digD, false⟩]) := by
  refine siOf_enc ?_ (lv, k, d, pz, row, true, j, pad) h rfl
  rintro ⟨lv, k, d, pz, row, r, j, pad⟩ ⟨lv', k', d', pz', row', r', j', pad'⟩ h
  cases r <;> cases r' <;> simp [rowH, rowS, digs_iff, dig_iff, digC_iff, Int.natCast_inj] at h
  all_goals simp [h]

set_option maxHeartbeats 4000000 in
theorem ci_node1 : IContract Tryd.prog GG 44 si_node1 := by
  refine icontract_of (T := tb [(41, sp_at)] []) tr_merkle_Node_1 (tb_ok (all_cons c_at all_nil) all_nil) ?_
  rintro ⟨lv, k, d, pz, row, r, j, pad⟩ h
  simp only at h
  unfold F_merkle_Node_1
  cases r
  · simp only [push_cast, ↓wF_free, ↓reduceIte, Nat.reduceEqDiff, Nat.reduceLT, Nat.reduceLeDiff, Nat.reduceAdd, Nat.reduceSub, Nat.reduceMul, Nat.reduceBEq, Int.reduceLT, Int.reduceLE, Int.reduceToNat, Int.reduceNeg, Int.reducePow, Int.reduceAdd, Int.reduceMul, Int.reduceSub, ↓Int.reduceNatCast', rowH_f, rowS_f]
    refine ifD_split (fun h1 => ?_) (fun h1 => ?_)
    · simp only [push_cast, ↓wF_free, ↓reduceIte, Nat.reduceEqDiff, Nat.reduceLT, Nat.reduceLeDiff, Nat.reduceAdd, Nat.reduceSub, Nat.reduceMul, Nat.reduceBEq, Int.reduceLT, Int.reduceLE, Int.reduceToNat, Int.reduceNeg, Int.reducePow, Int.reduceAdd, Int.reduceMul, Int.reduceSub, ↓Int.reduceNatCast', h1, call_at _ _ _ h, rowS_f]
    · simp only [push_cast, ↓wF_free, ↓reduceIte, Nat.reduceEqDiff, Nat.reduceLT, Nat.reduceLeDiff, Nat.reduceAdd, Nat.reduceSub, Nat.reduceMul, Nat.reduceBEq, Int.reduceLT, Int.reduceLE, Int.reduceToNat, Int.reduceNeg, Int.reducePow, Int.reduceAdd, Int.reduceMul, Int.reduceSub, ↓Int.reduceNatCast', h1, rowS_f]
  · simp only [push_cast, ↓wF_free, ↓reduceIte, Nat.reduceEqDiff, Nat.reduceLT, Nat.reduceLeDiff, Nat.reduceAdd, Nat.reduceSub, Nat.reduceMul, Nat.reduceBEq, Int.reduceLT, Int.reduceLE, Int.reduceToNat, Int.reduceNeg, Int.reducePow, Int.reduceAdd, Int.reduceMul, Int.reduceSub, ↓Int.reduceNatCast', rowH_t, rowS_t]
    refine ifD_split (fun h1 => ?_) (fun h1 => ?_)
    · simp only [push_cast, ↓wF_free, ↓reduceIte, Nat.reduceEqDiff, Nat.reduceLT, Nat.reduceLeDiff, Nat.reduceAdd, Nat.reduceSub, Nat.reduceMul, Nat.reduceBEq, Int.reduceLT, Int.reduceLE, Int.reduceToNat, Int.reduceNeg, Int.reducePow, Int.reduceAdd, Int.reduceMul, Int.reduceSub, ↓Int.reduceNatCast', h1, call_at _ _ _ h, rowS_t]
    · simp only [push_cast, ↓wF_free, ↓reduceIte, Nat.reduceEqDiff, Nat.reduceLT, Nat.reduceLeDiff, Nat.reduceAdd, Nat.reduceSub, Nat.reduceMul, Nat.reduceBEq, Int.reduceLT, Int.reduceLE, Int.reduceToNat, Int.reduceNeg, Int.reducePow, Int.reduceAdd, Int.reduceMul, Int.reduceSub, ↓Int.reduceNatCast', h1, rowS_t]

/-- what the node's box holds when the levels below j have been visited -/
def seenL (l : List Dig) (lv k : Int) (d : Dig) (j : Nat) : Dig := if 0 ≤ lv ∧ lv < (j : Int) then nodeL l lv.toNat k else d
theorem seen_step (l : List Dig) (lv k : Int) (d : Dig) (j : Nat) : (if (j : Int) = lv then atL (rowN l j) k (padN j) else seenL l lv k d j) = seenL l lv k d (j + 1) := by
  unfold seenL
  by_cases h : (j : Int) = lv
  · rw [if_pos h, if_pos (by omega)]
    have : lv.toNat = j := by omega
    rw [this]; rfl
  · rw [if_neg h]
    by_cases h2 : 0 ≤ lv ∧ lv < (j : Int)
    · rw [if_pos h2, if_pos (by omega)]
    · rw [if_neg h2, if_neg (by omega)]

noncomputable def si_levelsN : List D → St → Option (D × St) := siOf (α := List Dig × Int × Int × Int × Dig)
  (fun ⟨l, last, lv, k, d⟩ => ([.slc (nz 32 (l.map digD)) (l.map digD) false, .int .i64 last, .clo 44 [.ptr 0 0, .ptr 1 0, .ptr 2 0]], [⟨false, 1, [.int .i64 lv], false⟩, ⟨false, 1, [.int .i64 k], false⟩, ⟨false, 1, digC d, false⟩]))
  (fun ⟨l, last, _, k, _⟩ => 0 ≤ k ∧ 0 ≤ last ∧ last ≤ 16 ∧ l.length ≤ 65536)
  (fun ⟨l, last, lv, k, d⟩ => (.tup [], [⟨false, 1, [.int .i64 lv], false⟩, ⟨false, 1, [.int .i64 k], false⟩, ⟨false, 1, digC (seenL l lv k d (last.toNat + 1)), false⟩]))
theorem call_levelsN (l : List Dig) (last lv k : Int) (d : Dig) (h : 0 ≤ k ∧ 0 ≤ last ∧ last ≤ 16 ∧ l.length ≤ 65536) :
    si_levelsN [.slc (nz 32 (l.map digD)) (l.map digD) false, .int .i64 last, .clo 44 [.ptr 0 0, .ptr 1 0, .ptr 2 0]] [⟨false, 1, [.int .i64 lv], false⟩, ⟨false, 1, [.int .i64 k], false⟩, ⟨false, 1, digC d, false⟩] =
      some (.tup [], [⟨false, 1, [.int .i64 lv], false⟩, ⟨false, 1, [.int .i64 k], false⟩, ⟨false, 1, digC (seenL l lv k d (last.toNat + 1)), false⟩]) := by
  refine siOf_enc ?_ (l, last, lv, k, d) h rfl
  rintro ⟨l, last, lv, k, d⟩ ⟨l', last', lv', k', d'⟩ h
  simp [digs_iff, dig_iff, digC_iff] at h
  simp [h]

set_option maxHeartbeats 8000000 in
set_option maxRecDepth 20000 in
theorem ci_levelsN : IContract Tryd.prog GG 39 si_levelsN := by
  refine icontract_of (T := tb [(32, sp_mPad), (41, sp_at), (27, sp_mParent)] [(44, si_node1)]) tr_merkle_levels
    (tb_ok (all_cons c_mPad (all_cons c_at (all_cons c_mParent all_nil))) (all_cons ci_node1 all_nil)) ?_
  rintro ⟨l, last, lv, k, d⟩ ⟨hk, hl0, hl1, hll⟩
  unfold F_merkle_levels
  have hs0 : seenL l lv k d 0 = d := by unfold seenL; rw [if_neg (by omega)]
  simp (disch := omega) only [push_cast, ↓wF_free, ↓reduceIte, Nat.reduceEqDiff, Nat.reduceLT, Nat.reduceLeDiff, Nat.reduceAdd, Nat.reduceSub, Nat.reduceMul, Nat.reduceBEq, Int.reduceLT, Int.reduceLE, Int.reduceToNat, Int.reduceNeg, Int.reducePow, Int.reduceAdd, Int.reduceMul, Int.reduceSub, ↓Int.reduceNatCast', call_mPad, add_i]
  refine W_while (fun j : Nat => [(2, .clo 44 [.ptr 0 0, .ptr 1 0, .ptr 2 0]), (6, rowH (decide (0 < j)) 4 (rowN l j)), (7, .ptr 3 0), (14, .int .i64 (last + 1)), (15, .int .i64 (j : Int))])
    (fun j => [⟨false, 1, [.int .i64 lv], false⟩, ⟨false, 1, [.int .i64 k], false⟩, ⟨false, 1, digC (seenL l lv k d j), false⟩, ⟨false, 1, digC (padN j), false⟩] ++ rowS (decide (0 < j)) (rowN l j))
    (fun j => (j : Int) ≤ last + 1) (fun j => (last + 1).toNat - j) 0 (by rw [hs0]; simp only [push_cast, ↓wF_free, ↓reduceIte, Nat.reduceEqDiff, Nat.reduceLT, Nat.reduceLeDiff, Nat.reduceAdd, Nat.reduceSub, Nat.reduceMul, Nat.reduceBEq, Int.reduceLT, Int.reduceLE, Int.reduceToNat, Int.reduceNeg, Int.reducePow, Int.reduceAdd, Int.reduceMul, Int.reduceSub, ↓Int.reduceNatCast'] <;> rfl) (by omega) ?_
  intro j hj
  have hr := rowN_length l j
  have hul := upL_length (padN j) (rowN l j)
  have hn : rowN l (j + 1) = upL (padN j) (rowN l j) := rfl
  have hp : padN (j + 1) = parentL (padN j) (padN j) := rfl
  have hst := seen_step l lv k d j
  unfold F_merkle_levels_L1
  by_cases h1 : (j : Int) < last + 1
  · by_cases hz : j = 0
    · subst hz
      have hj0 : decide (0 < 0) = false := rfl
      have h1' : (0 : Int) < last + 1 := by omega
      have e0 : rowN l 0 = l := rfl
      have e1 : padN 0 = padL := rfl
      have hst' : (if (0 : Int) = lv then atL l k padL else d) = seenL l lv k d 1 := by rw [← hst, hs0]; rfl
      rw [e0] at hr hul hn
      rw [e1] at hul hn hp
      rw [e0, e1, hs0]
      simp (disch := omega) only [push_cast, ↓wF_free, ↓reduceIte, Nat.reduceEqDiff, Nat.reduceLT, Nat.reduceLeDiff, Nat.reduceAdd, Nat.reduceSub, Nat.reduceMul, Nat.reduceBEq, Int.reduceLT, Int.reduceLE, Int.reduceToNat, Int.reduceNeg, Int.reducePow, Int.reduceAdd, Int.reduceMul, Int.reduceSub, ↓Int.reduceNatCast', hj0, rowH_f, rowS_f, h1', hst', call_node1f, mk0_dig, add_i, quo_i]
      refine W_while (fun i : Nat => [(2, .clo 44 [.ptr 0 0, .ptr 1 0, .ptr 2 0]), (6, .slc (nz 32 (l.map digD)) (l.map digD) false), (7, .ptr 3 0), (9, .row 4 ((upL padL l).take i).length 0 ((upL padL l).take i).length), (10, .int .i64 (2 * (i : Int))), (14, .int .i64 (last + 1)), (15, .int .i64 0)])
        (fun i => [⟨false, 1, [.int .i64 lv], false⟩, ⟨false, 1, [.int .i64 k], false⟩, ⟨false, 1, digC (seenL l lv k d 1), false⟩, ⟨false, 1, digC padL, false⟩, ⟨true, 32, ((upL padL l).take i).map digD, false⟩]) (fun i => 2 * i ≤ l.length + 1) (fun i => l.length + 1 - i) 0 (by simp only [push_cast, ↓wF_free, ↓reduceIte, Nat.reduceEqDiff, Nat.reduceLT, Nat.reduceLeDiff, Nat.reduceAdd, Nat.reduceSub, Nat.reduceMul, Nat.reduceBEq, Int.reduceLT, Int.reduceLE, Int.reduceToNat, Int.reduceNeg, Int.reducePow, Int.reduceAdd, Int.reduceMul, Int.reduceSub, ↓Int.reduceNatCast'] <;> rfl) (by omega) ?_
      intro i hi
      unfold F_merkle_levels_L0
      have f0 : (2 * (i : Int)).toNat = 2 * i := by omega
      have f1 : (2 * (i : Int) + 2) = 2 * ((i + 1 : Nat) : Int) := by omega
      by_cases h2 : 2 * (i : Int) < (l.length : Int)
      · have e := upL_take padL l i (by omega)
        have hl : ((upL padL l).take i).length ≤ 65536 := by rw [List.length_take]; omega
        simp (disch := omega) only [push_cast, ↓wF_free, ↓reduceIte, Nat.reduceEqDiff, Nat.reduceLT, Nat.reduceLeDiff, Nat.reduceAdd, Nat.reduceSub, Nat.reduceMul, Nat.reduceBEq, Int.reduceLT, Int.reduceLE, Int.reduceToNat, Int.reduceNeg, Int.reducePow, Int.reduceAdd, Int.reduceMul, Int.reduceSub, ↓Int.reduceNatCast', h2, idxS_nz, add_i, call_at, call_mParent, f0]
        refine next_head (i + 1) (by omega) (by omega) ?_
        rw [e, ← f1]
      · have e : (upL padL l).take i = upL padL l := List.take_of_length_le (by omega)
        simp (disch := omega) only [push_cast, ↓wF_free, ↓reduceIte, Nat.reduceEqDiff, Nat.reduceLT, Nat.reduceLeDiff, Nat.reduceAdd, Nat.reduceSub, Nat.reduceMul, Nat.reduceBEq, Int.reduceLT, Int.reduceLE, Int.reduceToNat, Int.reduceNeg, Int.reducePow, Int.reduceAdd, Int.reduceMul, Int.reduceSub, ↓Int.reduceNatCast', h2, e, call_mParent, add_i]
        refine next_head 1 (by omega) (by omega) ?_
        rfl
    · have hj0 : decide (0 < j) = true := by simp; omega
      have hj1 : decide (0 < j + 1) = true := by simp
      generalize rowN l j = R at hr hul hn hst
      generalize padN j = pj at hul hn hp hst
      simp (disch := omega) only [push_cast, ↓wF_free, ↓reduceIte, Nat.reduceEqDiff, Nat.reduceLT, Nat.reduceLeDiff, Nat.reduceAdd, Nat.reduceSub, Nat.reduceMul, Nat.reduceBEq, Int.reduceLT, Int.reduceLE, Int.reduceToNat, Int.reduceNeg, Int.reducePow, Int.reduceAdd, Int.reduceMul, Int.reduceSub, ↓Int.reduceNatCast', hj0, rowH_t, rowS_t, h1, hst, call_node1t, mk0_dig, add_i, quo_i]
      refine W_while (fun i : Nat => [(2, .clo 44 [.ptr 0 0, .ptr 1 0, .ptr 2 0]), (6, .row 4 R.length 0 R.length), (7, .ptr 3 0), (9, .row 5 ((upL pj R).take i).length 0 ((upL pj R).take i).length), (10, .int .i64 (2 * (i : Int))), (14, .int .i64 (last + 1)), (15, .int .i64 j)])
        (fun i => [⟨false, 1, [.int .i64 lv], false⟩, ⟨false, 1, [.int .i64 k], false⟩, ⟨false, 1, digC (seenL l lv k d (j + 1)), false⟩, ⟨false, 1, digC pj, false⟩, ⟨true, 32, R.map digD, false⟩, ⟨true, 32, ((upL pj R).take i).map digD, false⟩]) (fun i => 2 * i ≤ R.length + 1) (fun i => R.length + 1 - i) 0 (by simp only [push_cast, ↓wF_free, ↓reduceIte, Nat.reduceEqDiff, Nat.reduceLT, Nat.reduceLeDiff, Nat.reduceAdd, Nat.reduceSub, Nat.reduceMul, Nat.reduceBEq, Int.reduceLT, Int.reduceLE, Int.reduceToNat, Int.reduceNeg, Int.reducePow, Int.reduceAdd, Int.reduceMul, Int.reduceSub, ↓Int.reduceNatCast'] <;> rfl) (by omega) ?_
      intro i hi
      unfold F_merkle_levels_L0
      have f0 : (2 * (i : Int)).toNat = 2 * i := by omega
      have f1 : (2 * (i : Int) + 2) = 2 * ((i + 1 : Nat) : Int) := by omega
      by_cases h2 : 2 * (i : Int) < (R.length : Int)
      · have e := upL_take pj R i (by omega)
        have hl : ((upL pj R).take i).length ≤ 65536 := by rw [List.length_take]; omega
        simp (disch := omega) only [push_cast, ↓wF_free, ↓reduceIte, Nat.reduceEqDiff, Nat.reduceLT, Nat.reduceLeDiff, Nat.reduceAdd, Nat.reduceSub, Nat.reduceMul, Nat.reduceBEq, Int.reduceLT, Int.reduceLE, Int.reduceToNat, Int.reduceNeg, Int.reducePow, Int.reduceAdd, Int.reduceMul, Int.reduceSub, ↓Int.reduceNatCast', h2, idxS_nz, add_i, call_at, call_mParent, f0]
        refine next_head (i + 1) (by omega) (by omega) ?_
        rw [e, ← f1]
      · have e : (upL pj R).take i = upL pj R := List.take_of_length_le (by omega)
        simp (disch := omega) only [push_cast, ↓wF_free, ↓reduceIte, Nat.reduceEqDiff, Nat.reduceLT, Nat.reduceLeDiff, Nat.reduceAdd, Nat.reduceSub, Nat.reduceMul, Nat.reduceBEq, Int.reduceLT, Int.reduceLE, Int.reduceToNat, Int.reduceNeg, Int.reducePow, Int.reduceAdd, Int.reduceMul, Int.reduceSub, ↓Int.reduceNatCast', h2, e, call_mParent, add_i]
        refine next_head (j + 1) (by omega) (by omega) ?_
        rw [hn, hp, hj1]
        rfl
  · have hj2 : last.toNat + 1 = j := by omega
    have hj0 : decide (0 < j) = true := by simp; omega
    simp (disch := omega) only [push_cast, ↓wF_free, ↓reduceIte, Nat.reduceEqDiff, Nat.reduceLT, Nat.reduceLeDiff, Nat.reduceAdd, Nat.reduceSub, Nat.reduceMul, Nat.reduceBEq, Int.reduceLT, Int.reduceLE, Int.reduceToNat, Int.reduceNeg, Int.reducePow, Int.reduceAdd, Int.reduceMul, Int.reduceSub, ↓Int.reduceNatCast', h1, hj0, rowH_t, rowS_t, hj2]

/-! ### Paths -/
noncomputable def si_path1 : List D → St → Option (D × St) := siOf (α := Int × List Dig × Dig × List Dig × Bool × Nat × Dig)
  (fun ⟨i0, A, pz, row, r, j, pad⟩ => ([.int .i64 (j : Int), rowH r 4 row, digD pad, .ptr 2 0, .ptr 0 0], [⟨false, 1, [.int .i64 i0], false⟩, ⟨true, 32, (A).map digD, false⟩, ⟨false, 1, [.row 1 (A).length 0 (A).length], false⟩, ⟨false, 1, digC pz, false⟩] ++ rowS r row))
  (fun ⟨i0, A, _, _, _, j, _⟩ => 0 ≤ i0 ∧ i0 < 4611686018427387904 ∧ j ≤ 60 ∧ A.length ≤ 65536)
  (fun ⟨i0, A, pz, row, r, j, pad⟩ => (.tup [], [⟨false, 1, [.int .i64 i0], false⟩, ⟨true, 32, (A ++ [atL row (sibL (i0 / 2 ^ j)) pad]).map digD, false⟩, ⟨false, 1, [.row 1 (A ++ [atL row (sibL (i0 / 2 ^ j)) pad]).length 0 (A ++ [atL row (sibL (i0 / 2 ^ j)) pad]).length], false⟩, ⟨false, 1, digC pz, false⟩] ++ rowS r row))
theorem call_path1f (i0 : Int) (A : List Dig) (pz : Dig) (row : List Dig) (j : Nat) (pad : Dig) (h : 0 ≤ i0 ∧ i0 < 4611686018427387904 ∧ j ≤ 60 ∧ A.length ≤ 65536) :
    si_path1 [.int .i64 (j : Int), .slc (nz 32 (row.map digD)) (row.map digD) false, digD pad, .ptr 2 0, .ptr 0 0] [⟨false, 1, [.int .i64 i0], false⟩, ⟨true, 32, (A).map digD, false⟩, ⟨false, 1, [.row 1 (A).length 0 (A).length], false⟩, ⟨false, 1, digC pz, false⟩] = some (.tup [], [⟨false, 1, [.int .i64 i0], false⟩, ⟨true, 32, (A ++ [atL row (sibL (i0 / 2 ^ j)) pad]).map digD, false⟩, ⟨false, 1, [.row 1 (A ++ [atL row (sibL (i0 / 2 ^ j)) pad]).length 0 (A ++ [atL row (sibL (i0 / 2 ^ j)) pad]).length], false⟩, ⟨false, 1, digC pz, false⟩]) := by
  refine siOf_enc ?_ (i0, A, pz, row, false, j, pad) h rfl
  rintro ⟨i0, A, pz, row, r, j, pad⟩ ⟨i0', A', pz', row', r', j', pad'⟩ h
  cases r <;> cases r' <;> simp [rowH, rowS, digs_iff, dig_iff, digC_iff, Int.natCast_inj] at h
  all_goals simp [h]
theorem call_path1t (i0 : Int) (A : List Dig) (pz : Dig) (row : List Dig) (j : Nat) (pad : Dig) (h : 0 ≤ i0 ∧ i0 < 4611686018427387904 ∧ j ≤ 60 ∧ A.length ≤ 65536) :
    si_path1 [.int .i64 (j : Int), .row 4 row.length 0 row.length, digD pad, .ptr 2 0, .ptr 0 0] [⟨false, 1, [.int .i64 i0], false⟩, ⟨true, 32, (A).map digD, false⟩, ⟨false, 1, [.row 1 (A).length 0 (A).length], false⟩, ⟨false, 1, digC pz, false⟩, ⟨true, 32, row.map digD, false⟩] = some (.tup [], [⟨false, 1, [.int .i64 i0], false⟩, ⟨true, 32, (A ++ [atL row (sibL (i0 / 2 ^ j)) pad]).map digD, false⟩, ⟨false, 1, [.row 1 (A ++ [atL row (sibL (i0 / 2 ^ j)) pad]).length 0 (A ++ [atL row (sibL (i0 / 2 ^ j)) pad]).length], false⟩, ⟨false, 1, digC pz, false⟩, ⟨true, 32, row.map digD, false⟩]) := by
  refine siOf_enc ?_ (i0, A, pz, row, true, j, pad) h rfl
  rintro ⟨i0, A, pz, row, r, j, pad⟩ ⟨i0', A', pz', row', r', j', pad'⟩ h
  cases r <;> cases r' <;> simp [rowH, rowS, digs_iff, dig_iff, digC_iff, Int.natCast_inj] at h
  all_goals simp [h]

set_option maxHeartbeats 4000000 in
theorem ci_path1 : IContract Tryd.prog GG 40 si_path1 := by
  refine icontract_of (T := tb [(41, sp_at)] []) tr_merkle_Path_1 (tb_ok (all_cons c_at all_nil) all_nil) ?_
  rintro ⟨i0, A, pz, row, r, j, pad⟩ ⟨h1, h2, h3, h4⟩
  have h8 := pow_pos2 j
  have h9 : 0 ≤ i0 / 2 ^ j := Int.ediv_nonneg (by omega) (by omega)
  have h10 : i0 / 2 ^ j ≤ i0 := Int.ediv_le_self _ (by omega)
  have hs : 0 ≤ sibL (i0 / 2 ^ j) := by unfold sibL; split <;> omega
  have e3 : (if i0 / 2 ^ j % 2 = 0 then i0 / 2 ^ j + 1 else i0 / 2 ^ j - 1) = sibL (i0 / 2 ^ j) := rfl
  unfold F_merkle_Path_1
  cases r
  · simp (disch := first | omega | decide) only [push_cast, ↓wF_free, ↓reduceIte, Nat.reduceEqDiff, Nat.reduceLT, Nat.reduceLeDiff, Nat.reduceAdd, Nat.reduceSub, Nat.reduceMul, Nat.reduceBEq, Int.reduceLT, Int.reduceLE, Int.reduceToNat, Int.reduceNeg, Int.reducePow, Int.reduceAdd, Int.reduceMul, Int.reduceSub, ↓Int.reduceNatCast', rowH_f, rowS_f, shr_s, xor_one, e3, call_at]
  · simp (disch := first | omega | decide) only [push_cast, ↓wF_free, ↓reduceIte, Nat.reduceEqDiff, Nat.reduceLT, Nat.reduceLeDiff, Nat.reduceAdd, Nat.reduceSub, Nat.reduceMul, Nat.reduceBEq, Int.reduceLT, Int.reduceLE, Int.reduceToNat, Int.reduceNeg, Int.reducePow, Int.reduceAdd, Int.reduceMul, Int.reduceSub, ↓Int.reduceNatCast', rowH_t, rowS_t, shr_s, xor_one, e3, call_at]

noncomputable def si_levelsP : List D → St → Option (D × St) := siOf (α := List Dig × Int × Int)
  (fun ⟨l, last, i0⟩ => ([.slc (nz 32 (l.map digD)) (l.map digD) false, .int .i64 last, .clo 40 [.ptr 2 0, .ptr 0 0]], [⟨false, 1, [.int .i64 i0], false⟩, ⟨true, 32, [], false⟩, ⟨false, 1, [.row 1 0 0 0], false⟩]))
  (fun ⟨l, last, i0⟩ => 0 ≤ i0 ∧ i0 < 4611686018427387904 ∧ 0 ≤ last ∧ last ≤ 16 ∧ l.length ≤ 65536)
  (fun ⟨l, last, i0⟩ => (.tup [], [⟨false, 1, [.int .i64 i0], false⟩, ⟨true, 32, (pathL l i0 (last.toNat + 1)).map digD, false⟩, ⟨false, 1, [.row 1 (pathL l i0 (last.toNat + 1)).length 0 (pathL l i0 (last.toNat + 1)).length], false⟩]))
theorem call_levelsP (l : List Dig) (last i0 : Int) (h : 0 ≤ i0 ∧ i0 < 4611686018427387904 ∧ 0 ≤ last ∧ last ≤ 16 ∧ l.length ≤ 65536) :
    si_levelsP [.slc (nz 32 (l.map digD)) (l.map digD) false, .int .i64 last, .clo 40 [.ptr 2 0, .ptr 0 0]] [⟨false, 1, [.int .i64 i0], false⟩, ⟨true, 32, [], false⟩, ⟨false, 1, [.row 1 0 0 0], false⟩] =
      some (.tup [], [⟨false, 1, [.int .i64 i0], false⟩, ⟨true, 32, (pathL l i0 (last.toNat + 1)).map digD, false⟩, ⟨false, 1, [.row 1 (pathL l i0 (last.toNat + 1)).length 0 (pathL l i0 (last.toNat + 1)).length], false⟩]) := by
  refine siOf_enc ?_ (l, last, i0) h rfl
  rintro ⟨l, last, i0⟩ ⟨l', last', i0'⟩ h
  simp [digs_iff] at h
  simp [h]

set_option maxHeartbeats 8000000 in
set_option maxRecDepth 20000 in
theorem ci_levelsP : IContract Tryd.prog GG 39 si_levelsP := by
  refine icontract_of (T := tb [(32, sp_mPad), (41, sp_at), (27, sp_mParent)] [(40, si_path1)]) tr_merkle_levels
    (tb_ok (all_cons c_mPad (all_cons c_at (all_cons c_mParent all_nil))) (all_cons ci_path1 all_nil)) ?_
  rintro ⟨l, last, i0⟩ ⟨hk, hk2, hl0, hl1, hll⟩
  unfold F_merkle_levels
  simp (disch := omega) only [push_cast, ↓wF_free, ↓reduceIte, Nat.reduceEqDiff, Nat.reduceLT, Nat.reduceLeDiff, Nat.reduceAdd, Nat.reduceSub, Nat.reduceMul, Nat.reduceBEq, Int.reduceLT, Int.reduceLE, Int.reduceToNat, Int.reduceNeg, Int.reducePow, Int.reduceAdd, Int.reduceMul, Int.reduceSub, ↓Int.reduceNatCast', call_mPad, add_i]
  refine W_while (fun j : Nat => [(2, .clo 40 [.ptr 2 0, .ptr 0 0]), (6, rowH (decide (0 < j)) 4 (rowN l j)), (7, .ptr 3 0), (14, .int .i64 (last + 1)), (15, .int .i64 (j : Int))])
    (fun j => [⟨false, 1, [.int .i64 i0], false⟩, ⟨true, 32, (pathL l i0 j).map digD, false⟩, ⟨false, 1, [.row 1 (pathL l i0 j).length 0 (pathL l i0 j).length], false⟩, ⟨false, 1, digC (padN j), false⟩] ++ rowS (decide (0 < j)) (rowN l j))
    (fun j => (j : Int) ≤ last + 1) (fun j => (last + 1).toNat - j) 0 (by simp only [push_cast, ↓wF_free, ↓reduceIte, Nat.reduceEqDiff, Nat.reduceLT, Nat.reduceLeDiff, Nat.reduceAdd, Nat.reduceSub, Nat.reduceMul, Nat.reduceBEq, Int.reduceLT, Int.reduceLE, Int.reduceToNat, Int.reduceNeg, Int.reducePow, Int.reduceAdd, Int.reduceMul, Int.reduceSub, ↓Int.reduceNatCast'] <;> rfl) (by omega) ?_
  intro j hj
  have hr := rowN_length l j
  have hul := upL_length (padN j) (rowN l j)
  have hn : rowN l (j + 1) = upL (padN j) (rowN l j) := rfl
  have hp : padN (j + 1) = parentL (padN j) (padN j) := rfl
  have hst : pathL l i0 j ++ [atL (rowN l j) (sibL (i0 / 2 ^ j)) (padN j)] = pathL l i0 (j + 1) := rfl
  have hpl := pathL_length l i0 j
  unfold F_merkle_levels_L1
  by_cases h1 : (j : Int) < last + 1
  · by_cases hz : j = 0
    · subst hz
      have hj0 : decide (0 < 0) = false := rfl
      have h1' : (0 : Int) < last + 1 := by omega
      have e0 : rowN l 0 = l := rfl
      have e1 : padN 0 = padL := rfl
      have e2 : pathL l i0 0 = [] := rfl
      have hst' : [atL l (sibL (i0 / 2 ^ 0)) padL] = pathL l i0 1 := rfl
      have hq0 : 0 ≤ i0 ∧ i0 < 4611686018427387904 ∧ 0 ≤ 60 ∧ ([] : List Dig).length ≤ 65536 := ⟨hk, hk2, by omega, by simp⟩
      have hcall := call_path1f i0 [] padL l 0 padL hq0
      rw [e0] at hr hul hn
      rw [e1] at hul hn hp
      simp only [List.map_nil, List.length_nil, List.nil_append, List.map_cons, List.length_cons, Nat.zero_add, ↓Int.reduceNatCast'] at hcall
      rw [e0, e1, e2]
      simp (disch := omega) only [push_cast, ↓wF_free, ↓reduceIte, Nat.reduceEqDiff, Nat.reduceLT, Nat.reduceLeDiff, Nat.reduceAdd, Nat.reduceSub, Nat.reduceMul, Nat.reduceBEq, Int.reduceLT, Int.reduceLE, Int.reduceToNat, Int.reduceNeg, Int.reducePow, Int.reduceAdd, Int.reduceMul, Int.reduceSub, ↓Int.reduceNatCast', hj0, rowH_f, rowS_f, h1', hcall, mk0_dig, add_i, quo_i]
      refine W_while (fun i : Nat => [(2, .clo 40 [.ptr 2 0, .ptr 0 0]), (6, .slc (nz 32 (l.map digD)) (l.map digD) false), (7, .ptr 3 0), (9, .row 4 ((upL padL l).take i).length 0 ((upL padL l).take i).length), (10, .int .i64 (2 * (i : Int))), (14, .int .i64 (last + 1)), (15, .int .i64 0)])
        (fun i => [⟨false, 1, [.int .i64 i0], false⟩, ⟨true, 32, (pathL l i0 1).map digD, false⟩, ⟨false, 1, [.row 1 (pathL l i0 1).length 0 (pathL l i0 1).length], false⟩, ⟨false, 1, digC padL, false⟩, ⟨true, 32, ((upL padL l).take i).map digD, false⟩]) (fun i => 2 * i ≤ l.length + 1) (fun i => l.length + 1 - i) 0 (by simp only [push_cast, ↓wF_free, ↓reduceIte, Nat.reduceEqDiff, Nat.reduceLT, Nat.reduceLeDiff, Nat.reduceAdd, Nat.reduceSub, Nat.reduceMul, Nat.reduceBEq, Int.reduceLT, Int.reduceLE, Int.reduceToNat, Int.reduceNeg, Int.reducePow, Int.reduceAdd, Int.reduceMul, Int.reduceSub, ↓Int.reduceNatCast'] <;> rfl) (by omega) ?_
      intro i hi
      unfold F_merkle_levels_L0
      have f0 : (2 * (i : Int)).toNat = 2 * i := by omega
      have f1 : (2 * (i : Int) + 2) = 2 * ((i + 1 : Nat) : Int) := by omega
      by_cases h2 : 2 * (i : Int) < (l.length : Int)
      · have e := upL_take padL l i (by omega)
        have hl : ((upL padL l).take i).length ≤ 65536 := by rw [List.length_take]; omega
        simp (disch := omega) only [push_cast, ↓wF_free, ↓reduceIte, Nat.reduceEqDiff, Nat.reduceLT, Nat.reduceLeDiff, Nat.reduceAdd, Nat.reduceSub, Nat.reduceMul, Nat.reduceBEq, Int.reduceLT, Int.reduceLE, Int.reduceToNat, Int.reduceNeg, Int.reducePow, Int.reduceAdd, Int.reduceMul, Int.reduceSub, ↓Int.reduceNatCast', h2, idxS_nz, add_i, call_at, call_mParent, f0]
        refine next_head (i + 1) (by omega) (by omega) ?_
        rw [e, ← f1]
      · have e : (upL padL l).take i = upL padL l := List.take_of_length_le (by omega)
        simp (disch := omega) only [push_cast, ↓wF_free, ↓reduceIte, Nat.reduceEqDiff, Nat.reduceLT, Nat.reduceLeDiff, Nat.reduceAdd, Nat.reduceSub, Nat.reduceMul, Nat.reduceBEq, Int.reduceLT, Int.reduceLE, Int.reduceToNat, Int.reduceNeg, Int.reducePow, Int.reduceAdd, Int.reduceMul, Int.reduceSub, ↓Int.reduceNatCast', h2, e, call_mParent, add_i]
        refine next_head 1 (by omega) (by omega) ?_
        rfl
    · have hj0 : decide (0 < j) = true := by simp; omega
      have hj1 : decide (0 < j + 1) = true := by simp
      have hq1 : 0 ≤ i0 ∧ i0 < 4611686018427387904 ∧ j ≤ 60 ∧ (pathL l i0 j).length ≤ 65536 := ⟨hk, hk2, by omega, by omega⟩
      generalize rowN l j = R at hr hul hn hst
      generalize padN j = pj at hul hn hp hst
      simp (disch := omega) only [push_cast, ↓wF_free, ↓reduceIte, Nat.reduceEqDiff, Nat.reduceLT, Nat.reduceLeDiff, Nat.reduceAdd, Nat.reduceSub, Nat.reduceMul, Nat.reduceBEq, Int.reduceLT, Int.reduceLE, Int.reduceToNat, Int.reduceNeg, Int.reducePow, Int.reduceAdd, Int.reduceMul, Int.reduceSub, ↓Int.reduceNatCast', hj0, rowH_t, rowS_t, h1, hst, call_path1t _ _ _ _ _ _ hq1, mk0_dig, add_i, quo_i]
      refine W_while (fun i : Nat => [(2, .clo 40 [.ptr 2 0, .ptr 0 0]), (6, .row 4 R.length 0 R.length), (7, .ptr 3 0), (9, .row 5 ((upL pj R).take i).length 0 ((upL pj R).take i).length), (10, .int .i64 (2 * (i : Int))), (14, .int .i64 (last + 1)), (15, .int .i64 j)])
        (fun i => [⟨false, 1, [.int .i64 i0], false⟩, ⟨true, 32, (pathL l i0 (j + 1)).map digD, false⟩, ⟨false, 1, [.row 1 (pathL l i0 (j + 1)).length 0 (pathL l i0 (j + 1)).length], false⟩, ⟨false, 1, digC pj, false⟩, ⟨true, 32, R.map digD, false⟩, ⟨true, 32, ((upL pj R).take i).map digD, false⟩]) (fun i => 2 * i ≤ R.length + 1) (fun i => R.length + 1 - i) 0 (by simp only [push_cast, ↓wF_free, ↓reduceIte, Nat.reduceEqDiff, Nat.reduceLT, Nat.reduceLeDiff, Nat.reduceAdd, Nat.reduceSub, Nat.reduceMul, Nat.reduceBEq, Int.reduceLT, Int.reduceLE, Int.reduceToNat, Int.reduceNeg, Int.reducePow, Int.reduceAdd, Int.reduceMul, Int.reduceSub, ↓Int.reduceNatCast'] <;> rfl) (by omega) ?_
      intro i hi
      unfold F_merkle_levels_L0
      have f0 : (2 * (i : Int)).toNat = 2 * i := by omega
      have f1 : (2 * (i : Int) + 2) = 2 * ((i + 1 : Nat) : Int) := by omega
      by_cases h2 : 2 * (i : Int) < (R.length : Int)
      · have e := upL_take pj R i (by omega)
        have hl : ((upL pj R).take i).length ≤ 65536 := by rw [List.length_take]; omega
        simp (disch := omega) only [push_cast, ↓wF_free, ↓reduceIte, Nat.reduceEqDiff, Nat.reduceLT, Nat.reduceLeDiff, Nat.reduceAdd, Nat.reduceSub, Nat.reduceMul, Nat.reduceBEq, Int.reduceLT, Int.reduceLE, Int.reduceToNat, Int.reduceNeg, Int.reducePow, Int.reduceAdd, Int.reduceMul, Int.reduceSub, ↓Int.reduceNatCast', h2, idxS_nz, add_i, call_at, call_mParent, f0]
        refine next_head (i + 1) (by omega) (by omega) ?_
        rw [e, ← f1]
      · have e : (upL pj R).take i = upL pj R := List.take_of_length_le (by omega)
        simp (disch := omega) only [push_cast, ↓wF_free, ↓reduceIte, Nat.reduceEqDiff, Nat.reduceLT, Nat.reduceLeDiff, Nat.reduceAdd, Nat.reduceSub, Nat.reduceMul, Nat.reduceBEq, Int.reduceLT, Int.reduceLE, Int.reduceToNat, Int.reduceNeg, Int.reducePow, Int.reduceAdd, Int.reduceMul, Int.reduceSub, ↓Int.reduceNatCast', h2, e, call_mParent, add_i]
        refine next_head (j + 1) (by omega) (by omega) ?_
        rw [hn, hp, hj1]
        rfl
  · have hj2 : last.toNat + 1 = j := by omega
    have hj0 : decide (0 < j) = true := by simp; omega
    simp (disch := omega) only [push_cast, ↓wF_free, ↓reduceIte, Nat.reduceEqDiff, Nat.reduceLT, Nat.reduceLeDiff, Nat.reduceAdd, Nat.reduceSub, Nat.reduceMul, Nat.reduceBEq, Int.reduceLT, Int.reduceLE, Int.reduceToNat, Int.reduceNeg, Int.reducePow, Int.reduceAdd, Int.reduceMul, Int.reduceSub, ↓Int.reduceNatCast', h1, hj0, rowH_t, rowS_t, hj2]

end Go.Proofs.YtokhnpjchpmndaaDoor.PI
