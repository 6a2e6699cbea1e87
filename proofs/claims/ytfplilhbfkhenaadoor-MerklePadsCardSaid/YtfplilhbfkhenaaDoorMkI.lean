/-
  merkle: the statements' functions return true: the laws with a loop.
  Conditions: none; these are lemmas.
-/
import Derived.Test.YtfplilhbfkhenaaDoorMkQ
namespace Go.Proofs.YtfplilhbfkhenaaDoor.PI
open Go
set_option linter.unusedSimpArgs false
set_option linter.unusedVariables false

set_option maxHeartbeats 4000000 in
set_option maxRecDepth 20000 in
theorem lw_MerkleDepth (n : Int) (hn1 : -9223372036854775808 ≤ n) (hn2 : n < 9223372036854775808) : @wW GG (tb [(11, sp_sane), (24, sp_mDepth)] []) F_wagonpoollaw04_MerkleDepth.code (argF [.int .i64 n]) [] ⟨retQ F_wagonpoollaw04_MerkleDepth.res (.bool true)⟩ := by
  unfold F_wagonpoollaw04_MerkleDepth
  simp (disch := omega) only [push_cast, ↓reduceIte, Nat.reduceEqDiff, Nat.reduceLT, Nat.reduceLeDiff, Nat.reduceAdd, Nat.reduceSub, Nat.reduceMul, Nat.reduceBEq, Int.reduceLT, Int.reduceLE, Int.reduceToNat, Int.reduceNeg, Int.reducePow, Int.reduceAdd, Int.reduceMul, Int.reduceSub, ↓Int.reduceNatCast', call_sane, call_mDepth]
  refine ifD_split (fun h1 => ?_) (fun h1 => ?_)
  · have e := depthL_bad (n := n) (by omega)
    simp (disch := omega) only [push_cast, ↓reduceIte, Nat.reduceEqDiff, Nat.reduceLT, Nat.reduceLeDiff, Nat.reduceAdd, Nat.reduceSub, Nat.reduceMul, Nat.reduceBEq, Int.reduceLT, Int.reduceLE, Int.reduceToNat, Int.reduceNeg, Int.reducePow, Int.reduceAdd, Int.reduceMul, Int.reduceSub, ↓Int.reduceNatCast', h1, e]
  · simp (disch := omega) only [push_cast, ↓reduceIte, Nat.reduceEqDiff, Nat.reduceLT, Nat.reduceLeDiff, Nat.reduceAdd, Nat.reduceSub, Nat.reduceMul, Nat.reduceBEq, Int.reduceLT, Int.reduceLE, Int.reduceToNat, Int.reduceNeg, Int.reducePow, Int.reduceAdd, Int.reduceMul, Int.reduceSub, ↓Int.reduceNatCast', h1]
    refine ifD_split (fun h2 => ?_) (fun h2 => ?_)
    · have e := depthL_bad (n := n) (by omega)
      simp (disch := omega) only [push_cast, ↓reduceIte, Nat.reduceEqDiff, Nat.reduceLT, Nat.reduceLeDiff, Nat.reduceAdd, Nat.reduceSub, Nat.reduceMul, Nat.reduceBEq, Int.reduceLT, Int.reduceLE, Int.reduceToNat, Int.reduceNeg, Int.reducePow, Int.reduceAdd, Int.reduceMul, Int.reduceSub, ↓Int.reduceNatCast', h1, h2, e]
    · obtain ⟨d1, d2, d3⟩ := depthL_ok (n := n) (by omega) (by omega)
      have f1 : ¬ depthL n < 0 := by omega
      have f2 : ¬ 16 < depthL n := by omega
      simp (disch := omega) only [push_cast, ↓reduceIte, Nat.reduceEqDiff, Nat.reduceLT, Nat.reduceLeDiff, Nat.reduceAdd, Nat.reduceSub, Nat.reduceMul, Nat.reduceBEq, Int.reduceLT, Int.reduceLE, Int.reduceToNat, Int.reduceNeg, Int.reducePow, Int.reduceAdd, Int.reduceMul, Int.reduceSub, ↓Int.reduceNatCast', h1, h2, f1, f2]
      refine W_while (fun i : Nat => [(0, .int .i64 n), (3, .int .i64 (depthL n)), (4, .int .i64 (2 ^ i)), (5, .int .i64 (i : Int))]) (fun _ => []) (fun i => (i : Int) ≤ depthL n) (fun i => (depthL n).toNat - i) 0 (by simp only [push_cast, ↓reduceIte, Nat.reduceEqDiff, Nat.reduceLT, Nat.reduceLeDiff, Nat.reduceAdd, Nat.reduceSub, Nat.reduceMul, Nat.reduceBEq, Int.reduceLT, Int.reduceLE, Int.reduceToNat, Int.reduceNeg, Int.reducePow, Int.reduceAdd, Int.reduceMul, Int.reduceSub, ↓Int.reduceNatCast'] <;> rfl) (by omega) ?_
      intro i hi
      have h6 := pow_pos2 i
      have h7 : (2 : Int) ^ i ≤ 2 ^ 16 := pow_mono (by omega)
      have e : (2 : Int) * 2 ^ i = 2 ^ (i + 1) := by rw [Int.pow_succ, Int.mul_comm]
      unfold F_wagonpoollaw04_MerkleDepth_L0
      simp (disch := omega) only [push_cast, ↓reduceIte, Nat.reduceEqDiff, Nat.reduceLT, Nat.reduceLeDiff, Nat.reduceAdd, Nat.reduceSub, Nat.reduceMul, Nat.reduceBEq, Int.reduceLT, Int.reduceLE, Int.reduceToNat, Int.reduceNeg, Int.reducePow, Int.reduceAdd, Int.reduceMul, Int.reduceSub, ↓Int.reduceNatCast']
      refine ifD_split (fun h3 => ?_) (fun h3 => ?_)
      · simp (disch := omega) only [push_cast, ↓reduceIte, Nat.reduceEqDiff, Nat.reduceLT, Nat.reduceLeDiff, Nat.reduceAdd, Nat.reduceSub, Nat.reduceMul, Nat.reduceBEq, Int.reduceLT, Int.reduceLE, Int.reduceToNat, Int.reduceNeg, Int.reducePow, Int.reduceAdd, Int.reduceMul, Int.reduceSub, ↓Int.reduceNatCast', mul_i, add_i]
        refine next_head (i + 1) (by omega) (by omega) ?_
        simp only [push_cast, ↓reduceIte, Nat.reduceEqDiff, Nat.reduceLT, Nat.reduceLeDiff, Nat.reduceAdd, Nat.reduceSub, Nat.reduceMul, Nat.reduceBEq, Int.reduceLT, Int.reduceLE, Int.reduceToNat, Int.reduceNeg, Int.reducePow, Int.reduceAdd, Int.reduceMul, Int.reduceSub, ↓Int.reduceNatCast', e] <;> rfl
      · have e2 : depthL n = (i : Int) := by omega
        have h8 := depthL_le (n := n) (by omega) (by omega)
        rw [e2, Int.toNat_natCast] at h8
        simp (disch := omega) only [push_cast, ↓reduceIte, Nat.reduceEqDiff, Nat.reduceLT, Nat.reduceLeDiff, Nat.reduceAdd, Nat.reduceSub, Nat.reduceMul, Nat.reduceBEq, Int.reduceLT, Int.reduceLE, Int.reduceToNat, Int.reduceNeg, Int.reducePow, Int.reduceAdd, Int.reduceMul, Int.reduceSub, ↓Int.reduceNatCast', h8, e2]
        refine ifD_split (fun h9 => ?_) (fun h9 => ?_)
        · simp (disch := omega) only [push_cast, ↓reduceIte, Nat.reduceEqDiff, Nat.reduceLT, Nat.reduceLeDiff, Nat.reduceAdd, Nat.reduceSub, Nat.reduceMul, Nat.reduceBEq, Int.reduceLT, Int.reduceLE, Int.reduceToNat, Int.reduceNeg, Int.reducePow, Int.reduceAdd, Int.reduceMul, Int.reduceSub, ↓Int.reduceNatCast', h8, e2, h9]
        · have h10 := depthL_least (n := n) (by omega) (by omega) (i - 1) (by omega)
          have e3 : (2 : Int) ^ i = 2 * 2 ^ (i - 1) := by
            rw [show i = (i - 1) + 1 by omega, Int.pow_succ, Int.mul_comm]; rfl
          have e4 : (2 : Int) ^ i / 2 < n := by rw [e3]; omega
          simp (disch := first | omega | decide) only [push_cast, ↓reduceIte, Nat.reduceEqDiff, Nat.reduceLT, Nat.reduceLeDiff, Nat.reduceAdd, Nat.reduceSub, Nat.reduceMul, Nat.reduceBEq, Int.reduceLT, Int.reduceLE, Int.reduceToNat, Int.reduceNeg, Int.reducePow, Int.reduceAdd, Int.reduceMul, Int.reduceSub, ↓Int.reduceNatCast', h8, e2, h9, quo_i, e4]
theorem law_MerkleDepth : Contract Tryd.prog GG 6 (lawSp [.int .i64]) := by
  refine lawC tr_wagonpoollaw04_MerkleDepth (T := tb [(11, sp_sane), (24, sp_mDepth)] []) (tb_ok (all_cons c_sane (all_cons c_mDepth all_nil)) all_nil) ?_
  intro xs h
  obtain ⟨x0, xs, rfl, h0, h⟩ := hasAll_cons h
  obtain rfl := hasAll_nil h
  obtain ⟨y0, rfl, ya0, yb0⟩ := has_i64 h0
  exact lw_MerkleDepth y0 ya0 yb0

theorem tup_db (d : Dig) (b : Bool) : (D.tup [digD d, .bool b]).noRef = true := by
  have := digD_noRef d
  simp only [digD, D.noRef] at this
  simp [digD, D.noRef, D.noRef1, this]

set_option maxHeartbeats 4000000 in
set_option maxRecDepth 20000 in
theorem lw_MerklePads (l : List Dig) (hl : l.length ≤ maxLen) (more : Int) (hmore1 : -9223372036854775808 ≤ more) (hmore2 : more < 9223372036854775808) (level : Int) (hlevel1 : -9223372036854775808 ≤ level) (hlevel2 : level < 9223372036854775808) (k : Int) (hk1 : -9223372036854775808 ≤ k) (hk2 : k < 9223372036854775808) : @wW GG (tb [(11, sp_sane), (20, sp_mPad), (13, sp_mNode), (26, sp_mFirst)] []) F_wagonpoollaw04_MerklePads.code (argF [.slc (nz 32 (l.map digD)) (l.map digD) false, .int .i64 more, .int .i64 level, .int .i64 k]) [] ⟨retQ F_wagonpoollaw04_MerklePads.res (.bool true)⟩ := by
  unfold F_wagonpoollaw04_MerklePads
  simp (disch := omega) only [push_cast, ↓reduceIte, Nat.reduceEqDiff, Nat.reduceLT, Nat.reduceLeDiff, Nat.reduceAdd, Nat.reduceSub, Nat.reduceMul, Nat.reduceBEq, Int.reduceLT, Int.reduceLE, Int.reduceToNat, Int.reduceNeg, Int.reducePow, Int.reduceAdd, Int.reduceMul, Int.reduceSub, ↓Int.reduceNatCast', call_sane]
  refine ifD_split (fun h1 => ?_) (fun h1 => ?_)
  · simp (disch := omega) only [push_cast, ↓reduceIte, Nat.reduceEqDiff, Nat.reduceLT, Nat.reduceLeDiff, Nat.reduceAdd, Nat.reduceSub, Nat.reduceMul, Nat.reduceBEq, Int.reduceLT, Int.reduceLE, Int.reduceToNat, Int.reduceNeg, Int.reducePow, Int.reduceAdd, Int.reduceMul, Int.reduceSub, ↓Int.reduceNatCast', h1]
  · simp (disch := omega) only [push_cast, ↓reduceIte, Nat.reduceEqDiff, Nat.reduceLT, Nat.reduceLeDiff, Nat.reduceAdd, Nat.reduceSub, Nat.reduceMul, Nat.reduceBEq, Int.reduceLT, Int.reduceLE, Int.reduceToNat, Int.reduceNeg, Int.reducePow, Int.reduceAdd, Int.reduceMul, Int.reduceSub, ↓Int.reduceNatCast', h1]
    have hp : papp [] 32 32 (.slc 32 [] true) (.slc (nz 32 (l.map digD)) (l.map digD) false) = some (bufD 32 0 (l.map digD), bufS 32 (l.map digD)) :=
      papp_b0 digD 32 32 32 [] l false (by decide) (by simp; omega) (by simp; omega)
    simp (disch := omega) only [push_cast, ↓reduceIte, Nat.reduceEqDiff, Nat.reduceLT, Nat.reduceLeDiff, Nat.reduceAdd, Nat.reduceSub, Nat.reduceMul, Nat.reduceBEq, Int.reduceLT, Int.reduceLE, Int.reduceToNat, Int.reduceNeg, Int.reducePow, Int.reduceAdd, Int.reduceMul, Int.reduceSub, ↓Int.reduceNatCast', hp]
    by_cases hn : l = []
    · have e0 : l.map digD = [] := by rw [hn]; rfl
      subst hn
      simp (disch := omega) only [push_cast, ↓reduceIte, Nat.reduceEqDiff, Nat.reduceLT, Nat.reduceLeDiff, Nat.reduceAdd, Nat.reduceSub, Nat.reduceMul, Nat.reduceBEq, Int.reduceLT, Int.reduceLE, Int.reduceToNat, Int.reduceNeg, Int.reducePow, Int.reduceAdd, Int.reduceMul, Int.reduceSub, ↓Int.reduceNatCast', bufD_nil, bufS_nil]
      refine W_while (fun m : Nat => [(0, .slc 0 [] false), (1, .int .i64 more), (2, .int .i64 level), (3, .int .i64 k), (9, bufD 32 0 (([] ++ List.replicate m padL).map digD)), (10, .int .i64 (m : Int))])
        (fun m => bufS 32 (([] ++ List.replicate m padL).map digD)) (fun m => m ≤ 24) (fun m => 24 - m) 0 (by simp only [push_cast, ↓reduceIte, Nat.reduceEqDiff, Nat.reduceLT, Nat.reduceLeDiff, Nat.reduceAdd, Nat.reduceSub, Nat.reduceMul, Nat.reduceBEq, Int.reduceLT, Int.reduceLE, Int.reduceToNat, Int.reduceNeg, Int.reducePow, Int.reduceAdd, Int.reduceMul, Int.reduceSub, ↓Int.reduceNatCast', List.replicate_zero, List.append_nil, List.map_nil, bufD_nil, bufS_nil] <;> rfl) (by omega) ?_
      intro m hm
      obtain ⟨n1, n2⟩ := nodeR_pads [] m level k (by simp) (by simp; omega)
      have hl : ([] ++ List.replicate m padL).length = m := by simp
      have f1 : firstL [] ([] ++ List.replicate m padL) = -1 := first_same _ _ fun j hj => (at_pads [] m j hj).symm
      have f2 : firstL ([] ++ List.replicate m padL) [] = -1 := first_same _ _ fun j hj => at_pads [] m j hj
      have er : [] ++ List.replicate (m + 1) padL = ([] ++ List.replicate m padL) ++ [padL] := by
        rw [List.append_assoc, List.replicate_succ']
      generalize hx : [] ++ List.replicate m padL = lx at *
      have c0 : sp_mNode [.slc 0 [] false, .int .i64 level, .int .i64 k] = _ := call_mNode [] level k
      have c3 : sp_mFirst [.slc 0 [] false, .slc 0 [] false] = some (.int .i64 (-1)) := call_mFirst [] [] ⟨by simp, by simp⟩
      have c1 : sp_mFirst [.slc 0 [] false, .slc (nz 32 (lx.map digD)) (lx.map digD) false] = _ := call_mFirst [] lx ⟨by simp, by omega⟩
      have c2 : sp_mFirst [.slc (nz 32 (lx.map digD)) (lx.map digD) false, .slc 0 [] false] = _ := call_mFirst lx [] ⟨by omega, by simp⟩
      rw [f1] at c1
      rw [f2] at c2
      unfold F_wagonpoollaw04_MerklePads_L0
      simp (disch := omega) only [push_cast, ↓reduceIte, Nat.reduceEqDiff, Nat.reduceLT, Nat.reduceLeDiff, Nat.reduceAdd, Nat.reduceSub, Nat.reduceMul, Nat.reduceBEq, Int.reduceLT, Int.reduceLE, Int.reduceToNat, Int.reduceNeg, Int.reducePow, Int.reduceAdd, Int.reduceMul, Int.reduceSub, ↓Int.reduceNatCast']
      refine ifD_split (fun h2 => ?_) (fun h2 => ?_)
      · simp (disch := omega) only [push_cast, ↓reduceIte, Nat.reduceEqDiff, Nat.reduceLT, Nat.reduceLeDiff, Nat.reduceAdd, Nat.reduceSub, Nat.reduceMul, Nat.reduceBEq, Int.reduceLT, Int.reduceLE, Int.reduceToNat, Int.reduceNeg, Int.reducePow, Int.reduceAdd, Int.reduceMul, Int.reduceSub, ↓Int.reduceNatCast', h2]
        refine ifD_split (fun h3 => ?_) (fun h3 => ?_)
        · simp (disch := first | omega | decide) only [push_cast, ↓reduceIte, Nat.reduceEqDiff, Nat.reduceLT, Nat.reduceLeDiff, Nat.reduceAdd, Nat.reduceSub, Nat.reduceMul, Nat.reduceBEq, Int.reduceLT, Int.reduceLE, Int.reduceToNat, Int.reduceNeg, Int.reducePow, Int.reduceAdd, Int.reduceMul, Int.reduceSub, ↓Int.reduceNatCast', h2, h3, call_mPad, add_i]
          refine next_head (m + 1) (by omega) (by omega) ?_
          rw [er]
          simp only [push_cast, ↓reduceIte, Nat.reduceEqDiff, Nat.reduceLT, Nat.reduceLeDiff, Nat.reduceAdd, Nat.reduceSub, Nat.reduceMul, Nat.reduceBEq, Int.reduceLT, Int.reduceLE, Int.reduceToNat, Int.reduceNeg, Int.reducePow, Int.reduceAdd, Int.reduceMul, Int.reduceSub, ↓Int.reduceNatCast'] <;> rfl
        · by_cases hz : lx.map digD = []
          · rw [hz, bufD_nil, bufS_nil]
            simp (disch := omega) only [push_cast, ↓reduceIte, Nat.reduceEqDiff, Nat.reduceLT, Nat.reduceLeDiff, Nat.reduceAdd, Nat.reduceSub, Nat.reduceMul, Nat.reduceBEq, Int.reduceLT, Int.reduceLE, Int.reduceToNat, Int.reduceNeg, Int.reducePow, Int.reduceAdd, Int.reduceMul, Int.reduceSub, ↓Int.reduceNatCast', h2, h3, c0, c3, tup_db]
          · rw [bufD_ne 32 0 _ hz, bufS_ne 32 _ hz]
            simp (disch := omega) only [push_cast, ↓reduceIte, Nat.reduceEqDiff, Nat.reduceLT, Nat.reduceLeDiff, Nat.reduceAdd, Nat.reduceSub, Nat.reduceMul, Nat.reduceBEq, Int.reduceLT, Int.reduceLE, Int.reduceToNat, Int.reduceNeg, Int.reducePow, Int.reduceAdd, Int.reduceMul, Int.reduceSub, ↓Int.reduceNatCast', h2, h3, c0, c1, c2, call_mNode, tup_db, n1, n2, List.length_map]
      · by_cases hz : lx.map digD = []
        · rw [hz, bufD_nil, bufS_nil]
          simp (disch := omega) only [push_cast, ↓reduceIte, Nat.reduceEqDiff, Nat.reduceLT, Nat.reduceLeDiff, Nat.reduceAdd, Nat.reduceSub, Nat.reduceMul, Nat.reduceBEq, Int.reduceLT, Int.reduceLE, Int.reduceToNat, Int.reduceNeg, Int.reducePow, Int.reduceAdd, Int.reduceMul, Int.reduceSub, ↓Int.reduceNatCast', h2, c0, c3, tup_db]
        · rw [bufD_ne 32 0 _ hz, bufS_ne 32 _ hz]
          simp (disch := omega) only [push_cast, ↓reduceIte, Nat.reduceEqDiff, Nat.reduceLT, Nat.reduceLeDiff, Nat.reduceAdd, Nat.reduceSub, Nat.reduceMul, Nat.reduceBEq, Int.reduceLT, Int.reduceLE, Int.reduceToNat, Int.reduceNeg, Int.reducePow, Int.reduceAdd, Int.reduceMul, Int.reduceSub, ↓Int.reduceNatCast', h2, c0, c1, c2, call_mNode, tup_db, n1, n2, List.length_map]
    · have hne : l.map digD ≠ [] := fun h => hn (by simpa using h)
      have hnl : ∀ m, (l ++ List.replicate m padL).map digD ≠ [] := fun m h => hn (by simp at h; exact h.1)
      rw [bufD_ne 32 0 _ hne, bufS_ne 32 _ hne]
      refine W_while (fun m : Nat => [(0, .slc (nz 32 (l.map digD)) (l.map digD) false), (1, .int .i64 more), (2, .int .i64 level), (3, .int .i64 k), (9, .row 0 (l ++ List.replicate m padL).length 0 (l ++ List.replicate m padL).length), (10, .int .i64 (m : Int))])
        (fun m => [⟨true, 32, (l ++ List.replicate m padL).map digD, false⟩]) (fun m => m ≤ 24) (fun m => 24 - m) 0 (by simp only [push_cast, ↓reduceIte, Nat.reduceEqDiff, Nat.reduceLT, Nat.reduceLeDiff, Nat.reduceAdd, Nat.reduceSub, Nat.reduceMul, Nat.reduceBEq, Int.reduceLT, Int.reduceLE, Int.reduceToNat, Int.reduceNeg, Int.reducePow, Int.reduceAdd, Int.reduceMul, Int.reduceSub, ↓Int.reduceNatCast', List.replicate_zero, List.append_nil, List.length_map] <;> rfl) (by omega) ?_
      · intro m hm
        obtain ⟨n1, n2⟩ := nodeR_pads l m level k (by omega) (by omega)
        have hl : (l ++ List.replicate m padL).length = l.length + m := by simp
        have f1 : firstL l (l ++ List.replicate m padL) = -1 := first_same _ _ fun j hj => (at_pads l m j hj).symm
        have f2 : firstL (l ++ List.replicate m padL) l = -1 := first_same _ _ fun j hj => at_pads l m j hj
        have er : l ++ List.replicate (m + 1) padL = (l ++ List.replicate m padL) ++ [padL] := by
          rw [List.append_assoc, List.replicate_succ']
        generalize hx : l ++ List.replicate m padL = lx at *
        unfold F_wagonpoollaw04_MerklePads_L0
        simp (disch := omega) only [push_cast, ↓reduceIte, Nat.reduceEqDiff, Nat.reduceLT, Nat.reduceLeDiff, Nat.reduceAdd, Nat.reduceSub, Nat.reduceMul, Nat.reduceBEq, Int.reduceLT, Int.reduceLE, Int.reduceToNat, Int.reduceNeg, Int.reducePow, Int.reduceAdd, Int.reduceMul, Int.reduceSub, ↓Int.reduceNatCast']
        refine ifD_split (fun h2 => ?_) (fun h2 => ?_)
        · simp (disch := omega) only [push_cast, ↓reduceIte, Nat.reduceEqDiff, Nat.reduceLT, Nat.reduceLeDiff, Nat.reduceAdd, Nat.reduceSub, Nat.reduceMul, Nat.reduceBEq, Int.reduceLT, Int.reduceLE, Int.reduceToNat, Int.reduceNeg, Int.reducePow, Int.reduceAdd, Int.reduceMul, Int.reduceSub, ↓Int.reduceNatCast', h2]
          refine ifD_split (fun h3 => ?_) (fun h3 => ?_)
          · simp (disch := first | omega | decide) only [push_cast, ↓reduceIte, Nat.reduceEqDiff, Nat.reduceLT, Nat.reduceLeDiff, Nat.reduceAdd, Nat.reduceSub, Nat.reduceMul, Nat.reduceBEq, Int.reduceLT, Int.reduceLE, Int.reduceToNat, Int.reduceNeg, Int.reducePow, Int.reduceAdd, Int.reduceMul, Int.reduceSub, ↓Int.reduceNatCast', h2, h3, call_mPad, add_i]
            refine next_head (m + 1) (by omega) (by omega) ?_
            rw [er]
            simp only [push_cast, ↓reduceIte, Nat.reduceEqDiff, Nat.reduceLT, Nat.reduceLeDiff, Nat.reduceAdd, Nat.reduceSub, Nat.reduceMul, Nat.reduceBEq, Int.reduceLT, Int.reduceLE, Int.reduceToNat, Int.reduceNeg, Int.reducePow, Int.reduceAdd, Int.reduceMul, Int.reduceSub, ↓Int.reduceNatCast'] <;> rfl
          · simp (disch := omega) only [push_cast, ↓reduceIte, Nat.reduceEqDiff, Nat.reduceLT, Nat.reduceLeDiff, Nat.reduceAdd, Nat.reduceSub, Nat.reduceMul, Nat.reduceBEq, Int.reduceLT, Int.reduceLE, Int.reduceToNat, Int.reduceNeg, Int.reducePow, Int.reduceAdd, Int.reduceMul, Int.reduceSub, ↓Int.reduceNatCast', h2, h3, call_mNode, tup_db, n1, n2, call_mFirst, f1, f2]
        · simp (disch := omega) only [push_cast, ↓reduceIte, Nat.reduceEqDiff, Nat.reduceLT, Nat.reduceLeDiff, Nat.reduceAdd, Nat.reduceSub, Nat.reduceMul, Nat.reduceBEq, Int.reduceLT, Int.reduceLE, Int.reduceToNat, Int.reduceNeg, Int.reducePow, Int.reduceAdd, Int.reduceMul, Int.reduceSub, ↓Int.reduceNatCast', h2, call_mNode, tup_db, n1, n2, call_mFirst, f1, f2]
theorem law_MerklePads : Contract Tryd.prog GG 8 (lawSp [.slc tDig, .int .i64, .int .i64, .int .i64]) := by
  refine lawC tr_wagonpoollaw04_MerklePads (T := tb [(11, sp_sane), (20, sp_mPad), (13, sp_mNode), (26, sp_mFirst)] []) (tb_ok (all_cons c_sane (all_cons c_mPad (all_cons c_mNode (all_cons c_mFirst all_nil)))) all_nil) ?_
  intro xs h
  obtain ⟨x0, xs, rfl, h0, h⟩ := hasAll_cons h
  obtain ⟨x1, xs, rfl, h1, h⟩ := hasAll_cons h
  obtain ⟨x2, xs, rfl, h2, h⟩ := hasAll_cons h
  obtain ⟨x3, xs, rfl, h3, h⟩ := hasAll_cons h
  obtain rfl := hasAll_nil h
  obtain ⟨y0, rfl, ya0⟩ := has_digs h0
  obtain ⟨y1, rfl, ya1, yb1⟩ := has_i64 h1
  obtain ⟨y2, rfl, ya2, yb2⟩ := has_i64 h2
  obtain ⟨y3, rfl, ya3, yb3⟩ := has_i64 h3
  exact lw_MerklePads y0 ya0 y1 ya1 yb1 y2 ya2 yb2 y3 ya3 yb3

end Go.Proofs.YtfplilhbfkhenaaDoor.PI
