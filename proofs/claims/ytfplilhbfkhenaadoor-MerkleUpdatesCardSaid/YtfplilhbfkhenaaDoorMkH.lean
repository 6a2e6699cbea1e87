/-
  merkle: the statements' functions return true: the laws without a loop.
  Conditions: none; these are lemmas.
-/
import Derived.Test.YtfplilhbfkhenaaDoorMkQ
namespace Go.Proofs.YtfplilhbfkhenaaDoor.PI
open Go
set_option linter.unusedSimpArgs false
set_option linter.unusedVariables false

set_option maxHeartbeats 4000000 in
set_option maxRecDepth 20000 in
theorem lw_MerkleMatchesReference (a : List Dig) (ha : a.length ≤ maxLen) (b : List Dig) (hb : b.length ≤ maxLen) (level : Int) (hlevel1 : -9223372036854775808 ≤ level) (hlevel2 : level < 9223372036854775808) (k : Int) (hk1 : -9223372036854775808 ≤ k) (hk2 : k < 9223372036854775808) (i : Int) (hi1 : -9223372036854775808 ≤ i) (hi2 : i < 9223372036854775808) : @wW GG (tb [(11, sp_sane), (12, sp_few), (13, sp_mNode), (14, sp_rNode), (15, sp_mRoot), (16, sp_rRoot), (17, sp_mPath), (18, sp_rPath), (19, sp_Same), (20, sp_mPad), (21, sp_rPad), (22, sp_mParent), (23, sp_rParent), (24, sp_mDepth), (25, sp_rDepth), (26, sp_mFirst), (27, sp_rFirst)] []) F_wagonpoollaw04_MerkleMatchesReference.code (argF [.slc (nz 32 (a.map digD)) (a.map digD) false, .slc (nz 32 (b.map digD)) (b.map digD) false, .int .i64 level, .int .i64 k, .int .i64 i]) [] ⟨retQ F_wagonpoollaw04_MerkleMatchesReference.res (.bool true)⟩ := by
  unfold F_wagonpoollaw04_MerkleMatchesReference
  simp (disch := omega) only [push_cast, ↓reduceIte, Nat.reduceEqDiff, Nat.reduceLT, Nat.reduceLeDiff, Nat.reduceAdd, Nat.reduceSub, Nat.reduceMul, Nat.reduceBEq, Int.reduceLT, Int.reduceLE, Int.reduceToNat, Int.reduceNeg, Int.reducePow, Int.reduceAdd, Int.reduceMul, Int.reduceSub, ↓Int.reduceNatCast', call_sane, call_few]
  refine ifD_split (fun h1 => ?_) (fun h1 => ?_)
  · simp (disch := omega) only [push_cast, ↓reduceIte, Nat.reduceEqDiff, Nat.reduceLT, Nat.reduceLeDiff, Nat.reduceAdd, Nat.reduceSub, Nat.reduceMul, Nat.reduceBEq, Int.reduceLT, Int.reduceLE, Int.reduceToNat, Int.reduceNeg, Int.reducePow, Int.reduceAdd, Int.reduceMul, Int.reduceSub, ↓Int.reduceNatCast', h1, call_few]
    refine ifD_split (fun h2 => ?_) (fun h2 => ?_)
    · have hp := pathOf_len a i
      simp (disch := omega) only [push_cast, ↓reduceIte, Nat.reduceEqDiff, Nat.reduceLT, Nat.reduceLeDiff, Nat.reduceAdd, Nat.reduceSub, Nat.reduceMul, Nat.reduceBEq, Int.reduceLT, Int.reduceLE, Int.reduceToNat, Int.reduceNeg, Int.reducePow, Int.reduceAdd, Int.reduceMul, Int.reduceSub, ↓Int.reduceNatCast', h1, h2, call_mNode, call_rNode, call_mRoot, call_rRoot, call_mPath, call_rPath, call_Same, call_mPad, call_rPad, call_mParent, call_rParent, call_mDepth, call_rDepth, call_mFirst, call_rFirst]
    · simp (disch := omega) only [push_cast, ↓reduceIte, Nat.reduceEqDiff, Nat.reduceLT, Nat.reduceLeDiff, Nat.reduceAdd, Nat.reduceSub, Nat.reduceMul, Nat.reduceBEq, Int.reduceLT, Int.reduceLE, Int.reduceToNat, Int.reduceNeg, Int.reducePow, Int.reduceAdd, Int.reduceMul, Int.reduceSub, ↓Int.reduceNatCast', h1, h2]
  · simp (disch := omega) only [push_cast, ↓reduceIte, Nat.reduceEqDiff, Nat.reduceLT, Nat.reduceLeDiff, Nat.reduceAdd, Nat.reduceSub, Nat.reduceMul, Nat.reduceBEq, Int.reduceLT, Int.reduceLE, Int.reduceToNat, Int.reduceNeg, Int.reducePow, Int.reduceAdd, Int.reduceMul, Int.reduceSub, ↓Int.reduceNatCast', h1]
theorem law_MerkleMatchesReference : Contract Tryd.prog GG 3 (lawSp [.slc tDig, .slc tDig, .int .i64, .int .i64, .int .i64]) := by
  refine lawC tr_wagonpoollaw04_MerkleMatchesReference (T := tb [(11, sp_sane), (12, sp_few), (13, sp_mNode), (14, sp_rNode), (15, sp_mRoot), (16, sp_rRoot), (17, sp_mPath), (18, sp_rPath), (19, sp_Same), (20, sp_mPad), (21, sp_rPad), (22, sp_mParent), (23, sp_rParent), (24, sp_mDepth), (25, sp_rDepth), (26, sp_mFirst), (27, sp_rFirst)] []) (tb_ok (all_cons c_sane (all_cons c_few (all_cons c_mNode (all_cons c_rNode (all_cons c_mRoot (all_cons c_rRoot (all_cons c_mPath (all_cons c_rPath (all_cons c_Same (all_cons c_mPad (all_cons c_rPad (all_cons c_mParent (all_cons c_rParent (all_cons c_mDepth (all_cons c_rDepth (all_cons c_mFirst (all_cons c_rFirst all_nil))))))))))))))))) all_nil) ?_
  intro xs h
  obtain ⟨x0, xs, rfl, h0, h⟩ := hasAll_cons h
  obtain ⟨x1, xs, rfl, h1, h⟩ := hasAll_cons h
  obtain ⟨x2, xs, rfl, h2, h⟩ := hasAll_cons h
  obtain ⟨x3, xs, rfl, h3, h⟩ := hasAll_cons h
  obtain ⟨x4, xs, rfl, h4, h⟩ := hasAll_cons h
  obtain rfl := hasAll_nil h
  obtain ⟨y0, rfl, ya0⟩ := has_digs h0
  obtain ⟨y1, rfl, ya1⟩ := has_digs h1
  obtain ⟨y2, rfl, ya2, yb2⟩ := has_i64 h2
  obtain ⟨y3, rfl, ya3, yb3⟩ := has_i64 h3
  obtain ⟨y4, rfl, ya4, yb4⟩ := has_i64 h4
  exact lw_MerkleMatchesReference y0 ya0 y1 ya1 y2 ya2 yb2 y3 ya3 yb3 y4 ya4 yb4

set_option maxHeartbeats 4000000 in
set_option maxRecDepth 20000 in
theorem lw_MerklePathsProve (l : List Dig) (hl : l.length ≤ maxLen) (i : Int) (hi1 : -9223372036854775808 ≤ i) (hi2 : i < 9223372036854775808) : @wW GG (tb [(11, sp_sane), (12, sp_few), (15, sp_mRoot), (17, sp_mPath), (30, sp_leaves), (24, sp_mDepth), (31, sp_element), (28, sp_mIncludes)] []) F_wagonpoollaw04_MerklePathsProve.code (argF [.slc (nz 32 (l.map digD)) (l.map digD) false, .int .i64 i]) [] ⟨retQ F_wagonpoollaw04_MerklePathsProve.res (.bool true)⟩ := by
  unfold F_wagonpoollaw04_MerklePathsProve
  simp (disch := omega) only [push_cast, ↓reduceIte, Nat.reduceEqDiff, Nat.reduceLT, Nat.reduceLeDiff, Nat.reduceAdd, Nat.reduceSub, Nat.reduceMul, Nat.reduceBEq, Int.reduceLT, Int.reduceLE, Int.reduceToNat, Int.reduceNeg, Int.reducePow, Int.reduceAdd, Int.reduceMul, Int.reduceSub, ↓Int.reduceNatCast', call_sane, call_few]
  refine ifD_split (fun h1 => ?_) (fun h1 => ?_)
  · have e0 : errL l = 0 := by unfold errL; rw [if_pos (by omega)]
    have e1 : (rootL l).1 = (l.length : Int) := by unfold rootL; rw [if_pos (by omega)]
    have hp := pathOf_len l i
    simp (disch := omega) only [push_cast, ↓reduceIte, Nat.reduceEqDiff, Nat.reduceLT, Nat.reduceLeDiff, Nat.reduceAdd, Nat.reduceSub, Nat.reduceMul, Nat.reduceBEq, Int.reduceLT, Int.reduceLE, Int.reduceToNat, Int.reduceNeg, Int.reducePow, Int.reduceAdd, Int.reduceMul, Int.reduceSub, ↓Int.reduceNatCast', h1, call_mRoot, call_mPath, e0, e1, call_leaves]
    refine ifD_split (fun h2 => ?_) (fun h2 => ?_)
    · have e : pathOf l i = [] := by unfold pathOf; rw [if_neg (by omega)]
      have e2 : pathE l i = 1 := by unfold pathE; rw [if_neg (by omega), if_neg (by omega)]
      simp (disch := omega) only [push_cast, ↓reduceIte, Nat.reduceEqDiff, Nat.reduceLT, Nat.reduceLeDiff, Nat.reduceAdd, Nat.reduceSub, Nat.reduceMul, Nat.reduceBEq, Int.reduceLT, Int.reduceLE, Int.reduceToNat, Int.reduceNeg, Int.reducePow, Int.reduceAdd, Int.reduceMul, Int.reduceSub, ↓Int.reduceNatCast', h1, h2, e, e2]
    · simp (disch := omega) only [push_cast, ↓reduceIte, Nat.reduceEqDiff, Nat.reduceLT, Nat.reduceLeDiff, Nat.reduceAdd, Nat.reduceSub, Nat.reduceMul, Nat.reduceBEq, Int.reduceLT, Int.reduceLE, Int.reduceToNat, Int.reduceNeg, Int.reducePow, Int.reduceAdd, Int.reduceMul, Int.reduceSub, ↓Int.reduceNatCast', h1, h2, call_leaves]
      refine ifD_split (fun h3 => ?_) (fun h3 => ?_)
      · have e : pathOf l i = [] := by unfold pathOf; rw [if_neg (by omega)]
        have e2 : pathE l i = 1 := by unfold pathE; rw [if_neg (by omega), if_neg (by omega)]
        simp (disch := omega) only [push_cast, ↓reduceIte, Nat.reduceEqDiff, Nat.reduceLT, Nat.reduceLeDiff, Nat.reduceAdd, Nat.reduceSub, Nat.reduceMul, Nat.reduceBEq, Int.reduceLT, Int.reduceLE, Int.reduceToNat, Int.reduceNeg, Int.reducePow, Int.reduceAdd, Int.reduceMul, Int.reduceSub, ↓Int.reduceNatCast', h1, h2, h3, e, e2]
      · obtain ⟨d1, d2, d3⟩ := depthL_ok (n := l.length) (by omega) (by omega)
        have e : ((pathOf l i).length : Int) = depthL l.length := by
          unfold pathOf; rw [if_pos ⟨by omega, by omega, by omega⟩, pathL_length]; omega
        have e2 : pathE l i = 0 := by unfold pathE; rw [if_neg (by omega), if_pos (by omega)]
        have e3 := includes_path l i (by omega) (by omega) (by omega)
        have e4 := element_node l i (by omega)
        have hc := call_mIncludes (rootL l) i (nodeL l 0 i) (pathOf l i) ⟨hi1, hi2⟩
        rw [e1, e3] at hc
        simp (disch := omega) only [push_cast, ↓reduceIte, Nat.reduceEqDiff, Nat.reduceLT, Nat.reduceLeDiff, Nat.reduceAdd, Nat.reduceSub, Nat.reduceMul, Nat.reduceBEq, Int.reduceLT, Int.reduceLE, Int.reduceToNat, Int.reduceNeg, Int.reducePow, Int.reduceAdd, Int.reduceMul, Int.reduceSub, ↓Int.reduceNatCast', h1, h2, h3, e, e2, call_mDepth, call_element, e4, hc]
  · simp (disch := omega) only [push_cast, ↓reduceIte, Nat.reduceEqDiff, Nat.reduceLT, Nat.reduceLeDiff, Nat.reduceAdd, Nat.reduceSub, Nat.reduceMul, Nat.reduceBEq, Int.reduceLT, Int.reduceLE, Int.reduceToNat, Int.reduceNeg, Int.reducePow, Int.reduceAdd, Int.reduceMul, Int.reduceSub, ↓Int.reduceNatCast', h1]
theorem law_MerklePathsProve : Contract Tryd.prog GG 5 (lawSp [.slc tDig, .int .i64]) := by
  refine lawC tr_wagonpoollaw04_MerklePathsProve (T := tb [(11, sp_sane), (12, sp_few), (15, sp_mRoot), (17, sp_mPath), (30, sp_leaves), (24, sp_mDepth), (31, sp_element), (28, sp_mIncludes)] []) (tb_ok (all_cons c_sane (all_cons c_few (all_cons c_mRoot (all_cons c_mPath (all_cons c_leaves (all_cons c_mDepth (all_cons c_element (all_cons c_mIncludes all_nil)))))))) all_nil) ?_
  intro xs h
  obtain ⟨x0, xs, rfl, h0, h⟩ := hasAll_cons h
  obtain ⟨x1, xs, rfl, h1, h⟩ := hasAll_cons h
  obtain rfl := hasAll_nil h
  obtain ⟨y0, rfl, ya0⟩ := has_digs h0
  obtain ⟨y1, rfl, ya1, yb1⟩ := has_i64 h1
  exact lw_MerklePathsProve y0 ya0 y1 ya1 yb1

set_option maxHeartbeats 4000000 in
set_option maxRecDepth 20000 in
theorem lw_MerkleNodes (l : List Dig) (hl : l.length ≤ maxLen) (level : Int) (hlevel1 : -9223372036854775808 ≤ level) (hlevel2 : level < 9223372036854775808) (k : Int) (hk1 : -9223372036854775808 ≤ k) (hk2 : k < 9223372036854775808) : @wW GG (tb [(11, sp_sane), (12, sp_few), (13, sp_mNode), (20, sp_mPad), (32, sp_tagged), (22, sp_mParent), (33, sp_Pair)] []) F_wagonpoollaw04_MerkleNodes.code (argF [.slc (nz 32 (l.map digD)) (l.map digD) false, .int .i64 level, .int .i64 k]) [] ⟨retQ F_wagonpoollaw04_MerkleNodes.res (.bool true)⟩ := by
  unfold F_wagonpoollaw04_MerkleNodes
  simp (disch := omega) only [push_cast, ↓reduceIte, Nat.reduceEqDiff, Nat.reduceLT, Nat.reduceLeDiff, Nat.reduceAdd, Nat.reduceSub, Nat.reduceMul, Nat.reduceBEq, Int.reduceLT, Int.reduceLE, Int.reduceToNat, Int.reduceNeg, Int.reducePow, Int.reduceAdd, Int.reduceMul, Int.reduceSub, ↓Int.reduceNatCast', call_sane, call_few]
  refine ifD_split (fun h1 => ?_) (fun h1 => ?_)
  · simp (disch := omega) only [push_cast, ↓reduceIte, Nat.reduceEqDiff, Nat.reduceLT, Nat.reduceLeDiff, Nat.reduceAdd, Nat.reduceSub, Nat.reduceMul, Nat.reduceBEq, Int.reduceLT, Int.reduceLE, Int.reduceToNat, Int.reduceNeg, Int.reducePow, Int.reduceAdd, Int.reduceMul, Int.reduceSub, ↓Int.reduceNatCast', h1, call_mNode]
    have bad : nodeOk l level k = false → nodeR l level k = zeroDig := by intro h; unfold nodeR; simp [h]
    refine ifD_split (fun h2 => ?_) (fun h2 => ?_)
    · have e : nodeOk l level k = false := by unfold nodeOk; simp; omega
      simp (disch := omega) only [push_cast, ↓reduceIte, Nat.reduceEqDiff, Nat.reduceLT, Nat.reduceLeDiff, Nat.reduceAdd, Nat.reduceSub, Nat.reduceMul, Nat.reduceBEq, Int.reduceLT, Int.reduceLE, Int.reduceToNat, Int.reduceNeg, Int.reducePow, Int.reduceAdd, Int.reduceMul, Int.reduceSub, ↓Int.reduceNatCast', h1, h2, e, bad e]
    · simp (disch := omega) only [push_cast, ↓reduceIte, Nat.reduceEqDiff, Nat.reduceLT, Nat.reduceLeDiff, Nat.reduceAdd, Nat.reduceSub, Nat.reduceMul, Nat.reduceBEq, Int.reduceLT, Int.reduceLE, Int.reduceToNat, Int.reduceNeg, Int.reducePow, Int.reduceAdd, Int.reduceMul, Int.reduceSub, ↓Int.reduceNatCast', h1, h2]
      refine ifD_split (fun h3 => ?_) (fun h3 => ?_)
      · have e : nodeOk l level k = false := by unfold nodeOk; simp; omega
        simp (disch := omega) only [push_cast, ↓reduceIte, Nat.reduceEqDiff, Nat.reduceLT, Nat.reduceLeDiff, Nat.reduceAdd, Nat.reduceSub, Nat.reduceMul, Nat.reduceBEq, Int.reduceLT, Int.reduceLE, Int.reduceToNat, Int.reduceNeg, Int.reducePow, Int.reduceAdd, Int.reduceMul, Int.reduceSub, ↓Int.reduceNatCast', h1, h2, h3, e, bad e]
      · simp (disch := omega) only [push_cast, ↓reduceIte, Nat.reduceEqDiff, Nat.reduceLT, Nat.reduceLeDiff, Nat.reduceAdd, Nat.reduceSub, Nat.reduceMul, Nat.reduceBEq, Int.reduceLT, Int.reduceLE, Int.reduceToNat, Int.reduceNeg, Int.reducePow, Int.reduceAdd, Int.reduceMul, Int.reduceSub, ↓Int.reduceNatCast', h1, h2, h3]
        refine ifD_split (fun h4 => ?_) (fun h4 => ?_)
        · have e : nodeOk l level k = false := by unfold nodeOk; simp; omega
          simp (disch := omega) only [push_cast, ↓reduceIte, Nat.reduceEqDiff, Nat.reduceLT, Nat.reduceLeDiff, Nat.reduceAdd, Nat.reduceSub, Nat.reduceMul, Nat.reduceBEq, Int.reduceLT, Int.reduceLE, Int.reduceToNat, Int.reduceNeg, Int.reducePow, Int.reduceAdd, Int.reduceMul, Int.reduceSub, ↓Int.reduceNatCast', h1, h2, h3, h4, e, bad e]
        · simp (disch := omega) only [push_cast, ↓reduceIte, Nat.reduceEqDiff, Nat.reduceLT, Nat.reduceLeDiff, Nat.reduceAdd, Nat.reduceSub, Nat.reduceMul, Nat.reduceBEq, Int.reduceLT, Int.reduceLE, Int.reduceToNat, Int.reduceNeg, Int.reducePow, Int.reduceAdd, Int.reduceMul, Int.reduceSub, ↓Int.reduceNatCast', h1, h2, h3, h4, sub_i, shr_s]
          have hp := pow_pos2 (16 - level).toNat
          have h16 : (2 : Int) ^ (16 - level).toNat ≤ 2 ^ 16 := pow_mono (by omega)
          have hq : k / 2 ^ (16 - level).toNat = 0 ↔ k < 2 ^ (16 - level).toNat := by
            constructor
            · intro h
              have := Int.lt_ediv_add_one_mul_self k (show (0 : Int) < 2 ^ (16 - level).toNat by omega)
              rw [h] at this
              omega
            · intro h; exact Int.ediv_eq_zero_of_lt (by omega) h
          refine ifD_split (fun h5 => ?_) (fun h5 => ?_)
          · have h6 := hq.1 h5
            have e : nodeOk l level k = true := by unfold nodeOk; simp; omega
            have e2 : nodeR l level k = nodeL l level.toNat k := by unfold nodeR; simp [e]
            simp (disch := omega) only [push_cast, ↓reduceIte, Nat.reduceEqDiff, Nat.reduceLT, Nat.reduceLeDiff, Nat.reduceAdd, Nat.reduceSub, Nat.reduceMul, Nat.reduceBEq, Int.reduceLT, Int.reduceLE, Int.reduceToNat, Int.reduceNeg, Int.reducePow, Int.reduceAdd, Int.reduceMul, Int.reduceSub, ↓Int.reduceNatCast', h1, h2, h3, h4, h5, e, e2]
            refine ifD_split (fun h7 => ?_) (fun h7 => ?_)
            · have e3 : nodeL l level.toNat k = atL l k padL := by rw [h7]; rfl
              rw [e3]
              simp (disch := omega) only [push_cast, ↓reduceIte, Nat.reduceEqDiff, Nat.reduceLT, Nat.reduceLeDiff, Nat.reduceAdd, Nat.reduceSub, Nat.reduceMul, Nat.reduceBEq, Int.reduceLT, Int.reduceLE, Int.reduceToNat, Int.reduceNeg, Int.reducePow, Int.reduceAdd, Int.reduceMul, Int.reduceSub, ↓Int.reduceNatCast', h1, h2, h3, h4, h5, h7]
              refine ifD_split (fun h8 => ?_) (fun h8 => ?_)
              · have e4 : atL l k padL = l.getD k.toNat default := by unfold atL; rw [if_pos h8]
                rw [e4]
                simp (disch := omega) only [push_cast, ↓reduceIte, Nat.reduceEqDiff, Nat.reduceLT, Nat.reduceLeDiff, Nat.reduceAdd, Nat.reduceSub, Nat.reduceMul, Nat.reduceBEq, Int.reduceLT, Int.reduceLE, Int.reduceToNat, Int.reduceNeg, Int.reducePow, Int.reduceAdd, Int.reduceMul, Int.reduceSub, ↓Int.reduceNatCast', h1, h2, h3, h4, h5, h7, h8, idxS_nz]
              · have e4 : atL l k padL = padL := at_end l k padL (by omega)
                have c : sp_tagged [.str [112, 97, 100], .slc 0 [] false] = some (digD padL) := call_tagged [112, 97, 100] [] (by decide)
                rw [e4]
                have h9 : (l.length : Int) ≤ k := by omega
                simp (disch := omega) only [push_cast, ↓reduceIte, Nat.reduceEqDiff, Nat.reduceLT, Nat.reduceLeDiff, Nat.reduceAdd, Nat.reduceSub, Nat.reduceMul, Nat.reduceBEq, Int.reduceLT, Int.reduceLE, Int.reduceToNat, Int.reduceNeg, Int.reducePow, Int.reduceAdd, Int.reduceMul, Int.reduceSub, ↓Int.reduceNatCast', h1, h2, h3, h4, h5, h7, h8, h9, call_mPad, c]
            · have hpw : (2 : Int) ^ (16 - (level - 1)).toNat = 2 * 2 ^ (16 - level).toNat := by
                rw [show (16 - (level - 1)).toNat = (16 - level).toNat + 1 by omega, Int.pow_succ, Int.mul_comm]
              have f1 : nodeOk l (level - 1) (2 * k) = true := by unfold nodeOk; simp; omega
              have f2 : nodeOk l (level - 1) (2 * k + 1) = true := by unfold nodeOk; simp; omega
              have f3 : nodeR l (level - 1) (2 * k) = nodeL l (level - 1).toNat (2 * k) := by unfold nodeR; simp [f1]
              have f4 : nodeR l (level - 1) (2 * k + 1) = nodeL l (level - 1).toNat (2 * k + 1) := by unfold nodeR; simp [f2]
              have f5 : nodeL l level.toNat k = parentL (nodeL l (level - 1).toNat (2 * k)) (nodeL l (level - 1).toNat (2 * k + 1)) := by
                rw [show level.toNat = (level - 1).toNat + 1 by omega]
                exact node_succ l _ k (by omega)
              rw [f5]
              generalize hA : nodeL l (level - 1).toNat (2 * k) = A at *
              generalize hB : nodeL l (level - 1).toNat (2 * k + 1) = B at *
              have ha := A.len
              have hb := B.len
              have hl : (A.bs ++ B.bs).length = 64 := by rw [List.length_append, ha, hb]
              have hne : (A.bs ++ B.bs).map byteD ≠ [] := by
                intro h; have := congrArg List.length h; simp [ha] at this
              have hnz : nz 1 ((A.bs ++ B.bs).map byteD) = 1 := (nz_or _ _).resolve_right hne
              have c := call_tagged [110, 111, 100, 101] (A.bs ++ B.bs) (by rw [hl]; decide)
              rw [hnz] at c
              have c2 : taggedL [110, 111, 100, 101] (A.bs ++ B.bs) = parentL A B := rfl
              rw [c2] at c
              simp (disch := omega) only [push_cast, ↓reduceIte, Nat.reduceEqDiff, Nat.reduceLT, Nat.reduceLeDiff, Nat.reduceAdd, Nat.reduceSub, Nat.reduceMul, Nat.reduceBEq, Int.reduceLT, Int.reduceLE, Int.reduceToNat, Int.reduceNeg, Int.reducePow, Int.reduceAdd, Int.reduceMul, Int.reduceSub, ↓Int.reduceNatCast', h1, h2, h3, h4, h5, h7, sub_i, mul_i, add_i, call_mNode, f1, f2, f3, f4, call_mParent, call_Pair, hnz, c]
          · have h6 : ¬ k < 2 ^ (16 - level).toNat := fun h => h5 (hq.2 h)
            have e : nodeOk l level k = false := by unfold nodeOk; simp; omega
            simp (disch := omega) only [push_cast, ↓reduceIte, Nat.reduceEqDiff, Nat.reduceLT, Nat.reduceLeDiff, Nat.reduceAdd, Nat.reduceSub, Nat.reduceMul, Nat.reduceBEq, Int.reduceLT, Int.reduceLE, Int.reduceToNat, Int.reduceNeg, Int.reducePow, Int.reduceAdd, Int.reduceMul, Int.reduceSub, ↓Int.reduceNatCast', h1, h2, h3, h4, h5, e, bad e]
  · simp (disch := omega) only [push_cast, ↓reduceIte, Nat.reduceEqDiff, Nat.reduceLT, Nat.reduceLeDiff, Nat.reduceAdd, Nat.reduceSub, Nat.reduceMul, Nat.reduceBEq, Int.reduceLT, Int.reduceLE, Int.reduceToNat, Int.reduceNeg, Int.reducePow, Int.reduceAdd, Int.reduceMul, Int.reduceSub, ↓Int.reduceNatCast', h1]
theorem law_MerkleNodes : Contract Tryd.prog GG 7 (lawSp [.slc tDig, .int .i64, .int .i64]) := by
  refine lawC tr_wagonpoollaw04_MerkleNodes (T := tb [(11, sp_sane), (12, sp_few), (13, sp_mNode), (20, sp_mPad), (32, sp_tagged), (22, sp_mParent), (33, sp_Pair)] []) (tb_ok (all_cons c_sane (all_cons c_few (all_cons c_mNode (all_cons c_mPad (all_cons c_tagged (all_cons c_mParent (all_cons c_Pair all_nil))))))) all_nil) ?_
  intro xs h
  obtain ⟨x0, xs, rfl, h0, h⟩ := hasAll_cons h
  obtain ⟨x1, xs, rfl, h1, h⟩ := hasAll_cons h
  obtain ⟨x2, xs, rfl, h2, h⟩ := hasAll_cons h
  obtain rfl := hasAll_nil h
  obtain ⟨y0, rfl, ya0⟩ := has_digs h0
  obtain ⟨y1, rfl, ya1, yb1⟩ := has_i64 h1
  obtain ⟨y2, rfl, ya2, yb2⟩ := has_i64 h2
  exact lw_MerkleNodes y0 ya0 y1 ya1 yb1 y2 ya2 yb2

set_option maxHeartbeats 4000000 in
set_option maxRecDepth 20000 in
theorem lw_MerkleUpdates (l : List Dig) (hl : l.length ≤ maxLen) (i : Int) (hi1 : -9223372036854775808 ≤ i) (hi2 : i < 9223372036854775808) (d : Dig) : @wW GG (tb [(11, sp_sane), (12, sp_few), (34, sp_With), (17, sp_mPath), (15, sp_mRoot), (19, sp_Same), (28, sp_mIncludes), (26, sp_mFirst)] []) F_wagonpoollaw04_MerkleUpdates.code (argF [.slc (nz 32 (l.map digD)) (l.map digD) false, .int .i64 i, digD d]) [] ⟨retQ F_wagonpoollaw04_MerkleUpdates.res (.bool true)⟩ := by
  unfold F_wagonpoollaw04_MerkleUpdates
  simp (disch := omega) only [push_cast, ↓reduceIte, Nat.reduceEqDiff, Nat.reduceLT, Nat.reduceLeDiff, Nat.reduceAdd, Nat.reduceSub, Nat.reduceMul, Nat.reduceBEq, Int.reduceLT, Int.reduceLE, Int.reduceToNat, Int.reduceNeg, Int.reducePow, Int.reduceAdd, Int.reduceMul, Int.reduceSub, ↓Int.reduceNatCast', call_sane, call_few]
  refine ifD_split (fun h1 => ?_) (fun h1 => ?_)
  · simp (disch := omega) only [push_cast, ↓reduceIte, Nat.reduceEqDiff, Nat.reduceLT, Nat.reduceLeDiff, Nat.reduceAdd, Nat.reduceSub, Nat.reduceMul, Nat.reduceBEq, Int.reduceLT, Int.reduceLE, Int.reduceToNat, Int.reduceNeg, Int.reducePow, Int.reduceAdd, Int.reduceMul, Int.reduceSub, ↓Int.reduceNatCast', h1]
    refine ifD_split (fun h2 => ?_) (fun h2 => ?_)
    · simp (disch := omega) only [push_cast, ↓reduceIte, Nat.reduceEqDiff, Nat.reduceLT, Nat.reduceLeDiff, Nat.reduceAdd, Nat.reduceSub, Nat.reduceMul, Nat.reduceBEq, Int.reduceLT, Int.reduceLE, Int.reduceToNat, Int.reduceNeg, Int.reducePow, Int.reduceAdd, Int.reduceMul, Int.reduceSub, ↓Int.reduceNatCast', h1, h2]
    · simp (disch := omega) only [push_cast, ↓reduceIte, Nat.reduceEqDiff, Nat.reduceLT, Nat.reduceLeDiff, Nat.reduceAdd, Nat.reduceSub, Nat.reduceMul, Nat.reduceBEq, Int.reduceLT, Int.reduceLE, Int.reduceToNat, Int.reduceNeg, Int.reducePow, Int.reduceAdd, Int.reduceMul, Int.reduceSub, ↓Int.reduceNatCast', h1, h2]
      refine ifD_split (fun h3 => ?_) (fun h3 => ?_)
      · simp (disch := omega) only [push_cast, ↓reduceIte, Nat.reduceEqDiff, Nat.reduceLT, Nat.reduceLeDiff, Nat.reduceAdd, Nat.reduceSub, Nat.reduceMul, Nat.reduceBEq, Int.reduceLT, Int.reduceLE, Int.reduceToNat, Int.reduceNeg, Int.reducePow, Int.reduceAdd, Int.reduceMul, Int.reduceSub, ↓Int.reduceNatCast', h1, h2, h3]
      · have e1 : errL (withL l i d) = 0 := by unfold errL; rw [if_pos (by rw [with_length]; omega)]
        have hw := with_length l i d
        obtain ⟨d1, d2, d3⟩ := depthL_ok (n := l.length) (by omega) (by omega)
        have hd := depthL_le (n := l.length) (by omega) (by omega)
        have e2 : pathE l i = 0 := by unfold pathE; rw [if_neg (by omega), if_pos (by omega)]
        have e3 : pathE (withL l i d) i = 0 := by unfold pathE; rw [hw, if_neg (by omega), if_pos (by omega)]
        have e4 : pathOf l i = pathL l i (depthL l.length).toNat := by unfold pathOf; rw [if_pos (by omega)]
        have e5 : pathOf (withL l i d) i = pathL (withL l i d) i (depthL l.length).toNat := by unfold pathOf; rw [hw, if_pos (by omega)]
        have e6 : pathOf (withL l i d) i = pathOf l i := by rw [e4, e5, path_with l i d (by omega) (by omega)]
        have hp := pathOf_len l i
        have e7 := includes_path (withL l i d) i (by omega) (by omega) (by rw [hw]; omega)
        have e8 : nodeL (withL l i d) 0 i = d := by rw [node_zero, at_with l i d (by omega) (by omega) i (by omega), if_pos rfl]
        rw [e8, e6] at e7
        have hc := call_mIncludes (rootL (withL l i d)) i d (pathOf l i) ⟨hi1, hi2⟩
        rw [e7] at hc
        have hf := first_with l i d (by omega) (by omega)
        have hf2 : decide (firstL l (withL l i d) = i) = !decide (l.getD i.toNat default = d) := by
          by_cases h : l.getD i.toNat default = d
          · rw [decide_eq_true h, decide_eq_false (fun x => hf.1 x h)]; rfl
          · rw [decide_eq_false h, decide_eq_true (hf.2 h)]; rfl
        simp (disch := omega) only [push_cast, ↓reduceIte, Nat.reduceEqDiff, Nat.reduceLT, Nat.reduceLeDiff, Nat.reduceAdd, Nat.reduceSub, Nat.reduceMul, Nat.reduceBEq, Int.reduceLT, Int.reduceLE, Int.reduceToNat, Int.reduceNeg, Int.reducePow, Int.reduceAdd, Int.reduceMul, Int.reduceSub, ↓Int.reduceNatCast', h1, h2, h3, call_With, call_mPath, call_mRoot, e1, e2, e3, e6, call_Same, hc, call_mFirst, hf2, idxS_nz]
  · simp (disch := omega) only [push_cast, ↓reduceIte, Nat.reduceEqDiff, Nat.reduceLT, Nat.reduceLeDiff, Nat.reduceAdd, Nat.reduceSub, Nat.reduceMul, Nat.reduceBEq, Int.reduceLT, Int.reduceLE, Int.reduceToNat, Int.reduceNeg, Int.reducePow, Int.reduceAdd, Int.reduceMul, Int.reduceSub, ↓Int.reduceNatCast', h1]
theorem law_MerkleUpdates : Contract Tryd.prog GG 9 (lawSp [.slc tDig, .int .i64, tDig]) := by
  refine lawC tr_wagonpoollaw04_MerkleUpdates (T := tb [(11, sp_sane), (12, sp_few), (34, sp_With), (17, sp_mPath), (15, sp_mRoot), (19, sp_Same), (28, sp_mIncludes), (26, sp_mFirst)] []) (tb_ok (all_cons c_sane (all_cons c_few (all_cons c_With (all_cons c_mPath (all_cons c_mRoot (all_cons c_Same (all_cons c_mIncludes (all_cons c_mFirst all_nil)))))))) all_nil) ?_
  intro xs h
  obtain ⟨x0, xs, rfl, h0, h⟩ := hasAll_cons h
  obtain ⟨x1, xs, rfl, h1, h⟩ := hasAll_cons h
  obtain ⟨x2, xs, rfl, h2, h⟩ := hasAll_cons h
  obtain rfl := hasAll_nil h
  obtain ⟨y0, rfl, ya0⟩ := has_digs h0
  obtain ⟨y1, rfl, ya1, yb1⟩ := has_i64 h1
  obtain ⟨y2, rfl⟩ := has_dig h2
  exact lw_MerkleUpdates y0 ya0 y1 ya1 yb1 y2

end Go.Proofs.YtfplilhbfkhenaaDoor.PI
