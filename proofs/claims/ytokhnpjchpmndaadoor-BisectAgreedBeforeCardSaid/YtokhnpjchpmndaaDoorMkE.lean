/-
  merkle: Node, Root and Path of the program.
  Conditions: none; these are lemmas.
-/
import Derived.Test.YtokhnpjchpmndaaDoorMkD
namespace Go.Proofs.YtokhnpjchpmndaaDoor.PI
open Go
set_option linter.unusedSimpArgs false
set_option linter.unusedVariables false



noncomputable def sp_mNode : List D → Option D := spOf (α := List Dig × Int × Int) (fun a => [.slc (nz 32 (a.1.map digD)) (a.1.map digD) false, .int .i64 a.2.1, .int .i64 a.2.2]) (fun a => True) (fun a => .tup [digD (nodeR a.1 a.2.1 a.2.2), .bool (nodeOk a.1 a.2.1 a.2.2)])
theorem call_mNode (l : List Dig) (level : Int) (k : Int) : sp_mNode [.slc (nz 32 (l.map digD)) (l.map digD) false, .int .i64 level, .int .i64 k] = some (.tup [digD (nodeR l level k), .bool (nodeOk l level k)]) :=
  spOf_enc (fun ⟨a0, a1, a2⟩ ⟨b0, b1, b2⟩ h => by simp only [List.cons.injEq, D.slc.injEq, D.int.injEq, D.bool.injEq, D.str.injEq, D.agg.injEq, digs_iff, dig_iff, digC_iff, bytes_iff, byte_iff, words_iff, word_iff, Sha.St8.list_iff, bsl_iff, true_and, and_true, bisD_iff] at h; simp [h, Prod.ext_iff]) (l, level, k) trivial
set_option maxHeartbeats 4000000 in
set_option maxRecDepth 20000 in
theorem w_mNode (l : List Dig) (level : Int) (k : Int) : @wW GG (tb [] [(39, si_levelsN)]) F_merkle_Node.code (argF [.slc (nz 32 (l.map digD)) (l.map digD) false, .int .i64 level, .int .i64 k]) [] ⟨retQ F_merkle_Node.res (.tup [digD (nodeR l level k), .bool (nodeOk l level k)])⟩ := by
  unfold F_merkle_Node
  simp (disch := omega) only [push_cast, ↓wF_free, ↓reduceIte, Nat.reduceEqDiff, Nat.reduceLT, Nat.reduceLeDiff, Nat.reduceAdd, Nat.reduceSub, Nat.reduceMul, Nat.reduceBEq, Int.reduceLT, Int.reduceLE, Int.reduceToNat, Int.reduceNeg, Int.reducePow, Int.reduceAdd, Int.reduceMul, Int.reduceSub, ↓Int.reduceNatCast']
  have bad : nodeOk l level k = false → nodeR l level k = zeroDig := by intro h; unfold nodeR; simp [h]
  refine ifD_split (fun h1 => ?_) (fun h1 => ?_)
  · have e : nodeOk l level k = false := by unfold nodeOk; simp; omega
    simp (disch := omega) only [push_cast, ↓wF_free, ↓reduceIte, Nat.reduceEqDiff, Nat.reduceLT, Nat.reduceLeDiff, Nat.reduceAdd, Nat.reduceSub, Nat.reduceMul, Nat.reduceBEq, Int.reduceLT, Int.reduceLE, Int.reduceToNat, Int.reduceNeg, Int.reducePow, Int.reduceAdd, Int.reduceMul, Int.reduceSub, ↓Int.reduceNatCast', h1, e, bad e]
  · simp (disch := omega) only [push_cast, ↓wF_free, ↓reduceIte, Nat.reduceEqDiff, Nat.reduceLT, Nat.reduceLeDiff, Nat.reduceAdd, Nat.reduceSub, Nat.reduceMul, Nat.reduceBEq, Int.reduceLT, Int.reduceLE, Int.reduceToNat, Int.reduceNeg, Int.reducePow, Int.reduceAdd, Int.reduceMul, Int.reduceSub, ↓Int.reduceNatCast', h1]
    refine ifD_split (fun h2 => ?_) (fun h2 => ?_)
    · have e : nodeOk l level k = false := by unfold nodeOk; simp; omega
      simp (disch := omega) only [push_cast, ↓wF_free, ↓reduceIte, Nat.reduceEqDiff, Nat.reduceLT, Nat.reduceLeDiff, Nat.reduceAdd, Nat.reduceSub, Nat.reduceMul, Nat.reduceBEq, Int.reduceLT, Int.reduceLE, Int.reduceToNat, Int.reduceNeg, Int.reducePow, Int.reduceAdd, Int.reduceMul, Int.reduceSub, ↓Int.reduceNatCast', h1, h2, e, bad e]
    · simp (disch := omega) only [push_cast, ↓wF_free, ↓reduceIte, Nat.reduceEqDiff, Nat.reduceLT, Nat.reduceLeDiff, Nat.reduceAdd, Nat.reduceSub, Nat.reduceMul, Nat.reduceBEq, Int.reduceLT, Int.reduceLE, Int.reduceToNat, Int.reduceNeg, Int.reducePow, Int.reduceAdd, Int.reduceMul, Int.reduceSub, ↓Int.reduceNatCast', h1, h2]
      refine ifD_split (fun h3 => ?_) (fun h3 => ?_)
      · have e : nodeOk l level k = false := by unfold nodeOk; simp; omega
        simp (disch := omega) only [push_cast, ↓wF_free, ↓reduceIte, Nat.reduceEqDiff, Nat.reduceLT, Nat.reduceLeDiff, Nat.reduceAdd, Nat.reduceSub, Nat.reduceMul, Nat.reduceBEq, Int.reduceLT, Int.reduceLE, Int.reduceToNat, Int.reduceNeg, Int.reducePow, Int.reduceAdd, Int.reduceMul, Int.reduceSub, ↓Int.reduceNatCast', h1, h2, h3, e, bad e]
      · simp (disch := omega) only [push_cast, ↓wF_free, ↓reduceIte, Nat.reduceEqDiff, Nat.reduceLT, Nat.reduceLeDiff, Nat.reduceAdd, Nat.reduceSub, Nat.reduceMul, Nat.reduceBEq, Int.reduceLT, Int.reduceLE, Int.reduceToNat, Int.reduceNeg, Int.reducePow, Int.reduceAdd, Int.reduceMul, Int.reduceSub, ↓Int.reduceNatCast', h1, h2, h3]
        refine ifD_split (fun h4 => ?_) (fun h4 => ?_)
        · have e : nodeOk l level k = false := by unfold nodeOk; simp; omega
          simp (disch := omega) only [push_cast, ↓wF_free, ↓reduceIte, Nat.reduceEqDiff, Nat.reduceLT, Nat.reduceLeDiff, Nat.reduceAdd, Nat.reduceSub, Nat.reduceMul, Nat.reduceBEq, Int.reduceLT, Int.reduceLE, Int.reduceToNat, Int.reduceNeg, Int.reducePow, Int.reduceAdd, Int.reduceMul, Int.reduceSub, ↓Int.reduceNatCast', h1, h2, h3, h4, e, bad e]
        · simp (disch := omega) only [push_cast, ↓wF_free, ↓reduceIte, Nat.reduceEqDiff, Nat.reduceLT, Nat.reduceLeDiff, Nat.reduceAdd, Nat.reduceSub, Nat.reduceMul, Nat.reduceBEq, Int.reduceLT, Int.reduceLE, Int.reduceToNat, Int.reduceNeg, Int.reducePow, Int.reduceAdd, Int.reduceMul, Int.reduceSub, ↓Int.reduceNatCast', h1, h2, h3, h4, sub_i, shl_one]
          refine ifD_split (fun h5 => ?_) (fun h5 => ?_)
          · have e : nodeOk l level k = false := by unfold nodeOk; simp; omega
            simp (disch := omega) only [push_cast, ↓wF_free, ↓reduceIte, Nat.reduceEqDiff, Nat.reduceLT, Nat.reduceLeDiff, Nat.reduceAdd, Nat.reduceSub, Nat.reduceMul, Nat.reduceBEq, Int.reduceLT, Int.reduceLE, Int.reduceToNat, Int.reduceNeg, Int.reducePow, Int.reduceAdd, Int.reduceMul, Int.reduceSub, ↓Int.reduceNatCast', h1, h2, h3, h4, h5, e, bad e]
          · have e : nodeOk l level k = true := by unfold nodeOk; simp; omega
            have e2 : nodeR l level k = nodeL l level.toNat k := by unfold nodeR; simp [e]
            have e3 : seenL l level k zeroDig (level.toNat + 1) = nodeL l level.toNat k := by unfold seenL; rw [if_pos (by omega)]
            have hc := call_levelsN l level level k zeroDig ⟨by omega, by omega, by omega, by omega⟩
            rw [e3] at hc
            simp (disch := omega) only [push_cast, ↓wF_free, ↓reduceIte, Nat.reduceEqDiff, Nat.reduceLT, Nat.reduceLeDiff, Nat.reduceAdd, Nat.reduceSub, Nat.reduceMul, Nat.reduceBEq, Int.reduceLT, Int.reduceLE, Int.reduceToNat, Int.reduceNeg, Int.reducePow, Int.reduceAdd, Int.reduceMul, Int.reduceSub, ↓Int.reduceNatCast', h1, h2, h3, h4, h5, e, e2, hc]
theorem c_mNode : Contract Tryd.prog GG 23 sp_mNode :=
  contract_of tr_merkle_Node (tb_ok all_nil (all_cons ci_levelsN all_nil)) (fun a h => w_mNode a.1 a.2.1 a.2.2)

noncomputable def sp_mRoot : List D → Option D := spOf (α := List Dig) (fun a => [.slc (nz 32 (a.map digD)) (a.map digD) false]) (fun a => True) (fun a => .tup [.agg (.int .i64 (rootL a).1 :: digC (rootL a).2), .int .i64 (errL a)])
theorem call_mRoot (l : List Dig) : sp_mRoot [.slc (nz 32 (l.map digD)) (l.map digD) false] = some (.tup [.agg (.int .i64 (rootL l).1 :: digC (rootL l).2), .int .i64 (errL l)]) :=
  spOf_enc (fun a b h => by simp only [List.cons.injEq, D.slc.injEq, D.int.injEq, D.bool.injEq, D.str.injEq, D.agg.injEq, digs_iff, dig_iff, digC_iff, bytes_iff, byte_iff, words_iff, word_iff, Sha.St8.list_iff, bsl_iff, true_and, and_true, bisD_iff] at h; simp [h, Prod.ext_iff]) (l) trivial
set_option maxHeartbeats 4000000 in
set_option maxRecDepth 20000 in
theorem w_mRoot (l : List Dig) : @wW GG (tb [(22, sp_mDepth), (23, sp_mNode)] []) F_merkle_Root.code (argF [.slc (nz 32 (l.map digD)) (l.map digD) false]) [] ⟨retQ F_merkle_Root.res (.tup [.agg (.int .i64 (rootL l).1 :: digC (rootL l).2), .int .i64 (errL l)])⟩ := by
  unfold F_merkle_Root
  simp (disch := omega) only [push_cast, ↓wF_free, ↓reduceIte, Nat.reduceEqDiff, Nat.reduceLT, Nat.reduceLeDiff, Nat.reduceAdd, Nat.reduceSub, Nat.reduceMul, Nat.reduceBEq, Int.reduceLT, Int.reduceLE, Int.reduceToNat, Int.reduceNeg, Int.reducePow, Int.reduceAdd, Int.reduceMul, Int.reduceSub, ↓Int.reduceNatCast']
  refine ifD_split (fun h1 => ?_) (fun h1 => ?_)
  · have e : rootL l = emptyC := by unfold rootL; rw [if_neg (by omega)]
    have e2 : errL l = 2 := by unfold errL; rw [if_neg (by omega)]
    simp (disch := omega) only [push_cast, ↓wF_free, ↓reduceIte, Nat.reduceEqDiff, Nat.reduceLT, Nat.reduceLeDiff, Nat.reduceAdd, Nat.reduceSub, Nat.reduceMul, Nat.reduceBEq, Int.reduceLT, Int.reduceLE, Int.reduceToNat, Int.reduceNeg, Int.reducePow, Int.reduceAdd, Int.reduceMul, Int.reduceSub, ↓Int.reduceNatCast', h1, e, e2, emptyC]
  · have e : rootL l = ((l.length : Int), nodeL l (depthL l.length).toNat 0) := by unfold rootL; rw [if_pos (by omega)]
    have e2 : errL l = 0 := by unfold errL; rw [if_pos (by omega)]
    obtain ⟨d1, d2, d3⟩ := depthL_ok (n := l.length) (by omega) (by omega)
    have hp := pow_pos2 (16 - depthL l.length).toNat
    have e3 : nodeOk l (depthL l.length) 0 = true := by unfold nodeOk; simp; omega
    have e4 : nodeR l (depthL l.length) 0 = nodeL l (depthL l.length).toNat 0 := by unfold nodeR; simp [e3]
    simp (disch := omega) only [push_cast, ↓wF_free, ↓reduceIte, Nat.reduceEqDiff, Nat.reduceLT, Nat.reduceLeDiff, Nat.reduceAdd, Nat.reduceSub, Nat.reduceMul, Nat.reduceBEq, Int.reduceLT, Int.reduceLE, Int.reduceToNat, Int.reduceNeg, Int.reducePow, Int.reduceAdd, Int.reduceMul, Int.reduceSub, ↓Int.reduceNatCast', h1, e, e2, e3, e4, call_mDepth, call_mNode]
theorem c_mRoot : Contract Tryd.prog GG 34 sp_mRoot :=
  contract_of tr_merkle_Root (tb_ok (all_cons c_mDepth (all_cons c_mNode all_nil)) all_nil) (fun a h => w_mRoot a)

noncomputable def sp_mPath : List D → Option D := spOf (α := List Dig × Int) (fun a => [.slc (nz 32 (a.1.map digD)) (a.1.map digD) false, .int .i64 a.2]) (fun a => True) (fun a => .tup [.slc (nz 32 ((pathOf a.1 a.2).map digD)) ((pathOf a.1 a.2).map digD) false, .int .i64 (pathE a.1 a.2)])
theorem call_mPath (l : List Dig) (i : Int) : sp_mPath [.slc (nz 32 (l.map digD)) (l.map digD) false, .int .i64 i] = some (.tup [.slc (nz 32 ((pathOf l i).map digD)) ((pathOf l i).map digD) false, .int .i64 (pathE l i)]) :=
  spOf_enc (fun ⟨a0, a1⟩ ⟨b0, b1⟩ h => by simp only [List.cons.injEq, D.slc.injEq, D.int.injEq, D.bool.injEq, D.str.injEq, D.agg.injEq, digs_iff, dig_iff, digC_iff, bytes_iff, byte_iff, words_iff, word_iff, Sha.St8.list_iff, bsl_iff, true_and, and_true, bisD_iff] at h; simp [h, Prod.ext_iff]) (l, i) trivial
set_option maxHeartbeats 4000000 in
set_option maxRecDepth 20000 in
theorem w_mPath (l : List Dig) (i : Int) : @wW GG (tb [(22, sp_mDepth)] [(39, si_levelsP)]) F_merkle_Path.code (argF [.slc (nz 32 (l.map digD)) (l.map digD) false, .int .i64 i]) [] ⟨retQ F_merkle_Path.res (.tup [.slc (nz 32 ((pathOf l i).map digD)) ((pathOf l i).map digD) false, .int .i64 (pathE l i)])⟩ := by
  unfold F_merkle_Path
  simp (disch := omega) only [push_cast, ↓wF_free, ↓reduceIte, Nat.reduceEqDiff, Nat.reduceLT, Nat.reduceLeDiff, Nat.reduceAdd, Nat.reduceSub, Nat.reduceMul, Nat.reduceBEq, Int.reduceLT, Int.reduceLE, Int.reduceToNat, Int.reduceNeg, Int.reducePow, Int.reduceAdd, Int.reduceMul, Int.reduceSub, ↓Int.reduceNatCast']
  refine ifD_split (fun h1 => ?_) (fun h1 => ?_)
  · have e : pathOf l i = [] := by unfold pathOf; rw [if_neg (by omega)]
    have e2 : pathE l i = 2 := by unfold pathE; rw [if_pos (by omega)]
    simp (disch := omega) only [push_cast, ↓wF_free, ↓reduceIte, Nat.reduceEqDiff, Nat.reduceLT, Nat.reduceLeDiff, Nat.reduceAdd, Nat.reduceSub, Nat.reduceMul, Nat.reduceBEq, Int.reduceLT, Int.reduceLE, Int.reduceToNat, Int.reduceNeg, Int.reducePow, Int.reduceAdd, Int.reduceMul, Int.reduceSub, ↓Int.reduceNatCast', h1, e, e2]
  · obtain ⟨d1, d2, d3⟩ := depthL_ok (n := l.length) (by omega) (by omega)
    simp (disch := omega) only [push_cast, ↓wF_free, ↓reduceIte, Nat.reduceEqDiff, Nat.reduceLT, Nat.reduceLeDiff, Nat.reduceAdd, Nat.reduceSub, Nat.reduceMul, Nat.reduceBEq, Int.reduceLT, Int.reduceLE, Int.reduceToNat, Int.reduceNeg, Int.reducePow, Int.reduceAdd, Int.reduceMul, Int.reduceSub, ↓Int.reduceNatCast', h1, call_mDepth]
    refine ifD_split (fun h2 => ?_) (fun h2 => ?_)
    · have e : pathOf l i = [] := by unfold pathOf; rw [if_neg (by omega)]
      have e2 : pathE l i = 1 := by unfold pathE; rw [if_neg (by omega), if_neg (by omega)]
      simp (disch := omega) only [push_cast, ↓wF_free, ↓reduceIte, Nat.reduceEqDiff, Nat.reduceLT, Nat.reduceLeDiff, Nat.reduceAdd, Nat.reduceSub, Nat.reduceMul, Nat.reduceBEq, Int.reduceLT, Int.reduceLE, Int.reduceToNat, Int.reduceNeg, Int.reducePow, Int.reduceAdd, Int.reduceMul, Int.reduceSub, ↓Int.reduceNatCast', h1, h2, e, e2]
    · simp (disch := omega) only [push_cast, ↓wF_free, ↓reduceIte, Nat.reduceEqDiff, Nat.reduceLT, Nat.reduceLeDiff, Nat.reduceAdd, Nat.reduceSub, Nat.reduceMul, Nat.reduceBEq, Int.reduceLT, Int.reduceLE, Int.reduceToNat, Int.reduceNeg, Int.reducePow, Int.reduceAdd, Int.reduceMul, Int.reduceSub, ↓Int.reduceNatCast', h1, h2, shl_one]
      refine ifD_split (fun h3 => ?_) (fun h3 => ?_)
      · have e : pathOf l i = [] := by unfold pathOf; rw [if_neg (by omega)]
        have e2 : pathE l i = 1 := by unfold pathE; rw [if_neg (by omega), if_neg (by omega)]
        simp (disch := omega) only [push_cast, ↓wF_free, ↓reduceIte, Nat.reduceEqDiff, Nat.reduceLT, Nat.reduceLeDiff, Nat.reduceAdd, Nat.reduceSub, Nat.reduceMul, Nat.reduceBEq, Int.reduceLT, Int.reduceLE, Int.reduceToNat, Int.reduceNeg, Int.reducePow, Int.reduceAdd, Int.reduceMul, Int.reduceSub, ↓Int.reduceNatCast', h1, h2, h3, e, e2]
      · have e : pathOf l i = pathL l i (depthL l.length).toNat := by unfold pathOf; rw [if_pos (by omega)]
        have e2 : pathE l i = 0 := by unfold pathE; rw [if_neg (by omega), if_pos (by omega)]
        have h16 : (2 : Int) ^ (depthL l.length).toNat ≤ 2 ^ 16 := pow_mono (by omega)
        rw [e, e2]
        simp (disch := omega) only [push_cast, ↓wF_free, ↓reduceIte, Nat.reduceEqDiff, Nat.reduceLT, Nat.reduceLeDiff, Nat.reduceAdd, Nat.reduceSub, Nat.reduceMul, Nat.reduceBEq, Int.reduceLT, Int.reduceLE, Int.reduceToNat, Int.reduceNeg, Int.reducePow, Int.reduceAdd, Int.reduceMul, Int.reduceSub, ↓Int.reduceNatCast', h1, h2, h3, mk0_dig]
        refine ifD_split (fun h4 => ?_) (fun h4 => ?_)
        · have hc := call_levelsP l (depthL l.length - 1) i ⟨by omega, by omega, by omega, by omega, by omega⟩
          have e3 : (depthL l.length - 1).toNat + 1 = (depthL l.length).toNat := by omega
          rw [e3] at hc
          simp (disch := omega) only [push_cast, ↓wF_free, ↓reduceIte, Nat.reduceEqDiff, Nat.reduceLT, Nat.reduceLeDiff, Nat.reduceAdd, Nat.reduceSub, Nat.reduceMul, Nat.reduceBEq, Int.reduceLT, Int.reduceLE, Int.reduceToNat, Int.reduceNeg, Int.reducePow, Int.reduceAdd, Int.reduceMul, Int.reduceSub, ↓Int.reduceNatCast', h4, sub_i, hc]
        · have e3 : (depthL l.length).toNat = 0 := by omega
          rw [e3]
          simp (disch := omega) only [push_cast, ↓wF_free, ↓reduceIte, Nat.reduceEqDiff, Nat.reduceLT, Nat.reduceLeDiff, Nat.reduceAdd, Nat.reduceSub, Nat.reduceMul, Nat.reduceBEq, Int.reduceLT, Int.reduceLE, Int.reduceToNat, Int.reduceNeg, Int.reducePow, Int.reduceAdd, Int.reduceMul, Int.reduceSub, ↓Int.reduceNatCast', h4]
          rfl
theorem c_mPath : Contract Tryd.prog GG 18 sp_mPath :=
  contract_of tr_merkle_Path (tb_ok (all_cons c_mDepth all_nil) (all_cons ci_levelsP all_nil)) (fun a h => w_mPath a.1 a.2)

end Go.Proofs.YtokhnpjchpmndaaDoor.PI
