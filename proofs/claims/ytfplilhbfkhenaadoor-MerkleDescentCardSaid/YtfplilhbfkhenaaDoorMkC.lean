/-
  merkle: the trees of the reference.
  Conditions: none; these are lemmas.
-/
import Derived.Test.YtfplilhbfkhenaaDoorMkB
namespace Go.Proofs.YtfplilhbfkhenaaDoor.PI
open Go
set_option linter.unusedSimpArgs false
set_option linter.unusedVariables false

noncomputable def sp_rnode : List D → Option D := spOf (α := List Dig × Int × Int) (fun a => [.slc (nz 32 (a.1.map digD)) (a.1.map digD) false, .int .i64 a.2.1, .int .i64 a.2.2]) (fun a => 0 ≤ a.2.1 ∧ a.2.1 ≤ 16 ∧ 0 ≤ a.2.2 ∧ a.1.length ≤ 65536) (fun a => digD (nodeL a.1 a.2.1.toNat a.2.2))
theorem call_rnode (l : List Dig) (level : Int) (k : Int) (h : 0 ≤ level ∧ level ≤ 16 ∧ 0 ≤ k ∧ l.length ≤ 65536) : sp_rnode [.slc (nz 32 (l.map digD)) (l.map digD) false, .int .i64 level, .int .i64 k] = some (digD (nodeL l level.toNat k)) :=
  spOf_enc (fun ⟨a0, a1, a2⟩ ⟨b0, b1, b2⟩ h => by simp only [List.cons.injEq, D.slc.injEq, D.int.injEq, D.bool.injEq, D.str.injEq, D.agg.injEq, digs_iff, dig_iff, digC_iff, bytes_iff, byte_iff, words_iff, word_iff, Sha.St8.list_iff, bsl_iff, true_and, and_true] at h; simp [h, Prod.ext_iff]) (l, level, k) h
set_option maxHeartbeats 4000000 in
set_option maxRecDepth 20000 in
theorem w_rnode (l : List Dig) (level : Int) (k : Int) (h : 0 ≤ level ∧ level ≤ 16 ∧ 0 ≤ k ∧ l.length ≤ 65536) : @wW GG (tb [(21, sp_rPad), (48, sp_above), (23, sp_rParent)] []) F_wagonpoolref04_node.code (argF [.slc (nz 32 (l.map digD)) (l.map digD) false, .int .i64 level, .int .i64 k]) [] ⟨retQ F_wagonpoolref04_node.res (digD (nodeL l level.toNat k))⟩ := by
  unfold F_wagonpoolref04_node
  simp (disch := omega) only [push_cast, ↓reduceIte, Nat.reduceEqDiff, Nat.reduceLT, Nat.reduceLeDiff, Nat.reduceAdd, Nat.reduceSub, Nat.reduceMul, Nat.reduceBEq, Int.reduceLT, Int.reduceLE, Int.reduceToNat, Int.reduceNeg, Int.reducePow, Int.reduceAdd, Int.reduceMul, Int.reduceSub, ↓Int.reduceNatCast', call_rPad]
  refine W_while (fun j : Nat => [(1, .int .i64 level), (2, .int .i64 k), (6, .ptr 0 0), (7, .slc (nz 32 ((rowN l j).map digD)) ((rowN l j).map digD) false), (8, .ptr 1 0), (9, .int .i64 (j : Int))])
    (fun j => [⟨false, 1, digC zeroDig, false⟩, ⟨false, 1, digC (padN j), false⟩]) (fun j => (j : Int) ≤ level) (fun j => level.toNat - j) 0 (by simp only [push_cast, ↓reduceIte, Nat.reduceEqDiff, Nat.reduceLT, Nat.reduceLeDiff, Nat.reduceAdd, Nat.reduceSub, Nat.reduceMul, Nat.reduceBEq, Int.reduceLT, Int.reduceLE, Int.reduceToNat, Int.reduceNeg, Int.reducePow, Int.reduceAdd, Int.reduceMul, Int.reduceSub, ↓Int.reduceNatCast'] <;> rfl) (by omega) ?_
  intro j hj
  have hr := rowN_length l j
  unfold F_wagonpoolref04_node_L0
  simp only [push_cast, ↓reduceIte, Nat.reduceEqDiff, Nat.reduceLT, Nat.reduceLeDiff, Nat.reduceAdd, Nat.reduceSub, Nat.reduceMul, Nat.reduceBEq, Int.reduceLT, Int.reduceLE, Int.reduceToNat, Int.reduceNeg, Int.reducePow, Int.reduceAdd, Int.reduceMul, Int.reduceSub, ↓Int.reduceNatCast']
  refine ifD_split (fun h1 => ?_) (fun h1 => ?_)
  · simp (disch := omega) only [push_cast, ↓reduceIte, Nat.reduceEqDiff, Nat.reduceLT, Nat.reduceLeDiff, Nat.reduceAdd, Nat.reduceSub, Nat.reduceMul, Nat.reduceBEq, Int.reduceLT, Int.reduceLE, Int.reduceToNat, Int.reduceNeg, Int.reducePow, Int.reduceAdd, Int.reduceMul, Int.reduceSub, ↓Int.reduceNatCast', call_above, call_rParent, add_i]
    refine next_head (j + 1) (by omega) (by omega) ?_
    rfl
  · have e : level.toNat = j := by omega
    have e2 : nodeL l j k = atL (rowN l j) k (padN j) := rfl
    rw [e, e2]
    simp (disch := omega) only [push_cast, ↓reduceIte, Nat.reduceEqDiff, Nat.reduceLT, Nat.reduceLeDiff, Nat.reduceAdd, Nat.reduceSub, Nat.reduceMul, Nat.reduceBEq, Int.reduceLT, Int.reduceLE, Int.reduceToNat, Int.reduceNeg, Int.reducePow, Int.reduceAdd, Int.reduceMul, Int.reduceSub, ↓Int.reduceNatCast']
    refine ifD_split (fun h2 => ?_) (fun h2 => ?_)
    · simp (disch := omega) only [push_cast, ↓reduceIte, Nat.reduceEqDiff, Nat.reduceLT, Nat.reduceLeDiff, Nat.reduceAdd, Nat.reduceSub, Nat.reduceMul, Nat.reduceBEq, Int.reduceLT, Int.reduceLE, Int.reduceToNat, Int.reduceNeg, Int.reducePow, Int.reduceAdd, Int.reduceMul, Int.reduceSub, ↓Int.reduceNatCast', idxS_nz, atL, h2]
    · simp (disch := omega) only [push_cast, ↓reduceIte, Nat.reduceEqDiff, Nat.reduceLT, Nat.reduceLeDiff, Nat.reduceAdd, Nat.reduceSub, Nat.reduceMul, Nat.reduceBEq, Int.reduceLT, Int.reduceLE, Int.reduceToNat, Int.reduceNeg, Int.reducePow, Int.reduceAdd, Int.reduceMul, Int.reduceSub, ↓Int.reduceNatCast', atL, h2]
theorem c_rnode : Contract Tryd.prog GG 40 sp_rnode :=
  contract_of tr_wagonpoolref04_node (tb_ok (all_cons c_rPad (all_cons c_above (all_cons c_rParent all_nil))) all_nil) (fun a h => w_rnode a.1 a.2.1 a.2.2 h)

def nodeOk (l : List Dig) (level k : Int) : Bool := decide ((l.length : Int) ≤ 65536 ∧ 0 ≤ level ∧ level ≤ 16 ∧ 0 ≤ k ∧ k < 2 ^ (16 - level).toNat)
def nodeR (l : List Dig) (level k : Int) : Dig := if nodeOk l level k then nodeL l level.toNat k else zeroDig

noncomputable def sp_rNode : List D → Option D := spOf (α := List Dig × Int × Int) (fun a => [.slc (nz 32 (a.1.map digD)) (a.1.map digD) false, .int .i64 a.2.1, .int .i64 a.2.2]) (fun a => True) (fun a => .tup [digD (nodeR a.1 a.2.1 a.2.2), .bool (nodeOk a.1 a.2.1 a.2.2)])
theorem call_rNode (l : List Dig) (level : Int) (k : Int) : sp_rNode [.slc (nz 32 (l.map digD)) (l.map digD) false, .int .i64 level, .int .i64 k] = some (.tup [digD (nodeR l level k), .bool (nodeOk l level k)]) :=
  spOf_enc (fun ⟨a0, a1, a2⟩ ⟨b0, b1, b2⟩ h => by simp only [List.cons.injEq, D.slc.injEq, D.int.injEq, D.bool.injEq, D.str.injEq, D.agg.injEq, digs_iff, dig_iff, digC_iff, bytes_iff, byte_iff, words_iff, word_iff, Sha.St8.list_iff, bsl_iff, true_and, and_true] at h; simp [h, Prod.ext_iff]) (l, level, k) trivial
set_option maxHeartbeats 4000000 in
set_option maxRecDepth 20000 in
theorem w_rNode (l : List Dig) (level : Int) (k : Int) : @wW GG (tb [(39, sp_rpower), (40, sp_rnode)] []) F_wagonpoolref04_Node.code (argF [.slc (nz 32 (l.map digD)) (l.map digD) false, .int .i64 level, .int .i64 k]) [] ⟨retQ F_wagonpoolref04_Node.res (.tup [digD (nodeR l level k), .bool (nodeOk l level k)])⟩ := by
  unfold F_wagonpoolref04_Node
  simp (disch := omega) only [push_cast, ↓reduceIte, Nat.reduceEqDiff, Nat.reduceLT, Nat.reduceLeDiff, Nat.reduceAdd, Nat.reduceSub, Nat.reduceMul, Nat.reduceBEq, Int.reduceLT, Int.reduceLE, Int.reduceToNat, Int.reduceNeg, Int.reducePow, Int.reduceAdd, Int.reduceMul, Int.reduceSub, ↓Int.reduceNatCast']
  have bad : nodeOk l level k = false → nodeR l level k = zeroDig := by intro h; unfold nodeR; simp [h]
  refine ifD_split (fun h1 => ?_) (fun h1 => ?_)
  · have e : nodeOk l level k = false := by unfold nodeOk; simp; omega
    simp (disch := omega) only [push_cast, ↓reduceIte, Nat.reduceEqDiff, Nat.reduceLT, Nat.reduceLeDiff, Nat.reduceAdd, Nat.reduceSub, Nat.reduceMul, Nat.reduceBEq, Int.reduceLT, Int.reduceLE, Int.reduceToNat, Int.reduceNeg, Int.reducePow, Int.reduceAdd, Int.reduceMul, Int.reduceSub, ↓Int.reduceNatCast', h1, e, bad e]
  · simp (disch := omega) only [push_cast, ↓reduceIte, Nat.reduceEqDiff, Nat.reduceLT, Nat.reduceLeDiff, Nat.reduceAdd, Nat.reduceSub, Nat.reduceMul, Nat.reduceBEq, Int.reduceLT, Int.reduceLE, Int.reduceToNat, Int.reduceNeg, Int.reducePow, Int.reduceAdd, Int.reduceMul, Int.reduceSub, ↓Int.reduceNatCast', h1]
    refine ifD_split (fun h2 => ?_) (fun h2 => ?_)
    · have e : nodeOk l level k = false := by unfold nodeOk; simp; omega
      simp (disch := omega) only [push_cast, ↓reduceIte, Nat.reduceEqDiff, Nat.reduceLT, Nat.reduceLeDiff, Nat.reduceAdd, Nat.reduceSub, Nat.reduceMul, Nat.reduceBEq, Int.reduceLT, Int.reduceLE, Int.reduceToNat, Int.reduceNeg, Int.reducePow, Int.reduceAdd, Int.reduceMul, Int.reduceSub, ↓Int.reduceNatCast', h1, h2, e, bad e]
    · simp (disch := omega) only [push_cast, ↓reduceIte, Nat.reduceEqDiff, Nat.reduceLT, Nat.reduceLeDiff, Nat.reduceAdd, Nat.reduceSub, Nat.reduceMul, Nat.reduceBEq, Int.reduceLT, Int.reduceLE, Int.reduceToNat, Int.reduceNeg, Int.reducePow, Int.reduceAdd, Int.reduceMul, Int.reduceSub, ↓Int.reduceNatCast', h1, h2]
      refine ifD_split (fun h3 => ?_) (fun h3 => ?_)
      · have e : nodeOk l level k = false := by unfold nodeOk; simp; omega
        simp (disch := omega) only [push_cast, ↓reduceIte, Nat.reduceEqDiff, Nat.reduceLT, Nat.reduceLeDiff, Nat.reduceAdd, Nat.reduceSub, Nat.reduceMul, Nat.reduceBEq, Int.reduceLT, Int.reduceLE, Int.reduceToNat, Int.reduceNeg, Int.reducePow, Int.reduceAdd, Int.reduceMul, Int.reduceSub, ↓Int.reduceNatCast', h1, h2, h3, e, bad e]
      · simp (disch := omega) only [push_cast, ↓reduceIte, Nat.reduceEqDiff, Nat.reduceLT, Nat.reduceLeDiff, Nat.reduceAdd, Nat.reduceSub, Nat.reduceMul, Nat.reduceBEq, Int.reduceLT, Int.reduceLE, Int.reduceToNat, Int.reduceNeg, Int.reducePow, Int.reduceAdd, Int.reduceMul, Int.reduceSub, ↓Int.reduceNatCast', h1, h2, h3]
        refine ifD_split (fun h4 => ?_) (fun h4 => ?_)
        · have e : nodeOk l level k = false := by unfold nodeOk; simp; omega
          simp (disch := omega) only [push_cast, ↓reduceIte, Nat.reduceEqDiff, Nat.reduceLT, Nat.reduceLeDiff, Nat.reduceAdd, Nat.reduceSub, Nat.reduceMul, Nat.reduceBEq, Int.reduceLT, Int.reduceLE, Int.reduceToNat, Int.reduceNeg, Int.reducePow, Int.reduceAdd, Int.reduceMul, Int.reduceSub, ↓Int.reduceNatCast', h1, h2, h3, h4, e, bad e]
        · simp (disch := omega) only [push_cast, ↓reduceIte, Nat.reduceEqDiff, Nat.reduceLT, Nat.reduceLeDiff, Nat.reduceAdd, Nat.reduceSub, Nat.reduceMul, Nat.reduceBEq, Int.reduceLT, Int.reduceLE, Int.reduceToNat, Int.reduceNeg, Int.reducePow, Int.reduceAdd, Int.reduceMul, Int.reduceSub, ↓Int.reduceNatCast', h1, h2, h3, h4, sub_i, call_rpower]
          refine ifD_split (fun h5 => ?_) (fun h5 => ?_)
          · have e : nodeOk l level k = false := by unfold nodeOk; simp; omega
            simp (disch := omega) only [push_cast, ↓reduceIte, Nat.reduceEqDiff, Nat.reduceLT, Nat.reduceLeDiff, Nat.reduceAdd, Nat.reduceSub, Nat.reduceMul, Nat.reduceBEq, Int.reduceLT, Int.reduceLE, Int.reduceToNat, Int.reduceNeg, Int.reducePow, Int.reduceAdd, Int.reduceMul, Int.reduceSub, ↓Int.reduceNatCast', h1, h2, h3, h4, h5, e, bad e]
          · have e : nodeOk l level k = true := by unfold nodeOk; simp; omega
            have e2 : nodeR l level k = nodeL l level.toNat k := by unfold nodeR; simp [e]
            simp (disch := omega) only [push_cast, ↓reduceIte, Nat.reduceEqDiff, Nat.reduceLT, Nat.reduceLeDiff, Nat.reduceAdd, Nat.reduceSub, Nat.reduceMul, Nat.reduceBEq, Int.reduceLT, Int.reduceLE, Int.reduceToNat, Int.reduceNeg, Int.reducePow, Int.reduceAdd, Int.reduceMul, Int.reduceSub, ↓Int.reduceNatCast', h1, h2, h3, h4, h5, e, e2, call_rnode]
theorem c_rNode : Contract Tryd.prog GG 14 sp_rNode :=
  contract_of tr_wagonpoolref04_Node (tb_ok (all_cons c_rpower (all_cons c_rnode all_nil)) all_nil) (fun a h => w_rNode a.1 a.2.1 a.2.2)

/-- the commitment to a list, and the error -/
def rootL (l : List Dig) : Int × Dig := if (l.length : Int) ≤ 65536 then (l.length, nodeL l (depthL l.length).toNat 0) else emptyC
def errL (l : List Dig) : Int := if (l.length : Int) ≤ 65536 then 0 else 2

noncomputable def sp_rRoot : List D → Option D := spOf (α := List Dig) (fun a => [.slc (nz 32 (a.map digD)) (a.map digD) false]) (fun a => True) (fun a => .tup [.agg (.int .i64 (rootL a).1 :: digC (rootL a).2), .int .i64 (errL a)])
theorem call_rRoot (l : List Dig) : sp_rRoot [.slc (nz 32 (l.map digD)) (l.map digD) false] = some (.tup [.agg (.int .i64 (rootL l).1 :: digC (rootL l).2), .int .i64 (errL l)]) :=
  spOf_enc (fun a b h => by simp only [List.cons.injEq, D.slc.injEq, D.int.injEq, D.bool.injEq, D.str.injEq, D.agg.injEq, digs_iff, dig_iff, digC_iff, bytes_iff, byte_iff, words_iff, word_iff, Sha.St8.list_iff, bsl_iff, true_and, and_true] at h; simp [h, Prod.ext_iff]) (l) trivial
set_option maxHeartbeats 4000000 in
set_option maxRecDepth 20000 in
theorem w_rRoot (l : List Dig) : @wW GG (tb [(25, sp_rDepth), (40, sp_rnode)] []) F_wagonpoolref04_Root.code (argF [.slc (nz 32 (l.map digD)) (l.map digD) false]) [] ⟨retQ F_wagonpoolref04_Root.res (.tup [.agg (.int .i64 (rootL l).1 :: digC (rootL l).2), .int .i64 (errL l)])⟩ := by
  unfold F_wagonpoolref04_Root
  simp (disch := omega) only [push_cast, ↓reduceIte, Nat.reduceEqDiff, Nat.reduceLT, Nat.reduceLeDiff, Nat.reduceAdd, Nat.reduceSub, Nat.reduceMul, Nat.reduceBEq, Int.reduceLT, Int.reduceLE, Int.reduceToNat, Int.reduceNeg, Int.reducePow, Int.reduceAdd, Int.reduceMul, Int.reduceSub, ↓Int.reduceNatCast']
  refine ifD_split (fun h1 => ?_) (fun h1 => ?_)
  · have e : rootL l = emptyC := by unfold rootL; rw [if_neg (by omega)]
    have e2 : errL l = 2 := by unfold errL; rw [if_neg (by omega)]
    simp (disch := omega) only [push_cast, ↓reduceIte, Nat.reduceEqDiff, Nat.reduceLT, Nat.reduceLeDiff, Nat.reduceAdd, Nat.reduceSub, Nat.reduceMul, Nat.reduceBEq, Int.reduceLT, Int.reduceLE, Int.reduceToNat, Int.reduceNeg, Int.reducePow, Int.reduceAdd, Int.reduceMul, Int.reduceSub, ↓Int.reduceNatCast', h1, e, e2, emptyC]
  · have e : rootL l = ((l.length : Int), nodeL l (depthL l.length).toNat 0) := by unfold rootL; rw [if_pos (by omega)]
    have e2 : errL l = 0 := by unfold errL; rw [if_pos (by omega)]
    obtain ⟨d1, d2, d3⟩ := depthL_ok (n := l.length) (by omega) (by omega)
    simp (disch := omega) only [push_cast, ↓reduceIte, Nat.reduceEqDiff, Nat.reduceLT, Nat.reduceLeDiff, Nat.reduceAdd, Nat.reduceSub, Nat.reduceMul, Nat.reduceBEq, Int.reduceLT, Int.reduceLE, Int.reduceToNat, Int.reduceNeg, Int.reducePow, Int.reduceAdd, Int.reduceMul, Int.reduceSub, ↓Int.reduceNatCast', h1, e, e2, call_rDepth, call_rnode]
theorem c_rRoot : Contract Tryd.prog GG 16 sp_rRoot :=
  contract_of tr_wagonpoolref04_Root (tb_ok (all_cons c_rDepth (all_cons c_rnode all_nil)) all_nil) (fun a h => w_rRoot a)

/-- the path of a leaf, and the error -/
def pathOf (l : List Dig) (i : Int) : List Dig := if (l.length : Int) ≤ 65536 ∧ 0 ≤ i ∧ i < 2 ^ (depthL l.length).toNat then pathL l i (depthL l.length).toNat else []
def pathE (l : List Dig) (i : Int) : Int := if 65536 < (l.length : Int) then 2 else if 0 ≤ i ∧ i < 2 ^ (depthL l.length).toNat then 0 else 1
theorem pathL_length (l : List Dig) (i : Int) : ∀ n, (pathL l i n).length = n
  | 0 => rfl
  | n + 1 => by simp [pathL, pathL_length l i n]

noncomputable def sp_rPath : List D → Option D := spOf (α := List Dig × Int) (fun a => [.slc (nz 32 (a.1.map digD)) (a.1.map digD) false, .int .i64 a.2]) (fun a => True) (fun a => .tup [.slc (nz 32 ((pathOf a.1 a.2).map digD)) ((pathOf a.1 a.2).map digD) false, .int .i64 (pathE a.1 a.2)])
theorem call_rPath (l : List Dig) (i : Int) : sp_rPath [.slc (nz 32 (l.map digD)) (l.map digD) false, .int .i64 i] = some (.tup [.slc (nz 32 ((pathOf l i).map digD)) ((pathOf l i).map digD) false, .int .i64 (pathE l i)]) :=
  spOf_enc (fun ⟨a0, a1⟩ ⟨b0, b1⟩ h => by simp only [List.cons.injEq, D.slc.injEq, D.int.injEq, D.bool.injEq, D.str.injEq, D.agg.injEq, digs_iff, dig_iff, digC_iff, bytes_iff, byte_iff, words_iff, word_iff, Sha.St8.list_iff, bsl_iff, true_and, and_true] at h; simp [h, Prod.ext_iff]) (l, i) trivial
set_option maxHeartbeats 4000000 in
set_option maxRecDepth 20000 in
theorem w_rPath (l : List Dig) (i : Int) : @wW GG (tb [(25, sp_rDepth), (39, sp_rpower), (42, sp_sibling), (40, sp_rnode)] []) F_wagonpoolref04_Path.code (argF [.slc (nz 32 (l.map digD)) (l.map digD) false, .int .i64 i]) [] ⟨retQ F_wagonpoolref04_Path.res (.tup [.slc (nz 32 ((pathOf l i).map digD)) ((pathOf l i).map digD) false, .int .i64 (pathE l i)])⟩ := by
  unfold F_wagonpoolref04_Path
  simp (disch := omega) only [push_cast, ↓reduceIte, Nat.reduceEqDiff, Nat.reduceLT, Nat.reduceLeDiff, Nat.reduceAdd, Nat.reduceSub, Nat.reduceMul, Nat.reduceBEq, Int.reduceLT, Int.reduceLE, Int.reduceToNat, Int.reduceNeg, Int.reducePow, Int.reduceAdd, Int.reduceMul, Int.reduceSub, ↓Int.reduceNatCast']
  refine ifD_split (fun h1 => ?_) (fun h1 => ?_)
  · have e : pathOf l i = [] := by unfold pathOf; rw [if_neg (by omega)]
    have e2 : pathE l i = 2 := by unfold pathE; rw [if_pos (by omega)]
    simp (disch := omega) only [push_cast, ↓reduceIte, Nat.reduceEqDiff, Nat.reduceLT, Nat.reduceLeDiff, Nat.reduceAdd, Nat.reduceSub, Nat.reduceMul, Nat.reduceBEq, Int.reduceLT, Int.reduceLE, Int.reduceToNat, Int.reduceNeg, Int.reducePow, Int.reduceAdd, Int.reduceMul, Int.reduceSub, ↓Int.reduceNatCast', h1, e, e2]
  · obtain ⟨d1, d2, d3⟩ := depthL_ok (n := l.length) (by omega) (by omega)
    simp (disch := omega) only [push_cast, ↓reduceIte, Nat.reduceEqDiff, Nat.reduceLT, Nat.reduceLeDiff, Nat.reduceAdd, Nat.reduceSub, Nat.reduceMul, Nat.reduceBEq, Int.reduceLT, Int.reduceLE, Int.reduceToNat, Int.reduceNeg, Int.reducePow, Int.reduceAdd, Int.reduceMul, Int.reduceSub, ↓Int.reduceNatCast', h1]
    refine ifD_split (fun h2 => ?_) (fun h2 => ?_)
    · have e : pathOf l i = [] := by unfold pathOf; rw [if_neg (by omega)]
      have e2 : pathE l i = 1 := by unfold pathE; rw [if_neg (by omega), if_neg (by omega)]
      simp (disch := omega) only [push_cast, ↓reduceIte, Nat.reduceEqDiff, Nat.reduceLT, Nat.reduceLeDiff, Nat.reduceAdd, Nat.reduceSub, Nat.reduceMul, Nat.reduceBEq, Int.reduceLT, Int.reduceLE, Int.reduceToNat, Int.reduceNeg, Int.reducePow, Int.reduceAdd, Int.reduceMul, Int.reduceSub, ↓Int.reduceNatCast', h1, h2, e, e2]
    · simp (disch := omega) only [push_cast, ↓reduceIte, Nat.reduceEqDiff, Nat.reduceLT, Nat.reduceLeDiff, Nat.reduceAdd, Nat.reduceSub, Nat.reduceMul, Nat.reduceBEq, Int.reduceLT, Int.reduceLE, Int.reduceToNat, Int.reduceNeg, Int.reducePow, Int.reduceAdd, Int.reduceMul, Int.reduceSub, ↓Int.reduceNatCast', h1, h2, call_rDepth, call_rpower]
      refine ifD_split (fun h3 => ?_) (fun h3 => ?_)
      · have e : pathOf l i = [] := by unfold pathOf; rw [if_neg (by omega)]
        have e2 : pathE l i = 1 := by unfold pathE; rw [if_neg (by omega), if_neg (by omega)]
        simp (disch := omega) only [push_cast, ↓reduceIte, Nat.reduceEqDiff, Nat.reduceLT, Nat.reduceLeDiff, Nat.reduceAdd, Nat.reduceSub, Nat.reduceMul, Nat.reduceBEq, Int.reduceLT, Int.reduceLE, Int.reduceToNat, Int.reduceNeg, Int.reducePow, Int.reduceAdd, Int.reduceMul, Int.reduceSub, ↓Int.reduceNatCast', h1, h2, h3, e, e2]
      · have e : pathOf l i = pathL l i (depthL l.length).toNat := by unfold pathOf; rw [if_pos (by omega)]
        have e2 : pathE l i = 0 := by unfold pathE; rw [if_neg (by omega), if_pos (by omega)]
        have h16 : (2 : Int) ^ (depthL l.length).toNat ≤ 2 ^ 16 := pow_mono (by omega)
        rw [e, e2]
        simp (disch := omega) only [push_cast, ↓reduceIte, Nat.reduceEqDiff, Nat.reduceLT, Nat.reduceLeDiff, Nat.reduceAdd, Nat.reduceSub, Nat.reduceMul, Nat.reduceBEq, Int.reduceLT, Int.reduceLE, Int.reduceToNat, Int.reduceNeg, Int.reducePow, Int.reduceAdd, Int.reduceMul, Int.reduceSub, ↓Int.reduceNatCast', h1, h2, h3, nil_bufD1 32 0]
        refine W_while (fun j : Nat => [(0, .slc (nz 32 (l.map digD)) (l.map digD) false), (1, .int .i64 (i / 2 ^ j)), (6, bufD 32 0 ((pathL l i j).map digD)), (7, .int .i64 (j : Int))])
          (fun j => bufS 32 ((pathL l i j).map digD)) (fun j => (j : Int) ≤ depthL l.length) (fun j => (depthL l.length).toNat - j) 0 (by simp only [push_cast, ↓reduceIte, Nat.reduceEqDiff, Nat.reduceLT, Nat.reduceLeDiff, Nat.reduceAdd, Nat.reduceSub, Nat.reduceMul, Nat.reduceBEq, Int.reduceLT, Int.reduceLE, Int.reduceToNat, Int.reduceNeg, Int.reducePow, Int.reduceAdd, Int.reduceMul, Int.reduceSub, ↓Int.reduceNatCast', Int.pow_zero, Int.ediv_one] <;> rfl) (by omega) ?_
        intro j hj
        have hl := pathL_length l i j
        have h8 := pow_pos2 j
        have h9 : 0 ≤ i / 2 ^ j := Int.ediv_nonneg (by omega) (by omega)
        have h10 : i / 2 ^ j ≤ i := Int.ediv_le_self _ (by omega)
        unfold F_wagonpoolref04_Path_L0
        simp (disch := omega) only [push_cast, ↓reduceIte, Nat.reduceEqDiff, Nat.reduceLT, Nat.reduceLeDiff, Nat.reduceAdd, Nat.reduceSub, Nat.reduceMul, Nat.reduceBEq, Int.reduceLT, Int.reduceLE, Int.reduceToNat, Int.reduceNeg, Int.reducePow, Int.reduceAdd, Int.reduceMul, Int.reduceSub, ↓Int.reduceNatCast', call_rDepth]
        refine ifD_split (fun h4 => ?_) (fun h4 => ?_)
        · have hs : 0 ≤ sibL (i / 2 ^ j) := by unfold sibL; split <;> omega
          have e3 : (if i / 2 ^ j % 2 = 0 then i / 2 ^ j + 1 else i / 2 ^ j - 1) = sibL (i / 2 ^ j) := rfl
          have e4 : i / 2 ^ j / 2 = i / 2 ^ (j + 1) := by
            rw [Int.ediv_ediv_of_nonneg (by omega), Int.pow_succ]
          have e5 : pathL l i (j + 1) = pathL l i j ++ [nodeL l j (sibL (i / 2 ^ j))] := rfl
          simp (disch := first | omega | decide) only [push_cast, ↓reduceIte, Nat.reduceEqDiff, Nat.reduceLT, Nat.reduceLeDiff, Nat.reduceAdd, Nat.reduceSub, Nat.reduceMul, Nat.reduceBEq, Int.reduceLT, Int.reduceLE, Int.reduceToNat, Int.reduceNeg, Int.reducePow, Int.reduceAdd, Int.reduceMul, Int.reduceSub, ↓Int.reduceNatCast', call_sibling, e3, call_rnode, quo_i, add_i, e4]
          refine next_head (j + 1) (by omega) (by omega) ?_
          rw [e5]
          simp only [push_cast, ↓reduceIte, Nat.reduceEqDiff, Nat.reduceLT, Nat.reduceLeDiff, Nat.reduceAdd, Nat.reduceSub, Nat.reduceMul, Nat.reduceBEq, Int.reduceLT, Int.reduceLE, Int.reduceToNat, Int.reduceNeg, Int.reducePow, Int.reduceAdd, Int.reduceMul, Int.reduceSub, ↓Int.reduceNatCast'] <;> rfl
        · have e3 : (depthL l.length).toNat = j := by omega
          rw [e3]
          simp (disch := omega) only [push_cast, ↓reduceIte, Nat.reduceEqDiff, Nat.reduceLT, Nat.reduceLeDiff, Nat.reduceAdd, Nat.reduceSub, Nat.reduceMul, Nat.reduceBEq, Int.reduceLT, Int.reduceLE, Int.reduceToNat, Int.reduceNeg, Int.reducePow, Int.reduceAdd, Int.reduceMul, Int.reduceSub, ↓Int.reduceNatCast']
theorem c_rPath : Contract Tryd.prog GG 18 sp_rPath :=
  contract_of tr_wagonpoolref04_Path (tb_ok (all_cons c_rDepth (all_cons c_rpower (all_cons c_sibling (all_cons c_rnode all_nil)))) all_nil) (fun a h => w_rPath a.1 a.2)

end Go.Proofs.YtfplilhbfkhenaaDoor.PI
