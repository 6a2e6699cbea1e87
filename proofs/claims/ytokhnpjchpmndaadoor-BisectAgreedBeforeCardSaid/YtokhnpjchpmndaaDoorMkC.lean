/-
  merkle: the trees of the reference.
  Conditions: none; these are lemmas.
-/
import Derived.Test.YtokhnpjchpmndaaDoorMkB
namespace Go.Proofs.YtokhnpjchpmndaaDoor.PI
open Go
set_option linter.unusedSimpArgs false
set_option linter.unusedVariables false

noncomputable def sp_rnode : List D → Option D := spOf (α := List Dig × Int × Int) (fun a => [.slc (nz 32 (a.1.map digD)) (a.1.map digD) false, .int .i64 a.2.1, .int .i64 a.2.2]) (fun a => 0 ≤ a.2.1 ∧ a.2.1 ≤ 16 ∧ 0 ≤ a.2.2 ∧ a.1.length ≤ 65536) (fun a => digD (nodeL a.1 a.2.1.toNat a.2.2))
theorem call_rnode (l : List Dig) (level : Int) (k : Int) (h : 0 ≤ level ∧ level ≤ 16 ∧ 0 ≤ k ∧ l.length ≤ 65536) : sp_rnode [.slc (nz 32 (l.map digD)) (l.map digD) false, .int .i64 level, .int .i64 k] = some (digD (nodeL l level.toNat k)) :=
  spOf_enc (fun ⟨a0, a1, a2⟩ ⟨b0, b1, b2⟩ h => by simp only [List.cons.injEq, D.slc.injEq, D.int.injEq, D.bool.injEq, D.str.injEq, D.agg.injEq, digs_iff, dig_iff, digC_iff, bytes_iff, byte_iff, words_iff, word_iff, Sha.St8.list_iff, bsl_iff, true_and, and_true, bisD_iff] at h; simp [h, Prod.ext_iff]) (l, level, k) h
set_option maxHeartbeats 4000000 in
set_option maxRecDepth 20000 in
theorem w_rnode (l : List Dig) (level : Int) (k : Int) (h : 0 ≤ level ∧ level ≤ 16 ∧ 0 ≤ k ∧ l.length ≤ 65536) : @wW GG (tb [(45, sp_rPad), (57, sp_above), (38, sp_rParent)] []) F_wagonpoolref04_node.code (argF [.slc (nz 32 (l.map digD)) (l.map digD) false, .int .i64 level, .int .i64 k]) [] ⟨retQ F_wagonpoolref04_node.res (digD (nodeL l level.toNat k))⟩ := by
  unfold F_wagonpoolref04_node
  simp (disch := omega) only [push_cast, ↓wF_free, ↓reduceIte, Nat.reduceEqDiff, Nat.reduceLT, Nat.reduceLeDiff, Nat.reduceAdd, Nat.reduceSub, Nat.reduceMul, Nat.reduceBEq, Int.reduceLT, Int.reduceLE, Int.reduceToNat, Int.reduceNeg, Int.reducePow, Int.reduceAdd, Int.reduceMul, Int.reduceSub, ↓Int.reduceNatCast', call_rPad]
  refine W_while (fun j : Nat => [(1, .int .i64 level), (2, .int .i64 k), (6, .ptr 0 0), (7, .slc (nz 32 ((rowN l j).map digD)) ((rowN l j).map digD) false), (8, .ptr 1 0), (9, .int .i64 (j : Int))])
    (fun j => [⟨false, 1, digC zeroDig, false⟩, ⟨false, 1, digC (padN j), false⟩]) (fun j => (j : Int) ≤ level) (fun j => level.toNat - j) 0 (by simp only [push_cast, ↓wF_free, ↓reduceIte, Nat.reduceEqDiff, Nat.reduceLT, Nat.reduceLeDiff, Nat.reduceAdd, Nat.reduceSub, Nat.reduceMul, Nat.reduceBEq, Int.reduceLT, Int.reduceLE, Int.reduceToNat, Int.reduceNeg, Int.reducePow, Int.reduceAdd, Int.reduceMul, Int.reduceSub, ↓Int.reduceNatCast'] <;> rfl) (by omega) ?_
  intro j hj
  have hr := rowN_length l j
  unfold F_wagonpoolref04_node_L0
  simp only [push_cast, ↓wF_free, ↓reduceIte, Nat.reduceEqDiff, Nat.reduceLT, Nat.reduceLeDiff, Nat.reduceAdd, Nat.reduceSub, Nat.reduceMul, Nat.reduceBEq, Int.reduceLT, Int.reduceLE, Int.reduceToNat, Int.reduceNeg, Int.reducePow, Int.reduceAdd, Int.reduceMul, Int.reduceSub, ↓Int.reduceNatCast']
  refine ifD_split (fun h1 => ?_) (fun h1 => ?_)
  · simp (disch := omega) only [push_cast, ↓wF_free, ↓reduceIte, Nat.reduceEqDiff, Nat.reduceLT, Nat.reduceLeDiff, Nat.reduceAdd, Nat.reduceSub, Nat.reduceMul, Nat.reduceBEq, Int.reduceLT, Int.reduceLE, Int.reduceToNat, Int.reduceNeg, Int.reducePow, Int.reduceAdd, Int.reduceMul, Int.reduceSub, ↓Int.reduceNatCast', call_above, call_rParent, add_i]
    refine next_head (j + 1) (by omega) (by omega) ?_
    rfl
  · have e : level.toNat = j := by omega
    have e2 : nodeL l j k = atL (rowN l j) k (padN j) := rfl
    rw [e, e2]
    simp (disch := omega) only [push_cast, ↓wF_free, ↓reduceIte, Nat.reduceEqDiff, Nat.reduceLT, Nat.reduceLeDiff, Nat.reduceAdd, Nat.reduceSub, Nat.reduceMul, Nat.reduceBEq, Int.reduceLT, Int.reduceLE, Int.reduceToNat, Int.reduceNeg, Int.reducePow, Int.reduceAdd, Int.reduceMul, Int.reduceSub, ↓Int.reduceNatCast']
    refine ifD_split (fun h2 => ?_) (fun h2 => ?_)
    · simp (disch := omega) only [push_cast, ↓wF_free, ↓reduceIte, Nat.reduceEqDiff, Nat.reduceLT, Nat.reduceLeDiff, Nat.reduceAdd, Nat.reduceSub, Nat.reduceMul, Nat.reduceBEq, Int.reduceLT, Int.reduceLE, Int.reduceToNat, Int.reduceNeg, Int.reducePow, Int.reduceAdd, Int.reduceMul, Int.reduceSub, ↓Int.reduceNatCast', idxS_nz, atL, h2]
    · simp (disch := omega) only [push_cast, ↓wF_free, ↓reduceIte, Nat.reduceEqDiff, Nat.reduceLT, Nat.reduceLeDiff, Nat.reduceAdd, Nat.reduceSub, Nat.reduceMul, Nat.reduceBEq, Int.reduceLT, Int.reduceLE, Int.reduceToNat, Int.reduceNeg, Int.reducePow, Int.reduceAdd, Int.reduceMul, Int.reduceSub, ↓Int.reduceNatCast', atL, h2]
theorem c_rnode : Contract Tryd.prog GG 49 sp_rnode :=
  contract_of tr_wagonpoolref04_node (tb_ok (all_cons c_rPad (all_cons c_above (all_cons c_rParent all_nil))) all_nil) (fun a h => w_rnode a.1 a.2.1 a.2.2 h)

def nodeOk (l : List Dig) (level k : Int) : Bool := decide ((l.length : Int) ≤ 65536 ∧ 0 ≤ level ∧ level ≤ 16 ∧ 0 ≤ k ∧ k < 2 ^ (16 - level).toNat)
def nodeR (l : List Dig) (level k : Int) : Dig := if nodeOk l level k then nodeL l level.toNat k else zeroDig

noncomputable def sp_rNode : List D → Option D := spOf (α := List Dig × Int × Int) (fun a => [.slc (nz 32 (a.1.map digD)) (a.1.map digD) false, .int .i64 a.2.1, .int .i64 a.2.2]) (fun a => True) (fun a => .tup [digD (nodeR a.1 a.2.1 a.2.2), .bool (nodeOk a.1 a.2.1 a.2.2)])
theorem call_rNode (l : List Dig) (level : Int) (k : Int) : sp_rNode [.slc (nz 32 (l.map digD)) (l.map digD) false, .int .i64 level, .int .i64 k] = some (.tup [digD (nodeR l level k), .bool (nodeOk l level k)]) :=
  spOf_enc (fun ⟨a0, a1, a2⟩ ⟨b0, b1, b2⟩ h => by simp only [List.cons.injEq, D.slc.injEq, D.int.injEq, D.bool.injEq, D.str.injEq, D.agg.injEq, digs_iff, dig_iff, digC_iff, bytes_iff, byte_iff, words_iff, word_iff, Sha.St8.list_iff, bsl_iff, true_and, and_true, bisD_iff] at h; simp [h, Prod.ext_iff]) (l, level, k) trivial
set_option maxHeartbeats 4000000 in
set_option maxRecDepth 20000 in
theorem w_rNode (l : List Dig) (level : Int) (k : Int) : @wW GG (tb [(48, sp_rpower), (49, sp_rnode)] []) F_wagonpoolref04_Node.code (argF [.slc (nz 32 (l.map digD)) (l.map digD) false, .int .i64 level, .int .i64 k]) [] ⟨retQ F_wagonpoolref04_Node.res (.tup [digD (nodeR l level k), .bool (nodeOk l level k)])⟩ := by
  unfold F_wagonpoolref04_Node
  simp (disch := omega) only [push_cast, ↓wF_free, ↓reduceIte, Nat.reduceEqDiff, Nat.reduceLT, Nat.reduceLeDiff, Nat.reduceAdd, Nat.reduceSub, Nat.reduceMul, Nat.reduceBEq, Int.reduceLT, Int.reduceLE, Int.reduceToNat, Int.reduceNeg, Int.reducePow, Int.reduceAdd, Int.reduceMul, Int.reduceSub, ↓Int.reduceNatCast']
  have bad : nodeOk l level k = false → nodeR l level k = zeroDig := by intro h; unfold nodeR; simp [h]
  refine ifD_split (fun h1 => ?_) (fun h1 => ?_)
  · have e : nodeOk l level k = false := by unfold nodeOk; simp; omega
    simp (disch := omega) only [push_cast, ↓wF_free, ↓reduceIte, Nat.reduceEqDiff, Nat.reduceLT, Nat.reduceLeDiff, Nat.reduceAdd, Nat.reduceSub, Nat.reduceMul, Nat.reduceBEq, Int.reduceLT, Int.reduceLE, Int.reduceToNat, Int.reduceNeg, Int.reducePow, Int.reduceAdd, Int.reduceMul, Int.reduceSub, ↓Int.reduceNatCast', h1, e, bad e]
  · simp (disch := omega) only [push_cast, ↓wF_free, ↓reduceIte, Nat.reduceEqDiff, Nat.reduceLT, Nat.reduceLeDiff, Nat.reduceAdd, Nat.reduceSub, Nat.reduceMul, Nat.reduceBEq, Int.reduceLT, Int.reduceLE, Int.reduceToNat, Int.reduceNeg, Int.reducePow, Int.reduceAdd, Int.reduceMul, Int.reduceSub, ↓Int.reduceNatCast', h1]
    refine ifD_split (fun h2 => ?_) (fun h2 => ?_)
    · have e : nodeOk l level k = false := by unfold nodeOk; simp; omega
      simp (disch := omega) only [push_cast, ↓wF_free, ↓reduceIte, Nat.reduceEqDiff, Nat.reduceLT, Nat.reduceLeDiff, Nat.reduceAdd, Nat.reduceSub, Nat.reduceMul, Nat.reduceBEq, Int.reduceLT, Int.reduceLE, Int.reduceToNat, Int.reduceNeg, Int.reducePow, Int.reduceAdd, Int.reduceMul, Int.reduceSub, ↓Int.reduceNatCast', h1, h2, e, bad e]
    · simp (disch := omega) only [push_cast, ↓wF_free, ↓reduceIte, Nat.reduceEqDiff, Nat.reduceLT, Nat.reduceLeDiff, Nat.reduceAdd, Nat.reduceSub, Nat.reduceMul, Nat.reduceBEq, Int.reduceLT, Int.reduceLE, Int.reduceToNat, Int.reduceNeg, Int.reducePow, Int.reduceAdd, Int.reduceMul, Int.reduceSub, ↓Int.reduceNatCast', h1, h2]
      refine ifD_split (fun h3 => ?_) (fun h3 => ?_)
      · have e : nodeOk l level k = false := by unfold nodeOk; simp; omega
        simp (disch := omega) only [push_cast, ↓wF_free, ↓reduceIte, Nat.reduceEqDiff, Nat.reduceLT, Nat.reduceLeDiff, Nat.reduceAdd, Nat.reduceSub, Nat.reduceMul, Nat.reduceBEq, Int.reduceLT, Int.reduceLE, Int.reduceToNat, Int.reduceNeg, Int.reducePow, Int.reduceAdd, Int.reduceMul, Int.reduceSub, ↓Int.reduceNatCast', h1, h2, h3, e, bad e]
      · simp (disch := omega) only [push_cast, ↓wF_free, ↓reduceIte, Nat.reduceEqDiff, Nat.reduceLT, Nat.reduceLeDiff, Nat.reduceAdd, Nat.reduceSub, Nat.reduceMul, Nat.reduceBEq, Int.reduceLT, Int.reduceLE, Int.reduceToNat, Int.reduceNeg, Int.reducePow, Int.reduceAdd, Int.reduceMul, Int.reduceSub, ↓Int.reduceNatCast', h1, h2, h3]
        refine ifD_split (fun h4 => ?_) (fun h4 => ?_)
        · have e : nodeOk l level k = false := by unfold nodeOk; simp; omega
          simp (disch := omega) only [push_cast, ↓wF_free, ↓reduceIte, Nat.reduceEqDiff, Nat.reduceLT, Nat.reduceLeDiff, Nat.reduceAdd, Nat.reduceSub, Nat.reduceMul, Nat.reduceBEq, Int.reduceLT, Int.reduceLE, Int.reduceToNat, Int.reduceNeg, Int.reducePow, Int.reduceAdd, Int.reduceMul, Int.reduceSub, ↓Int.reduceNatCast', h1, h2, h3, h4, e, bad e]
        · simp (disch := omega) only [push_cast, ↓wF_free, ↓reduceIte, Nat.reduceEqDiff, Nat.reduceLT, Nat.reduceLeDiff, Nat.reduceAdd, Nat.reduceSub, Nat.reduceMul, Nat.reduceBEq, Int.reduceLT, Int.reduceLE, Int.reduceToNat, Int.reduceNeg, Int.reducePow, Int.reduceAdd, Int.reduceMul, Int.reduceSub, ↓Int.reduceNatCast', h1, h2, h3, h4, sub_i, call_rpower]
          refine ifD_split (fun h5 => ?_) (fun h5 => ?_)
          · have e : nodeOk l level k = false := by unfold nodeOk; simp; omega
            simp (disch := omega) only [push_cast, ↓wF_free, ↓reduceIte, Nat.reduceEqDiff, Nat.reduceLT, Nat.reduceLeDiff, Nat.reduceAdd, Nat.reduceSub, Nat.reduceMul, Nat.reduceBEq, Int.reduceLT, Int.reduceLE, Int.reduceToNat, Int.reduceNeg, Int.reducePow, Int.reduceAdd, Int.reduceMul, Int.reduceSub, ↓Int.reduceNatCast', h1, h2, h3, h4, h5, e, bad e]
          · have e : nodeOk l level k = true := by unfold nodeOk; simp; omega
            have e2 : nodeR l level k = nodeL l level.toNat k := by unfold nodeR; simp [e]
            simp (disch := omega) only [push_cast, ↓wF_free, ↓reduceIte, Nat.reduceEqDiff, Nat.reduceLT, Nat.reduceLeDiff, Nat.reduceAdd, Nat.reduceSub, Nat.reduceMul, Nat.reduceBEq, Int.reduceLT, Int.reduceLE, Int.reduceToNat, Int.reduceNeg, Int.reducePow, Int.reduceAdd, Int.reduceMul, Int.reduceSub, ↓Int.reduceNatCast', h1, h2, h3, h4, h5, e, e2, call_rnode]
theorem c_rNode : Contract Tryd.prog GG 37 sp_rNode :=
  contract_of tr_wagonpoolref04_Node (tb_ok (all_cons c_rpower (all_cons c_rnode all_nil)) all_nil) (fun a h => w_rNode a.1 a.2.1 a.2.2)

/-- the commitment to a list, and the error -/
def rootL (l : List Dig) : Int × Dig := if (l.length : Int) ≤ 65536 then (l.length, nodeL l (depthL l.length).toNat 0) else emptyC
def errL (l : List Dig) : Int := if (l.length : Int) ≤ 65536 then 0 else 2


/-- the path of a leaf, and the error -/
def pathOf (l : List Dig) (i : Int) : List Dig := if (l.length : Int) ≤ 65536 ∧ 0 ≤ i ∧ i < 2 ^ (depthL l.length).toNat then pathL l i (depthL l.length).toNat else []
def pathE (l : List Dig) (i : Int) : Int := if 65536 < (l.length : Int) then 2 else if 0 ≤ i ∧ i < 2 ^ (depthL l.length).toNat then 0 else 1
theorem pathL_length (l : List Dig) (i : Int) : ∀ n, (pathL l i n).length = n
  | 0 => rfl
  | n + 1 => by simp [pathL, pathL_length l i n]


end Go.Proofs.YtokhnpjchpmndaaDoor.PI
