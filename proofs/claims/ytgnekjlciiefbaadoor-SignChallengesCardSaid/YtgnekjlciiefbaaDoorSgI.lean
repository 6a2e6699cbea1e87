/-
  sign: joined, of the program. 
  Conditions: none; these are lemmas.
-/
import Derived.Test.YtgnekjlciiefbaaDoorSgG
namespace Go.Proofs.YtgnekjlciiefbaaDoor.PI
open Go
set_option linter.unusedSimpArgs false
set_option linter.unusedVariables false

def qI (n : Int) : D := .int .u64 n
theorem qI_inj {a b : Int} (h : qI a = qI b) : a = b := by
  simp only [qI, D.int.injEq, true_and] at h; exact h
theorem qs_iff {a b : List Int} : a.map qI = b.map qI ↔ a = b := ⟨map_inj fun _ _ => qI_inj, fun h => by rw [h]⟩
noncomputable def sp_joined : List D → Option D := spOf (α := List UInt8 × List Int) (fun a => [.slc (nz 1 (a.1.map byteD)) (a.1.map byteD) false, .slc (nz 1 (a.2.map qI)) (a.2.map qI) false])
  (fun a => a.1.length ≤ 70000 ∧ a.2.length ≤ 1000 ∧ ∀ n ∈ a.2, 0 ≤ n ∧ n < 18446744073709551616)
  (fun a => .slc (nz 1 ((a.2.flatMap be8 ++ a.1).map byteD)) ((a.2.flatMap be8 ++ a.1).map byteD) false)
theorem call_joined (m : List UInt8) (l : List Int) (h : m.length ≤ 70000 ∧ l.length ≤ 1000 ∧ ∀ n ∈ l, 0 ≤ n ∧ n < 18446744073709551616) :
    sp_joined [.slc (nz 1 (m.map byteD)) (m.map byteD) false, .slc (nz 1 (l.map qI)) (l.map qI) false] = some (.slc (nz 1 ((l.flatMap be8 ++ m).map byteD)) ((l.flatMap be8 ++ m).map byteD) false) :=
  spOf_enc (fun ⟨a0, a1⟩ ⟨b0, b1⟩ h => by simp only [List.cons.injEq, D.slc.injEq, D.int.injEq, D.bool.injEq, D.str.injEq, D.agg.injEq, digs_iff, dig_iff, digC_iff, bytes_iff, byte_iff, words_iff, word_iff, Sha.St8.list_iff, bsl_iff, true_and, and_true, qs_iff] at h; simp [h, Prod.ext_iff]) (m, l) h

set_option maxHeartbeats 4000000 in
set_option maxRecDepth 20000 in
theorem w_joined (m : List UInt8) (l : List Int) (h : m.length ≤ 70000 ∧ l.length ≤ 1000 ∧ ∀ n ∈ l, 0 ≤ n ∧ n < 18446744073709551616) :
    @wW GG (tb [] []) F_sign_joined.code (argF [.slc (nz 1 (m.map byteD)) (m.map byteD) false, .slc (nz 1 (l.map qI)) (l.map qI) false]) [] ⟨retQ F_sign_joined.res (.slc (nz 1 ((l.flatMap be8 ++ m).map byteD)) ((l.flatMap be8 ++ m).map byteD) false)⟩ := by
  obtain ⟨hm, hl, hn⟩ := h
  have hlen : ∀ i, i ≤ l.length → ((l.take i).flatMap be8).length = 8 * i := by
    intro i hi
    induction i with
    | zero => simp
    | succ i ih =>
      rw [take_getD l i (by omega), List.flatMap_append, List.length_append, ih (by omega)]
      simp only [List.flatMap_cons, List.flatMap_nil, List.append_nil]
      rw [show (be8 (l.getD i default)).length = 8 from be8N_length _ 8]
      omega
  unfold F_sign_joined
  simp (disch := first | omega | decide) only [push_cast, ↓wF_free, ↓reduceIte, Nat.reduceEqDiff, Nat.reduceLT, Nat.reduceLeDiff, Nat.reduceAdd, Nat.reduceSub, Nat.reduceMul, Nat.reduceBEq, Int.reduceLT, Int.reduceLE, Int.reduceToNat, Int.reduceNeg, Int.reducePow, Int.reduceAdd, Int.reduceMul, Int.reduceSub, ↓Int.reduceNatCast', mul_i, add_i, mk0_byte]
  refine W_while (fun i : Nat => [(0, .slc (nz 1 (m.map byteD)) (m.map byteD) false), (5, .row 0 ((l.take i).flatMap be8).length 0 ((l.take i).flatMap be8).length), (16, .slc (nz 1 (l.map qI)) (l.map qI) false), (17, .int .i64 (l.length : Int)), (18, .int .i64 (i : Int))])
    (fun i => [⟨true, 1, ((l.take i).flatMap be8).map byteD, false⟩]) (fun i => i ≤ l.length) (fun i => l.length - i) 0 (by simp only [push_cast, ↓wF_free, ↓reduceIte, Nat.reduceEqDiff, Nat.reduceLT, Nat.reduceLeDiff, Nat.reduceAdd, Nat.reduceSub, Nat.reduceMul, Nat.reduceBEq, Int.reduceLT, Int.reduceLE, Int.reduceToNat, Int.reduceNeg, Int.reducePow, Int.reduceAdd, Int.reduceMul, Int.reduceSub, ↓Int.reduceNatCast', List.take_zero, List.flatMap_nil, List.map_nil] <;> rfl) (by omega) ?_
  intro i hi
  have hi8 := hlen i hi
  unfold F_sign_joined_L1
  simp (disch := first | omega | decide) only [push_cast, ↓wF_free, ↓reduceIte, Nat.reduceEqDiff, Nat.reduceLT, Nat.reduceLeDiff, Nat.reduceAdd, Nat.reduceSub, Nat.reduceMul, Nat.reduceBEq, Int.reduceLT, Int.reduceLE, Int.reduceToNat, Int.reduceNeg, Int.reducePow, Int.reduceAdd, Int.reduceMul, Int.reduceSub, ↓Int.reduceNatCast']
  refine ifD_split (fun h1 => ?_) (fun h1 => ?_)
  · have hmem : l.getD i default ∈ l := by
      rw [List.getD_eq_getElem?_getD, List.getElem?_eq_getElem (by omega)]
      exact List.getElem_mem _
    obtain ⟨q0, q1⟩ := hn _ hmem
    have e := take_getD l i (by omega)
    have cpl : ∀ st : St, pload st 1 false ((qI (l.getD i default)).eptr 0) = some (.int .u64 (l.getD i default)) := fun _ => rfl
    have eA : (l.take (i + 1)).flatMap be8 = (l.take i).flatMap be8 ++ be8 (l.getD i default) := by
      rw [e, List.flatMap_append]; simp
    simp (disch := first | omega | decide) only [push_cast, ↓wF_free, ↓reduceIte, Nat.reduceEqDiff, Nat.reduceLT, Nat.reduceLeDiff, Nat.reduceAdd, Nat.reduceSub, Nat.reduceMul, Nat.reduceBEq, Int.reduceLT, Int.reduceLE, Int.reduceToNat, Int.reduceNeg, Int.reducePow, Int.reduceAdd, Int.reduceMul, Int.reduceSub, ↓Int.reduceNatCast', h1, idxS_nz, cpl]
    generalize (l.take i).flatMap be8 = A at *
    generalize l.getD i default = n at *
    refine W_while (fun j : Nat => [(0, .slc (nz 1 (m.map byteD)) (m.map byteD) false), (5, .row 0 (A ++ be8N n j).length 0 (A ++ be8N n j).length), (7, .int .u64 n), (16, .slc (nz 1 (l.map qI)) (l.map qI) false), (17, .int .i64 (l.length : Int)), (18, .int .i64 (i : Int)), (22, .int .i64 (j : Int))])
      (fun j => [⟨true, 1, (A ++ be8N n j).map byteD, false⟩]) (fun j => j ≤ 8) (fun j => 8 - j) 0 (by simp only [push_cast, ↓wF_free, ↓reduceIte, Nat.reduceEqDiff, Nat.reduceLT, Nat.reduceLeDiff, Nat.reduceAdd, Nat.reduceSub, Nat.reduceMul, Nat.reduceBEq, Int.reduceLT, Int.reduceLE, Int.reduceToNat, Int.reduceNeg, Int.reducePow, Int.reduceAdd, Int.reduceMul, Int.reduceSub, ↓Int.reduceNatCast', show be8N n 0 = [] from rfl, List.append_nil] <;> rfl) (by omega) ?_
    intro j hj
    have hlj : (A ++ be8N n j).length = 8 * i + j := by rw [List.length_append, hi8, be8N_length]
    unfold F_sign_joined_L0
    simp (disch := first | omega | decide) only [push_cast, ↓wF_free, ↓reduceIte, Nat.reduceEqDiff, Nat.reduceLT, Nat.reduceLeDiff, Nat.reduceAdd, Nat.reduceSub, Nat.reduceMul, Nat.reduceBEq, Int.reduceLT, Int.reduceLE, Int.reduceToNat, Int.reduceNeg, Int.reducePow, Int.reduceAdd, Int.reduceMul, Int.reduceSub, ↓Int.reduceNatCast']
    refine ifD_split (fun h2 => ?_) (fun h2 => ?_)
    · have et : (56 - 8 * (j : Int)).toNat = 56 - 8 * j := by omega
      have hq : 0 ≤ n / 2 ^ (56 - 8 * j) := Int.ediv_nonneg q0 (Int.le_of_lt (Int.pow_pos (by decide)))
      simp (disch := first | omega | decide) only [push_cast, ↓wF_free, ↓reduceIte, Nat.reduceEqDiff, Nat.reduceLT, Nat.reduceLeDiff, Nat.reduceAdd, Nat.reduceSub, Nat.reduceMul, Nat.reduceBEq, Int.reduceLT, Int.reduceLE, Int.reduceToNat, Int.reduceNeg, Int.reducePow, Int.reduceAdd, Int.reduceMul, Int.reduceSub, ↓Int.reduceNatCast', h2, shr_u, et, conv_ub, mul_i, sub_i, add_i]
      refine next_head (j + 1) (by omega) (by omega) ?_
      rw [be8N_succ, ← List.append_assoc]
      simp only [push_cast, ↓wF_free, ↓reduceIte, Nat.reduceEqDiff, Nat.reduceLT, Nat.reduceLeDiff, Nat.reduceAdd, Nat.reduceSub, Nat.reduceMul, Nat.reduceBEq, Int.reduceLT, Int.reduceLE, Int.reduceToNat, Int.reduceNeg, Int.reducePow, Int.reduceAdd, Int.reduceMul, Int.reduceSub, ↓Int.reduceNatCast'] <;> rfl
    · obtain rfl : j = 8 := by omega
      simp (disch := first | omega | decide) only [push_cast, ↓wF_free, ↓reduceIte, Nat.reduceEqDiff, Nat.reduceLT, Nat.reduceLeDiff, Nat.reduceAdd, Nat.reduceSub, Nat.reduceMul, Nat.reduceBEq, Int.reduceLT, Int.reduceLE, Int.reduceToNat, Int.reduceNeg, Int.reducePow, Int.reduceAdd, Int.reduceMul, Int.reduceSub, ↓Int.reduceNatCast', h2, add_i]
      refine next_head (i + 1) (by omega) (by omega) ?_
      rw [eA]
      simp only [push_cast, ↓wF_free, ↓reduceIte, Nat.reduceEqDiff, Nat.reduceLT, Nat.reduceLeDiff, Nat.reduceAdd, Nat.reduceSub, Nat.reduceMul, Nat.reduceBEq, Int.reduceLT, Int.reduceLE, Int.reduceToNat, Int.reduceNeg, Int.reducePow, Int.reduceAdd, Int.reduceMul, Int.reduceSub, ↓Int.reduceNatCast'] <;> rfl
  · obtain rfl : i = l.length := by omega
    rw [List.take_length] at *
    simp (disch := first | omega | decide) only [push_cast, ↓wF_free, ↓reduceIte, Nat.reduceEqDiff, Nat.reduceLT, Nat.reduceLeDiff, Nat.reduceAdd, Nat.reduceSub, Nat.reduceMul, Nat.reduceBEq, Int.reduceLT, Int.reduceLE, Int.reduceToNat, Int.reduceNeg, Int.reducePow, Int.reduceAdd, Int.reduceMul, Int.reduceSub, ↓Int.reduceNatCast', h1]
theorem c_joined : Contract Tryd.prog GG 29 sp_joined :=
  contract_of tr_sign_joined (tb_ok all_nil all_nil) (fun a h => w_joined a.1 a.2 h)

noncomputable def sp_sChal : List D → Option D := spOf (α := Int × Int × List UInt8) (fun a => [.int .u64 a.1, .int .u64 a.2.1, .slc (nz 1 (a.2.2.map byteD)) (a.2.2.map byteD) false]) (fun a => 0 ≤ a.1 ∧ a.1 < 18446744073709551616 ∧ 0 ≤ a.2.1 ∧ a.2.1 < 18446744073709551616 ∧ a.2.2.length ≤ 70000) (fun a => .int .u64 (chL a.1 a.2.1 a.2.2))
theorem call_sChal (r : Int) (p : Int) (m : List UInt8) (h : 0 ≤ r ∧ r < 18446744073709551616 ∧ 0 ≤ p ∧ p < 18446744073709551616 ∧ m.length ≤ 70000) : sp_sChal [.int .u64 r, .int .u64 p, .slc (nz 1 (m.map byteD)) (m.map byteD) false] = some (.int .u64 (chL r p m)) :=
  spOf_enc (fun ⟨a0, a1, a2⟩ ⟨b0, b1, b2⟩ h => by simp only [List.cons.injEq, D.slc.injEq, D.int.injEq, D.bool.injEq, D.str.injEq, D.agg.injEq, digs_iff, dig_iff, digC_iff, bytes_iff, byte_iff, words_iff, word_iff, Sha.St8.list_iff, bsl_iff, true_and, and_true] at h; simp [h, Prod.ext_iff]) (r, p, m) h
set_option maxHeartbeats 4000000 in
set_option maxRecDepth 20000 in
theorem w_sChal (r : Int) (p : Int) (m : List UInt8) (h : 0 ≤ r ∧ r < 18446744073709551616 ∧ 0 ≤ p ∧ p < 18446744073709551616 ∧ m.length ≤ 70000) : @wW GG (tb [(29, sp_joined), (19, sp_tagged), (18, sp_sNumber)] []) F_sign_challenge.code (argF [.int .u64 r, .int .u64 p, .slc (nz 1 (m.map byteD)) (m.map byteD) false]) [] ⟨retQ F_sign_challenge.res (.int .u64 (chL r p m))⟩ := by
  obtain ⟨hr0, hr1, hp0, hp1, hm⟩ := h
  have l1 : (be8 r).length = 8 := be8N_length r 8
  have l2 : (be8 p).length = 8 := be8N_length p 8
  have cj : sp_joined [.slc (nz 1 (m.map byteD)) (m.map byteD) false, .slc 1 [.int .u64 r, .int .u64 p] false] = some (.slc (nz 1 ((be8 r ++ be8 p ++ m).map byteD)) ((be8 r ++ be8 p ++ m).map byteD) false) := by
    have := call_joined m [r, p] ⟨hm, by simp, by simp; omega⟩
    rw [show [r, p].flatMap be8 = be8 r ++ be8 p by simp] at this
    exact this
  have c := call_tagged [99, 104, 97, 108, 108, 101, 110, 103, 101] (be8 r ++ be8 p ++ m) (by simp only [List.length_cons, List.length_nil, List.length_append]; omega)
  have g := numF8 (taggedL [99, 104, 97, 108, 108, 101, 110, 103, 101] (be8 r ++ be8 p ++ m))
  have e : chL r p m = numF ((taggedL [99, 104, 97, 108, 108, 101, 110, 103, 101] (be8 r ++ be8 p ++ m)).bs.take 8) % 1152921504606845399 := rfl
  have cl : litD 1 [.int .u64 r, .int .u64 p] = some (.slc 1 [.int .u64 r, .int .u64 p] true) := rfl
  rw [e]
  unfold F_sign_challenge
  simp (disch := first | omega | decide) only [push_cast, ↓wF_free, ↓reduceIte, Nat.reduceEqDiff, Nat.reduceLT, Nat.reduceLeDiff, Nat.reduceAdd, Nat.reduceSub, Nat.reduceMul, Nat.reduceBEq, Int.reduceLT, Int.reduceLE, Int.reduceToNat, Int.reduceNeg, Int.reducePow, Int.reduceAdd, Int.reduceMul, Int.reduceSub, ↓Int.reduceNatCast', cl, cj, c, call_sNumber, rem_u]
theorem c_sChal : Contract Tryd.prog GG 30 sp_sChal :=
  contract_of tr_sign_challenge (tb_ok (all_cons c_joined (all_cons c_tagged (all_cons c_sNumber all_nil))) all_nil) (fun a h => w_sChal a.1 a.2.1 a.2.2 h)
end Go.Proofs.YtgnekjlciiefbaaDoor.PI
