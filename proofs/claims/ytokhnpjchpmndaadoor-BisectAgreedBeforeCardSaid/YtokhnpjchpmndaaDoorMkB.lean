/-
  merkle: what the other functions of the reference compute, and those of the program that need no closures.
  Conditions: none; these are lemmas.
-/
import Derived.Test.YtokhnpjchpmndaaDoorMkA
namespace Go.Proofs.YtokhnpjchpmndaaDoor.PI
open Go
set_option linter.unusedSimpArgs false
set_option linter.unusedVariables false



noncomputable def sp_mFirst : List D → Option D := spOf (α := List Dig × List Dig) (fun a => [.slc (nz 32 (a.1.map digD)) (a.1.map digD) false, .slc (nz 32 (a.2.map digD)) (a.2.map digD) false]) (fun a => a.1.length ≤ 4294967296 ∧ a.2.length ≤ 4294967296) (fun a => .int .i64 (firstL a.1 a.2))
theorem call_mFirst (a : List Dig) (b : List Dig) (h : a.length ≤ 4294967296 ∧ b.length ≤ 4294967296) : sp_mFirst [.slc (nz 32 (a.map digD)) (a.map digD) false, .slc (nz 32 (b.map digD)) (b.map digD) false] = some (.int .i64 (firstL a b)) :=
  spOf_enc (fun ⟨a0, a1⟩ ⟨b0, b1⟩ h => by simp only [List.cons.injEq, D.slc.injEq, D.int.injEq, D.bool.injEq, D.str.injEq, D.agg.injEq, digs_iff, dig_iff, digC_iff, bytes_iff, byte_iff, words_iff, word_iff, Sha.St8.list_iff, bsl_iff, true_and, and_true, bisD_iff] at h; simp [h, Prod.ext_iff]) (a, b) h
set_option maxHeartbeats 4000000 in
set_option maxRecDepth 20000 in
theorem w_mFirst (a : List Dig) (b : List Dig) (h : a.length ≤ 4294967296 ∧ b.length ≤ 4294967296) : @wW GG (tb [(32, sp_mPad), (41, sp_at)] []) F_merkle_First.code (argF [.slc (nz 32 (a.map digD)) (a.map digD) false, .slc (nz 32 (b.map digD)) (b.map digD) false]) [] ⟨retQ F_merkle_First.res (.int .i64 (firstL a b))⟩ := by
  unfold F_merkle_First
  simp (disch := omega) only [push_cast, ↓wF_free, ↓reduceIte, Nat.reduceEqDiff, Nat.reduceLT, Nat.reduceLeDiff, Nat.reduceAdd, Nat.reduceSub, Nat.reduceMul, Nat.reduceBEq, Int.reduceLT, Int.reduceLE, Int.reduceToNat, Int.reduceNeg, Int.reducePow, Int.reduceAdd, Int.reduceMul, Int.reduceSub, ↓Int.reduceNatCast', call_mPad]
  have hf : firstL a b = firstF a b (max a.length b.length - 0) 0 := rfl
  refine W_while (fun i : Nat => [(0, .slc (nz 32 (a.map digD)) (a.map digD) false), (1, .slc (nz 32 (b.map digD)) (b.map digD) false), (5, .ptr 0 0), (12, .int .i64 (max (a.length : Int) (b.length : Int))), (13, .int .i64 (i : Int))])
    (fun i => [⟨false, 1, digC padL, false⟩]) (fun i => i ≤ max a.length b.length ∧ firstL a b = firstF a b (max a.length b.length - i) i) (fun i => max a.length b.length - i) 0 (by simp only [push_cast, ↓wF_free, ↓reduceIte, Nat.reduceEqDiff, Nat.reduceLT, Nat.reduceLeDiff, Nat.reduceAdd, Nat.reduceSub, Nat.reduceMul, Nat.reduceBEq, Int.reduceLT, Int.reduceLE, Int.reduceToNat, Int.reduceNeg, Int.reducePow, Int.reduceAdd, Int.reduceMul, Int.reduceSub, ↓Int.reduceNatCast'] <;> rfl) ⟨by omega, hf⟩ ?_
  rintro i ⟨hi, hf⟩
  unfold F_merkle_First_L0
  simp only [push_cast, ↓wF_free, ↓reduceIte, Nat.reduceEqDiff, Nat.reduceLT, Nat.reduceLeDiff, Nat.reduceAdd, Nat.reduceSub, Nat.reduceMul, Nat.reduceBEq, Int.reduceLT, Int.reduceLE, Int.reduceToNat, Int.reduceNeg, Int.reducePow, Int.reduceAdd, Int.reduceMul, Int.reduceSub, ↓Int.reduceNatCast']
  refine ifD_split (fun h1 => ?_) (fun h1 => ?_)
  · rw [show max a.length b.length - i = (max a.length b.length - (i + 1)) + 1 by omega] at hf
    simp (disch := omega) only [push_cast, ↓wF_free, ↓reduceIte, Nat.reduceEqDiff, Nat.reduceLT, Nat.reduceLeDiff, Nat.reduceAdd, Nat.reduceSub, Nat.reduceMul, Nat.reduceBEq, Int.reduceLT, Int.reduceLE, Int.reduceToNat, Int.reduceNeg, Int.reducePow, Int.reduceAdd, Int.reduceMul, Int.reduceSub, ↓Int.reduceNatCast', call_at]
    refine ifD_split (fun h2 => ?_) (fun h2 => ?_)
    · rw [firstF_eq h2] at hf
      simp (disch := omega) only [push_cast, ↓wF_free, ↓reduceIte, Nat.reduceEqDiff, Nat.reduceLT, Nat.reduceLeDiff, Nat.reduceAdd, Nat.reduceSub, Nat.reduceMul, Nat.reduceBEq, Int.reduceLT, Int.reduceLE, Int.reduceToNat, Int.reduceNeg, Int.reducePow, Int.reduceAdd, Int.reduceMul, Int.reduceSub, ↓Int.reduceNatCast', add_i]
      refine next_head (i + 1) ⟨by omega, hf⟩ (by omega) ?_
      rfl
    · rw [firstF_ne h2] at hf
      simp (disch := omega) only [push_cast, ↓wF_free, ↓reduceIte, Nat.reduceEqDiff, Nat.reduceLT, Nat.reduceLeDiff, Nat.reduceAdd, Nat.reduceSub, Nat.reduceMul, Nat.reduceBEq, Int.reduceLT, Int.reduceLE, Int.reduceToNat, Int.reduceNeg, Int.reducePow, Int.reduceAdd, Int.reduceMul, Int.reduceSub, ↓Int.reduceNatCast', hf]
  · rw [show max a.length b.length - i = 0 by omega, firstF_end] at hf
    simp (disch := omega) only [push_cast, ↓wF_free, ↓reduceIte, Nat.reduceEqDiff, Nat.reduceLT, Nat.reduceLeDiff, Nat.reduceAdd, Nat.reduceSub, Nat.reduceMul, Nat.reduceBEq, Int.reduceLT, Int.reduceLE, Int.reduceToNat, Int.reduceNeg, Int.reducePow, Int.reduceAdd, Int.reduceMul, Int.reduceSub, ↓Int.reduceNatCast', hf]
theorem c_mFirst : Contract Tryd.prog GG 24 sp_mFirst :=
  contract_of tr_merkle_First (tb_ok (all_cons c_mPad (all_cons c_at all_nil)) all_nil) (fun a h => w_mFirst a.1 a.2 h)

noncomputable def sp_rFirst : List D → Option D := spOf (α := List Dig × List Dig) (fun a => [.slc (nz 32 (a.1.map digD)) (a.1.map digD) false, .slc (nz 32 (a.2.map digD)) (a.2.map digD) false]) (fun a => a.1.length ≤ 4294967296 ∧ a.2.length ≤ 4294967296) (fun a => .int .i64 (firstL a.1 a.2))
theorem call_rFirst (a : List Dig) (b : List Dig) (h : a.length ≤ 4294967296 ∧ b.length ≤ 4294967296) : sp_rFirst [.slc (nz 32 (a.map digD)) (a.map digD) false, .slc (nz 32 (b.map digD)) (b.map digD) false] = some (.int .i64 (firstL a b)) :=
  spOf_enc (fun ⟨a0, a1⟩ ⟨b0, b1⟩ h => by simp only [List.cons.injEq, D.slc.injEq, D.int.injEq, D.bool.injEq, D.str.injEq, D.agg.injEq, digs_iff, dig_iff, digC_iff, bytes_iff, byte_iff, words_iff, word_iff, Sha.St8.list_iff, bsl_iff, true_and, and_true, bisD_iff] at h; simp [h, Prod.ext_iff]) (a, b) h
set_option maxHeartbeats 4000000 in
set_option maxRecDepth 20000 in
theorem w_rFirst (a : List Dig) (b : List Dig) (h : a.length ≤ 4294967296 ∧ b.length ≤ 4294967296) : @wW GG (tb [(26, sp_rAt)] []) F_wagonpoolref04_First.code (argF [.slc (nz 32 (a.map digD)) (a.map digD) false, .slc (nz 32 (b.map digD)) (b.map digD) false]) [] ⟨retQ F_wagonpoolref04_First.res (.int .i64 (firstL a b))⟩ := by
  unfold F_wagonpoolref04_First
  simp (disch := omega) only [push_cast, ↓wF_free, ↓reduceIte, Nat.reduceEqDiff, Nat.reduceLT, Nat.reduceLeDiff, Nat.reduceAdd, Nat.reduceSub, Nat.reduceMul, Nat.reduceBEq, Int.reduceLT, Int.reduceLE, Int.reduceToNat, Int.reduceNeg, Int.reducePow, Int.reduceAdd, Int.reduceMul, Int.reduceSub, ↓Int.reduceNatCast']
  have hf : firstL a b = firstF a b (max a.length b.length - 0) 0 := rfl
  refine W_while (fun i : Nat => [(0, .slc (nz 32 (a.map digD)) (a.map digD) false), (1, .slc (nz 32 (b.map digD)) (b.map digD) false), (5, .int .i64 (i : Int))])
    (fun i => []) (fun i => i ≤ max a.length b.length ∧ firstL a b = firstF a b (max a.length b.length - i) i) (fun i => max a.length b.length - i) 0 (by simp only [push_cast, ↓wF_free, ↓reduceIte, Nat.reduceEqDiff, Nat.reduceLT, Nat.reduceLeDiff, Nat.reduceAdd, Nat.reduceSub, Nat.reduceMul, Nat.reduceBEq, Int.reduceLT, Int.reduceLE, Int.reduceToNat, Int.reduceNeg, Int.reducePow, Int.reduceAdd, Int.reduceMul, Int.reduceSub, ↓Int.reduceNatCast'] <;> rfl) ⟨by omega, hf⟩ ?_
  rintro i ⟨hi, hf⟩
  have body : (i : Int) < max (a.length : Int) (b.length : Int) → firstL a b = firstF a b (max a.length b.length - (i + 1) + 1) i := by
    intro h; rwa [show max a.length b.length - i = (max a.length b.length - (i + 1)) + 1 by omega] at hf
  unfold F_wagonpoolref04_First_L0
  simp only [push_cast, ↓wF_free, ↓reduceIte, Nat.reduceEqDiff, Nat.reduceLT, Nat.reduceLeDiff, Nat.reduceAdd, Nat.reduceSub, Nat.reduceMul, Nat.reduceBEq, Int.reduceLT, Int.reduceLE, Int.reduceToNat, Int.reduceNeg, Int.reducePow, Int.reduceAdd, Int.reduceMul, Int.reduceSub, ↓Int.reduceNatCast']
  refine ifD_split (fun h1 => ?_) (fun h1 => ?_)
  · have hf := body (by omega)
    simp (disch := omega) only [push_cast, ↓wF_free, ↓reduceIte, Nat.reduceEqDiff, Nat.reduceLT, Nat.reduceLeDiff, Nat.reduceAdd, Nat.reduceSub, Nat.reduceMul, Nat.reduceBEq, Int.reduceLT, Int.reduceLE, Int.reduceToNat, Int.reduceNeg, Int.reducePow, Int.reduceAdd, Int.reduceMul, Int.reduceSub, ↓Int.reduceNatCast', h1, call_rAt]
    refine ifD_split (fun h2 => ?_) (fun h2 => ?_)
    · rw [firstF_eq h2] at hf
      simp (disch := omega) only [push_cast, ↓wF_free, ↓reduceIte, Nat.reduceEqDiff, Nat.reduceLT, Nat.reduceLeDiff, Nat.reduceAdd, Nat.reduceSub, Nat.reduceMul, Nat.reduceBEq, Int.reduceLT, Int.reduceLE, Int.reduceToNat, Int.reduceNeg, Int.reducePow, Int.reduceAdd, Int.reduceMul, Int.reduceSub, ↓Int.reduceNatCast', add_i]
      refine next_head (i + 1) ⟨by omega, hf⟩ (by omega) ?_
      rfl
    · rw [firstF_ne h2] at hf
      simp (disch := omega) only [push_cast, ↓wF_free, ↓reduceIte, Nat.reduceEqDiff, Nat.reduceLT, Nat.reduceLeDiff, Nat.reduceAdd, Nat.reduceSub, Nat.reduceMul, Nat.reduceBEq, Int.reduceLT, Int.reduceLE, Int.reduceToNat, Int.reduceNeg, Int.reducePow, Int.reduceAdd, Int.reduceMul, Int.reduceSub, ↓Int.reduceNatCast', hf]
  · simp (disch := omega) only [push_cast, ↓wF_free, ↓reduceIte, Nat.reduceEqDiff, Nat.reduceLT, Nat.reduceLeDiff, Nat.reduceAdd, Nat.reduceSub, Nat.reduceMul, Nat.reduceBEq, Int.reduceLT, Int.reduceLE, Int.reduceToNat, Int.reduceNeg, Int.reducePow, Int.reduceAdd, Int.reduceMul, Int.reduceSub, ↓Int.reduceNatCast', h1]
    refine ifD_split (fun h3 => ?_) (fun h3 => ?_)
    · have hf := body (by omega)
      simp (disch := omega) only [push_cast, ↓wF_free, ↓reduceIte, Nat.reduceEqDiff, Nat.reduceLT, Nat.reduceLeDiff, Nat.reduceAdd, Nat.reduceSub, Nat.reduceMul, Nat.reduceBEq, Int.reduceLT, Int.reduceLE, Int.reduceToNat, Int.reduceNeg, Int.reducePow, Int.reduceAdd, Int.reduceMul, Int.reduceSub, ↓Int.reduceNatCast', h1, h3, call_rAt]
      refine ifD_split (fun h2 => ?_) (fun h2 => ?_)
      · rw [firstF_eq h2] at hf
        simp (disch := omega) only [push_cast, ↓wF_free, ↓reduceIte, Nat.reduceEqDiff, Nat.reduceLT, Nat.reduceLeDiff, Nat.reduceAdd, Nat.reduceSub, Nat.reduceMul, Nat.reduceBEq, Int.reduceLT, Int.reduceLE, Int.reduceToNat, Int.reduceNeg, Int.reducePow, Int.reduceAdd, Int.reduceMul, Int.reduceSub, ↓Int.reduceNatCast', add_i]
        refine next_head (i + 1) ⟨by omega, hf⟩ (by omega) ?_
        rfl
      · rw [firstF_ne h2] at hf
        simp (disch := omega) only [push_cast, ↓wF_free, ↓reduceIte, Nat.reduceEqDiff, Nat.reduceLT, Nat.reduceLeDiff, Nat.reduceAdd, Nat.reduceSub, Nat.reduceMul, Nat.reduceBEq, Int.reduceLT, Int.reduceLE, Int.reduceToNat, Int.reduceNeg, Int.reducePow, Int.reduceAdd, Int.reduceMul, Int.reduceSub, ↓Int.reduceNatCast', hf]
    · rw [show max a.length b.length - i = 0 by omega, firstF_end] at hf
      simp (disch := omega) only [push_cast, ↓wF_free, ↓reduceIte, Nat.reduceEqDiff, Nat.reduceLT, Nat.reduceLeDiff, Nat.reduceAdd, Nat.reduceSub, Nat.reduceMul, Nat.reduceBEq, Int.reduceLT, Int.reduceLE, Int.reduceToNat, Int.reduceNeg, Int.reducePow, Int.reduceAdd, Int.reduceMul, Int.reduceSub, ↓Int.reduceNatCast', h1, h3, hf]
theorem c_rFirst : Contract Tryd.prog GG 25 sp_rFirst :=
  contract_of tr_wagonpoolref04_First (tb_ok (all_cons c_rAt all_nil) all_nil) (fun a h => w_rFirst a.1 a.2 h)


noncomputable def sp_mIncludes : List D → Option D := spOf (α := (Int × Dig) × Int × Dig × List Dig) (fun a => [.agg (.int .i64 (Prod.fst a.1) :: digC (Prod.snd a.1)), .int .i64 a.2.1, digD a.2.2.1, .slc (nz 32 (a.2.2.2.map digD)) (a.2.2.2.map digD) false]) (fun a => -9223372036854775808 ≤ a.2.1 ∧ a.2.1 < 9223372036854775808) (fun a => .bool (includesL a.1 a.2.1 a.2.2.1 a.2.2.2))
theorem call_mIncludes (c : Int × Dig) (i : Int) (x : Dig) (p : List Dig) (h : -9223372036854775808 ≤ i ∧ i < 9223372036854775808) : sp_mIncludes [.agg (.int .i64 (Prod.fst c) :: digC (Prod.snd c)), .int .i64 i, digD x, .slc (nz 32 (p.map digD)) (p.map digD) false] = some (.bool (includesL c i x p)) :=
  spOf_enc (fun ⟨a0, a1, a2, a3⟩ ⟨b0, b1, b2, b3⟩ h => by simp only [List.cons.injEq, D.slc.injEq, D.int.injEq, D.bool.injEq, D.str.injEq, D.agg.injEq, digs_iff, dig_iff, digC_iff, bytes_iff, byte_iff, words_iff, word_iff, Sha.St8.list_iff, bsl_iff, true_and, and_true, bisD_iff] at h; simp [h, Prod.ext_iff]) (c, i, x, p) h
set_option maxHeartbeats 4000000 in
set_option maxRecDepth 20000 in
theorem w_mIncludes (c : Int × Dig) (i : Int) (x : Dig) (p : List Dig) (h : -9223372036854775808 ≤ i ∧ i < 9223372036854775808) : @wW GG (tb [(22, sp_mDepth), (27, sp_mParent)] []) F_merkle_Includes.code (argF [.agg (.int .i64 (Prod.fst c) :: digC (Prod.snd c)), .int .i64 i, digD x, .slc (nz 32 (p.map digD)) (p.map digD) false]) [] ⟨retQ F_merkle_Includes.res (.bool (includesL c i x p))⟩ := by
  obtain ⟨n, r⟩ := c
  unfold F_merkle_Includes
  simp (disch := omega) only [push_cast, ↓wF_free, ↓reduceIte, Nat.reduceEqDiff, Nat.reduceLT, Nat.reduceLeDiff, Nat.reduceAdd, Nat.reduceSub, Nat.reduceMul, Nat.reduceBEq, Int.reduceLT, Int.reduceLE, Int.reduceToNat, Int.reduceNeg, Int.reducePow, Int.reduceAdd, Int.reduceMul, Int.reduceSub, ↓Int.reduceNatCast', call_mDepth]
  refine ifD_split (fun h1 => ?_) (fun h1 => ?_)
  · have e : includesL (n, r) i x p = false := by unfold includesL; simp; omega
    simp (disch := omega) only [push_cast, ↓wF_free, ↓reduceIte, Nat.reduceEqDiff, Nat.reduceLT, Nat.reduceLeDiff, Nat.reduceAdd, Nat.reduceSub, Nat.reduceMul, Nat.reduceBEq, Int.reduceLT, Int.reduceLE, Int.reduceToNat, Int.reduceNeg, Int.reducePow, Int.reduceAdd, Int.reduceMul, Int.reduceSub, ↓Int.reduceNatCast', h1, e]
  · have hd : 0 ≤ n ∧ n ≤ 65536 := by
      by_cases hb : n < 0 ∨ 65536 < n
      · rw [depthL_bad hb] at h1; omega
      · omega
    obtain ⟨e1, e2, e3⟩ := depthL_ok hd.1 hd.2
    simp (disch := omega) only [push_cast, ↓wF_free, ↓reduceIte, Nat.reduceEqDiff, Nat.reduceLT, Nat.reduceLeDiff, Nat.reduceAdd, Nat.reduceSub, Nat.reduceMul, Nat.reduceBEq, Int.reduceLT, Int.reduceLE, Int.reduceToNat, Int.reduceNeg, Int.reducePow, Int.reduceAdd, Int.reduceMul, Int.reduceSub, ↓Int.reduceNatCast', h1]
    refine ifD_split (fun h2 => ?_) (fun h2 => ?_)
    · have e : includesL (n, r) i x p = false := by unfold includesL; simp; omega
      simp (disch := omega) only [push_cast, ↓wF_free, ↓reduceIte, Nat.reduceEqDiff, Nat.reduceLT, Nat.reduceLeDiff, Nat.reduceAdd, Nat.reduceSub, Nat.reduceMul, Nat.reduceBEq, Int.reduceLT, Int.reduceLE, Int.reduceToNat, Int.reduceNeg, Int.reducePow, Int.reduceAdd, Int.reduceMul, Int.reduceSub, ↓Int.reduceNatCast', h1, h2, e]
    · simp (disch := omega) only [push_cast, ↓wF_free, ↓reduceIte, Nat.reduceEqDiff, Nat.reduceLT, Nat.reduceLeDiff, Nat.reduceAdd, Nat.reduceSub, Nat.reduceMul, Nat.reduceBEq, Int.reduceLT, Int.reduceLE, Int.reduceToNat, Int.reduceNeg, Int.reducePow, Int.reduceAdd, Int.reduceMul, Int.reduceSub, ↓Int.reduceNatCast', h1, h2, shl_one]
      refine ifD_split (fun h3 => ?_) (fun h3 => ?_)
      · have e : includesL (n, r) i x p = false := by unfold includesL; simp; omega
        simp (disch := omega) only [push_cast, ↓wF_free, ↓reduceIte, Nat.reduceEqDiff, Nat.reduceLT, Nat.reduceLeDiff, Nat.reduceAdd, Nat.reduceSub, Nat.reduceMul, Nat.reduceBEq, Int.reduceLT, Int.reduceLE, Int.reduceToNat, Int.reduceNeg, Int.reducePow, Int.reduceAdd, Int.reduceMul, Int.reduceSub, ↓Int.reduceNatCast', h1, h2, h3, e]
      · simp (disch := omega) only [push_cast, ↓wF_free, ↓reduceIte, Nat.reduceEqDiff, Nat.reduceLT, Nat.reduceLeDiff, Nat.reduceAdd, Nat.reduceSub, Nat.reduceMul, Nat.reduceBEq, Int.reduceLT, Int.reduceLE, Int.reduceToNat, Int.reduceNeg, Int.reducePow, Int.reduceAdd, Int.reduceMul, Int.reduceSub, ↓Int.reduceNatCast', h1, h2, h3]
        refine ifD_split (fun h4 => ?_) (fun h4 => ?_)
        · have e : includesL (n, r) i x p = decide (climbL i.toNat x p = r) := by
            unfold includesL
            simp only [show 0 ≤ depthL n from e2, show 0 ≤ i by omega, show i < 2 ^ (depthL n).toNat by omega, h4, true_and]
          rw [e]
          simp (disch := omega) only [push_cast, ↓wF_free, ↓reduceIte, Nat.reduceEqDiff, Nat.reduceLT, Nat.reduceLeDiff, Nat.reduceAdd, Nat.reduceSub, Nat.reduceMul, Nat.reduceBEq, Int.reduceLT, Int.reduceLE, Int.reduceToNat, Int.reduceNeg, Int.reducePow, Int.reduceAdd, Int.reduceMul, Int.reduceSub, ↓Int.reduceNatCast', h1, h2, h3, h4]
          have hp : p.length ≤ 16 := by omega
          have h16 : (2 : Int) ^ (depthL n).toNat ≤ 2 ^ 16 := pow_mono (by omega)
          refine W_while (fun q : Nat × Dig => [(1, .int .i64 i), (3, .slc (nz 32 (p.map digD)) (p.map digD) false), (4, .ptr 0 0), (6, .ptr 1 0), (33, .int .i64 (p.length : Int)), (34, .int .i64 (q.1 : Int))])
            (fun q => [⟨false, 1, .int .i64 n :: digC r, false⟩, ⟨false, 1, digC q.2, false⟩])
            (fun q => q.1 ≤ p.length ∧ climbL i.toNat x p = climbL (i.toNat / 2 ^ q.1) q.2 (p.drop q.1)) (fun q => p.length - q.1) (0, x) (by simp only [push_cast, ↓wF_free, ↓reduceIte, Nat.reduceEqDiff, Nat.reduceLT, Nat.reduceLeDiff, Nat.reduceAdd, Nat.reduceSub, Nat.reduceMul, Nat.reduceBEq, Int.reduceLT, Int.reduceLE, Int.reduceToNat, Int.reduceNeg, Int.reducePow, Int.reduceAdd, Int.reduceMul, Int.reduceSub, ↓Int.reduceNatCast', h4] <;> rfl) ⟨Nat.zero_le _, by simp⟩ ?_
          rintro ⟨j, y⟩ ⟨h5, h6⟩
          simp only at h5 h6
          unfold F_merkle_Includes_L0
          simp only [push_cast, ↓wF_free, ↓reduceIte, Nat.reduceEqDiff, Nat.reduceLT, Nat.reduceLeDiff, Nat.reduceAdd, Nat.reduceSub, Nat.reduceMul, Nat.reduceBEq, Int.reduceLT, Int.reduceLE, Int.reduceToNat, Int.reduceNeg, Int.reducePow, Int.reduceAdd, Int.reduceMul, Int.reduceSub, ↓Int.reduceNatCast']
          refine ifD_split (fun h7 => ?_) (fun h7 => ?_)
          · rw [drop_getD p j (by omega), climbL, Nat.div_div_eq_div_mul, ← Nat.pow_succ] at h6
            have h8 := pow_pos2 j
            have h9 : 0 ≤ i / 2 ^ j := Int.ediv_nonneg (by omega) (by omega)
            have h10 : i / 2 ^ j ≤ i := Int.ediv_le_self _ (by omega)
            have h11 : (i / 2 ^ j) % 2 = ((i.toNat / 2 ^ j % 2 : Nat) : Int) := by
              have : i = (i.toNat : Int) := by omega
              rw [this]; simp
            simp (disch := omega) only [push_cast, ↓wF_free, ↓reduceIte, Nat.reduceEqDiff, Nat.reduceLT, Nat.reduceLeDiff, Nat.reduceAdd, Nat.reduceSub, Nat.reduceMul, Nat.reduceBEq, Int.reduceLT, Int.reduceLE, Int.reduceToNat, Int.reduceNeg, Int.reducePow, Int.reduceAdd, Int.reduceMul, Int.reduceSub, ↓Int.reduceNatCast', shr_s, and_one]
            refine ifD_split (fun h12 => ?_) (fun h12 => ?_)
            · rw [if_pos (show i.toNat / 2 ^ j % 2 = 0 by omega)] at h6
              simp (disch := omega) only [push_cast, ↓wF_free, ↓reduceIte, Nat.reduceEqDiff, Nat.reduceLT, Nat.reduceLeDiff, Nat.reduceAdd, Nat.reduceSub, Nat.reduceMul, Nat.reduceBEq, Int.reduceLT, Int.reduceLE, Int.reduceToNat, Int.reduceNeg, Int.reducePow, Int.reduceAdd, Int.reduceMul, Int.reduceSub, ↓Int.reduceNatCast', idxS_nz, call_mParent, add_i]
              refine next_head (j + 1, parentL y (p.getD j default)) ⟨by show j + 1 ≤ _; omega, h6⟩ (by show p.length - (j + 1) < p.length - j; omega) ?_
              rfl
            · rw [if_neg (show ¬ i.toNat / 2 ^ j % 2 = 0 by omega)] at h6
              simp (disch := omega) only [push_cast, ↓wF_free, ↓reduceIte, Nat.reduceEqDiff, Nat.reduceLT, Nat.reduceLeDiff, Nat.reduceAdd, Nat.reduceSub, Nat.reduceMul, Nat.reduceBEq, Int.reduceLT, Int.reduceLE, Int.reduceToNat, Int.reduceNeg, Int.reducePow, Int.reduceAdd, Int.reduceMul, Int.reduceSub, ↓Int.reduceNatCast', idxS_nz, call_mParent, add_i]
              refine next_head (j + 1, parentL (p.getD j default) y) ⟨by show j + 1 ≤ _; omega, h6⟩ (by show p.length - (j + 1) < p.length - j; omega) ?_
              rfl
          · rw [List.drop_of_length_le (by omega)] at h6
            have h6 : climbL i.toNat x p = y := h6
            simp (disch := omega) only [push_cast, ↓wF_free, ↓reduceIte, Nat.reduceEqDiff, Nat.reduceLT, Nat.reduceLeDiff, Nat.reduceAdd, Nat.reduceSub, Nat.reduceMul, Nat.reduceBEq, Int.reduceLT, Int.reduceLE, Int.reduceToNat, Int.reduceNeg, Int.reducePow, Int.reduceAdd, Int.reduceMul, Int.reduceSub, ↓Int.reduceNatCast', h6]
        · have e : includesL (n, r) i x p = false := by
            unfold includesL
            simp
            intro _ _ _ h5
            exact absurd h5 h4
          simp (disch := omega) only [push_cast, ↓wF_free, ↓reduceIte, Nat.reduceEqDiff, Nat.reduceLT, Nat.reduceLeDiff, Nat.reduceAdd, Nat.reduceSub, Nat.reduceMul, Nat.reduceBEq, Int.reduceLT, Int.reduceLE, Int.reduceToNat, Int.reduceNeg, Int.reducePow, Int.reduceAdd, Int.reduceMul, Int.reduceSub, ↓Int.reduceNatCast', h1, h2, h3, h4, e]
theorem c_mIncludes : Contract Tryd.prog GG 19 sp_mIncludes :=
  contract_of tr_merkle_Includes (tb_ok (all_cons c_mDepth (all_cons c_mParent all_nil)) all_nil) (fun a h => w_mIncludes a.1 a.2.1 a.2.2.1 a.2.2.2 h)


noncomputable def sp_above : List D → Option D := spOf (α := List Dig × Dig) (fun a => [.slc (nz 32 (a.1.map digD)) (a.1.map digD) false, digD a.2]) (fun a => a.1.length ≤ 65536) (fun a => .slc (nz 32 ((upL a.2 a.1).map digD)) ((upL a.2 a.1).map digD) false)
theorem call_above (row : List Dig) (pad : Dig) (h : row.length ≤ 65536) : sp_above [.slc (nz 32 (row.map digD)) (row.map digD) false, digD pad] = some (.slc (nz 32 ((upL pad row).map digD)) ((upL pad row).map digD) false) :=
  spOf_enc (fun ⟨a0, a1⟩ ⟨b0, b1⟩ h => by simp only [List.cons.injEq, D.slc.injEq, D.int.injEq, D.bool.injEq, D.str.injEq, D.agg.injEq, digs_iff, dig_iff, digC_iff, bytes_iff, byte_iff, words_iff, word_iff, Sha.St8.list_iff, bsl_iff, true_and, and_true, bisD_iff] at h; simp [h, Prod.ext_iff]) (row, pad) h
set_option maxHeartbeats 4000000 in
set_option maxRecDepth 20000 in
theorem w_above (row : List Dig) (pad : Dig) (h : row.length ≤ 65536) : @wW GG (tb [(38, sp_rParent)] []) F_wagonpoolref04_above.code (argF [.slc (nz 32 (row.map digD)) (row.map digD) false, digD pad]) [] ⟨retQ F_wagonpoolref04_above.res (.slc (nz 32 ((upL pad row).map digD)) ((upL pad row).map digD) false)⟩ := by
  unfold F_wagonpoolref04_above
  have hul := upL_length pad row
  simp (disch := omega) only [push_cast, ↓wF_free, ↓reduceIte, Nat.reduceEqDiff, Nat.reduceLT, Nat.reduceLeDiff, Nat.reduceAdd, Nat.reduceSub, Nat.reduceMul, Nat.reduceBEq, Int.reduceLT, Int.reduceLE, Int.reduceToNat, Int.reduceNeg, Int.reducePow, Int.reduceAdd, Int.reduceMul, Int.reduceSub, ↓Int.reduceNatCast', nil_bufD1 32 1]
  refine W_while (fun j : Nat => [(0, .slc (nz 32 (row.map digD)) (row.map digD) false), (3, .ptr 0 0), (5, bufD 32 1 (((upL pad row).take j).map digD)), (6, .int .i64 (2 * (j : Int)))])
    (fun j => ⟨false, 1, digC pad, false⟩ :: bufS 32 (((upL pad row).take j).map digD)) (fun j => 2 * j ≤ row.length + 1) (fun j => row.length + 1 - j) 0 (by simp only [push_cast, ↓wF_free, ↓reduceIte, Nat.reduceEqDiff, Nat.reduceLT, Nat.reduceLeDiff, Nat.reduceAdd, Nat.reduceSub, Nat.reduceMul, Nat.reduceBEq, Int.reduceLT, Int.reduceLE, Int.reduceToNat, Int.reduceNeg, Int.reducePow, Int.reduceAdd, Int.reduceMul, Int.reduceSub, ↓Int.reduceNatCast'] <;> rfl) (by omega) ?_
  intro j hj
  unfold F_wagonpoolref04_above_L0
  have e0 : (2 * (j : Int)).toNat = 2 * j := by omega
  have e5 : (2 * (j : Int) + 2) = 2 * ((j + 1 : Nat) : Int) := by omega
  by_cases h1 : 2 * (j : Int) < (row.length : Int)
  · have e := upL_take pad row j (by omega)
    rcases j with _ | j
    · have h1' : (0 : Int) < (row.length : Int) := by omega
      have e' : (upL pad row).take 1 = [parentL (row.getD 0 default) (atL row 1 pad)] := e
      simp (disch := omega) only [push_cast, ↓wF_free, ↓reduceIte, Nat.reduceEqDiff, Nat.reduceLT, Nat.reduceLeDiff, Nat.reduceAdd, Nat.reduceSub, Nat.reduceMul, Nat.reduceBEq, Int.reduceLT, Int.reduceLE, Int.reduceToNat, Int.reduceNeg, Int.reducePow, Int.reduceAdd, Int.reduceMul, Int.reduceSub, ↓Int.reduceNatCast', h1', add_i, bufS_nil, bufD_nil]
      refine ifD_split (fun h2 => ?_) (fun h2 => ?_)
      · have ea : atL row 1 pad = row.getD 1 default := by unfold atL; rw [if_pos h2]; rfl
        simp (disch := first | omega | decide) only [push_cast, ↓wF_free, ↓reduceIte, Nat.reduceEqDiff, Nat.reduceLT, Nat.reduceLeDiff, Nat.reduceAdd, Nat.reduceSub, Nat.reduceMul, Nat.reduceBEq, Int.reduceLT, Int.reduceLE, Int.reduceToNat, Int.reduceNeg, Int.reducePow, Int.reduceAdd, Int.reduceMul, Int.reduceSub, ↓Int.reduceNatCast', add_i, idxS_nz, call_rParent, papp_first1]
        refine next_head 1 (by omega) (by omega) ?_
        rw [e', ea]
        rfl
      · have ea : atL row 1 pad = pad := by unfold atL; rw [if_neg h2]
        simp (disch := first | omega | decide) only [push_cast, ↓wF_free, ↓reduceIte, Nat.reduceEqDiff, Nat.reduceLT, Nat.reduceLeDiff, Nat.reduceAdd, Nat.reduceSub, Nat.reduceMul, Nat.reduceBEq, Int.reduceLT, Int.reduceLE, Int.reduceToNat, Int.reduceNeg, Int.reducePow, Int.reduceAdd, Int.reduceMul, Int.reduceSub, ↓Int.reduceNatCast', add_i, idxS_nz, call_rParent, papp_first1]
        refine next_head 1 (by omega) (by omega) ?_
        rw [e', ea]
        rfl
    · obtain ⟨A, x, hA⟩ : ∃ A x, (upL pad row).take (j + 1) = A ++ [x] := ⟨_, _, upL_take pad row j (by omega)⟩
      have hl : (A ++ [x]).length = j + 1 := by rw [← hA, List.length_take]; omega
      rw [hA] at e ⊢
      have h1' : 2 * ((j : Int) + 1) < (row.length : Int) := by omega
      have e6 : (2 * ((j : Int) + 1)).toNat = 2 * (j + 1) := by omega
      have e7 : (2 * ((j : Int) + 1) + 1).toNat = 2 * (j + 1) + 1 := by omega
      have e8 : (2 * ((j : Int) + 1) + 2) = 2 * ((j + 1 + 1 : Nat) : Int) := by omega
      have e9 : 2 * ((j + 1 : Nat) : Int) + 1 = 2 * ((j : Int) + 1) + 1 := by omega
      rw [e9] at e
      simp (disch := omega) only [push_cast, ↓wF_free, ↓reduceIte, Nat.reduceEqDiff, Nat.reduceLT, Nat.reduceLeDiff, Nat.reduceAdd, Nat.reduceSub, Nat.reduceMul, Nat.reduceBEq, Int.reduceLT, Int.reduceLE, Int.reduceToNat, Int.reduceNeg, Int.reducePow, Int.reduceAdd, Int.reduceMul, Int.reduceSub, ↓Int.reduceNatCast', h1', add_i, mul_i, bufD_snoc, bufS_snoc]
      refine ifD_split (fun h2 => ?_) (fun h2 => ?_)
      · have ea : atL row (2 * ((j : Int) + 1) + 1) pad = row.getD (2 * (j + 1) + 1) default := by unfold atL; rw [if_pos h2, e7]
        rw [ea] at e
        simp (disch := first | omega | decide) only [push_cast, ↓wF_free, ↓reduceIte, Nat.reduceEqDiff, Nat.reduceLT, Nat.reduceLeDiff, Nat.reduceAdd, Nat.reduceSub, Nat.reduceMul, Nat.reduceBEq, Int.reduceLT, Int.reduceLE, Int.reduceToNat, Int.reduceNeg, Int.reducePow, Int.reduceAdd, Int.reduceMul, Int.reduceSub, ↓Int.reduceNatCast', add_i, idxS_nz, call_rParent, e6, e7]
        refine next_head (j + 1 + 1) (by omega) (by omega) ?_
        rw [e, bufD_snoc, bufS_snoc, e8]
      · have ea : atL row (2 * ((j : Int) + 1) + 1) pad = pad := by unfold atL; rw [if_neg h2]
        rw [ea] at e
        simp (disch := first | omega | decide) only [push_cast, ↓wF_free, ↓reduceIte, Nat.reduceEqDiff, Nat.reduceLT, Nat.reduceLeDiff, Nat.reduceAdd, Nat.reduceSub, Nat.reduceMul, Nat.reduceBEq, Int.reduceLT, Int.reduceLE, Int.reduceToNat, Int.reduceNeg, Int.reducePow, Int.reduceAdd, Int.reduceMul, Int.reduceSub, ↓Int.reduceNatCast', add_i, idxS_nz, call_rParent, e6]
        refine next_head (j + 1 + 1) (by omega) (by omega) ?_
        rw [e, bufD_snoc, bufS_snoc, e8]
  · have e : (upL pad row).take j = upL pad row := List.take_of_length_le (by omega)
    simp (disch := omega) only [push_cast, ↓wF_free, ↓reduceIte, Nat.reduceEqDiff, Nat.reduceLT, Nat.reduceLeDiff, Nat.reduceAdd, Nat.reduceSub, Nat.reduceMul, Nat.reduceBEq, Int.reduceLT, Int.reduceLE, Int.reduceToNat, Int.reduceNeg, Int.reducePow, Int.reduceAdd, Int.reduceMul, Int.reduceSub, ↓Int.reduceNatCast', h1, e]
theorem c_above : Contract Tryd.prog GG 57 sp_above :=
  contract_of tr_wagonpoolref04_above (tb_ok (all_cons c_rParent all_nil) all_nil) (fun a h => w_above a.1 a.2 h)

end Go.Proofs.YtokhnpjchpmndaaDoor.PI
