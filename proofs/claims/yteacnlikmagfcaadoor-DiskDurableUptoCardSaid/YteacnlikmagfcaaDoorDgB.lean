/-
  digest: what the program's sum and Tagged compute.
  Conditions: none; these are lemmas.
-/
import Derived.Test.YteacnlikmagfcaaDoorDgA
import Derived.Test.YteacnlikmagfcaaDoorEngB2
namespace Go.Proofs.YteacnlikmagfcaaDoor.PI
open Go
set_option linter.unusedSimpArgs false
set_option linter.unusedVariables false

theorem mul_q8 (n : Nat) : pbin .mul (.int .u64 (n : Int)) (.int .u64 8) = some (qD (UInt64.ofNat n * 8)) := by
  have e : (n : Int) * 8 = ((n * 8 : Nat) : Int) := by omega
  simp only [pbin, if_true, iarith, Option.map_some, e, wrap_u64, qD]
  congr 3
  simp
theorem b128 : D.int .u8 128 = byteD 128 := rfl
theorem b0 : D.int .u8 0 = byteD 0 := rfl
theorem qD_ren (n : Nat) (σ : List Nat) (x : UInt64) : ren n σ (qD x) = qD x := rfl
theorem qD_hk (x : UInt64) : hk (qD x) = [] := rfl
theorem flatten_take_le {α : Type} (l : List (List α)) (i : Nat) : (l.take i).flatten.length ≤ l.flatten.length := by
  have : l.flatten = (l.take i).flatten ++ (l.drop i).flatten := by rw [← List.flatten_append, List.take_append_drop]
  rw [this, List.length_append]
  omega
theorem blocks_succ (s : Sha.St8) : ∀ (i : Nat) (m : List UInt8), Sha.blocks s (i + 1) m = Sha.block (Sha.blocks s i m) ((m.drop (64 * i)).take 64)
  | 0, m => by simp [Sha.blocks]
  | i + 1, m => by
    rw [Sha.blocks, blocks_succ (Sha.block s (m.take 64)) i (m.drop 64), Sha.blocks, List.drop_drop, show 64 + 64 * i = 64 * (i + 1) by omega]
theorem padded_mod (m : List UInt8) : (Sha.padded m).length = m.length + 1 + Sha.zeros m.length + 8 ∧ (Sha.padded m).length % 64 = 0 := by
  have h : (Sha.padded m).length = m.length + 1 + Sha.zeros m.length + 8 := by
    simp [Sha.padded, Sha.lenB_length]; omega
  refine ⟨h, ?_⟩
  rw [h]; unfold Sha.zeros; omega
def outZ (l : List UInt32) (i : Nat) : List UInt8 := Sha.outB l i ++ List.replicate (32 - i) 0
theorem outZ_length (l : List UInt32) (i : Nat) (h : i ≤ 32) : (outZ l i).length = 32 := by
  simp [outZ, Sha.outB_length]; omega
theorem outZ_set (l : List UInt32) (i : Nat) (h : i < 32) : (outZ l i).set i ((l.getD (i / 4) 0 >>> UInt32.ofNat (24 - 8 * (i % 4))).toUInt8) = outZ l (i + 1) := by
  have h2 : (Sha.outB l i).length = i := Sha.outB_length l i
  unfold outZ
  rw [Sha.outB, List.set_append_right _ _ (by omega), h2, Nat.sub_self, show 32 - i = (32 - (i + 1)) + 1 by omega, List.replicate_succ, List.set_cons_zero, List.append_assoc]
  rfl
def viewD (sz key tot off : Nat) : D := if off < tot then .row key tot off (tot - off) else .slc sz [] false
theorem viewD_lt {sz key tot off : Nat} (h : off < tot) : viewD sz key tot off = .row key tot off (tot - off) := if_pos h
theorem viewD_ge {sz key tot off : Nat} (h : ¬ off < tot) : viewD sz key tot off = .slc sz [] false := if_neg h

noncomputable def sp_sum : List D → Option D := spOf (α := List (List UInt8)) (fun a => [.slc (nz 1 (a.map bsD)) (a.map bsD) false]) (fun a => a.flatten.length ≤ 4294960000 ∧ a.length ≤ 4294960000) (fun a => digD (shaL a.flatten))
theorem call_sum (ps : List (List UInt8)) (h : ps.flatten.length ≤ 4294960000 ∧ ps.length ≤ 4294960000) : sp_sum [.slc (nz 1 (ps.map bsD)) (ps.map bsD) false] = some (digD (shaL ps.flatten)) :=
  spOf_enc (fun a b h => by simp only [List.cons.injEq, D.slc.injEq, D.int.injEq, D.bool.injEq, D.str.injEq, D.agg.injEq, digs_iff, dig_iff, digC_iff, bytes_iff, byte_iff, words_iff, word_iff, Sha.St8.list_iff, bsl_iff, true_and, and_true] at h; simp [h, Prod.ext_iff]) (ps) h
set_option maxHeartbeats 4000000 in
set_option maxRecDepth 20000 in
theorem w_sum (ps : List (List UInt8)) (h : ps.flatten.length ≤ 4294960000 ∧ ps.length ≤ 4294960000) : @wW GG (tb [(40, sp_block)] []) F_digest_sum.code (argF [.slc (nz 1 (ps.map bsD)) (ps.map bsD) false]) [] ⟨retQ F_digest_sum.res (digD (shaL ps.flatten))⟩ := by
  obtain ⟨h, hps⟩ := h
  generalize hm : ps.flatten = m at h
  unfold F_digest_sum
  simp only [push_cast, ↓wF_free, ↓reduceIte, Nat.reduceEqDiff, Nat.reduceLT, Nat.reduceLeDiff, Nat.reduceAdd, Nat.reduceSub, Nat.reduceMul, Nat.reduceBEq, Int.reduceLT, Int.reduceLE, Int.reduceToNat, Int.reduceNeg, Int.reducePow, Int.reduceAdd, Int.reduceMul, Int.reduceSub, ↓Int.reduceNatCast', nil_bufD 1]
  refine W_while (fun i : Nat => [(2, .ptr 0 0), (3, bufD 0 1 ((ps.take i).flatten.map byteD)), (10, .slc (nz 1 (ps.map bsD)) (ps.map bsD) false), (11, .int .i64 (ps.length : Int)), (12, .int .i64 (i : Int))])
    (fun i => ⟨false, 1, digC zeroDig, false⟩ :: bufS 1 ((ps.take i).flatten.map byteD)) (fun i => i ≤ ps.length) (fun i => ps.length - i) 0 (by simp only [push_cast, ↓wF_free, ↓reduceIte, Nat.reduceEqDiff, Nat.reduceLT, Nat.reduceLeDiff, Nat.reduceAdd, Nat.reduceSub, Nat.reduceMul, Nat.reduceBEq, Int.reduceLT, Int.reduceLE, Int.reduceToNat, Int.reduceNeg, Int.reducePow, Int.reduceAdd, Int.reduceMul, Int.reduceSub, ↓Int.reduceNatCast'] <;> rfl) (by omega) ?_
  intro i hi
  unfold F_digest_sum_L0
  simp only [push_cast, ↓wF_free, ↓reduceIte, Nat.reduceEqDiff, Nat.reduceLT, Nat.reduceLeDiff, Nat.reduceAdd, Nat.reduceSub, Nat.reduceMul, Nat.reduceBEq, Int.reduceLT, Int.reduceLE, Int.reduceToNat, Int.reduceNeg, Int.reducePow, Int.reduceAdd, Int.reduceMul, Int.reduceSub, ↓Int.reduceNatCast']
  refine ifD_split (fun h1 => ?_) (fun h1 => ?_)
  · have e : (ps.take (i + 1)).flatten = (ps.take i).flatten ++ ps.getD i default := by
      rw [take_getD ps i (by omega), List.flatten_append]; simp
    have hl := flatten_take_le ps (i + 1)
    rw [e, List.length_append, hm] at hl
    simp (disch := first | omega | decide) only [push_cast, ↓wF_free, ↓reduceIte, Nat.reduceEqDiff, Nat.reduceLT, Nat.reduceLeDiff, Nat.reduceAdd, Nat.reduceSub, Nat.reduceMul, Nat.reduceBEq, Int.reduceLT, Int.reduceLE, Int.reduceToNat, Int.reduceNeg, Int.reducePow, Int.reduceAdd, Int.reduceMul, Int.reduceSub, ↓Int.reduceNatCast', idxS_nz, add_i]
    refine next_head (i + 1) (by omega) (by omega) ?_
    rw [e]
    simp only [push_cast, ↓wF_free, ↓reduceIte, Nat.reduceEqDiff, Nat.reduceLT, Nat.reduceLeDiff, Nat.reduceAdd, Nat.reduceSub, Nat.reduceMul, Nat.reduceBEq, Int.reduceLT, Int.reduceLE, Int.reduceToNat, Int.reduceNeg, Int.reducePow, Int.reduceAdd, Int.reduceMul, Int.reduceSub, ↓Int.reduceNatCast'] <;> rfl
  · obtain rfl : i = ps.length := by omega
    rw [List.take_length, hm]
    have hne : (m ++ [128]).map byteD ≠ [] := by simp
    simp (disch := first | omega | decide) only [push_cast, ↓wF_free, ↓reduceIte, Nat.reduceEqDiff, Nat.reduceLT, Nat.reduceLeDiff, Nat.reduceAdd, Nat.reduceSub, Nat.reduceMul, Nat.reduceBEq, Int.reduceLT, Int.reduceLE, Int.reduceToNat, Int.reduceNeg, Int.reducePow, Int.reduceAdd, Int.reduceMul, Int.reduceSub, ↓Int.reduceNatCast', conv_iu, mul_q8, b128, bufD_ne _ _ _ hne, bufS_ne _ _ hne]
    generalize hq : UInt64.ofNat m.length * 8 = q
    refine W_while (fun j : Nat => [(2, .ptr 0 0), (3, .row 1 (m ++ [128] ++ List.replicate j 0).length 0 (m ++ [128] ++ List.replicate j 0).length), (6, qD q)])
      (fun j => [⟨false, 1, digC zeroDig, false⟩, ⟨true, 1, (m ++ [128] ++ List.replicate j 0).map byteD, false⟩]) (fun j => j ≤ Sha.zeros m.length) (fun j => Sha.zeros m.length - j) 0 (by simp only [push_cast, ↓wF_free, ↓reduceIte, Nat.reduceEqDiff, Nat.reduceLT, Nat.reduceLeDiff, Nat.reduceAdd, Nat.reduceSub, Nat.reduceMul, Nat.reduceBEq, Int.reduceLT, Int.reduceLE, Int.reduceToNat, Int.reduceNeg, Int.reducePow, Int.reduceAdd, Int.reduceMul, Int.reduceSub, ↓Int.reduceNatCast', List.replicate_zero, List.append_nil] <;> rfl) (by omega) ?_
    intro j hj
    have hlen : (m ++ [128] ++ List.replicate j 0).length = m.length + 1 + j := by simp; omega
    have hz2 : (m.length + 1 + Sha.zeros m.length) % 64 = 56 := by unfold Sha.zeros; omega
    have hz : Sha.zeros m.length < 64 := by unfold Sha.zeros; omega
    unfold F_digest_sum_L1
    simp (disch := first | omega | decide) only [push_cast, ↓wF_free, ↓reduceIte, Nat.reduceEqDiff, Nat.reduceLT, Nat.reduceLeDiff, Nat.reduceAdd, Nat.reduceSub, Nat.reduceMul, Nat.reduceBEq, Int.reduceLT, Int.reduceLE, Int.reduceToNat, Int.reduceNeg, Int.reducePow, Int.reduceAdd, Int.reduceMul, Int.reduceSub, ↓Int.reduceNatCast', rem_i]
    refine ifD_split (fun h2 => ?_) (fun h2 => ?_)
    · obtain rfl : j = Sha.zeros m.length := by
        unfold Sha.zeros at hj ⊢; omega
      simp only [push_cast, ↓wF_free, ↓reduceIte, Nat.reduceEqDiff, Nat.reduceLT, Nat.reduceLeDiff, Nat.reduceAdd, Nat.reduceSub, Nat.reduceMul, Nat.reduceBEq, Int.reduceLT, Int.reduceLE, Int.reduceToNat, Int.reduceNeg, Int.reducePow, Int.reduceAdd, Int.reduceMul, Int.reduceSub, ↓Int.reduceNatCast']
      have hmz : (m ++ [128] ++ List.replicate (Sha.zeros m.length) 0) = (m ++ [128] ++ List.replicate (Sha.zeros m.length) 0) ++ Sha.lenB q 0 := (List.append_nil _).symm
      generalize hM : m ++ [128] ++ List.replicate (Sha.zeros m.length) 0 = M at hlen hmz h2
      refine W_while (fun j : Nat => [(2, .ptr 0 0), (3, .row 1 (M ++ Sha.lenB q j).length 0 (M ++ Sha.lenB q j).length), (6, qD q), (7, .int .i64 (56 - 8 * (j : Int)))])
        (fun j => [⟨false, 1, digC zeroDig, false⟩, ⟨true, 1, (M ++ Sha.lenB q j).map byteD, false⟩]) (fun j => j ≤ 8) (fun j => 8 - j) 0 (by rw [← hmz]; simp only [push_cast, ↓wF_free, ↓reduceIte, Nat.reduceEqDiff, Nat.reduceLT, Nat.reduceLeDiff, Nat.reduceAdd, Nat.reduceSub, Nat.reduceMul, Nat.reduceBEq, Int.reduceLT, Int.reduceLE, Int.reduceToNat, Int.reduceNeg, Int.reducePow, Int.reduceAdd, Int.reduceMul, Int.reduceSub, ↓Int.reduceNatCast'] <;> rfl) (by omega) ?_
      intro j hj
      have hl2 : (M ++ Sha.lenB q j).length = M.length + j := by rw [List.length_append, Sha.lenB_length]
      unfold F_digest_sum_L2
      simp only [push_cast, ↓wF_free, ↓reduceIte, Nat.reduceEqDiff, Nat.reduceLT, Nat.reduceLeDiff, Nat.reduceAdd, Nat.reduceSub, Nat.reduceMul, Nat.reduceBEq, Int.reduceLT, Int.reduceLE, Int.reduceToNat, Int.reduceNeg, Int.reducePow, Int.reduceAdd, Int.reduceMul, Int.reduceSub, ↓Int.reduceNatCast']
      refine ifD_split (fun h3 => ?_) (fun h3 => ?_)
      · have e : (56 - 8 * (j : Int)).toNat = 56 - 8 * j := by omega
        have e2 : M ++ Sha.lenB q (j + 1) = (M ++ Sha.lenB q j) ++ [(q >>> UInt64.ofNat (56 - 8 * j)).toUInt8] := by rw [Sha.lenB, List.append_assoc]
        simp (disch := first | omega | decide) only [push_cast, ↓wF_free, ↓reduceIte, Nat.reduceEqDiff, Nat.reduceLT, Nat.reduceLeDiff, Nat.reduceAdd, Nat.reduceSub, Nat.reduceMul, Nat.reduceBEq, Int.reduceLT, Int.reduceLE, Int.reduceToNat, Int.reduceNeg, Int.reducePow, Int.reduceAdd, Int.reduceMul, Int.reduceSub, ↓Int.reduceNatCast', shr_qi, conv_qb, e, sub_i]
        refine next_head (j + 1) (by omega) (by omega) ?_
        rw [e2]
        have e4 : (56 - 8 * (j : Int) - 8) = 56 - 8 * ((j + 1 : Nat) : Int) := by omega
        simp only [push_cast, ↓wF_free, ↓reduceIte, Nat.reduceEqDiff, Nat.reduceLT, Nat.reduceLeDiff, Nat.reduceAdd, Nat.reduceSub, Nat.reduceMul, Nat.reduceBEq, Int.reduceLT, Int.reduceLE, Int.reduceToNat, Int.reduceNeg, Int.reducePow, Int.reduceAdd, Int.reduceMul, Int.reduceSub, ↓Int.reduceNatCast', qD_ren, qD_hk, e4] <;> rfl
      · obtain rfl : j = 8 := by omega
        have hP : M ++ Sha.lenB q 8 = Sha.padded m := by rw [← hM, ← hq]; rfl
        rw [hP]
        rw [hP] at hl2
        obtain ⟨hp1, hp2⟩ := padded_mod m
        have hsh : shaL m = ⟨Sha.outB (Sha.blocks Sha.H0 ((Sha.padded m).length / 64) (Sha.padded m)).list 32, Sha.outB_length _ 32⟩ := rfl
        rw [hsh]
        generalize Sha.padded m = PM at hl2 hp1 hp2
        have hH : Sha.H0.list.length = 8 := rfl
        have hz8 : (zW 8).length = 8 := rfl
        simp (disch := omega) only [push_cast, ↓wF_free, ↓reduceIte, Nat.reduceEqDiff, Nat.reduceLT, Nat.reduceLeDiff, Nat.reduceAdd, Nat.reduceSub, Nat.reduceMul, Nat.reduceBEq, Int.reduceLT, Int.reduceLE, Int.reduceToNat, Int.reduceNeg, Int.reducePow, Int.reduceAdd, Int.reduceMul, Int.reduceSub, ↓Int.reduceNatCast', fillH0]
        refine W_while (fun j : Nat => [(2, .ptr 0 0), (3, viewD 1 1 PM.length (64 * j)), (8, .ptr 2 0)])
          (fun j => [⟨false, 1, digC zeroDig, false⟩, ⟨true, 1, PM.map byteD, false⟩, ⟨false, 1, (Sha.blocks Sha.H0 j PM).list.map wD, false⟩]) (fun j => j ≤ PM.length / 64) (fun j => PM.length / 64 - j) 0 (by rw [viewD_lt (by omega)]; simp only [push_cast, ↓wF_free, ↓reduceIte, Nat.reduceEqDiff, Nat.reduceLT, Nat.reduceLeDiff, Nat.reduceAdd, Nat.reduceSub, Nat.reduceMul, Nat.reduceBEq, Int.reduceLT, Int.reduceLE, Int.reduceToNat, Int.reduceNeg, Int.reducePow, Int.reduceAdd, Int.reduceMul, Int.reduceSub, ↓Int.reduceNatCast'] <;> rfl) (by omega) ?_
        intro j hj
        unfold F_digest_sum_L3
        rcases Nat.lt_or_ge (64 * j) PM.length with h4 | h4
        · have hbl : ((PM.drop (64 * j)).take 64).length = 64 := by simp; omega
          have hbs := blocks_succ Sha.H0 j PM
          generalize Sha.blocks Sha.H0 j PM = sj at hbs
          have hl8 : sj.list.length = 8 := rfl
          have hl9 : (Sha.block sj ((PM.drop (64 * j)).take 64)).list.length = 8 := rfl
          have c1 : ((0 : Int) < ((PM.length - 64 * j : Nat) : Int)) := by omega
          have c2 : ((0 : Int) < (PM.length : Int) - 64 * (j : Int)) := by omega
          have c3 : ¬ (64 = PM.length - 64 * j) ∨ PM.length - 64 * j = 64 := by omega
          rw [viewD_lt h4]
          by_cases h5 : PM.length - 64 * j = 64
          · simp (disch := omega) only [push_cast, ↓wF_free, ↓reduceIte, Nat.reduceEqDiff, Nat.reduceLT, Nat.reduceLeDiff, Nat.reduceAdd, Nat.reduceSub, Nat.reduceMul, Nat.reduceBEq, Int.reduceLT, Int.reduceLE, Int.reduceToNat, Int.reduceNeg, Int.reducePow, Int.reduceAdd, Int.reduceMul, Int.reduceSub, ↓Int.reduceNatCast', c1, slR_row, call_block, h5]
            refine next_head (j + 1) (by omega) (by omega) ?_
            rw [viewD_ge (by omega), hbs]
          · have h6 : ¬ 64 = PM.length - 64 * j := fun e => h5 e.symm
            simp (disch := omega) only [push_cast, ↓wF_free, ↓reduceIte, Nat.reduceEqDiff, Nat.reduceLT, Nat.reduceLeDiff, Nat.reduceAdd, Nat.reduceSub, Nat.reduceMul, Nat.reduceBEq, Int.reduceLT, Int.reduceLE, Int.reduceToNat, Int.reduceNeg, Int.reducePow, Int.reduceAdd, Int.reduceMul, Int.reduceSub, ↓Int.reduceNatCast', c2, slR_row, call_block, h5, h6]
            refine next_head (j + 1) (by omega) (by omega) ?_
            rw [viewD_lt (by omega), hbs]
            simp only [Nat.mul_add, Nat.mul_one, Nat.sub_sub]
        · obtain rfl : j = PM.length / 64 := by omega
          rw [viewD_ge (by omega)]
          generalize Sha.blocks Sha.H0 (PM.length / 64) PM = sj
          have hl8 : sj.list.length = 8 := rfl
          simp only [push_cast, ↓wF_free, ↓reduceIte, Nat.reduceEqDiff, Nat.reduceLT, Nat.reduceLeDiff, Nat.reduceAdd, Nat.reduceSub, Nat.reduceMul, Nat.reduceBEq, Int.reduceLT, Int.reduceLE, Int.reduceToNat, Int.reduceNeg, Int.reducePow, Int.reduceAdd, Int.reduceMul, Int.reduceSub, ↓Int.reduceNatCast']
          refine W_while (fun j : Nat => [(2, .ptr 0 0), (8, .ptr 2 0), (55, .int .i64 (j : Int))])
            (fun j => [⟨false, 1, (outZ sj.list j).map byteD, false⟩, ⟨true, 1, PM.map byteD, false⟩, ⟨false, 1, sj.list.map wD, false⟩]) (fun j => j ≤ 32) (fun j => 32 - j) 0 (by simp only [push_cast, ↓wF_free, ↓reduceIte, Nat.reduceEqDiff, Nat.reduceLT, Nat.reduceLeDiff, Nat.reduceAdd, Nat.reduceSub, Nat.reduceMul, Nat.reduceBEq, Int.reduceLT, Int.reduceLE, Int.reduceToNat, Int.reduceNeg, Int.reducePow, Int.reduceAdd, Int.reduceMul, Int.reduceSub, ↓Int.reduceNatCast'] <;> rfl) (by omega) ?_
          intro j hj
          unfold F_digest_sum_L4
          simp only [push_cast, ↓wF_free, ↓reduceIte, Nat.reduceEqDiff, Nat.reduceLT, Nat.reduceLeDiff, Nat.reduceAdd, Nat.reduceSub, Nat.reduceMul, Nat.reduceBEq, Int.reduceLT, Int.reduceLE, Int.reduceToNat, Int.reduceNeg, Int.reducePow, Int.reduceAdd, Int.reduceMul, Int.reduceSub, ↓Int.reduceNatCast']
          refine ifD_split (fun h6 => ?_) (fun h6 => ?_)
          · have hz3 := outZ_length sj.list j (by omega)
            have hz4 := outZ_set sj.list j (by omega)
            have e1 : ((j : Int) / 4).toNat = j / 4 := by omega
            have e2 : (24 - 8 * ((j : Int) % 4)).toNat = 24 - 8 * (j % 4) := by omega
            simp (disch := omega) only [push_cast, ↓wF_free, ↓reduceIte, Nat.reduceEqDiff, Nat.reduceLT, Nat.reduceLeDiff, Nat.reduceAdd, Nat.reduceSub, Nat.reduceMul, Nat.reduceBEq, Int.reduceLT, Int.reduceLE, Int.reduceToNat, Int.reduceNeg, Int.reducePow, Int.reduceAdd, Int.reduceMul, Int.reduceSub, ↓Int.reduceNatCast', quo_i, rem_i, mul_i, sub_i, add_i, idxA_ptr, shr_wi, conv_wb, e1, e2]
            refine next_head (j + 1) (by omega) (by omega) ?_
            rw [← hz4]
            simp only [push_cast, ↓wF_free, ↓reduceIte, Nat.reduceEqDiff, Nat.reduceLT, Nat.reduceLeDiff, Nat.reduceAdd, Nat.reduceSub, Nat.reduceMul, Nat.reduceBEq, Int.reduceLT, Int.reduceLE, Int.reduceToNat, Int.reduceNeg, Int.reducePow, Int.reduceAdd, Int.reduceMul, Int.reduceSub, ↓Int.reduceNatCast'] <;> rfl
          · obtain rfl : j = 32 := by omega
            have hz3 := outZ_length sj.list 32 (by omega)
            simp (disch := omega) only [push_cast, ↓wF_free, ↓reduceIte, Nat.reduceEqDiff, Nat.reduceLT, Nat.reduceLeDiff, Nat.reduceAdd, Nat.reduceSub, Nat.reduceMul, Nat.reduceBEq, Int.reduceLT, Int.reduceLE, Int.reduceToNat, Int.reduceNeg, Int.reducePow, Int.reduceAdd, Int.reduceMul, Int.reduceSub, ↓Int.reduceNatCast']
            rw [show outZ sj.list 32 = Sha.outB sj.list 32 from List.append_nil _]
            rfl
    · simp (disch := first | omega | decide) only [push_cast, ↓wF_free, ↓reduceIte, Nat.reduceEqDiff, Nat.reduceLT, Nat.reduceLeDiff, Nat.reduceAdd, Nat.reduceSub, Nat.reduceMul, Nat.reduceBEq, Int.reduceLT, Int.reduceLE, Int.reduceToNat, Int.reduceNeg, Int.reducePow, Int.reduceAdd, Int.reduceMul, Int.reduceSub, ↓Int.reduceNatCast', b0]
      have h9 : j < Sha.zeros m.length := by
        rcases Nat.lt_or_ge j (Sha.zeros m.length) with h3 | h3
        · exact h3
        · exfalso
          obtain rfl : j = Sha.zeros m.length := by omega
          omega
      refine next_head (j + 1) (by omega) (by omega) ?_
      have e : m ++ [128] ++ List.replicate (j + 1) 0 = (m ++ [128] ++ List.replicate j 0) ++ [0] := by
        rw [List.replicate_succ', List.append_assoc, List.append_assoc, List.append_assoc]
      rw [e]
      simp only [push_cast, ↓wF_free, ↓reduceIte, Nat.reduceEqDiff, Nat.reduceLT, Nat.reduceLeDiff, Nat.reduceAdd, Nat.reduceSub, Nat.reduceMul, Nat.reduceBEq, Int.reduceLT, Int.reduceLE, Int.reduceToNat, Int.reduceNeg, Int.reducePow, Int.reduceAdd, Int.reduceMul, Int.reduceSub, ↓Int.reduceNatCast', qD_ren, qD_hk] <;> rfl
theorem c_sum : Contract Tryd.prog GG 37 sp_sum :=
  contract_of tr_digest_sum (tb_ok (all_cons c_block all_nil) all_nil) (fun a h => w_sum a h)

noncomputable def sp_tagged : List D → Option D := spOf (α := List UInt8 × List UInt8) (fun a => [.str a.1, .slc (nz 1 (a.2.map byteD)) (a.2.map byteD) false]) (fun a => a.1.length + a.2.length ≤ 4294900000) (fun a => digD (taggedL a.1 a.2))
theorem call_tagged (t : List UInt8) (b : List UInt8) (h : t.length + b.length ≤ 4294900000) : sp_tagged [.str t, .slc (nz 1 (b.map byteD)) (b.map byteD) false] = some (digD (taggedL t b)) :=
  spOf_enc (fun ⟨a0, a1⟩ ⟨b0, b1⟩ h => by simp only [List.cons.injEq, D.slc.injEq, D.int.injEq, D.bool.injEq, D.str.injEq, D.agg.injEq, digs_iff, dig_iff, digC_iff, bytes_iff, byte_iff, words_iff, word_iff, Sha.St8.list_iff, bsl_iff, true_and, and_true] at h; simp [h, Prod.ext_iff]) (t, b) h
theorem call_sum3 (x : UInt8) (t b : List UInt8) (h : t.length + b.length ≤ 4294950000) :
    sp_sum [.slc 1 [.slc 1 [byteD x] false, .slc (nz 1 (t.map byteD)) (t.map byteD) false, .slc (nz 1 (b.map byteD)) (b.map byteD) false] false] = some (digD (shaL (x :: (t ++ b)))) := by
  have := call_sum [[x], t, b] ⟨by simp; omega, by simp⟩
  rw [show ([[x], t, b] : List (List UInt8)).flatten = x :: (t ++ b) by simp] at this
  exact this
set_option maxHeartbeats 4000000 in
set_option maxRecDepth 20000 in
theorem w_tagged (t : List UInt8) (b : List UInt8) (h : t.length + b.length ≤ 4294900000) : @wW GG (tb [(37, sp_sum)] []) F_digest_Tagged.code (argF [.str t, .slc (nz 1 (b.map byteD)) (b.map byteD) false]) [] ⟨retQ F_digest_Tagged.res (digD (taggedL t b))⟩ := by
  unfold F_digest_Tagged
  have e1 : (min (t.length : Int) 255).toNat = min t.length 255 := by omega
  have e2 : t.take (min t.length 255) = t.take 255 := by
    rcases Nat.le_total t.length 255 with h1 | h1
    · rw [Nat.min_eq_left h1, List.take_length, List.take_of_length_le h1]
    · rw [Nat.min_eq_right h1]
  have hl : (t.take 255).length ≤ 255 := by simp; omega
  have hl2 : (t.take 255).length ≤ t.length := by simp; omega
  simp (disch := omega) only [push_cast, ↓wF_free, ↓reduceIte, Nat.reduceEqDiff, Nat.reduceLT, Nat.reduceLeDiff, Nat.reduceAdd, Nat.reduceSub, Nat.reduceMul, Nat.reduceBEq, Int.reduceLT, Int.reduceLE, Int.reduceToNat, Int.reduceNeg, Int.reducePow, Int.reduceAdd, Int.reduceMul, Int.reduceSub, ↓Int.reduceNatCast', pslice_str, e1, e2, conv_ub, call_sum3]
  rfl
theorem c_tagged : Contract Tryd.prog GG 29 sp_tagged :=
  contract_of tr_digest_Tagged (tb_ok (all_cons c_sum all_nil) all_nil) (fun a h => w_tagged a.1 a.2 h)

end Go.Proofs.YteacnlikmagfcaaDoor.PI
