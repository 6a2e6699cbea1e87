/-
  merkle: what the small functions of the program and of the reference compute.
  Conditions: none; these are lemmas.
-/
import Derived.Test.YtokhnpjchpmndaaDoorFns
import Derived.Test.YtokhnpjchpmndaaDoorEngU
import Derived.Test.YtokhnpjchpmndaaDoorMkP
import Derived.Test.YtokhnpjchpmndaaDoorDgC
namespace Go.Proofs.YtokhnpjchpmndaaDoor.PI
open Go
set_option linter.unusedSimpArgs false
set_option linter.unusedVariables false


theorem len8_eq : ([0, 1, 2, 2, 3, 3, 3, 3, 4, 4, 4, 4, 4, 4, 4, 4, 5, 5, 5, 5, 5, 5, 5, 5, 5, 5, 5, 5, 5, 5, 5, 5, 6, 6, 6, 6, 6, 6, 6, 6, 6, 6, 6, 6, 6, 6, 6, 6, 6, 6, 6, 6, 6, 6, 6, 6, 6, 6, 6, 6, 6, 6, 6, 6, 7, 7, 7, 7, 7, 7, 7, 7, 7, 7, 7, 7, 7, 7, 7, 7, 7, 7, 7, 7, 7, 7, 7, 7, 7, 7, 7, 7, 7, 7, 7, 7, 7, 7, 7, 7, 7, 7, 7, 7, 7, 7, 7, 7, 7, 7, 7, 7, 7, 7, 7, 7, 7, 7, 7, 7, 7, 7, 7, 7, 7, 7, 7, 7, 8, 8, 8, 8, 8, 8, 8, 8, 8, 8, 8, 8, 8, 8, 8, 8, 8, 8, 8, 8, 8, 8, 8, 8, 8, 8, 8, 8, 8, 8, 8, 8, 8, 8, 8, 8, 8, 8, 8, 8, 8, 8, 8, 8, 8, 8, 8, 8, 8, 8, 8, 8, 8, 8, 8, 8, 8, 8, 8, 8, 8, 8, 8, 8, 8, 8, 8, 8, 8, 8, 8, 8, 8, 8, 8, 8, 8, 8, 8, 8, 8, 8, 8, 8, 8, 8, 8, 8, 8, 8, 8, 8, 8, 8, 8, 8, 8, 8, 8, 8, 8, 8, 8, 8, 8, 8, 8, 8, 8, 8, 8, 8, 8, 8, 8, 8, 8, 8, 8, 8, 8, 8, 8, 8, 8, 8, 8, 8] : List UInt8) = (List.range 256).map (fun j => UInt8.ofNat (bitlen j)) := by kernel_rfl
theorem len8_get (j : Nat) (h : j < 256) : ((((List.range 256).map (fun j => UInt8.ofNat (bitlen j))).getD j default).toNat : Int) = bitlen j := by
  have h1 : bitlen j ≤ 8 := bitlen_lt (k := 8) (by omega)
  simp [List.getD_eq_getElem?_getD, h]
  omega
theorem len8_length : ((List.range 256).map (fun j => UInt8.ofNat (bitlen j))).length = 256 := by simp

theorem idx_len8 (b : UInt8) : pidx (.str ((List.range 256).map (fun j => UInt8.ofNat (bitlen j)))) (byteD b) = some (byteD (((List.range 256).map (fun j => UInt8.ofNat (bitlen j))).getD b.toNat default)) := idx_byte _ b (by rw [len8_length]; exact b.toNat_lt)
theorem len8_b (b : UInt8) : ((((List.range 256).map (fun j => UInt8.ofNat (bitlen j))).getD b.toNat default).toNat : Int) = bitlen b.toNat := len8_get _ b.toNat_lt
theorem ofNat_lt (m : Nat) (h : m < 256) : (UInt8.ofNat m).toNat = m := by simp; omega

noncomputable def sp_bLen64 : List D → Option D := spOf (α := Int) (fun a => [.int .u64 a]) (fun a => 0 ≤ a ∧ a < 18446744073709551616) (fun a => .int .i64 (bitlen a.toNat : Int))
theorem call_bLen64 (x : Int) (h : 0 ≤ x ∧ x < 18446744073709551616) : sp_bLen64 [.int .u64 x] = some (.int .i64 (bitlen x.toNat : Int)) :=
  spOf_enc (fun a b h => by simp only [List.cons.injEq, D.slc.injEq, D.int.injEq, D.bool.injEq, D.str.injEq, D.agg.injEq, digs_iff, dig_iff, digC_iff, bytes_iff, byte_iff, words_iff, word_iff, Sha.St8.list_iff, bsl_iff, true_and, and_true, bisD_iff] at h; simp [h, Prod.ext_iff]) (x) h
set_option maxHeartbeats 4000000 in
set_option maxRecDepth 20000 in
theorem w_bLen64 (x : Int) (h : 0 ≤ x ∧ x < 18446744073709551616) : @wW GG (tb [] []) F_math_bits_Len64.code (argF [.int .u64 x]) [] ⟨retQ F_math_bits_Len64.res (.int .i64 (bitlen x.toNat : Int))⟩ := by
  obtain ⟨h0, h1⟩ := h
  obtain ⟨n, rfl⟩ := Int.eq_ofNat_of_zero_le h0
  rw [Int.toNat_natCast]
  have d1 := bitlen_div n 32
  have d2 := bitlen_div n 16
  have d3 := bitlen_div n 8
  have d4 := bitlen_div (n / 2 ^ 32) 16
  have d5 := bitlen_div (n / 2 ^ 32) 8
  have d6 := bitlen_div (n / 2 ^ 32 / 2 ^ 16) 8
  have d7 := bitlen_div (n / 2 ^ 16) 8
  have b8 : ∀ y, y < 256 → bitlen y ≤ 8 := fun y hy => bitlen_lt (k := 8) (by omega)
  unfold F_math_bits_Len64
  rw [len8_eq]
  simp only [push_cast, ↓wF_free, ↓reduceIte, Nat.reduceEqDiff, Nat.reduceLT, Nat.reduceLeDiff, Nat.reduceAdd, Nat.reduceSub, Nat.reduceMul, Nat.reduceBEq, Int.reduceLT, Int.reduceLE, Int.reduceToNat, Int.reduceNeg, Int.reducePow, Int.reduceAdd, Int.reduceMul, Int.reduceSub, ↓Int.reduceNatCast']
  refine ifD_split (fun h2 => ?_) (fun h2 => ?_)
  · simp (disch := omega) only [push_cast, ↓wF_free, ↓reduceIte, Nat.reduceEqDiff, Nat.reduceLT, Nat.reduceLeDiff, Nat.reduceAdd, Nat.reduceSub, Nat.reduceMul, Nat.reduceBEq, Int.reduceLT, Int.reduceLE, Int.reduceToNat, Int.reduceNeg, Int.reducePow, Int.reduceAdd, Int.reduceMul, Int.reduceSub, ↓Int.reduceNatCast', shr_u, add_i]
    · refine ifD_split (fun h3 => ?_) (fun h3 => ?_)
      · simp (disch := omega) only [push_cast, ↓wF_free, ↓reduceIte, Nat.reduceEqDiff, Nat.reduceLT, Nat.reduceLeDiff, Nat.reduceAdd, Nat.reduceSub, Nat.reduceMul, Nat.reduceBEq, Int.reduceLT, Int.reduceLE, Int.reduceToNat, Int.reduceNeg, Int.reducePow, Int.reduceAdd, Int.reduceMul, Int.reduceSub, ↓Int.reduceNatCast', shr_u, add_i]
        · refine ifD_split (fun h4 => ?_) (fun h4 => ?_)
          · simp (disch := omega) only [push_cast, ↓wF_free, ↓reduceIte, Nat.reduceEqDiff, Nat.reduceLT, Nat.reduceLeDiff, Nat.reduceAdd, Nat.reduceSub, Nat.reduceMul, Nat.reduceBEq, Int.reduceLT, Int.reduceLE, Int.reduceToNat, Int.reduceNeg, Int.reducePow, Int.reduceAdd, Int.reduceMul, Int.reduceSub, ↓Int.reduceNatCast', shr_u, add_i]
            · have ey : ((n : Int) / 4294967296 / 65536 / 256).toNat = n / 2 ^ 32 / 2 ^ 16 / 2 ^ 8 := by omega
              have hb := b8 (n / 2 ^ 32 / 2 ^ 16 / 2 ^ 8) (by omega)
              have ed1 := d1 (by omega)
              have ed4 := d4 (by omega)
              have ed6 := d6 (by omega)
              simp (disch := omega) only [push_cast, ↓wF_free, ↓reduceIte, Nat.reduceEqDiff, Nat.reduceLT, Nat.reduceLeDiff, Nat.reduceAdd, Nat.reduceSub, Nat.reduceMul, Nat.reduceBEq, Int.reduceLT, Int.reduceLE, Int.reduceToNat, Int.reduceNeg, Int.reducePow, Int.reduceAdd, Int.reduceMul, Int.reduceSub, ↓Int.reduceNatCast', conv_ub, idx_len8, conv_bi, len8_get, ofNat_lt, ey, add_i]
              refine congrArg (fun z => some (D.int .i64 z)) ?_
              omega
          · simp (disch := omega) only [push_cast, ↓wF_free, ↓reduceIte, Nat.reduceEqDiff, Nat.reduceLT, Nat.reduceLeDiff, Nat.reduceAdd, Nat.reduceSub, Nat.reduceMul, Nat.reduceBEq, Int.reduceLT, Int.reduceLE, Int.reduceToNat, Int.reduceNeg, Int.reducePow, Int.reduceAdd, Int.reduceMul, Int.reduceSub, ↓Int.reduceNatCast', shr_u, add_i]
            · have ey : ((n : Int) / 4294967296 / 65536).toNat = n / 2 ^ 32 / 2 ^ 16 := by omega
              have hb := b8 (n / 2 ^ 32 / 2 ^ 16) (by omega)
              have ed1 := d1 (by omega)
              have ed4 := d4 (by omega)
              simp (disch := omega) only [push_cast, ↓wF_free, ↓reduceIte, Nat.reduceEqDiff, Nat.reduceLT, Nat.reduceLeDiff, Nat.reduceAdd, Nat.reduceSub, Nat.reduceMul, Nat.reduceBEq, Int.reduceLT, Int.reduceLE, Int.reduceToNat, Int.reduceNeg, Int.reducePow, Int.reduceAdd, Int.reduceMul, Int.reduceSub, ↓Int.reduceNatCast', conv_ub, idx_len8, conv_bi, len8_get, ofNat_lt, ey, add_i]
              refine congrArg (fun z => some (D.int .i64 z)) ?_
              omega
      · simp (disch := omega) only [push_cast, ↓wF_free, ↓reduceIte, Nat.reduceEqDiff, Nat.reduceLT, Nat.reduceLeDiff, Nat.reduceAdd, Nat.reduceSub, Nat.reduceMul, Nat.reduceBEq, Int.reduceLT, Int.reduceLE, Int.reduceToNat, Int.reduceNeg, Int.reducePow, Int.reduceAdd, Int.reduceMul, Int.reduceSub, ↓Int.reduceNatCast', shr_u, add_i]
        · refine ifD_split (fun h4 => ?_) (fun h4 => ?_)
          · simp (disch := omega) only [push_cast, ↓wF_free, ↓reduceIte, Nat.reduceEqDiff, Nat.reduceLT, Nat.reduceLeDiff, Nat.reduceAdd, Nat.reduceSub, Nat.reduceMul, Nat.reduceBEq, Int.reduceLT, Int.reduceLE, Int.reduceToNat, Int.reduceNeg, Int.reducePow, Int.reduceAdd, Int.reduceMul, Int.reduceSub, ↓Int.reduceNatCast', shr_u, add_i]
            · have ey : ((n : Int) / 4294967296 / 256).toNat = n / 2 ^ 32 / 2 ^ 8 := by omega
              have hb := b8 (n / 2 ^ 32 / 2 ^ 8) (by omega)
              have ed1 := d1 (by omega)
              have ed5 := d5 (by omega)
              simp (disch := omega) only [push_cast, ↓wF_free, ↓reduceIte, Nat.reduceEqDiff, Nat.reduceLT, Nat.reduceLeDiff, Nat.reduceAdd, Nat.reduceSub, Nat.reduceMul, Nat.reduceBEq, Int.reduceLT, Int.reduceLE, Int.reduceToNat, Int.reduceNeg, Int.reducePow, Int.reduceAdd, Int.reduceMul, Int.reduceSub, ↓Int.reduceNatCast', conv_ub, idx_len8, conv_bi, len8_get, ofNat_lt, ey, add_i]
              refine congrArg (fun z => some (D.int .i64 z)) ?_
              omega
          · simp (disch := omega) only [push_cast, ↓wF_free, ↓reduceIte, Nat.reduceEqDiff, Nat.reduceLT, Nat.reduceLeDiff, Nat.reduceAdd, Nat.reduceSub, Nat.reduceMul, Nat.reduceBEq, Int.reduceLT, Int.reduceLE, Int.reduceToNat, Int.reduceNeg, Int.reducePow, Int.reduceAdd, Int.reduceMul, Int.reduceSub, ↓Int.reduceNatCast', shr_u, add_i]
            · have ey : ((n : Int) / 4294967296).toNat = n / 2 ^ 32 := by omega
              have hb := b8 (n / 2 ^ 32) (by omega)
              have ed1 := d1 (by omega)
              simp (disch := omega) only [push_cast, ↓wF_free, ↓reduceIte, Nat.reduceEqDiff, Nat.reduceLT, Nat.reduceLeDiff, Nat.reduceAdd, Nat.reduceSub, Nat.reduceMul, Nat.reduceBEq, Int.reduceLT, Int.reduceLE, Int.reduceToNat, Int.reduceNeg, Int.reducePow, Int.reduceAdd, Int.reduceMul, Int.reduceSub, ↓Int.reduceNatCast', conv_ub, idx_len8, conv_bi, len8_get, ofNat_lt, ey, add_i]
              refine congrArg (fun z => some (D.int .i64 z)) ?_
              omega
  · simp (disch := omega) only [push_cast, ↓wF_free, ↓reduceIte, Nat.reduceEqDiff, Nat.reduceLT, Nat.reduceLeDiff, Nat.reduceAdd, Nat.reduceSub, Nat.reduceMul, Nat.reduceBEq, Int.reduceLT, Int.reduceLE, Int.reduceToNat, Int.reduceNeg, Int.reducePow, Int.reduceAdd, Int.reduceMul, Int.reduceSub, ↓Int.reduceNatCast', shr_u, add_i]
    · refine ifD_split (fun h3 => ?_) (fun h3 => ?_)
      · simp (disch := omega) only [push_cast, ↓wF_free, ↓reduceIte, Nat.reduceEqDiff, Nat.reduceLT, Nat.reduceLeDiff, Nat.reduceAdd, Nat.reduceSub, Nat.reduceMul, Nat.reduceBEq, Int.reduceLT, Int.reduceLE, Int.reduceToNat, Int.reduceNeg, Int.reducePow, Int.reduceAdd, Int.reduceMul, Int.reduceSub, ↓Int.reduceNatCast', shr_u, add_i]
        · refine ifD_split (fun h4 => ?_) (fun h4 => ?_)
          · simp (disch := omega) only [push_cast, ↓wF_free, ↓reduceIte, Nat.reduceEqDiff, Nat.reduceLT, Nat.reduceLeDiff, Nat.reduceAdd, Nat.reduceSub, Nat.reduceMul, Nat.reduceBEq, Int.reduceLT, Int.reduceLE, Int.reduceToNat, Int.reduceNeg, Int.reducePow, Int.reduceAdd, Int.reduceMul, Int.reduceSub, ↓Int.reduceNatCast', shr_u, add_i]
            · have ey : ((n : Int) / 65536 / 256).toNat = n / 2 ^ 16 / 2 ^ 8 := by omega
              have hb := b8 (n / 2 ^ 16 / 2 ^ 8) (by omega)
              have ed2 := d2 (by omega)
              have ed7 := d7 (by omega)
              simp (disch := omega) only [push_cast, ↓wF_free, ↓reduceIte, Nat.reduceEqDiff, Nat.reduceLT, Nat.reduceLeDiff, Nat.reduceAdd, Nat.reduceSub, Nat.reduceMul, Nat.reduceBEq, Int.reduceLT, Int.reduceLE, Int.reduceToNat, Int.reduceNeg, Int.reducePow, Int.reduceAdd, Int.reduceMul, Int.reduceSub, ↓Int.reduceNatCast', conv_ub, idx_len8, conv_bi, len8_get, ofNat_lt, ey, add_i]
              refine congrArg (fun z => some (D.int .i64 z)) ?_
              omega
          · simp (disch := omega) only [push_cast, ↓wF_free, ↓reduceIte, Nat.reduceEqDiff, Nat.reduceLT, Nat.reduceLeDiff, Nat.reduceAdd, Nat.reduceSub, Nat.reduceMul, Nat.reduceBEq, Int.reduceLT, Int.reduceLE, Int.reduceToNat, Int.reduceNeg, Int.reducePow, Int.reduceAdd, Int.reduceMul, Int.reduceSub, ↓Int.reduceNatCast', shr_u, add_i]
            · have ey : ((n : Int) / 65536).toNat = n / 2 ^ 16 := by omega
              have hb := b8 (n / 2 ^ 16) (by omega)
              have ed2 := d2 (by omega)
              simp (disch := omega) only [push_cast, ↓wF_free, ↓reduceIte, Nat.reduceEqDiff, Nat.reduceLT, Nat.reduceLeDiff, Nat.reduceAdd, Nat.reduceSub, Nat.reduceMul, Nat.reduceBEq, Int.reduceLT, Int.reduceLE, Int.reduceToNat, Int.reduceNeg, Int.reducePow, Int.reduceAdd, Int.reduceMul, Int.reduceSub, ↓Int.reduceNatCast', conv_ub, idx_len8, conv_bi, len8_get, ofNat_lt, ey, add_i]
              refine congrArg (fun z => some (D.int .i64 z)) ?_
              omega
      · simp (disch := omega) only [push_cast, ↓wF_free, ↓reduceIte, Nat.reduceEqDiff, Nat.reduceLT, Nat.reduceLeDiff, Nat.reduceAdd, Nat.reduceSub, Nat.reduceMul, Nat.reduceBEq, Int.reduceLT, Int.reduceLE, Int.reduceToNat, Int.reduceNeg, Int.reducePow, Int.reduceAdd, Int.reduceMul, Int.reduceSub, ↓Int.reduceNatCast', shr_u, add_i]
        · refine ifD_split (fun h4 => ?_) (fun h4 => ?_)
          · simp (disch := omega) only [push_cast, ↓wF_free, ↓reduceIte, Nat.reduceEqDiff, Nat.reduceLT, Nat.reduceLeDiff, Nat.reduceAdd, Nat.reduceSub, Nat.reduceMul, Nat.reduceBEq, Int.reduceLT, Int.reduceLE, Int.reduceToNat, Int.reduceNeg, Int.reducePow, Int.reduceAdd, Int.reduceMul, Int.reduceSub, ↓Int.reduceNatCast', shr_u, add_i]
            · have ey : ((n : Int) / 256).toNat = n / 2 ^ 8 := by omega
              have hb := b8 (n / 2 ^ 8) (by omega)
              have ed3 := d3 (by omega)
              simp (disch := omega) only [push_cast, ↓wF_free, ↓reduceIte, Nat.reduceEqDiff, Nat.reduceLT, Nat.reduceLeDiff, Nat.reduceAdd, Nat.reduceSub, Nat.reduceMul, Nat.reduceBEq, Int.reduceLT, Int.reduceLE, Int.reduceToNat, Int.reduceNeg, Int.reducePow, Int.reduceAdd, Int.reduceMul, Int.reduceSub, ↓Int.reduceNatCast', conv_ub, idx_len8, conv_bi, len8_get, ofNat_lt, ey, add_i]
              refine congrArg (fun z => some (D.int .i64 z)) ?_
              omega
          · simp (disch := omega) only [push_cast, ↓wF_free, ↓reduceIte, Nat.reduceEqDiff, Nat.reduceLT, Nat.reduceLeDiff, Nat.reduceAdd, Nat.reduceSub, Nat.reduceMul, Nat.reduceBEq, Int.reduceLT, Int.reduceLE, Int.reduceToNat, Int.reduceNeg, Int.reducePow, Int.reduceAdd, Int.reduceMul, Int.reduceSub, ↓Int.reduceNatCast', shr_u, add_i]
            · have ey : ((n : Int)).toNat = n := by omega
              have hb := b8 (n) (by omega)
              simp (disch := omega) only [push_cast, ↓wF_free, ↓reduceIte, Nat.reduceEqDiff, Nat.reduceLT, Nat.reduceLeDiff, Nat.reduceAdd, Nat.reduceSub, Nat.reduceMul, Nat.reduceBEq, Int.reduceLT, Int.reduceLE, Int.reduceToNat, Int.reduceNeg, Int.reducePow, Int.reduceAdd, Int.reduceMul, Int.reduceSub, ↓Int.reduceNatCast', conv_ub, idx_len8, conv_bi, len8_get, ofNat_lt, ey, add_i]
              refine congrArg (fun z => some (D.int .i64 z)) ?_
              omega
theorem c_bLen64 : Contract Tryd.prog GG 54 sp_bLen64 :=
  contract_of tr_math_bits_Len64 (tb_ok all_nil all_nil) (fun a h => w_bLen64 a h)

noncomputable def sp_at : List D → Option D := spOf (α := List Dig × Int × Dig) (fun a => [.slc (nz 32 (a.1.map digD)) (a.1.map digD) false, .int .i64 a.2.1, digD a.2.2]) (fun a => 0 ≤ a.2.1) (fun a => digD (atL a.1 a.2.1 a.2.2))
theorem call_at (l : List Dig) (k : Int) (pad : Dig) (h : 0 ≤ k) : sp_at [.slc (nz 32 (l.map digD)) (l.map digD) false, .int .i64 k, digD pad] = some (digD (atL l k pad)) :=
  spOf_enc (fun ⟨a0, a1, a2⟩ ⟨b0, b1, b2⟩ h => by simp only [List.cons.injEq, D.slc.injEq, D.int.injEq, D.bool.injEq, D.str.injEq, D.agg.injEq, digs_iff, dig_iff, digC_iff, bytes_iff, byte_iff, words_iff, word_iff, Sha.St8.list_iff, bsl_iff, true_and, and_true, bisD_iff] at h; simp [h, Prod.ext_iff]) (l, k, pad) h
set_option maxHeartbeats 4000000 in
set_option maxRecDepth 20000 in
theorem w_at (l : List Dig) (k : Int) (pad : Dig) (h : 0 ≤ k) : @wW GG (tb [] []) F_merkle_at.code (argF [.slc (nz 32 (l.map digD)) (l.map digD) false, .int .i64 k, digD pad]) [] ⟨retQ F_merkle_at.res (digD (atL l k pad))⟩ := by
  unfold F_merkle_at
  simp only [push_cast, ↓wF_free, ↓reduceIte, Nat.reduceEqDiff, Nat.reduceLT, Nat.reduceLeDiff, Nat.reduceAdd, Nat.reduceSub, Nat.reduceMul, Nat.reduceBEq, Int.reduceLT, Int.reduceLE, Int.reduceToNat, Int.reduceNeg, Int.reducePow, Int.reduceAdd, Int.reduceMul, Int.reduceSub, ↓Int.reduceNatCast']
  refine ifD_split (fun h1 => ?_) (fun h1 => ?_)
  · simp only [push_cast, ↓wF_free, ↓reduceIte, Nat.reduceEqDiff, Nat.reduceLT, Nat.reduceLeDiff, Nat.reduceAdd, Nat.reduceSub, Nat.reduceMul, Nat.reduceBEq, Int.reduceLT, Int.reduceLE, Int.reduceToNat, Int.reduceNeg, Int.reducePow, Int.reduceAdd, Int.reduceMul, Int.reduceSub, ↓Int.reduceNatCast', idxS_nz _ _ _ _ _ _ _ h h1, atL, h1]
  · simp only [push_cast, ↓wF_free, ↓reduceIte, Nat.reduceEqDiff, Nat.reduceLT, Nat.reduceLeDiff, Nat.reduceAdd, Nat.reduceSub, Nat.reduceMul, Nat.reduceBEq, Int.reduceLT, Int.reduceLE, Int.reduceToNat, Int.reduceNeg, Int.reducePow, Int.reduceAdd, Int.reduceMul, Int.reduceSub, ↓Int.reduceNatCast', atL, h1]
theorem c_at : Contract Tryd.prog GG 41 sp_at :=
  contract_of tr_merkle_at (tb_ok all_nil all_nil) (fun a h => w_at a.1 a.2.1 a.2.2 h)




noncomputable def sp_mPad : List D → Option D := spOf (α := Unit) (fun _ => []) (fun _ => True) (fun _ => digD padL)
theorem call_mPad : sp_mPad [] = some (digD padL) :=
  spOf_enc (fun _ _ _ => rfl) () trivial
set_option maxHeartbeats 4000000 in
set_option maxRecDepth 20000 in
theorem w_mPad : @wW GG (tb [(46, sp_tagged)] []) F_merkle_Pad.code (argF []) [] ⟨retQ F_merkle_Pad.res (digD padL)⟩ := by
  unfold F_merkle_Pad
  have c : sp_tagged [.str [112, 97, 100], .slc 0 [] false] = some (digD padL) := call_tagged [112, 97, 100] [] (by decide)
  simp (disch := omega) only [push_cast, ↓wF_free, ↓reduceIte, Nat.reduceEqDiff, Nat.reduceLT, Nat.reduceLeDiff, Nat.reduceAdd, Nat.reduceSub, Nat.reduceMul, Nat.reduceBEq, Int.reduceLT, Int.reduceLE, Int.reduceToNat, Int.reduceNeg, Int.reducePow, Int.reduceAdd, Int.reduceMul, Int.reduceSub, ↓Int.reduceNatCast', c]
theorem c_mPad : Contract Tryd.prog GG 32 sp_mPad :=
  contract_of tr_merkle_Pad (tb_ok (all_cons c_tagged all_nil) all_nil) (fun a h => w_mPad )

noncomputable def sp_rPad : List D → Option D := spOf (α := Unit) (fun _ => []) (fun _ => True) (fun _ => digD padL)
theorem call_rPad : sp_rPad [] = some (digD padL) :=
  spOf_enc (fun _ _ _ => rfl) () trivial
set_option maxHeartbeats 4000000 in
set_option maxRecDepth 20000 in
theorem w_rPad : @wW GG (tb [(50, sp_rtagged)] []) F_wagonpoolref04_Pad.code (argF []) [] ⟨retQ F_wagonpoolref04_Pad.res (digD padL)⟩ := by
  unfold F_wagonpoolref04_Pad
  have c : sp_rtagged [.str [112, 97, 100], .slc 0 [] false] = some (digD padL) := call_rtagged [112, 97, 100] [] (by decide)
  simp (disch := omega) only [push_cast, ↓wF_free, ↓reduceIte, Nat.reduceEqDiff, Nat.reduceLT, Nat.reduceLeDiff, Nat.reduceAdd, Nat.reduceSub, Nat.reduceMul, Nat.reduceBEq, Int.reduceLT, Int.reduceLE, Int.reduceToNat, Int.reduceNeg, Int.reducePow, Int.reduceAdd, Int.reduceMul, Int.reduceSub, ↓Int.reduceNatCast', c]
theorem c_rPad : Contract Tryd.prog GG 45 sp_rPad :=
  contract_of tr_wagonpoolref04_Pad (tb_ok (all_cons c_rtagged all_nil) all_nil) (fun a h => w_rPad )

noncomputable def sp_mParent : List D → Option D := spOf (α := Dig × Dig) (fun a => [digD a.1, digD a.2]) (fun a => True) (fun a => digD (parentL a.1 a.2))
theorem call_mParent (a : Dig) (b : Dig) : sp_mParent [digD a, digD b] = some (digD (parentL a b)) :=
  spOf_enc (fun ⟨a0, a1⟩ ⟨b0, b1⟩ h => by simp only [List.cons.injEq, D.slc.injEq, D.int.injEq, D.bool.injEq, D.str.injEq, D.agg.injEq, digs_iff, dig_iff, digC_iff, bytes_iff, byte_iff, words_iff, word_iff, Sha.St8.list_iff, bsl_iff, true_and, and_true, bisD_iff] at h; simp [h, Prod.ext_iff]) (a, b) trivial
set_option maxHeartbeats 4000000 in
set_option maxRecDepth 20000 in
theorem w_mParent (a : Dig) (b : Dig) : @wW GG (tb [(46, sp_tagged)] []) F_merkle_Parent.code (argF [digD a, digD b]) [] ⟨retQ F_merkle_Parent.res (digD (parentL a b))⟩ := by
  unfold F_merkle_Parent
  have ha := a.len
  have hb := b.len
  have hl : (a.bs ++ b.bs).length = 64 := by rw [List.length_append, ha, hb]
  have c := call_tagged [110, 111, 100, 101] (a.bs ++ b.bs) (by rw [hl]; decide)
  simp (disch := omega) only [push_cast, ↓wF_free, ↓reduceIte, Nat.reduceEqDiff, Nat.reduceLT, Nat.reduceLeDiff, Nat.reduceAdd, Nat.reduceSub, Nat.reduceMul, Nat.reduceBEq, Int.reduceLT, Int.reduceLE, Int.reduceToNat, Int.reduceNeg, Int.reducePow, Int.reduceAdd, Int.reduceMul, Int.reduceSub, ↓Int.reduceNatCast', mk0_byte, sliceA_ptr, c]
  rfl
theorem c_mParent : Contract Tryd.prog GG 27 sp_mParent :=
  contract_of tr_merkle_Parent (tb_ok (all_cons c_tagged all_nil) all_nil) (fun a h => w_mParent a.1 a.2)

noncomputable def sp_Pair : List D → Option D := spOf (α := Dig × Dig) (fun a => [digD a.1, digD a.2]) (fun a => True) (fun a => .slc 1 ((a.1.bs ++ a.2.bs).map byteD) false)
theorem call_Pair (a : Dig) (b : Dig) : sp_Pair [digD a, digD b] = some (.slc 1 ((a.bs ++ b.bs).map byteD) false) :=
  spOf_enc (fun ⟨a0, a1⟩ ⟨b0, b1⟩ h => by simp only [List.cons.injEq, D.slc.injEq, D.int.injEq, D.bool.injEq, D.str.injEq, D.agg.injEq, digs_iff, dig_iff, digC_iff, bytes_iff, byte_iff, words_iff, word_iff, Sha.St8.list_iff, bsl_iff, true_and, and_true, bisD_iff] at h; simp [h, Prod.ext_iff]) (a, b) trivial
set_option maxHeartbeats 4000000 in
set_option maxRecDepth 20000 in
theorem w_Pair (a : Dig) (b : Dig) : @wW GG (tb [] []) F_wagonpoolref04_Pair.code (argF [digD a, digD b]) [] ⟨retQ F_wagonpoolref04_Pair.res (.slc 1 ((a.bs ++ b.bs).map byteD) false)⟩ := by
  unfold F_wagonpoolref04_Pair
  have ha := a.len
  have hb := b.len
  simp (disch := omega) only [push_cast, ↓wF_free, ↓reduceIte, Nat.reduceEqDiff, Nat.reduceLT, Nat.reduceLeDiff, Nat.reduceAdd, Nat.reduceSub, Nat.reduceMul, Nat.reduceBEq, Int.reduceLT, Int.reduceLE, Int.reduceToNat, Int.reduceNeg, Int.reducePow, Int.reduceAdd, Int.reduceMul, Int.reduceSub, ↓Int.reduceNatCast', nil_bufD1 1 2]
  refine W_while (fun i : Nat => [(2, .ptr 0 0), (3, .ptr 1 0), (5, bufD 1 2 ((a.bs.take i).map byteD)), (6, .int .i64 (i : Int))])
    (fun i => ⟨false, 1, digC a, false⟩ :: ⟨false, 1, digC b, false⟩ :: bufS 1 ((a.bs.take i).map byteD)) (fun i => i ≤ 32) (fun i => 32 - i) 0 (by simp only [push_cast, ↓wF_free, ↓reduceIte, Nat.reduceEqDiff, Nat.reduceLT, Nat.reduceLeDiff, Nat.reduceAdd, Nat.reduceSub, Nat.reduceMul, Nat.reduceBEq, Int.reduceLT, Int.reduceLE, Int.reduceToNat, Int.reduceNeg, Int.reducePow, Int.reduceAdd, Int.reduceMul, Int.reduceSub, ↓Int.reduceNatCast'] <;> rfl) (by omega) ?_
  intro i hi
  unfold F_wagonpoolref04_Pair_L0
  simp only [push_cast, ↓wF_free, ↓reduceIte, Nat.reduceEqDiff, Nat.reduceLT, Nat.reduceLeDiff, Nat.reduceAdd, Nat.reduceSub, Nat.reduceMul, Nat.reduceBEq, Int.reduceLT, Int.reduceLE, Int.reduceToNat, Int.reduceNeg, Int.reducePow, Int.reduceAdd, Int.reduceMul, Int.reduceSub, ↓Int.reduceNatCast']
  refine ifD_split (fun h1 => ?_) (fun h1 => ?_)
  · have e := take_getD a.bs i (by omega)
    have hl : (a.bs.take i).length = i := by rw [List.length_take]; omega
    have hd : digC a = a.bs.map byteD := rfl
    rw [hd]
    simp (disch := first | omega | decide) only [push_cast, ↓wF_free, ↓reduceIte, Nat.reduceEqDiff, Nat.reduceLT, Nat.reduceLeDiff, Nat.reduceAdd, Nat.reduceSub, Nat.reduceMul, Nat.reduceBEq, Int.reduceLT, Int.reduceLE, Int.reduceToNat, Int.reduceNeg, Int.reducePow, Int.reduceAdd, Int.reduceMul, Int.reduceSub, ↓Int.reduceNatCast', idxA_ptr, add_i]
    refine next_head (i + 1) (by omega) (by omega) ?_
    rw [e]
    simp only [push_cast, ↓wF_free, ↓reduceIte, Nat.reduceEqDiff, Nat.reduceLT, Nat.reduceLeDiff, Nat.reduceAdd, Nat.reduceSub, Nat.reduceMul, Nat.reduceBEq, Int.reduceLT, Int.reduceLE, Int.reduceToNat, Int.reduceNeg, Int.reducePow, Int.reduceAdd, Int.reduceMul, Int.reduceSub, ↓Int.reduceNatCast'] <;> rfl
  · obtain rfl : i = 32 := by omega
    rw [List.take_of_length_le (by omega)]
    have hne : a.bs.map byteD ≠ [] := by
      intro h; have := congrArg List.length h; simp [ha] at this
    simp only [push_cast, ↓wF_free, ↓reduceIte, Nat.reduceEqDiff, Nat.reduceLT, Nat.reduceLeDiff, Nat.reduceAdd, Nat.reduceSub, Nat.reduceMul, Nat.reduceBEq, Int.reduceLT, Int.reduceLE, Int.reduceToNat, Int.reduceNeg, Int.reducePow, Int.reduceAdd, Int.reduceMul, Int.reduceSub, ↓Int.reduceNatCast', bufD_ne _ _ _ hne, bufS_ne _ _ hne]
    refine W_while (fun i : Nat => [(3, .ptr 1 0), (5, .row 2 (a.bs ++ b.bs.take i).length 0 (a.bs ++ b.bs.take i).length), (7, .int .i64 (i : Int))])
      (fun i => [⟨false, 1, digC a, false⟩, ⟨false, 1, digC b, false⟩, ⟨true, 1, (a.bs ++ b.bs.take i).map byteD, false⟩]) (fun i => i ≤ 32) (fun i => 32 - i) 0 (by simp only [push_cast, ↓wF_free, ↓reduceIte, Nat.reduceEqDiff, Nat.reduceLT, Nat.reduceLeDiff, Nat.reduceAdd, Nat.reduceSub, Nat.reduceMul, Nat.reduceBEq, Int.reduceLT, Int.reduceLE, Int.reduceToNat, Int.reduceNeg, Int.reducePow, Int.reduceAdd, Int.reduceMul, Int.reduceSub, ↓Int.reduceNatCast'] <;> rfl) (by omega) ?_
    intro i hi
    unfold F_wagonpoolref04_Pair_L1
    simp only [push_cast, ↓wF_free, ↓reduceIte, Nat.reduceEqDiff, Nat.reduceLT, Nat.reduceLeDiff, Nat.reduceAdd, Nat.reduceSub, Nat.reduceMul, Nat.reduceBEq, Int.reduceLT, Int.reduceLE, Int.reduceToNat, Int.reduceNeg, Int.reducePow, Int.reduceAdd, Int.reduceMul, Int.reduceSub, ↓Int.reduceNatCast']
    refine ifD_split (fun h1 => ?_) (fun h1 => ?_)
    · have e := take_getD b.bs i (by omega)
      have hl : (a.bs ++ b.bs.take i).length = 32 + i := by rw [List.length_append, List.length_take]; omega
      have hd : digC b = b.bs.map byteD := rfl
      rw [hd]
      simp (disch := first | omega | decide) only [push_cast, ↓wF_free, ↓reduceIte, Nat.reduceEqDiff, Nat.reduceLT, Nat.reduceLeDiff, Nat.reduceAdd, Nat.reduceSub, Nat.reduceMul, Nat.reduceBEq, Int.reduceLT, Int.reduceLE, Int.reduceToNat, Int.reduceNeg, Int.reducePow, Int.reduceAdd, Int.reduceMul, Int.reduceSub, ↓Int.reduceNatCast', idxA_ptr, add_i]
      refine next_head (i + 1) (by omega) (by omega) ?_
      rw [e, ← List.append_assoc]
      simp only [push_cast, ↓wF_free, ↓reduceIte, Nat.reduceEqDiff, Nat.reduceLT, Nat.reduceLeDiff, Nat.reduceAdd, Nat.reduceSub, Nat.reduceMul, Nat.reduceBEq, Int.reduceLT, Int.reduceLE, Int.reduceToNat, Int.reduceNeg, Int.reducePow, Int.reduceAdd, Int.reduceMul, Int.reduceSub, ↓Int.reduceNatCast'] <;> rfl
    · obtain rfl : i = 32 := by omega
      rw [List.take_of_length_le (by omega)]
      have hne : (a.bs ++ b.bs).map byteD ≠ [] := by
        intro h; have := congrArg List.length h; simp [ha] at this
      have hnz : nz 1 ((a.bs ++ b.bs).map byteD) = 1 := (nz_or _ _).resolve_right hne
      simp only [push_cast, ↓wF_free, ↓reduceIte, Nat.reduceEqDiff, Nat.reduceLT, Nat.reduceLeDiff, Nat.reduceAdd, Nat.reduceSub, Nat.reduceMul, Nat.reduceBEq, Int.reduceLT, Int.reduceLE, Int.reduceToNat, Int.reduceNeg, Int.reducePow, Int.reduceAdd, Int.reduceMul, Int.reduceSub, ↓Int.reduceNatCast', hnz]
theorem c_Pair : Contract Tryd.prog GG 51 sp_Pair :=
  contract_of tr_wagonpoolref04_Pair (tb_ok all_nil all_nil) (fun a h => w_Pair a.1 a.2)

noncomputable def sp_rParent : List D → Option D := spOf (α := Dig × Dig) (fun a => [digD a.1, digD a.2]) (fun a => True) (fun a => digD (parentL a.1 a.2))
theorem call_rParent (a : Dig) (b : Dig) : sp_rParent [digD a, digD b] = some (digD (parentL a b)) :=
  spOf_enc (fun ⟨a0, a1⟩ ⟨b0, b1⟩ h => by simp only [List.cons.injEq, D.slc.injEq, D.int.injEq, D.bool.injEq, D.str.injEq, D.agg.injEq, digs_iff, dig_iff, digC_iff, bytes_iff, byte_iff, words_iff, word_iff, Sha.St8.list_iff, bsl_iff, true_and, and_true, bisD_iff] at h; simp [h, Prod.ext_iff]) (a, b) trivial
set_option maxHeartbeats 4000000 in
set_option maxRecDepth 20000 in
theorem w_rParent (a : Dig) (b : Dig) : @wW GG (tb [(51, sp_Pair), (50, sp_rtagged)] []) F_wagonpoolref04_Parent.code (argF [digD a, digD b]) [] ⟨retQ F_wagonpoolref04_Parent.res (digD (parentL a b))⟩ := by
  unfold F_wagonpoolref04_Parent
  have ha := a.len
  have hb := b.len
  have hl : (a.bs ++ b.bs).length = 64 := by rw [List.length_append, ha, hb]
  have hne : (a.bs ++ b.bs).map byteD ≠ [] := by
    intro h; have := congrArg List.length h; simp [ha] at this
  have hnz : nz 1 ((a.bs ++ b.bs).map byteD) = 1 := (nz_or _ _).resolve_right hne
  have c := call_rtagged [110, 111, 100, 101] (a.bs ++ b.bs) (by rw [hl]; decide)
  rw [hnz] at c
  simp (disch := omega) only [push_cast, ↓wF_free, ↓reduceIte, Nat.reduceEqDiff, Nat.reduceLT, Nat.reduceLeDiff, Nat.reduceAdd, Nat.reduceSub, Nat.reduceMul, Nat.reduceBEq, Int.reduceLT, Int.reduceLE, Int.reduceToNat, Int.reduceNeg, Int.reducePow, Int.reduceAdd, Int.reduceMul, Int.reduceSub, ↓Int.reduceNatCast', call_Pair, hnz, c]
  rfl
theorem c_rParent : Contract Tryd.prog GG 38 sp_rParent :=
  contract_of tr_wagonpoolref04_Parent (tb_ok (all_cons c_Pair (all_cons c_rtagged all_nil)) all_nil) (fun a h => w_rParent a.1 a.2)

noncomputable def sp_bLen : List D → Option D := spOf (α := Int) (fun a => [.int .u64 a]) (fun a => 0 ≤ a ∧ a < 18446744073709551616) (fun a => .int .i64 (bitlen a.toNat : Int))
theorem call_bLen (x : Int) (h : 0 ≤ x ∧ x < 18446744073709551616) : sp_bLen [.int .u64 x] = some (.int .i64 (bitlen x.toNat : Int)) :=
  spOf_enc (fun a b h => by simp only [List.cons.injEq, D.slc.injEq, D.int.injEq, D.bool.injEq, D.str.injEq, D.agg.injEq, digs_iff, dig_iff, digC_iff, bytes_iff, byte_iff, words_iff, word_iff, Sha.St8.list_iff, bsl_iff, true_and, and_true, bisD_iff] at h; simp [h, Prod.ext_iff]) (x) h
set_option maxHeartbeats 4000000 in
set_option maxRecDepth 20000 in
theorem w_bLen (x : Int) (h : 0 ≤ x ∧ x < 18446744073709551616) : @wW GG (tb [(54, sp_bLen64)] []) F_math_bits_Len.code (argF [.int .u64 x]) [] ⟨retQ F_math_bits_Len.res (.int .i64 (bitlen x.toNat : Int))⟩ := by
  unfold F_math_bits_Len
  simp (disch := omega) only [push_cast, ↓wF_free, ↓reduceIte, Nat.reduceEqDiff, Nat.reduceLT, Nat.reduceLeDiff, Nat.reduceAdd, Nat.reduceSub, Nat.reduceMul, Nat.reduceBEq, Int.reduceLT, Int.reduceLE, Int.reduceToNat, Int.reduceNeg, Int.reducePow, Int.reduceAdd, Int.reduceMul, Int.reduceSub, ↓Int.reduceNatCast', call_bLen64]
theorem c_bLen : Contract Tryd.prog GG 43 sp_bLen :=
  contract_of tr_math_bits_Len (tb_ok (all_cons c_bLen64 all_nil) all_nil) (fun a h => w_bLen a h)

noncomputable def sp_mDepth : List D → Option D := spOf (α := Int) (fun a => [.int .i64 a]) (fun a => True) (fun a => .int .i64 (depthL a))
theorem call_mDepth (n : Int) : sp_mDepth [.int .i64 n] = some (.int .i64 (depthL n)) :=
  spOf_enc (fun a b h => by simp only [List.cons.injEq, D.slc.injEq, D.int.injEq, D.bool.injEq, D.str.injEq, D.agg.injEq, digs_iff, dig_iff, digC_iff, bytes_iff, byte_iff, words_iff, word_iff, Sha.St8.list_iff, bsl_iff, true_and, and_true, bisD_iff] at h; simp [h, Prod.ext_iff]) (n) trivial
set_option maxHeartbeats 4000000 in
set_option maxRecDepth 20000 in
theorem w_mDepth (n : Int) : @wW GG (tb [(43, sp_bLen)] []) F_merkle_Depth.code (argF [.int .i64 n]) [] ⟨retQ F_merkle_Depth.res (.int .i64 (depthL n))⟩ := by
  unfold F_merkle_Depth
  simp only [push_cast, ↓wF_free, ↓reduceIte, Nat.reduceEqDiff, Nat.reduceLT, Nat.reduceLeDiff, Nat.reduceAdd, Nat.reduceSub, Nat.reduceMul, Nat.reduceBEq, Int.reduceLT, Int.reduceLE, Int.reduceToNat, Int.reduceNeg, Int.reducePow, Int.reduceAdd, Int.reduceMul, Int.reduceSub, ↓Int.reduceNatCast']
  refine ifD_split (fun h1 => ?_) (fun h1 => ?_)
  · simp only [push_cast, ↓wF_free, ↓reduceIte, Nat.reduceEqDiff, Nat.reduceLT, Nat.reduceLeDiff, Nat.reduceAdd, Nat.reduceSub, Nat.reduceMul, Nat.reduceBEq, Int.reduceLT, Int.reduceLE, Int.reduceToNat, Int.reduceNeg, Int.reducePow, Int.reduceAdd, Int.reduceMul, Int.reduceSub, ↓Int.reduceNatCast', h1, depthL_bad (.inl h1)]
  · simp only [push_cast, ↓wF_free, ↓reduceIte, Nat.reduceEqDiff, Nat.reduceLT, Nat.reduceLeDiff, Nat.reduceAdd, Nat.reduceSub, Nat.reduceMul, Nat.reduceBEq, Int.reduceLT, Int.reduceLE, Int.reduceToNat, Int.reduceNeg, Int.reducePow, Int.reduceAdd, Int.reduceMul, Int.reduceSub, ↓Int.reduceNatCast', h1]
    refine ifD_split (fun h2 => ?_) (fun h2 => ?_)
    · simp only [push_cast, ↓wF_free, ↓reduceIte, Nat.reduceEqDiff, Nat.reduceLT, Nat.reduceLeDiff, Nat.reduceAdd, Nat.reduceSub, Nat.reduceMul, Nat.reduceBEq, Int.reduceLT, Int.reduceLE, Int.reduceToNat, Int.reduceNeg, Int.reducePow, Int.reduceAdd, Int.reduceMul, Int.reduceSub, ↓Int.reduceNatCast', h1, h2, depthL_bad (.inr h2)]
    · have e : (max n 1 - 1).toNat = (max n 1).toNat - 1 := by omega
      have e2 := (depthL_ok (n := n) (by omega) (by omega)).1
      simp (disch := omega) only [push_cast, ↓wF_free, ↓reduceIte, Nat.reduceEqDiff, Nat.reduceLT, Nat.reduceLeDiff, Nat.reduceAdd, Nat.reduceSub, Nat.reduceMul, Nat.reduceBEq, Int.reduceLT, Int.reduceLE, Int.reduceToNat, Int.reduceNeg, Int.reducePow, Int.reduceAdd, Int.reduceMul, Int.reduceSub, ↓Int.reduceNatCast', h1, h2, sub_i, conv_iu, call_bLen, e2, e]
theorem c_mDepth : Contract Tryd.prog GG 22 sp_mDepth :=
  contract_of tr_merkle_Depth (tb_ok (all_cons c_bLen all_nil) all_nil) (fun a h => w_mDepth a)

noncomputable def sp_rpower : List D → Option D := spOf (α := Int) (fun a => [.int .i64 a]) (fun a => 0 ≤ a ∧ a ≤ 60) (fun a => .int .i64 (2 ^ a.toNat))
theorem call_rpower (n : Int) (h : 0 ≤ n ∧ n ≤ 60) : sp_rpower [.int .i64 n] = some (.int .i64 (2 ^ n.toNat)) :=
  spOf_enc (fun a b h => by simp only [List.cons.injEq, D.slc.injEq, D.int.injEq, D.bool.injEq, D.str.injEq, D.agg.injEq, digs_iff, dig_iff, digC_iff, bytes_iff, byte_iff, words_iff, word_iff, Sha.St8.list_iff, bsl_iff, true_and, and_true, bisD_iff] at h; simp [h, Prod.ext_iff]) (n) h
set_option maxHeartbeats 4000000 in
set_option maxRecDepth 20000 in
theorem w_rpower (n : Int) (h : 0 ≤ n ∧ n ≤ 60) : @wW GG (tb [] []) F_wagonpoolref04_power.code (argF [.int .i64 n]) [] ⟨retQ F_wagonpoolref04_power.res (.int .i64 (2 ^ n.toNat))⟩ := by
  unfold F_wagonpoolref04_power
  simp only [push_cast, ↓wF_free, ↓reduceIte, Nat.reduceEqDiff, Nat.reduceLT, Nat.reduceLeDiff, Nat.reduceAdd, Nat.reduceSub, Nat.reduceMul, Nat.reduceBEq, Int.reduceLT, Int.reduceLE, Int.reduceToNat, Int.reduceNeg, Int.reducePow, Int.reduceAdd, Int.reduceMul, Int.reduceSub, ↓Int.reduceNatCast']
  refine W_while (fun i : Nat => [(0, .int .i64 n), (3, .int .i64 (2 ^ i)), (4, .int .i64 (i : Int))]) (fun _ => []) (fun i => (i : Int) ≤ n) (fun i => n.toNat - i) 0 (by simp only [push_cast, ↓wF_free, ↓reduceIte, Nat.reduceEqDiff, Nat.reduceLT, Nat.reduceLeDiff, Nat.reduceAdd, Nat.reduceSub, Nat.reduceMul, Nat.reduceBEq, Int.reduceLT, Int.reduceLE, Int.reduceToNat, Int.reduceNeg, Int.reducePow, Int.reduceAdd, Int.reduceMul, Int.reduceSub, ↓Int.reduceNatCast'] <;> rfl) (by omega) ?_
  intro i hi
  unfold F_wagonpoolref04_power_L0
  simp only [push_cast, ↓wF_free, ↓reduceIte, Nat.reduceEqDiff, Nat.reduceLT, Nat.reduceLeDiff, Nat.reduceAdd, Nat.reduceSub, Nat.reduceMul, Nat.reduceBEq, Int.reduceLT, Int.reduceLE, Int.reduceToNat, Int.reduceNeg, Int.reducePow, Int.reduceAdd, Int.reduceMul, Int.reduceSub, ↓Int.reduceNatCast']
  refine ifD_split (fun h1 => ?_) (fun h1 => ?_)
  · have h2 : (2 : Int) ^ i ≤ 2 ^ 60 := pow_mono (by omega)
    have h3 := pow_pos2 i
    have e : (2 : Int) * 2 ^ i = 2 ^ (i + 1) := by rw [Int.pow_succ, Int.mul_comm]
    simp (disch := omega) only [push_cast, ↓wF_free, ↓reduceIte, Nat.reduceEqDiff, Nat.reduceLT, Nat.reduceLeDiff, Nat.reduceAdd, Nat.reduceSub, Nat.reduceMul, Nat.reduceBEq, Int.reduceLT, Int.reduceLE, Int.reduceToNat, Int.reduceNeg, Int.reducePow, Int.reduceAdd, Int.reduceMul, Int.reduceSub, ↓Int.reduceNatCast', mul_i, add_i]
    refine next_head (i + 1) (by omega) (by omega) ?_
    simp only [push_cast, ↓wF_free, ↓reduceIte, Nat.reduceEqDiff, Nat.reduceLT, Nat.reduceLeDiff, Nat.reduceAdd, Nat.reduceSub, Nat.reduceMul, Nat.reduceBEq, Int.reduceLT, Int.reduceLE, Int.reduceToNat, Int.reduceNeg, Int.reducePow, Int.reduceAdd, Int.reduceMul, Int.reduceSub, ↓Int.reduceNatCast', e] <;> rfl
  · have e : n.toNat = i := by omega
    simp only [push_cast, ↓wF_free, ↓reduceIte, Nat.reduceEqDiff, Nat.reduceLT, Nat.reduceLeDiff, Nat.reduceAdd, Nat.reduceSub, Nat.reduceMul, Nat.reduceBEq, Int.reduceLT, Int.reduceLE, Int.reduceToNat, Int.reduceNeg, Int.reducePow, Int.reduceAdd, Int.reduceMul, Int.reduceSub, ↓Int.reduceNatCast', e]
theorem c_rpower : Contract Tryd.prog GG 48 sp_rpower :=
  contract_of tr_wagonpoolref04_power (tb_ok all_nil all_nil) (fun a h => w_rpower a h)

noncomputable def sp_rDepth : List D → Option D := spOf (α := Int) (fun a => [.int .i64 a]) (fun a => True) (fun a => .int .i64 (depthL a))
theorem call_rDepth (n : Int) : sp_rDepth [.int .i64 n] = some (.int .i64 (depthL n)) :=
  spOf_enc (fun a b h => by simp only [List.cons.injEq, D.slc.injEq, D.int.injEq, D.bool.injEq, D.str.injEq, D.agg.injEq, digs_iff, dig_iff, digC_iff, bytes_iff, byte_iff, words_iff, word_iff, Sha.St8.list_iff, bsl_iff, true_and, and_true, bisD_iff] at h; simp [h, Prod.ext_iff]) (n) trivial
set_option maxHeartbeats 4000000 in
set_option maxRecDepth 20000 in
theorem w_rDepth (n : Int) : @wW GG (tb [(48, sp_rpower)] []) F_wagonpoolref04_Depth.code (argF [.int .i64 n]) [] ⟨retQ F_wagonpoolref04_Depth.res (.int .i64 (depthL n))⟩ := by
  unfold F_wagonpoolref04_Depth
  simp only [push_cast, ↓wF_free, ↓reduceIte, Nat.reduceEqDiff, Nat.reduceLT, Nat.reduceLeDiff, Nat.reduceAdd, Nat.reduceSub, Nat.reduceMul, Nat.reduceBEq, Int.reduceLT, Int.reduceLE, Int.reduceToNat, Int.reduceNeg, Int.reducePow, Int.reduceAdd, Int.reduceMul, Int.reduceSub, ↓Int.reduceNatCast']
  refine ifD_split (fun h1 => ?_) (fun h1 => ?_)
  · simp only [push_cast, ↓wF_free, ↓reduceIte, Nat.reduceEqDiff, Nat.reduceLT, Nat.reduceLeDiff, Nat.reduceAdd, Nat.reduceSub, Nat.reduceMul, Nat.reduceBEq, Int.reduceLT, Int.reduceLE, Int.reduceToNat, Int.reduceNeg, Int.reducePow, Int.reduceAdd, Int.reduceMul, Int.reduceSub, ↓Int.reduceNatCast', h1, depthL_bad (.inl h1)]
  · simp only [push_cast, ↓wF_free, ↓reduceIte, Nat.reduceEqDiff, Nat.reduceLT, Nat.reduceLeDiff, Nat.reduceAdd, Nat.reduceSub, Nat.reduceMul, Nat.reduceBEq, Int.reduceLT, Int.reduceLE, Int.reduceToNat, Int.reduceNeg, Int.reducePow, Int.reduceAdd, Int.reduceMul, Int.reduceSub, ↓Int.reduceNatCast', h1]
    refine ifD_split (fun h2 => ?_) (fun h2 => ?_)
    · simp only [push_cast, ↓wF_free, ↓reduceIte, Nat.reduceEqDiff, Nat.reduceLT, Nat.reduceLeDiff, Nat.reduceAdd, Nat.reduceSub, Nat.reduceMul, Nat.reduceBEq, Int.reduceLT, Int.reduceLE, Int.reduceToNat, Int.reduceNeg, Int.reducePow, Int.reduceAdd, Int.reduceMul, Int.reduceSub, ↓Int.reduceNatCast', h1, h2, depthL_bad (.inr h2)]
    · obtain ⟨e1, e2, e3⟩ := depthL_ok (n := n) (by omega) (by omega)
      simp only [push_cast, ↓wF_free, ↓reduceIte, Nat.reduceEqDiff, Nat.reduceLT, Nat.reduceLeDiff, Nat.reduceAdd, Nat.reduceSub, Nat.reduceMul, Nat.reduceBEq, Int.reduceLT, Int.reduceLE, Int.reduceToNat, Int.reduceNeg, Int.reducePow, Int.reduceAdd, Int.reduceMul, Int.reduceSub, ↓Int.reduceNatCast', h1, h2]
      refine W_while (fun i : Nat => [(0, .int .i64 n), (3, .int .i64 (i : Int))]) (fun _ => []) (fun i => (i : Int) ≤ depthL n) (fun i => (depthL n).toNat - i) 0 (by simp only [push_cast, ↓wF_free, ↓reduceIte, Nat.reduceEqDiff, Nat.reduceLT, Nat.reduceLeDiff, Nat.reduceAdd, Nat.reduceSub, Nat.reduceMul, Nat.reduceBEq, Int.reduceLT, Int.reduceLE, Int.reduceToNat, Int.reduceNeg, Int.reducePow, Int.reduceAdd, Int.reduceMul, Int.reduceSub, ↓Int.reduceNatCast'] <;> rfl) (by omega) ?_
      intro i hi
      unfold F_wagonpoolref04_Depth_L0
      simp (disch := omega) only [push_cast, ↓wF_free, ↓reduceIte, Nat.reduceEqDiff, Nat.reduceLT, Nat.reduceLeDiff, Nat.reduceAdd, Nat.reduceSub, Nat.reduceMul, Nat.reduceBEq, Int.reduceLT, Int.reduceLE, Int.reduceToNat, Int.reduceNeg, Int.reducePow, Int.reduceAdd, Int.reduceMul, Int.reduceSub, ↓Int.reduceNatCast', call_rpower]
      refine ifD_split (fun h3 => ?_) (fun h3 => ?_)
      · have h4 : (i : Int) < depthL n := by
          rcases Int.lt_or_le (i : Int) (depthL n) with h4 | h4
          · exact h4
          · have h5 : (depthL n).toNat = i := by omega
            have := depthL_le (n := n) (by omega) (by omega)
            rw [h5] at this
            omega
        simp (disch := omega) only [push_cast, ↓wF_free, ↓reduceIte, Nat.reduceEqDiff, Nat.reduceLT, Nat.reduceLeDiff, Nat.reduceAdd, Nat.reduceSub, Nat.reduceMul, Nat.reduceBEq, Int.reduceLT, Int.reduceLE, Int.reduceToNat, Int.reduceNeg, Int.reducePow, Int.reduceAdd, Int.reduceMul, Int.reduceSub, ↓Int.reduceNatCast', add_i]
        refine next_head (i + 1) (by omega) (by omega) ?_
        simp only [push_cast, ↓wF_free, ↓reduceIte, Nat.reduceEqDiff, Nat.reduceLT, Nat.reduceLeDiff, Nat.reduceAdd, Nat.reduceSub, Nat.reduceMul, Nat.reduceBEq, Int.reduceLT, Int.reduceLE, Int.reduceToNat, Int.reduceNeg, Int.reducePow, Int.reduceAdd, Int.reduceMul, Int.reduceSub, ↓Int.reduceNatCast'] <;> rfl
      · have h4 : ¬ ((i : Int) < depthL n) := fun h5 => h3 (depthL_least (by omega) (by omega) i h5)
        have e : depthL n = i := by omega
        simp only [push_cast, ↓wF_free, ↓reduceIte, Nat.reduceEqDiff, Nat.reduceLT, Nat.reduceLeDiff, Nat.reduceAdd, Nat.reduceSub, Nat.reduceMul, Nat.reduceBEq, Int.reduceLT, Int.reduceLE, Int.reduceToNat, Int.reduceNeg, Int.reducePow, Int.reduceAdd, Int.reduceMul, Int.reduceSub, ↓Int.reduceNatCast', e]
theorem c_rDepth : Contract Tryd.prog GG 36 sp_rDepth :=
  contract_of tr_wagonpoolref04_Depth (tb_ok (all_cons c_rpower all_nil) all_nil) (fun a h => w_rDepth a)


noncomputable def sp_rAt : List D → Option D := spOf (α := List Dig × Int) (fun a => [.slc (nz 32 (a.1.map digD)) (a.1.map digD) false, .int .i64 a.2]) (fun a => 0 ≤ a.2) (fun a => digD (atL a.1 a.2 padL))
theorem call_rAt (l : List Dig) (i : Int) (h : 0 ≤ i) : sp_rAt [.slc (nz 32 (l.map digD)) (l.map digD) false, .int .i64 i] = some (digD (atL l i padL)) :=
  spOf_enc (fun ⟨a0, a1⟩ ⟨b0, b1⟩ h => by simp only [List.cons.injEq, D.slc.injEq, D.int.injEq, D.bool.injEq, D.str.injEq, D.agg.injEq, digs_iff, dig_iff, digC_iff, bytes_iff, byte_iff, words_iff, word_iff, Sha.St8.list_iff, bsl_iff, true_and, and_true, bisD_iff] at h; simp [h, Prod.ext_iff]) (l, i) h
set_option maxHeartbeats 4000000 in
set_option maxRecDepth 20000 in
theorem w_rAt (l : List Dig) (i : Int) (h : 0 ≤ i) : @wW GG (tb [(45, sp_rPad)] []) F_wagonpoolref04_At.code (argF [.slc (nz 32 (l.map digD)) (l.map digD) false, .int .i64 i]) [] ⟨retQ F_wagonpoolref04_At.res (digD (atL l i padL))⟩ := by
  unfold F_wagonpoolref04_At
  simp only [push_cast, ↓wF_free, ↓reduceIte, Nat.reduceEqDiff, Nat.reduceLT, Nat.reduceLeDiff, Nat.reduceAdd, Nat.reduceSub, Nat.reduceMul, Nat.reduceBEq, Int.reduceLT, Int.reduceLE, Int.reduceToNat, Int.reduceNeg, Int.reducePow, Int.reduceAdd, Int.reduceMul, Int.reduceSub, ↓Int.reduceNatCast']
  refine ifD_split (fun h2 => ?_) (fun h2 => ?_)
  · simp (disch := omega) only [push_cast, ↓wF_free, ↓reduceIte, Nat.reduceEqDiff, Nat.reduceLT, Nat.reduceLeDiff, Nat.reduceAdd, Nat.reduceSub, Nat.reduceMul, Nat.reduceBEq, Int.reduceLT, Int.reduceLE, Int.reduceToNat, Int.reduceNeg, Int.reducePow, Int.reduceAdd, Int.reduceMul, Int.reduceSub, ↓Int.reduceNatCast', idxS_nz, atL, h2]
  · simp (disch := omega) only [push_cast, ↓wF_free, ↓reduceIte, Nat.reduceEqDiff, Nat.reduceLT, Nat.reduceLeDiff, Nat.reduceAdd, Nat.reduceSub, Nat.reduceMul, Nat.reduceBEq, Int.reduceLT, Int.reduceLE, Int.reduceToNat, Int.reduceNeg, Int.reducePow, Int.reduceAdd, Int.reduceMul, Int.reduceSub, ↓Int.reduceNatCast', call_rPad, atL, h2]
theorem c_rAt : Contract Tryd.prog GG 26 sp_rAt :=
  contract_of tr_wagonpoolref04_At (tb_ok (all_cons c_rPad all_nil) all_nil) (fun a h => w_rAt a.1 a.2 h)

end Go.Proofs.YtokhnpjchpmndaaDoor.PI
