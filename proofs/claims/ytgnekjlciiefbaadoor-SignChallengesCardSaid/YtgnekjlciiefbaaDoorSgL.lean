/-
  math/bits.Len64.
  Conditions: none; these are lemmas.
-/
import Derived.Test.YtgnekjlciiefbaaDoorFns
import Derived.Test.YtgnekjlciiefbaaDoorEngU
import Derived.Test.YtgnekjlciiefbaaDoorMkP
import Derived.Test.YtgnekjlciiefbaaDoorDgC
namespace Go.Proofs.YtgnekjlciiefbaaDoor.PI
open Go
set_option linter.unusedSimpArgs false
set_option linter.unusedVariables false

theorem len8_eq : ([0, 1, 2, 2, 3, 3, 3, 3, 4, 4, 4, 4, 4, 4, 4, 4, 5, 5, 5, 5, 5, 5, 5, 5, 5, 5, 5, 5, 5, 5, 5, 5, 6, 6, 6, 6, 6, 6, 6, 6, 6, 6, 6, 6, 6, 6, 6, 6, 6, 6, 6, 6, 6, 6, 6, 6, 6, 6, 6, 6, 6, 6, 6, 6, 7, 7, 7, 7, 7, 7, 7, 7, 7, 7, 7, 7, 7, 7, 7, 7, 7, 7, 7, 7, 7, 7, 7, 7, 7, 7, 7, 7, 7, 7, 7, 7, 7, 7, 7, 7, 7, 7, 7, 7, 7, 7, 7, 7, 7, 7, 7, 7, 7, 7, 7, 7, 7, 7, 7, 7, 7, 7, 7, 7, 7, 7, 7, 7, 8, 8, 8, 8, 8, 8, 8, 8, 8, 8, 8, 8, 8, 8, 8, 8, 8, 8, 8, 8, 8, 8, 8, 8, 8, 8, 8, 8, 8, 8, 8, 8, 8, 8, 8, 8, 8, 8, 8, 8, 8, 8, 8, 8, 8, 8, 8, 8, 8, 8, 8, 8, 8, 8, 8, 8, 8, 8, 8, 8, 8, 8, 8, 8, 8, 8, 8, 8, 8, 8, 8, 8, 8, 8, 8, 8, 8, 8, 8, 8, 8, 8, 8, 8, 8, 8, 8, 8, 8, 8, 8, 8, 8, 8, 8, 8, 8, 8, 8, 8, 8, 8, 8, 8, 8, 8, 8, 8, 8, 8, 8, 8, 8, 8, 8, 8, 8, 8, 8, 8, 8, 8, 8, 8, 8, 8, 8, 8] : List UInt8) = (List.range 256).map (fun j => UInt8.ofNat (bitlen j)) := by kernel_rfl
theorem len8_get (j : Nat) (h : j < 256) : ((((List.range 256).map (fun j => UInt8.ofNat (bitlen j))).getD j default).toNat : Int) = bitlen j := by
  have h1 : bitlen j ≤ 8 := bitlen_lt (k := 8) (by omega)
  simp [List.getD_eq_getElem?_getD, h]
  omega
theorem len8_length : ((List.range 256).map (fun j => UInt8.ofNat (bitlen j))).length = 256 := by simp

theorem idx_len8 (b : UInt8) : pidx (.str ((List.range 256).map (fun j => UInt8.ofNat (bitlen j)))) (byteD b) = some (byteD (((List.range 256).map (fun j => UInt8.ofNat (bitlen j))).getD b.toNat default)) := idx_byte _ b (by rw [len8_length]; exact b.toNat_lt)
theorem len8_b (b : UInt8) : ((((List.range 256).map (fun j => UInt8.ofNat (bitlen j))).getD b.toNat default).toNat : Int) = bitlen b.toNat := len8_get _ b.toNat_lt
theorem ofNat_lt (m : Nat) (h : m < 256) : (UInt8.ofNat m).toNat = m := by simp; omega

noncomputable def sp_bLen64 : List D → Option D := spOf (α := Int) (fun a => [.int .u64 a]) (fun a => 0 ≤ a ∧ a < 18446744073709551616) (fun a => .int .i64 (bitlen a.toNat : Int))
theorem call_bLen64 (x : Int) (h : 0 ≤ x ∧ x < 18446744073709551616) : sp_bLen64 [.int .u64 x] = some (.int .i64 (bitlen x.toNat : Int)) :=
  spOf_enc (fun a b h => by simp only [List.cons.injEq, D.slc.injEq, D.int.injEq, D.bool.injEq, D.str.injEq, D.agg.injEq, digs_iff, dig_iff, digC_iff, bytes_iff, byte_iff, words_iff, word_iff, Sha.St8.list_iff, bsl_iff, true_and, and_true] at h; simp [h, Prod.ext_iff]) (x) h
set_option maxHeartbeats 4000000 in
set_option maxRecDepth 20000 in
theorem w_bLen64 (x : Int) (h : 0 ≤ x ∧ x < 18446744073709551616) : @wW GG (tb [] []) F_math_bits_Len64.code (argF [.int .u64 x]) [] ⟨retQ F_math_bits_Len64.res (.int .i64 (bitlen x.toNat : Int))⟩ := by
  obtain ⟨h0, h1⟩ := h
  obtain ⟨n, rfl⟩ := Int.eq_ofNat_of_zero_le h0
  rw [Int.toNat_natCast]
  have d1 := bitlen_div n 32
  have d2 := bitlen_div n 16
  have d3 := bitlen_div n 8
  have d4 := bitlen_div (n / 2 ^ 32) 16
  have d5 := bitlen_div (n / 2 ^ 32) 8
  have d6 := bitlen_div (n / 2 ^ 32 / 2 ^ 16) 8
  have d7 := bitlen_div (n / 2 ^ 16) 8
  have b8 : ∀ y, y < 256 → bitlen y ≤ 8 := fun y hy => bitlen_lt (k := 8) (by omega)
  unfold F_math_bits_Len64
  rw [len8_eq]
  simp only [push_cast, ↓wF_free, ↓reduceIte, Nat.reduceEqDiff, Nat.reduceLT, Nat.reduceLeDiff, Nat.reduceAdd, Nat.reduceSub, Nat.reduceMul, Nat.reduceBEq, Int.reduceLT, Int.reduceLE, Int.reduceToNat, Int.reduceNeg, Int.reducePow, Int.reduceAdd, Int.reduceMul, Int.reduceSub, ↓Int.reduceNatCast']
  refine ifD_split (fun h2 => ?_) (fun h2 => ?_)
  · simp (disch := omega) only [push_cast, ↓wF_free, ↓reduceIte, Nat.reduceEqDiff, Nat.reduceLT, Nat.reduceLeDiff, Nat.reduceAdd, Nat.reduceSub, Nat.reduceMul, Nat.reduceBEq, Int.reduceLT, Int.reduceLE, Int.reduceToNat, Int.reduceNeg, Int.reducePow, Int.reduceAdd, Int.reduceMul, Int.reduceSub, ↓Int.reduceNatCast', shr_u, add_i]
    · refine ifD_split (fun h3 => ?_) (fun h3 => ?_)
      · simp (disch := omega) only [push_cast, ↓wF_free, ↓reduceIte, Nat.reduceEqDiff, Nat.reduceLT, Nat.reduceLeDiff, Nat.reduceAdd, Nat.reduceSub, Nat.reduceMul, Nat.reduceBEq, Int.reduceLT, Int.reduceLE, Int.reduceToNat, Int.reduceNeg, Int.reducePow, Int.reduceAdd, Int.reduceMul, Int.reduceSub, ↓Int.reduceNatCast', shr_u, add_i]
        · refine ifD_split (fun h4 => ?_) (fun h4 => ?_)
          · simp (disch := omega) only [push_cast, ↓wF_free, ↓reduceIte, Nat.reduceEqDiff, Nat.reduceLT, Nat.reduceLeDiff, Nat.reduceAdd, Nat.reduceSub, Nat.reduceMul, Nat.reduceBEq, Int.reduceLT, Int.reduceLE, Int.reduceToNat, Int.reduceNeg, Int.reducePow, Int.reduceAdd, Int.reduceMul, Int.reduceSub, ↓Int.reduceNatCast', shr_u, add_i]
            · have ey : ((n : Int) / 4294967296 / 65536 / 256).toNat = n / 2 ^ 32 / 2 ^ 16 / 2 ^ 8 := by omega
              have hb := b8 (n / 2 ^ 32 / 2 ^ 16 / 2 ^ 8) (by omega)
              have ed1 := d1 (by omega)
              have ed4 := d4 (by omega)
              have ed6 := d6 (by omega)
              simp (disch := omega) only [push_cast, ↓wF_free, ↓reduceIte, Nat.reduceEqDiff, Nat.reduceLT, Nat.reduceLeDiff, Nat.reduceAdd, Nat.reduceSub, Nat.reduceMul, Nat.reduceBEq, Int.reduceLT, Int.reduceLE, Int.reduceToNat, Int.reduceNeg, Int.reducePow, Int.reduceAdd, Int.reduceMul, Int.reduceSub, ↓Int.reduceNatCast', conv_ub, idx_len8, conv_bi, len8_get, ofNat_lt, ey, add_i]
              refine congrArg (fun z => some (D.int .i64 z)) ?_
              omega
          · simp (disch := omega) only [push_cast, ↓wF_free, ↓reduceIte, Nat.reduceEqDiff, Nat.reduceLT, Nat.reduceLeDiff, Nat.reduceAdd, Nat.reduceSub, Nat.reduceMul, Nat.reduceBEq, Int.reduceLT, Int.reduceLE, Int.reduceToNat, Int.reduceNeg, Int.reducePow, Int.reduceAdd, Int.reduceMul, Int.reduceSub, ↓Int.reduceNatCast', shr_u, add_i]
            · have ey : ((n : Int) / 4294967296 / 65536).toNat = n / 2 ^ 32 / 2 ^ 16 := by omega
              have hb := b8 (n / 2 ^ 32 / 2 ^ 16) (by omega)
              have ed1 := d1 (by omega)
              have ed4 := d4 (by omega)
              simp (disch := omega) only [push_cast, ↓wF_free, ↓reduceIte, Nat.reduceEqDiff, Nat.reduceLT, Nat.reduceLeDiff, Nat.reduceAdd, Nat.reduceSub, Nat.reduceMul, Nat.reduceBEq, Int.reduceLT, Int.reduceLE, Int.reduceToNat, Int.reduceNeg, Int.reducePow, Int.reduceAdd, Int.reduceMul, Int.reduceSub, ↓Int.reduceNatCast', conv_ub, idx_len8, conv_bi, len8_get, ofNat_lt, ey, add_i]
              refine congrArg (fun z => some (D.int .i64 z)) ?_
              omega
      · simp (disch := omega) only [push_cast, ↓wF_free, ↓reduceIte, Nat.reduceEqDiff, Nat.reduceLT, Nat.reduceLeDiff, Nat.reduceAdd, Nat.reduceSub, Nat.reduceMul, Nat.reduceBEq, Int.reduceLT, Int.reduceLE, Int.reduceToNat, Int.reduceNeg, Int.reducePow, Int.reduceAdd, Int.reduceMul, Int.reduceSub, ↓Int.reduceNatCast', shr_u, add_i]
        · refine ifD_split (fun h4 => ?_) (fun h4 => ?_)
          · simp (disch := omega) only [push_cast, ↓wF_free, ↓reduceIte, Nat.reduceEqDiff, Nat.reduceLT, Nat.reduceLeDiff, Nat.reduceAdd, Nat.reduceSub, Nat.reduceMul, Nat.reduceBEq, Int.reduceLT, Int.reduceLE, Int.reduceToNat, Int.reduceNeg, Int.reducePow, Int.reduceAdd, Int.reduceMul, Int.reduceSub, ↓Int.reduceNatCast', shr_u, add_i]
            · have ey : ((n : Int) / 4294967296 / 256).toNat = n / 2 ^ 32 / 2 ^ 8 := by omega
              have hb := b8 (n / 2 ^ 32 / 2 ^ 8) (by omega)
              have ed1 := d1 (by omega)
              have ed5 := d5 (by omega)
              simp (disch := omega) only [push_cast, ↓wF_free, ↓reduceIte, Nat.reduceEqDiff, Nat.reduceLT, Nat.reduceLeDiff, Nat.reduceAdd, Nat.reduceSub, Nat.reduceMul, Nat.reduceBEq, Int.reduceLT, Int.reduceLE, Int.reduceToNat, Int.reduceNeg, Int.reducePow, Int.reduceAdd, Int.reduceMul, Int.reduceSub, ↓Int.reduceNatCast', conv_ub, idx_len8, conv_bi, len8_get, ofNat_lt, ey, add_i]
              refine congrArg (fun z => some (D.int .i64 z)) ?_
              omega
          · simp (disch := omega) only [push_cast, ↓wF_free, ↓reduceIte, Nat.reduceEqDiff, Nat.reduceLT, Nat.reduceLeDiff, Nat.reduceAdd, Nat.reduceSub, Nat.reduceMul, Nat.reduceBEq, Int.reduceLT, Int.reduceLE, Int.reduceToNat, Int.reduceNeg, Int.reducePow, Int.reduceAdd, Int.reduceMul, Int.reduceSub, ↓Int.reduceNatCast', shr_u, add_i]
            · have ey : ((n : Int) / 4294967296).toNat = n / 2 ^ 32 := by omega
              have hb := b8 (n / 2 ^ 32) (by omega)
              have ed1 := d1 (by omega)
              simp (disch := omega) only [push_cast, ↓wF_free, ↓reduceIte, Nat.reduceEqDiff, Nat.reduceLT, Nat.reduceLeDiff, Nat.reduceAdd, Nat.reduceSub, Nat.reduceMul, Nat.reduceBEq, Int.reduceLT, Int.reduceLE, Int.reduceToNat, Int.reduceNeg, Int.reducePow, Int.reduceAdd, Int.reduceMul, Int.reduceSub, ↓Int.reduceNatCast', conv_ub, idx_len8, conv_bi, len8_get, ofNat_lt, ey, add_i]
              refine congrArg (fun z => some (D.int .i64 z)) ?_
              omega
  · simp (disch := omega) only [push_cast, ↓wF_free, ↓reduceIte, Nat.reduceEqDiff, Nat.reduceLT, Nat.reduceLeDiff, Nat.reduceAdd, Nat.reduceSub, Nat.reduceMul, Nat.reduceBEq, Int.reduceLT, Int.reduceLE, Int.reduceToNat, Int.reduceNeg, Int.reducePow, Int.reduceAdd, Int.reduceMul, Int.reduceSub, ↓Int.reduceNatCast', shr_u, add_i]
    · refine ifD_split (fun h3 => ?_) (fun h3 => ?_)
      · simp (disch := omega) only [push_cast, ↓wF_free, ↓reduceIte, Nat.reduceEqDiff, Nat.reduceLT, Nat.reduceLeDiff, Nat.reduceAdd, Nat.reduceSub, Nat.reduceMul, Nat.reduceBEq, Int.reduceLT, Int.reduceLE, Int.reduceToNat, Int.reduceNeg, Int.reducePow, Int.reduceAdd, Int.reduceMul, Int.reduceSub, ↓Int.reduceNatCast', shr_u, add_i]
        · refine ifD_split (fun h4 => ?_) (fun h4 => ?_)
          · simp (disch := omega) only [push_cast, ↓wF_free, ↓reduceIte, Nat.reduceEqDiff, Nat.reduceLT, Nat.reduceLeDiff, Nat.reduceAdd, Nat.reduceSub, Nat.reduceMul, Nat.reduceBEq, Int.reduceLT, Int.reduceLE, Int.reduceToNat, Int.reduceNeg, Int.reducePow, Int.reduceAdd, Int.reduceMul, Int.reduceSub, ↓Int.reduceNatCast', shr_u, add_i]
            · have ey : ((n : Int) / 65536 / 256).toNat = n / 2 ^ 16 / 2 ^ 8 := by omega
              have hb := b8 (n / 2 ^ 16 / 2 ^ 8) (by omega)
              have ed2 := d2 (by omega)
              have ed7 := d7 (by omega)
              simp (disch := omega) only [push_cast, ↓wF_free, ↓reduceIte, Nat.reduceEqDiff, Nat.reduceLT, Nat.reduceLeDiff, Nat.reduceAdd, Nat.reduceSub, Nat.reduceMul, Nat.reduceBEq, Int.reduceLT, Int.reduceLE, Int.reduceToNat, Int.reduceNeg, Int.reducePow, Int.reduceAdd, Int.reduceMul, Int.reduceSub, ↓Int.reduceNatCast', conv_ub, idx_len8, conv_bi, len8_get, ofNat_lt, ey, add_i]
              refine congrArg (fun z => some (D.int .i64 z)) ?_
              omega
          · simp (disch := omega) only [push_cast, ↓wF_free, ↓reduceIte, Nat.reduceEqDiff, Nat.reduceLT, Nat.reduceLeDiff, Nat.reduceAdd, Nat.reduceSub, Nat.reduceMul, Nat.reduceBEq, Int.reduceLT, Int.reduceLE, Int.reduceToNat, Int.reduceNeg, Int.reducePow, Int.reduceAdd, Int.reduceMul, Int.reduceSub, ↓Int.reduceNatCast', shr_u, add_i]
            · have ey : ((n : Int) / 65536).toNat = n / 2 ^ 16 := by omega
              have hb := b8 (n / 2 ^ 16) (by omega)
              have ed2 := d2 (by omega)
              simp (disch := omega) only [push_cast, ↓wF_free, ↓reduceIte, Nat.reduceEqDiff, Nat.reduceLT, Nat.reduceLeDiff, Nat.reduceAdd, Nat.reduceSub, Nat.reduceMul, Nat.reduceBEq, Int.reduceLT, Int.reduceLE, Int.reduceToNat, Int.reduceNeg, Int.reducePow, Int.reduceAdd, Int.reduceMul, Int.reduceSub, ↓Int.reduceNatCast', conv_ub, idx_len8, conv_bi, len8_get, ofNat_lt, ey, add_i]
              refine congrArg (fun z => some (D.int .i64 z)) ?_
              omega
      · simp (disch := omega) only [push_cast, ↓wF_free, ↓reduceIte, Nat.reduceEqDiff, Nat.reduceLT, Nat.reduceLeDiff, Nat.reduceAdd, Nat.reduceSub, Nat.reduceMul, Nat.reduceBEq, Int.reduceLT, Int.reduceLE, Int.reduceToNat, Int.reduceNeg, Int.reducePow, Int.reduceAdd, Int.reduceMul, Int.reduceSub, ↓Int.reduceNatCast', shr_u, add_i]
        · refine ifD_split (fun h4 => ?_) (fun h4 => ?_)
          · simp (disch := omega) only [push_cast, ↓wF_free, ↓reduceIte, Nat.reduceEqDiff, Nat.reduceLT, Nat.reduceLeDiff, Nat.reduceAdd, Nat.reduceSub, Nat.reduceMul, Nat.reduceBEq, Int.reduceLT, Int.reduceLE, Int.reduceToNat, Int.reduceNeg, Int.reducePow, Int.reduceAdd, Int.reduceMul, Int.reduceSub, ↓Int.reduceNatCast', shr_u, add_i]
            · have ey : ((n : Int) / 256).toNat = n / 2 ^ 8 := by omega
              have hb := b8 (n / 2 ^ 8) (by omega)
              have ed3 := d3 (by omega)
              simp (disch := omega) only [push_cast, ↓wF_free, ↓reduceIte, Nat.reduceEqDiff, Nat.reduceLT, Nat.reduceLeDiff, Nat.reduceAdd, Nat.reduceSub, Nat.reduceMul, Nat.reduceBEq, Int.reduceLT, Int.reduceLE, Int.reduceToNat, Int.reduceNeg, Int.reducePow, Int.reduceAdd, Int.reduceMul, Int.reduceSub, ↓Int.reduceNatCast', conv_ub, idx_len8, conv_bi, len8_get, ofNat_lt, ey, add_i]
              refine congrArg (fun z => some (D.int .i64 z)) ?_
              omega
          · simp (disch := omega) only [push_cast, ↓wF_free, ↓reduceIte, Nat.reduceEqDiff, Nat.reduceLT, Nat.reduceLeDiff, Nat.reduceAdd, Nat.reduceSub, Nat.reduceMul, Nat.reduceBEq, Int.reduceLT, Int.reduceLE, Int.reduceToNat, Int.reduceNeg, Int.reducePow, Int.reduceAdd, Int.reduceMul, Int.reduceSub, ↓Int.reduceNatCast', shr_u, add_i]
            · have ey : ((n : Int)).toNat = n := by omega
              have hb := b8 (n) (by omega)
              simp (disch := omega) only [push_cast, ↓wF_free, ↓reduceIte, Nat.reduceEqDiff, Nat.reduceLT, Nat.reduceLeDiff, Nat.reduceAdd, Nat.reduceSub, Nat.reduceMul, Nat.reduceBEq, Int.reduceLT, Int.reduceLE, Int.reduceToNat, Int.reduceNeg, Int.reducePow, Int.reduceAdd, Int.reduceMul, Int.reduceSub, ↓Int.reduceNatCast', conv_ub, idx_len8, conv_bi, len8_get, ofNat_lt, ey, add_i]
              refine congrArg (fun z => some (D.int .i64 z)) ?_
              omega
theorem c_bLen64 : Contract Tryd.prog GG 32 sp_bLen64 :=
  contract_of tr_math_bits_Len64 (tb_ok all_nil all_nil) (fun a h => w_bLen64 a h)
end Go.Proofs.YtgnekjlciiefbaaDoor.PI
