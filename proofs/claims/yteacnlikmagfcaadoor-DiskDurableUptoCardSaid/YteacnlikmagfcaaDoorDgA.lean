/-
  digest: what the program's SHA-256 and its tagged digests compute.
  Conditions: none; these are lemmas.
-/
import Derived.Test.YteacnlikmagfcaaDoorFns
import Derived.Test.YteacnlikmagfcaaDoorEngU
import Derived.Test.YteacnlikmagfcaaDoorSha
namespace Go.Proofs.YteacnlikmagfcaaDoor.PI
open Go
set_option linter.unusedSimpArgs false
set_option linter.unusedVariables false

def GG : Glob := tabG 0 .u32 (Sha.K.map fun x => (x.toNat : Int))
theorem GG_k : GG 0 = some (.agg (Sha.K.map wD)) := rfl

theorem and31 (k : Int) : pbin .and (.int .u64 (IntKind.wrap .u64 k)) (.int .u64 31) = some (.int .u64 ((k % 32).toNat : Int)) := by
  have h : (BitVec.ofInt (IntKind.bits .u64) (IntKind.wrap .u64 k) &&& BitVec.ofInt (IntKind.bits .u64) 31).toNat = (k % 32).toNat := by
    show (BitVec.ofInt 64 (IntKind.wrap .u64 k) &&& BitVec.ofInt 64 31).toNat = _
    rw [BitVec.toNat_and, show (BitVec.ofInt 64 31).toNat = 2 ^ 5 - 1 from rfl, Nat.and_two_pow_sub_one_eq_mod, BitVec.toNat_ofInt]
    simp [IntKind.wrap, IntKind.signed, IntKind.bits]
    omega
  simp only [pbin, if_true, ibits, Option.map_some, h, wrap_u64]
  congr 2
  omega

noncomputable def sp_rotl : List D → Option D := spOf (α := UInt32 × Int) (fun a => [wD a.1, .int .i64 a.2]) (fun a => -31 ≤ a.2 ∧ a.2 ≤ -1) (fun a => wD (Sha.rotr a.1 (-a.2).toNat))
theorem call_rotl (x : UInt32) (k : Int) (h : -31 ≤ k ∧ k ≤ -1) : sp_rotl [wD x, .int .i64 k] = some (wD (Sha.rotr x (-k).toNat)) :=
  spOf_enc (fun ⟨a0, a1⟩ ⟨b0, b1⟩ h => by simp only [List.cons.injEq, D.slc.injEq, D.int.injEq, D.bool.injEq, D.str.injEq, D.agg.injEq, digs_iff, dig_iff, digC_iff, bytes_iff, byte_iff, words_iff, word_iff, Sha.St8.list_iff, bsl_iff, true_and, and_true] at h; simp [h, Prod.ext_iff]) (x, k) h
set_option maxHeartbeats 4000000 in
set_option maxRecDepth 20000 in
theorem w_rotl (x : UInt32) (k : Int) (h : -31 ≤ k ∧ k ≤ -1) : @wW GG (tb [] []) F_math_bits_RotateLeft32.code (argF [wD x, .int .i64 k]) [] ⟨retQ F_math_bits_RotateLeft32.res (wD (Sha.rotr x (-k).toNat))⟩ := by
  obtain ⟨h1, h2⟩ := h
  have hs : ∃ s : Nat, (k % 32).toNat = s ∧ 0 < s ∧ s < 32 ∧ (-k).toNat = 32 - s := ⟨(k % 32).toNat, rfl, by omega, by omega, by omega⟩
  obtain ⟨s, e1, e2, e3, e4⟩ := hs
  have e : pbin .sub (.int .u64 32) (.int .u64 (s : Int)) = some (.int .u64 ((32 - s : Nat) : Int)) := by
    simp only [pbin, if_true, iarith, Option.map_some]
    rw [show (32 - (s : Int)) = ((32 - s : Nat) : Int) by omega, wrap_u64, Nat.mod_eq_of_lt (by omega)]
  have hc : ∀ st, pconv st (.int .u64) (.int .i64 k) = some (.int .u64 (IntKind.wrap .u64 k)) := fun _ => rfl
  have e5 : Sha.rotr x (32 - s) = x <<< UInt32.ofNat s ||| x >>> UInt32.ofNat (32 - s) := by
    unfold Sha.rotr
    rw [show 32 - (32 - s) = s by omega, UInt32.or_comm]
  unfold F_math_bits_RotateLeft32
  simp only [push_cast, ↓wF_free, ↓reduceIte, Nat.reduceEqDiff, Nat.reduceLT, Nat.reduceLeDiff, Nat.reduceAdd, Nat.reduceSub, Nat.reduceMul, Nat.reduceBEq, Int.reduceLT, Int.reduceLE, Int.reduceToNat, Int.reduceNeg, Int.reducePow, Int.reduceAdd, Int.reduceMul, Int.reduceSub, ↓Int.reduceNatCast', hc, and31, e1, e, shl_w _ _ _ e3, shr_w x .u64 (32 - s) (by omega), or_w, e4, e5]
theorem c_rotl : Contract Tryd.prog GG 42 sp_rotl :=
  contract_of tr_math_bits_RotateLeft32 (tb_ok all_nil all_nil) (fun a h => w_rotl a.1 a.2 h)

/-- the schedule so far, and zeros behind it -/
def schZ (b : List UInt8) (i : Nat) : List UInt32 := Sha.sch b i ++ List.replicate (64 - i) 0
theorem schZ_length (b : List UInt8) (i : Nat) (h : i ≤ 64) : (schZ b i).length = 64 := by
  simp [schZ, Sha.sch_length]; omega
theorem schZ_get (b : List UInt8) (i j : Nat) (h : j < i) : (schZ b i).getD j default = (Sha.sch b i).getD j 0 := by
  have h2 : j < (Sha.sch b i).length := by rw [Sha.sch_length]; exact h
  simp [schZ, List.getD_eq_getElem?_getD, List.getElem?_append_left h2, h2]
theorem schZ_set (b : List UInt8) (i : Nat) (v : UInt32) (h : i < 64) (hv : Sha.sch b (i + 1) = Sha.sch b i ++ [v]) : (schZ b i).set i v = schZ b (i + 1) := by
  have h2 : (Sha.sch b i).length = i := Sha.sch_length b i
  unfold schZ
  rw [hv, List.set_append_right _ _ (by omega), h2, Nat.sub_self, show 64 - i = (64 - (i + 1)) + 1 by omega, List.replicate_succ, List.set_cons_zero, List.append_assoc]
  rfl
theorem sch_lo (b : List UInt8) (i : Nat) (h : i < 16) : Sha.sch b (i + 1) = Sha.sch b i ++ [Sha.word b i] := by
  simp [Sha.sch, h]
theorem sch_hi (b : List UInt8) (i : Nat) (h : 16 ≤ i) : Sha.sch b (i + 1) = Sha.sch b i ++ [(Sha.sch b i).getD (i - 16) 0 + Sha.sig0 ((Sha.sch b i).getD (i - 15) 0) + (Sha.sch b i).getD (i - 7) 0 + Sha.sig1 ((Sha.sch b i).getD (i - 2) 0)] := by
  simp [Sha.sch, Nat.not_lt.2 h]

theorem K_length : Sha.K.length = 64 := rfl
theorem add8 (s t : Sha.St8) (i : Nat) (h : i < 8) : (((s.add t).list.take i ++ s.list.drop i).set i (((s.add t).list.take i ++ s.list.drop i).getD i default + t.list.getD i default)) = (s.add t).list.take (i + 1) ++ s.list.drop (i + 1) := by
  rcases i with _ | _ | _ | _ | _ | _ | _ | _ | i <;> first | rfl | omega

noncomputable def sp_block : List D → Option D := spOf (α := Sha.St8 × List UInt8) (fun a => [.agg (Sha.St8.list a.1 |>.map wD), .slc (nz 1 (a.2.map byteD)) (a.2.map byteD) false]) (fun a => a.2.length = 64) (fun a => .agg ((Sha.block a.1 a.2).list.map wD))
theorem call_block (s : Sha.St8) (b : List UInt8) (h : b.length = 64) : sp_block [.agg (Sha.St8.list s |>.map wD), .slc (nz 1 (b.map byteD)) (b.map byteD) false] = some (.agg ((Sha.block s b).list.map wD)) :=
  spOf_enc (fun ⟨a0, a1⟩ ⟨b0, b1⟩ h => by simp only [List.cons.injEq, D.slc.injEq, D.int.injEq, D.bool.injEq, D.str.injEq, D.agg.injEq, digs_iff, dig_iff, digC_iff, bytes_iff, byte_iff, words_iff, word_iff, Sha.St8.list_iff, bsl_iff, true_and, and_true] at h; simp [h, Prod.ext_iff]) (s, b) h
set_option maxHeartbeats 4000000 in
set_option maxRecDepth 20000 in
theorem w_block (s : Sha.St8) (b : List UInt8) (h : b.length = 64) : @wW GG (tb [(42, sp_rotl)] []) F_digest_block.code (argF [.agg (Sha.St8.list s |>.map wD), .slc (nz 1 (b.map byteD)) (b.map byteD) false]) [] ⟨retQ F_digest_block.res (.agg ((Sha.block s b).list.map wD))⟩ := by
  unfold F_digest_block
  simp only [push_cast, ↓wF_free, ↓reduceIte, Nat.reduceEqDiff, Nat.reduceLT, Nat.reduceLeDiff, Nat.reduceAdd, Nat.reduceSub, Nat.reduceMul, Nat.reduceBEq, Int.reduceLT, Int.reduceLE, Int.reduceToNat, Int.reduceNeg, Int.reducePow, Int.reduceAdd, Int.reduceMul, Int.reduceSub, ↓Int.reduceNatCast']
  refine W_while (fun i : Nat => [(1, .slc (nz 1 (b.map byteD)) (b.map byteD) false), (2, .ptr 0 0), (4, .ptr 1 0), (5, .ptr 2 0), (19, .int .i64 (i : Int))])
    (fun i => [⟨false, 1, s.list.map wD, false⟩, ⟨false, 1, (zW 8).map wD, false⟩, ⟨false, 1, (schZ b i).map wD, false⟩]) (fun i => i ≤ 16) (fun i => 16 - i) 0 (by simp only [push_cast, ↓wF_free, ↓reduceIte, Nat.reduceEqDiff, Nat.reduceLT, Nat.reduceLeDiff, Nat.reduceAdd, Nat.reduceSub, Nat.reduceMul, Nat.reduceBEq, Int.reduceLT, Int.reduceLE, Int.reduceToNat, Int.reduceNeg, Int.reducePow, Int.reduceAdd, Int.reduceMul, Int.reduceSub, ↓Int.reduceNatCast'] <;> rfl) (by omega) ?_
  intro i hi
  unfold F_digest_block_L0
  simp only [push_cast, ↓wF_free, ↓reduceIte, Nat.reduceEqDiff, Nat.reduceLT, Nat.reduceLeDiff, Nat.reduceAdd, Nat.reduceSub, Nat.reduceMul, Nat.reduceBEq, Int.reduceLT, Int.reduceLE, Int.reduceToNat, Int.reduceNeg, Int.reducePow, Int.reduceAdd, Int.reduceMul, Int.reduceSub, ↓Int.reduceNatCast']
  refine ifD_split (fun h1 => ?_) (fun h1 => ?_)
  · have h1' : i < 16 := by omega
    have e0 : (4 * (i : Int)).toNat = 4 * i := by omega
    have e1 : (4 * (i : Int) + 1).toNat = 4 * i + 1 := by omega
    have e2 : (4 * (i : Int) + 2).toNat = 4 * i + 2 := by omega
    have e3 : (4 * (i : Int) + 3).toNat = 4 * i + 3 := by omega
    have hl : (schZ b i).length = 64 := schZ_length b i (by omega)
    have hw := schZ_set b i (Sha.word b i) (by omega) (sch_lo b i h1')
    simp (disch := omega) only [push_cast, ↓wF_free, ↓reduceIte, Nat.reduceEqDiff, Nat.reduceLT, Nat.reduceLeDiff, Nat.reduceAdd, Nat.reduceSub, Nat.reduceMul, Nat.reduceBEq, Int.reduceLT, Int.reduceLE, Int.reduceToNat, Int.reduceNeg, Int.reducePow, Int.reduceAdd, Int.reduceMul, Int.reduceSub, ↓Int.reduceNatCast', mul_i, add_i, idxS_nz, conv_bw, shl_wi, or_w, idxA_ptr, e0, e1, e2, e3]
    refine next_head (i + 1) (by omega) (by omega) ?_
    rw [← hw]
    simp only [push_cast, ↓wF_free, ↓reduceIte, Nat.reduceEqDiff, Nat.reduceLT, Nat.reduceLeDiff, Nat.reduceAdd, Nat.reduceSub, Nat.reduceMul, Nat.reduceBEq, Int.reduceLT, Int.reduceLE, Int.reduceToNat, Int.reduceNeg, Int.reducePow, Int.reduceAdd, Int.reduceMul, Int.reduceSub, ↓Int.reduceNatCast'] <;> rfl
  · obtain rfl : i = 16 := by omega
    simp only [push_cast, ↓wF_free, ↓reduceIte, Nat.reduceEqDiff, Nat.reduceLT, Nat.reduceLeDiff, Nat.reduceAdd, Nat.reduceSub, Nat.reduceMul, Nat.reduceBEq, Int.reduceLT, Int.reduceLE, Int.reduceToNat, Int.reduceNeg, Int.reducePow, Int.reduceAdd, Int.reduceMul, Int.reduceSub, ↓Int.reduceNatCast']
    refine W_while (fun i : Nat => [(2, .ptr 0 0), (4, .ptr 1 0), (5, .ptr 2 0), (7, .int .i64 (i : Int))])
      (fun i => [⟨false, 1, s.list.map wD, false⟩, ⟨false, 1, (zW 8).map wD, false⟩, ⟨false, 1, (schZ b i).map wD, false⟩]) (fun i => 16 ≤ i ∧ i ≤ 64) (fun i => 64 - i) 16 (by simp only [push_cast, ↓wF_free, ↓reduceIte, Nat.reduceEqDiff, Nat.reduceLT, Nat.reduceLeDiff, Nat.reduceAdd, Nat.reduceSub, Nat.reduceMul, Nat.reduceBEq, Int.reduceLT, Int.reduceLE, Int.reduceToNat, Int.reduceNeg, Int.reducePow, Int.reduceAdd, Int.reduceMul, Int.reduceSub, ↓Int.reduceNatCast'] <;> rfl) (by omega) ?_
    intro i hi
    unfold F_digest_block_L1
    simp only [push_cast, ↓wF_free, ↓reduceIte, Nat.reduceEqDiff, Nat.reduceLT, Nat.reduceLeDiff, Nat.reduceAdd, Nat.reduceSub, Nat.reduceMul, Nat.reduceBEq, Int.reduceLT, Int.reduceLE, Int.reduceToNat, Int.reduceNeg, Int.reducePow, Int.reduceAdd, Int.reduceMul, Int.reduceSub, ↓Int.reduceNatCast']
    refine ifD_split (fun h2 => ?_) (fun h2 => ?_)
    · have hl : (schZ b i).length = 64 := schZ_length b i (by omega)
      have hw := schZ_set b i _ (by omega) (sch_hi b i (by omega))
      have e0 : ((i : Int) - 15).toNat = i - 15 := by omega
      have e1 : ((i : Int) - 2).toNat = i - 2 := by omega
      have e2 : ((i : Int) - 16).toNat = i - 16 := by omega
      have e3 : ((i : Int) - 7).toNat = i - 7 := by omega
      simp (disch := omega) only [push_cast, ↓wF_free, ↓reduceIte, Nat.reduceEqDiff, Nat.reduceLT, Nat.reduceLeDiff, Nat.reduceAdd, Nat.reduceSub, Nat.reduceMul, Nat.reduceBEq, Int.reduceLT, Int.reduceLE, Int.reduceToNat, Int.reduceNeg, Int.reducePow, Int.reduceAdd, Int.reduceMul, Int.reduceSub, ↓Int.reduceNatCast', sub_i, add_i, idxA_ptr, call_rotl, xor_w, shr_wi, add_w, e0, e1, e2, e3, schZ_get]
      refine next_head (i + 1) (by omega) (by omega) ?_
      rw [← hw]
      simp only [push_cast, ↓wF_free, ↓reduceIte, Nat.reduceEqDiff, Nat.reduceLT, Nat.reduceLeDiff, Nat.reduceAdd, Nat.reduceSub, Nat.reduceMul, Nat.reduceBEq, Int.reduceLT, Int.reduceLE, Int.reduceToNat, Int.reduceNeg, Int.reducePow, Int.reduceAdd, Int.reduceMul, Int.reduceSub, ↓Int.reduceNatCast'] <;> rfl
    · obtain rfl : i = 64 := by omega
      have hs64 : schZ b 64 = Sha.sch b 64 := by simp [schZ]
      have hl : (Sha.sch b 64).length = 64 := Sha.sch_length b 64
      have hs8 : s.list.length = 8 := rfl
      have hz8 : (zW 8).length = 8 := rfl
      simp (disch := first | omega | rfl) only [push_cast, ↓wF_free, ↓reduceIte, Nat.reduceEqDiff, Nat.reduceLT, Nat.reduceLeDiff, Nat.reduceAdd, Nat.reduceSub, Nat.reduceMul, Nat.reduceBEq, Int.reduceLT, Int.reduceLE, Int.reduceToNat, Int.reduceNeg, Int.reducePow, Int.reduceAdd, Int.reduceMul, Int.reduceSub, ↓Int.reduceNatCast', hs64]
      refine W_while (fun i : Nat => [(2, .ptr 0 0), (4, .ptr 1 0), (5, .ptr 2 0), (12, .ptr 3 0), (102, .int .i64 (i : Int))])
        (fun i => [⟨false, 1, s.list.map wD, false⟩, ⟨false, 1, (zW 8).map wD, false⟩, ⟨false, 1, (Sha.sch b 64).map wD, false⟩, ⟨false, 1, (Sha.rounds (Sha.sch b 64) s i).list.map wD, false⟩]) (fun i => i ≤ 64) (fun i => 64 - i) 0 (by simp only [push_cast, ↓wF_free, ↓reduceIte, Nat.reduceEqDiff, Nat.reduceLT, Nat.reduceLeDiff, Nat.reduceAdd, Nat.reduceSub, Nat.reduceMul, Nat.reduceBEq, Int.reduceLT, Int.reduceLE, Int.reduceToNat, Int.reduceNeg, Int.reducePow, Int.reduceAdd, Int.reduceMul, Int.reduceSub, ↓Int.reduceNatCast'] <;> rfl) (by omega) ?_
      intro i hi
      unfold F_digest_block_L2
      simp only [push_cast, ↓wF_free, ↓reduceIte, Nat.reduceEqDiff, Nat.reduceLT, Nat.reduceLeDiff, Nat.reduceAdd, Nat.reduceSub, Nat.reduceMul, Nat.reduceBEq, Int.reduceLT, Int.reduceLE, Int.reduceToNat, Int.reduceNeg, Int.reducePow, Int.reduceAdd, Int.reduceMul, Int.reduceSub, ↓Int.reduceNatCast']
      refine ifD_split (fun h3 => ?_) (fun h3 => ?_)
      · have hK : Sha.K.length = 64 := rfl
        have hn : Sha.rounds (Sha.sch b 64) s (i + 1) = Sha.round (Sha.rounds (Sha.sch b 64) s i) (Sha.K.getD i 0) ((Sha.sch b 64).getD i 0) := rfl
        generalize Sha.rounds (Sha.sch b 64) s i = r at hn
        simp (disch := omega) only [push_cast, ↓wF_free, ↓reduceIte, Nat.reduceEqDiff, Nat.reduceLT, Nat.reduceLeDiff, Nat.reduceAdd, Nat.reduceSub, Nat.reduceMul, Nat.reduceBEq, Int.reduceLT, Int.reduceLE, Int.reduceToNat, Int.reduceNeg, Int.reducePow, Int.reduceAdd, Int.reduceMul, Int.reduceSub, ↓Int.reduceNatCast', Sha.St8.list, idxA_ptr, idxA_eptr, rho_g _ _ _ _ GG_k, call_rotl, xor_w, and_w, not_w, add_w, add_i]
        refine next_head (i + 1) (by omega) (by omega) ?_
        rw [hn]
        rfl
      · obtain rfl : i = 64 := by omega
        have hb : Sha.block s b = s.add (Sha.rounds (Sha.sch b 64) s 64) := rfl
        rw [hb]
        generalize Sha.rounds (Sha.sch b 64) s 64 = r
        simp only [push_cast, ↓wF_free, ↓reduceIte, Nat.reduceEqDiff, Nat.reduceLT, Nat.reduceLeDiff, Nat.reduceAdd, Nat.reduceSub, Nat.reduceMul, Nat.reduceBEq, Int.reduceLT, Int.reduceLE, Int.reduceToNat, Int.reduceNeg, Int.reducePow, Int.reduceAdd, Int.reduceMul, Int.reduceSub, ↓Int.reduceNatCast']
        refine W_while (fun i : Nat => [(2, .ptr 0 0), (4, .ptr 1 0), (12, .ptr 3 0), (182, .int .i64 (i : Int))])
          (fun i => [⟨false, 1, ((s.add r).list.take i ++ s.list.drop i).map wD, false⟩, ⟨false, 1, (zW 8).map wD, false⟩, ⟨false, 1, (Sha.sch b 64).map wD, false⟩, ⟨false, 1, r.list.map wD, false⟩]) (fun i => i ≤ 8) (fun i => 8 - i) 0 (by simp only [push_cast, ↓wF_free, ↓reduceIte, Nat.reduceEqDiff, Nat.reduceLT, Nat.reduceLeDiff, Nat.reduceAdd, Nat.reduceSub, Nat.reduceMul, Nat.reduceBEq, Int.reduceLT, Int.reduceLE, Int.reduceToNat, Int.reduceNeg, Int.reducePow, Int.reduceAdd, Int.reduceMul, Int.reduceSub, ↓Int.reduceNatCast'] <;> rfl) (by omega) ?_
        intro i hi
        have hl1 : ((s.add r).list.take i ++ s.list.drop i).length = 8 := by
          simp only [List.length_append, List.length_take, List.length_drop, Sha.St8.list_length]; omega
        have hl2 : r.list.length = 8 := rfl
        unfold F_digest_block_L3
        simp only [push_cast, ↓wF_free, ↓reduceIte, Nat.reduceEqDiff, Nat.reduceLT, Nat.reduceLeDiff, Nat.reduceAdd, Nat.reduceSub, Nat.reduceMul, Nat.reduceBEq, Int.reduceLT, Int.reduceLE, Int.reduceToNat, Int.reduceNeg, Int.reducePow, Int.reduceAdd, Int.reduceMul, Int.reduceSub, ↓Int.reduceNatCast']
        refine ifD_split (fun h4 => ?_) (fun h4 => ?_)
        · have ha := add8 s r i (by omega)
          simp (disch := omega) only [push_cast, ↓wF_free, ↓reduceIte, Nat.reduceEqDiff, Nat.reduceLT, Nat.reduceLeDiff, Nat.reduceAdd, Nat.reduceSub, Nat.reduceMul, Nat.reduceBEq, Int.reduceLT, Int.reduceLE, Int.reduceToNat, Int.reduceNeg, Int.reducePow, Int.reduceAdd, Int.reduceMul, Int.reduceSub, ↓Int.reduceNatCast', idxA_ptr, add_w, add_i]
          refine next_head (i + 1) (by omega) (by omega) ?_
          rw [← ha]
          simp only [push_cast, ↓wF_free, ↓reduceIte, Nat.reduceEqDiff, Nat.reduceLT, Nat.reduceLeDiff, Nat.reduceAdd, Nat.reduceSub, Nat.reduceMul, Nat.reduceBEq, Int.reduceLT, Int.reduceLE, Int.reduceToNat, Int.reduceNeg, Int.reducePow, Int.reduceAdd, Int.reduceMul, Int.reduceSub, ↓Int.reduceNatCast'] <;> rfl
        · obtain rfl : i = 8 := by omega
          have e8 : (s.add r).list.take 8 ++ s.list.drop 8 = (s.add r).list := rfl
          have hl3 : (s.add r).list.length = 8 := rfl
          simp (disch := first | omega | rfl) only [push_cast, ↓wF_free, ↓reduceIte, Nat.reduceEqDiff, Nat.reduceLT, Nat.reduceLeDiff, Nat.reduceAdd, Nat.reduceSub, Nat.reduceMul, Nat.reduceBEq, Int.reduceLT, Int.reduceLE, Int.reduceToNat, Int.reduceNeg, Int.reducePow, Int.reduceAdd, Int.reduceMul, Int.reduceSub, ↓Int.reduceNatCast', e8]
theorem c_block : Contract Tryd.prog GG 40 sp_block :=
  contract_of tr_digest_block (tb_ok (all_cons c_rotl all_nil) all_nil) (fun a h => w_block a.1 a.2 h)

end Go.Proofs.YteacnlikmagfcaaDoor.PI
