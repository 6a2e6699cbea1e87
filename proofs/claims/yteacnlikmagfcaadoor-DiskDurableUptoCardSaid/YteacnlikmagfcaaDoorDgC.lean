/-
  digest: what the reference's SHA-256 and its tagged digests compute.
  Conditions: none; these are lemmas.
-/
import Derived.Test.YteacnlikmagfcaaDoorDgB
namespace Go.Proofs.YteacnlikmagfcaaDoor.PI
open Go
set_option linter.unusedSimpArgs false
set_option linter.unusedVariables false

noncomputable def sp_rrotr : List D → Option D := spOf (α := UInt32 × Int) (fun a => [wD a.1, .int .i64 a.2]) (fun a => 1 ≤ a.2 ∧ a.2 ≤ 31) (fun a => wD (Sha.rotr a.1 a.2.toNat))
theorem call_rrotr (x : UInt32) (n : Int) (h : 1 ≤ n ∧ n ≤ 31) : sp_rrotr [wD x, .int .i64 n] = some (wD (Sha.rotr x n.toNat)) :=
  spOf_enc (fun ⟨a0, a1⟩ ⟨b0, b1⟩ h => by simp only [List.cons.injEq, D.slc.injEq, D.int.injEq, D.bool.injEq, D.str.injEq, D.agg.injEq, digs_iff, dig_iff, digC_iff, bytes_iff, byte_iff, words_iff, word_iff, Sha.St8.list_iff, bsl_iff, true_and, and_true] at h; simp [h, Prod.ext_iff]) (x, n) h
set_option maxHeartbeats 4000000 in
set_option maxRecDepth 20000 in
theorem w_rrotr (x : UInt32) (n : Int) (h : 1 ≤ n ∧ n ≤ 31) : @wW GG (tb [] []) F_wagonpoolref02_rotr.code (argF [wD x, .int .i64 n]) [] ⟨retQ F_wagonpoolref02_rotr.res (wD (Sha.rotr x n.toNat))⟩ := by
  unfold F_wagonpoolref02_rotr
  have e : (32 - n).toNat = 32 - n.toNat := by omega
  simp (disch := omega) only [push_cast, ↓wF_free, ↓reduceIte, Nat.reduceEqDiff, Nat.reduceLT, Nat.reduceLeDiff, Nat.reduceAdd, Nat.reduceSub, Nat.reduceMul, Nat.reduceBEq, Int.reduceLT, Int.reduceLE, Int.reduceToNat, Int.reduceNeg, Int.reducePow, Int.reduceAdd, Int.reduceMul, Int.reduceSub, ↓Int.reduceNatCast', shr_wi, shl_wi, sub_i, or_w, e]
  rfl
theorem c_rrotr : Contract Tryd.prog GG 49 sp_rrotr :=
  contract_of tr_wagonpoolref02_rotr (tb_ok all_nil all_nil) (fun a h => w_rrotr a.1 a.2 h)

noncomputable def sp_rconst : List D → Option D := spOf (α := Unit) (fun _ => []) (fun _ => True) (fun _ => .agg (Sha.K.map wD))
theorem call_rconst : sp_rconst [] = some (.agg (Sha.K.map wD)) :=
  spOf_enc (fun _ _ _ => rfl) () trivial
set_option maxHeartbeats 4000000 in
set_option maxRecDepth 20000 in
theorem w_rconst : @wW GG (tb [] []) F_wagonpoolref02_constants.code (argF []) [] ⟨retQ F_wagonpoolref02_constants.res (.agg (Sha.K.map wD))⟩ := by
  unfold F_wagonpoolref02_constants
  have h1 : Sha.K.length = 64 := rfl
  have h2 : (zW 64).length = 64 := rfl
  simp (disch := omega) only [push_cast, ↓wF_free, ↓reduceIte, Nat.reduceEqDiff, Nat.reduceLT, Nat.reduceLeDiff, Nat.reduceAdd, Nat.reduceSub, Nat.reduceMul, Nat.reduceBEq, Int.reduceLT, Int.reduceLE, Int.reduceToNat, Int.reduceNeg, Int.reducePow, Int.reduceAdd, Int.reduceMul, Int.reduceSub, ↓Int.reduceNatCast', fillK]
theorem c_rconst : Contract Tryd.prog GG 48 sp_rconst :=
  contract_of tr_wagonpoolref02_constants (tb_ok all_nil all_nil) (fun a h => w_rconst )

noncomputable def sp_rsched : List D → Option D := spOf (α := List UInt8) (fun a => [.slc (nz 1 (a.map byteD)) (a.map byteD) false]) (fun a => a.length = 64) (fun a => .agg ((Sha.sch a 64).map wD))
theorem call_rsched (b : List UInt8) (h : b.length = 64) : sp_rsched [.slc (nz 1 (b.map byteD)) (b.map byteD) false] = some (.agg ((Sha.sch b 64).map wD)) :=
  spOf_enc (fun a b h => by simp only [List.cons.injEq, D.slc.injEq, D.int.injEq, D.bool.injEq, D.str.injEq, D.agg.injEq, digs_iff, dig_iff, digC_iff, bytes_iff, byte_iff, words_iff, word_iff, Sha.St8.list_iff, bsl_iff, true_and, and_true] at h; simp [h, Prod.ext_iff]) (b) h
set_option maxHeartbeats 4000000 in
set_option maxRecDepth 20000 in
theorem w_rsched (b : List UInt8) (h : b.length = 64) : @wW GG (tb [(49, sp_rrotr)] []) F_wagonpoolref02_schedule.code (argF [.slc (nz 1 (b.map byteD)) (b.map byteD) false]) [] ⟨retQ F_wagonpoolref02_schedule.res (.agg ((Sha.sch b 64).map wD))⟩ := by
  unfold F_wagonpoolref02_schedule
  have h2 : (zW 64).length = 64 := rfl
  simp (disch := omega) only [push_cast, ↓wF_free, ↓reduceIte, Nat.reduceEqDiff, Nat.reduceLT, Nat.reduceLeDiff, Nat.reduceAdd, Nat.reduceSub, Nat.reduceMul, Nat.reduceBEq, Int.reduceLT, Int.reduceLE, Int.reduceToNat, Int.reduceNeg, Int.reducePow, Int.reduceAdd, Int.reduceMul, Int.reduceSub, ↓Int.reduceNatCast']
  refine W_while (fun i : Nat => [(0, .slc (nz 1 (b.map byteD)) (b.map byteD) false), (2, .ptr 0 0), (3, .ptr 1 0), (4, .int .i64 (i : Int))])
    (fun i => [⟨false, 1, (zW 64).map wD, false⟩, ⟨false, 1, (schZ b i).map wD, false⟩]) (fun i => i ≤ 16) (fun i => 16 - i) 0 (by simp only [push_cast, ↓wF_free, ↓reduceIte, Nat.reduceEqDiff, Nat.reduceLT, Nat.reduceLeDiff, Nat.reduceAdd, Nat.reduceSub, Nat.reduceMul, Nat.reduceBEq, Int.reduceLT, Int.reduceLE, Int.reduceToNat, Int.reduceNeg, Int.reducePow, Int.reduceAdd, Int.reduceMul, Int.reduceSub, ↓Int.reduceNatCast'] <;> rfl) (by omega) ?_
  intro i hi
  unfold F_wagonpoolref02_schedule_L0
  simp only [push_cast, ↓wF_free, ↓reduceIte, Nat.reduceEqDiff, Nat.reduceLT, Nat.reduceLeDiff, Nat.reduceAdd, Nat.reduceSub, Nat.reduceMul, Nat.reduceBEq, Int.reduceLT, Int.reduceLE, Int.reduceToNat, Int.reduceNeg, Int.reducePow, Int.reduceAdd, Int.reduceMul, Int.reduceSub, ↓Int.reduceNatCast']
  refine ifD_split (fun h1 => ?_) (fun h1 => ?_)
  · have h1' : i < 16 := by omega
    have e0 : (4 * (i : Int)).toNat = 4 * i := by omega
    have e1 : (4 * (i : Int) + 1).toNat = 4 * i + 1 := by omega
    have e2 : (4 * (i : Int) + 2).toNat = 4 * i + 2 := by omega
    have e3 : (4 * (i : Int) + 3).toNat = 4 * i + 3 := by omega
    have hl : (schZ b i).length = 64 := schZ_length b i (by omega)
    have hw := schZ_set b i (Sha.word b i) (by omega) (sch_lo b i h1')
    simp (disch := omega) only [push_cast, ↓wF_free, ↓reduceIte, Nat.reduceEqDiff, Nat.reduceLT, Nat.reduceLeDiff, Nat.reduceAdd, Nat.reduceSub, Nat.reduceMul, Nat.reduceBEq, Int.reduceLT, Int.reduceLE, Int.reduceToNat, Int.reduceNeg, Int.reducePow, Int.reduceAdd, Int.reduceMul, Int.reduceSub, ↓Int.reduceNatCast', mul_i, add_i, idxS_nz, conv_bw, shl_wi, or_w, idxA_ptr, e0, e1, e2, e3]
    refine next_head (i + 1) (by omega) (by omega) ?_
    rw [← hw]
    simp only [push_cast, ↓wF_free, ↓reduceIte, Nat.reduceEqDiff, Nat.reduceLT, Nat.reduceLeDiff, Nat.reduceAdd, Nat.reduceSub, Nat.reduceMul, Nat.reduceBEq, Int.reduceLT, Int.reduceLE, Int.reduceToNat, Int.reduceNeg, Int.reducePow, Int.reduceAdd, Int.reduceMul, Int.reduceSub, ↓Int.reduceNatCast'] <;> rfl
  · obtain rfl : i = 16 := by omega
    simp only [push_cast, ↓wF_free, ↓reduceIte, Nat.reduceEqDiff, Nat.reduceLT, Nat.reduceLeDiff, Nat.reduceAdd, Nat.reduceSub, Nat.reduceMul, Nat.reduceBEq, Int.reduceLT, Int.reduceLE, Int.reduceToNat, Int.reduceNeg, Int.reducePow, Int.reduceAdd, Int.reduceMul, Int.reduceSub, ↓Int.reduceNatCast']
    refine W_while (fun i : Nat => [(2, .ptr 0 0), (3, .ptr 1 0), (5, .int .i64 (i : Int))])
      (fun i => [⟨false, 1, (zW 64).map wD, false⟩, ⟨false, 1, (schZ b i).map wD, false⟩]) (fun i => 16 ≤ i ∧ i ≤ 64) (fun i => 64 - i) 16 (by simp only [push_cast, ↓wF_free, ↓reduceIte, Nat.reduceEqDiff, Nat.reduceLT, Nat.reduceLeDiff, Nat.reduceAdd, Nat.reduceSub, Nat.reduceMul, Nat.reduceBEq, Int.reduceLT, Int.reduceLE, Int.reduceToNat, Int.reduceNeg, Int.reducePow, Int.reduceAdd, Int.reduceMul, Int.reduceSub, ↓Int.reduceNatCast'] <;> rfl) (by omega) ?_
    intro i hi
    unfold F_wagonpoolref02_schedule_L1
    simp only [push_cast, ↓wF_free, ↓reduceIte, Nat.reduceEqDiff, Nat.reduceLT, Nat.reduceLeDiff, Nat.reduceAdd, Nat.reduceSub, Nat.reduceMul, Nat.reduceBEq, Int.reduceLT, Int.reduceLE, Int.reduceToNat, Int.reduceNeg, Int.reducePow, Int.reduceAdd, Int.reduceMul, Int.reduceSub, ↓Int.reduceNatCast']
    refine ifD_split (fun h3 => ?_) (fun h3 => ?_)
    · have hl : (schZ b i).length = 64 := schZ_length b i (by omega)
      have hw := schZ_set b i _ (by omega) (sch_hi b i (by omega))
      have e0 : ((i : Int) - 15).toNat = i - 15 := by omega
      have e1 : ((i : Int) - 2).toNat = i - 2 := by omega
      have e2 : ((i : Int) - 16).toNat = i - 16 := by omega
      have e3 : ((i : Int) - 7).toNat = i - 7 := by omega
      simp (disch := omega) only [push_cast, ↓wF_free, ↓reduceIte, Nat.reduceEqDiff, Nat.reduceLT, Nat.reduceLeDiff, Nat.reduceAdd, Nat.reduceSub, Nat.reduceMul, Nat.reduceBEq, Int.reduceLT, Int.reduceLE, Int.reduceToNat, Int.reduceNeg, Int.reducePow, Int.reduceAdd, Int.reduceMul, Int.reduceSub, ↓Int.reduceNatCast', sub_i, add_i, idxA_ptr, call_rrotr, xor_w, shr_wi, add_w, e0, e1, e2, e3, schZ_get]
      refine next_head (i + 1) (by omega) (by omega) ?_
      rw [← hw]
      simp only [push_cast, ↓wF_free, ↓reduceIte, Nat.reduceEqDiff, Nat.reduceLT, Nat.reduceLeDiff, Nat.reduceAdd, Nat.reduceSub, Nat.reduceMul, Nat.reduceBEq, Int.reduceLT, Int.reduceLE, Int.reduceToNat, Int.reduceNeg, Int.reducePow, Int.reduceAdd, Int.reduceMul, Int.reduceSub, ↓Int.reduceNatCast'] <;> rfl
    · obtain rfl : i = 64 := by omega
      have hs64 : schZ b 64 = Sha.sch b 64 := by simp [schZ]
      have hl : (Sha.sch b 64).length = 64 := Sha.sch_length b 64
      simp (disch := omega) only [push_cast, ↓wF_free, ↓reduceIte, Nat.reduceEqDiff, Nat.reduceLT, Nat.reduceLeDiff, Nat.reduceAdd, Nat.reduceSub, Nat.reduceMul, Nat.reduceBEq, Int.reduceLT, Int.reduceLE, Int.reduceToNat, Int.reduceNeg, Int.reducePow, Int.reduceAdd, Int.reduceMul, Int.reduceSub, ↓Int.reduceNatCast', hs64]
theorem c_rsched : Contract Tryd.prog GG 47 sp_rsched :=
  contract_of tr_wagonpoolref02_schedule (tb_ok (all_cons c_rrotr all_nil) all_nil) (fun a h => w_rsched a h)

noncomputable def sp_rblock : List D → Option D := spOf (α := Sha.St8 × List UInt8) (fun a => [.agg (Sha.St8.list a.1 |>.map wD), .slc (nz 1 (a.2.map byteD)) (a.2.map byteD) false]) (fun a => a.2.length = 64) (fun a => .agg ((Sha.block a.1 a.2).list.map wD))
theorem call_rblock (s : Sha.St8) (b : List UInt8) (h : b.length = 64) : sp_rblock [.agg (Sha.St8.list s |>.map wD), .slc (nz 1 (b.map byteD)) (b.map byteD) false] = some (.agg ((Sha.block s b).list.map wD)) :=
  spOf_enc (fun ⟨a0, a1⟩ ⟨b0, b1⟩ h => by simp only [List.cons.injEq, D.slc.injEq, D.int.injEq, D.bool.injEq, D.str.injEq, D.agg.injEq, digs_iff, dig_iff, digC_iff, bytes_iff, byte_iff, words_iff, word_iff, Sha.St8.list_iff, bsl_iff, true_and, and_true] at h; simp [h, Prod.ext_iff]) (s, b) h
set_option maxHeartbeats 4000000 in
set_option maxRecDepth 20000 in
theorem w_rblock (s : Sha.St8) (b : List UInt8) (h : b.length = 64) : @wW GG (tb [(49, sp_rrotr), (47, sp_rsched), (48, sp_rconst)] []) F_wagonpoolref02_block.code (argF [.agg (Sha.St8.list s |>.map wD), .slc (nz 1 (b.map byteD)) (b.map byteD) false]) [] ⟨retQ F_wagonpoolref02_block.res (.agg ((Sha.block s b).list.map wD))⟩ := by
  unfold F_wagonpoolref02_block
  have hz8 : (zW 8).length = 8 := rfl
  have hz64 : (zW 64).length = 64 := rfl
  have hl : (Sha.sch b 64).length = 64 := Sha.sch_length b 64
  have hs8 : s.list.length = 8 := rfl
  have hK : Sha.K.length = 64 := rfl
  simp (disch := omega) only [push_cast, ↓wF_free, ↓reduceIte, Nat.reduceEqDiff, Nat.reduceLT, Nat.reduceLeDiff, Nat.reduceAdd, Nat.reduceSub, Nat.reduceMul, Nat.reduceBEq, Int.reduceLT, Int.reduceLE, Int.reduceToNat, Int.reduceNeg, Int.reducePow, Int.reduceAdd, Int.reduceMul, Int.reduceSub, ↓Int.reduceNatCast', call_rsched, call_rconst]
  refine W_while (fun i : Nat => [(2, .ptr 0 0), (4, .ptr 1 0), (5, .ptr 2 0), (6, .ptr 3 0), (7, .ptr 4 0), (8, .int .i64 (i : Int))])
    (fun i => [⟨false, 1, s.list.map wD, false⟩, ⟨false, 1, (zW 8).map wD, false⟩, ⟨false, 1, (Sha.sch b 64).map wD, false⟩, ⟨false, 1, Sha.K.map wD, false⟩, ⟨false, 1, (Sha.rounds (Sha.sch b 64) s i).list.map wD, false⟩]) (fun i => i ≤ 64) (fun i => 64 - i) 0 (by simp only [push_cast, ↓wF_free, ↓reduceIte, Nat.reduceEqDiff, Nat.reduceLT, Nat.reduceLeDiff, Nat.reduceAdd, Nat.reduceSub, Nat.reduceMul, Nat.reduceBEq, Int.reduceLT, Int.reduceLE, Int.reduceToNat, Int.reduceNeg, Int.reducePow, Int.reduceAdd, Int.reduceMul, Int.reduceSub, ↓Int.reduceNatCast'] <;> rfl) (by omega) ?_
  intro i hi
  unfold F_wagonpoolref02_block_L0
  simp only [push_cast, ↓wF_free, ↓reduceIte, Nat.reduceEqDiff, Nat.reduceLT, Nat.reduceLeDiff, Nat.reduceAdd, Nat.reduceSub, Nat.reduceMul, Nat.reduceBEq, Int.reduceLT, Int.reduceLE, Int.reduceToNat, Int.reduceNeg, Int.reducePow, Int.reduceAdd, Int.reduceMul, Int.reduceSub, ↓Int.reduceNatCast']
  refine ifD_split (fun h3 => ?_) (fun h3 => ?_)
  · have hn : Sha.rounds (Sha.sch b 64) s (i + 1) = Sha.round (Sha.rounds (Sha.sch b 64) s i) (Sha.K.getD i 0) ((Sha.sch b 64).getD i 0) := rfl
    generalize Sha.rounds (Sha.sch b 64) s i = r at hn
    simp (disch := omega) only [push_cast, ↓wF_free, ↓reduceIte, Nat.reduceEqDiff, Nat.reduceLT, Nat.reduceLeDiff, Nat.reduceAdd, Nat.reduceSub, Nat.reduceMul, Nat.reduceBEq, Int.reduceLT, Int.reduceLE, Int.reduceToNat, Int.reduceNeg, Int.reducePow, Int.reduceAdd, Int.reduceMul, Int.reduceSub, ↓Int.reduceNatCast', Sha.St8.list, idxA_ptr, call_rrotr, xor_w, and_w, not_w, add_w, add_i]
    refine next_head (i + 1) (by omega) (by omega) ?_
    rw [hn]
    rfl
  · obtain rfl : i = 64 := by omega
    have hb : Sha.block s b = s.add (Sha.rounds (Sha.sch b 64) s 64) := rfl
    rw [hb]
    generalize Sha.rounds (Sha.sch b 64) s 64 = r
    simp only [push_cast, ↓wF_free, ↓reduceIte, Nat.reduceEqDiff, Nat.reduceLT, Nat.reduceLeDiff, Nat.reduceAdd, Nat.reduceSub, Nat.reduceMul, Nat.reduceBEq, Int.reduceLT, Int.reduceLE, Int.reduceToNat, Int.reduceNeg, Int.reducePow, Int.reduceAdd, Int.reduceMul, Int.reduceSub, ↓Int.reduceNatCast']
    refine W_while (fun i : Nat => [(2, .ptr 0 0), (4, .ptr 1 0), (7, .ptr 4 0), (15, .int .i64 (i : Int))])
      (fun i => [⟨false, 1, ((s.add r).list.take i ++ s.list.drop i).map wD, false⟩, ⟨false, 1, (zW 8).map wD, false⟩, ⟨false, 1, (Sha.sch b 64).map wD, false⟩, ⟨false, 1, Sha.K.map wD, false⟩, ⟨false, 1, r.list.map wD, false⟩]) (fun i => i ≤ 8) (fun i => 8 - i) 0 (by simp only [push_cast, ↓wF_free, ↓reduceIte, Nat.reduceEqDiff, Nat.reduceLT, Nat.reduceLeDiff, Nat.reduceAdd, Nat.reduceSub, Nat.reduceMul, Nat.reduceBEq, Int.reduceLT, Int.reduceLE, Int.reduceToNat, Int.reduceNeg, Int.reducePow, Int.reduceAdd, Int.reduceMul, Int.reduceSub, ↓Int.reduceNatCast'] <;> rfl) (by omega) ?_
    intro i hi
    have hl1 : ((s.add r).list.take i ++ s.list.drop i).length = 8 := by
      simp only [List.length_append, List.length_take, List.length_drop, Sha.St8.list_length]; omega
    have hl2 : r.list.length = 8 := rfl
    unfold F_wagonpoolref02_block_L1
    simp only [push_cast, ↓wF_free, ↓reduceIte, Nat.reduceEqDiff, Nat.reduceLT, Nat.reduceLeDiff, Nat.reduceAdd, Nat.reduceSub, Nat.reduceMul, Nat.reduceBEq, Int.reduceLT, Int.reduceLE, Int.reduceToNat, Int.reduceNeg, Int.reducePow, Int.reduceAdd, Int.reduceMul, Int.reduceSub, ↓Int.reduceNatCast']
    refine ifD_split (fun h4 => ?_) (fun h4 => ?_)
    · have ha := add8 s r i (by omega)
      simp (disch := omega) only [push_cast, ↓wF_free, ↓reduceIte, Nat.reduceEqDiff, Nat.reduceLT, Nat.reduceLeDiff, Nat.reduceAdd, Nat.reduceSub, Nat.reduceMul, Nat.reduceBEq, Int.reduceLT, Int.reduceLE, Int.reduceToNat, Int.reduceNeg, Int.reducePow, Int.reduceAdd, Int.reduceMul, Int.reduceSub, ↓Int.reduceNatCast', idxA_ptr, add_w, add_i]
      refine next_head (i + 1) (by omega) (by omega) ?_
      rw [← ha]
      simp only [push_cast, ↓wF_free, ↓reduceIte, Nat.reduceEqDiff, Nat.reduceLT, Nat.reduceLeDiff, Nat.reduceAdd, Nat.reduceSub, Nat.reduceMul, Nat.reduceBEq, Int.reduceLT, Int.reduceLE, Int.reduceToNat, Int.reduceNeg, Int.reducePow, Int.reduceAdd, Int.reduceMul, Int.reduceSub, ↓Int.reduceNatCast'] <;> rfl
    · obtain rfl : i = 8 := by omega
      have e8 : (s.add r).list.take 8 ++ s.list.drop 8 = (s.add r).list := rfl
      have hl3 : (s.add r).list.length = 8 := rfl
      simp (disch := omega) only [push_cast, ↓wF_free, ↓reduceIte, Nat.reduceEqDiff, Nat.reduceLT, Nat.reduceLeDiff, Nat.reduceAdd, Nat.reduceSub, Nat.reduceMul, Nat.reduceBEq, Int.reduceLT, Int.reduceLE, Int.reduceToNat, Int.reduceNeg, Int.reducePow, Int.reduceAdd, Int.reduceMul, Int.reduceSub, ↓Int.reduceNatCast', e8]
theorem c_rblock : Contract Tryd.prog GG 46 sp_rblock :=
  contract_of tr_wagonpoolref02_block (tb_ok (all_cons c_rrotr (all_cons c_rsched (all_cons c_rconst all_nil))) all_nil) (fun a h => w_rblock a.1 a.2 h)

noncomputable def sp_rpadded : List D → Option D := spOf (α := List UInt8) (fun a => [.slc (nz 1 (a.map byteD)) (a.map byteD) false]) (fun a => a.length ≤ 4294960000) (fun a => .slc (nz 1 ((Sha.padded a).map byteD)) ((Sha.padded a).map byteD) false)
theorem call_rpadded (m : List UInt8) (h : m.length ≤ 4294960000) : sp_rpadded [.slc (nz 1 (m.map byteD)) (m.map byteD) false] = some (.slc (nz 1 ((Sha.padded m).map byteD)) ((Sha.padded m).map byteD) false) :=
  spOf_enc (fun a b h => by simp only [List.cons.injEq, D.slc.injEq, D.int.injEq, D.bool.injEq, D.str.injEq, D.agg.injEq, digs_iff, dig_iff, digC_iff, bytes_iff, byte_iff, words_iff, word_iff, Sha.St8.list_iff, bsl_iff, true_and, and_true] at h; simp [h, Prod.ext_iff]) (m) h
set_option maxHeartbeats 4000000 in
set_option maxRecDepth 20000 in
theorem w_rpadded (m : List UInt8) (h : m.length ≤ 4294960000) : @wW GG (tb [] []) F_wagonpoolref02_padded.code (argF [.slc (nz 1 (m.map byteD)) (m.map byteD) false]) [] ⟨retQ F_wagonpoolref02_padded.res (.slc (nz 1 ((Sha.padded m).map byteD)) ((Sha.padded m).map byteD) false)⟩ := by
  unfold F_wagonpoolref02_padded
  have hne : (m ++ [128]).map byteD ≠ [] := by simp
  simp (disch := first | omega | decide) only [push_cast, ↓wF_free, ↓reduceIte, Nat.reduceEqDiff, Nat.reduceLT, Nat.reduceLeDiff, Nat.reduceAdd, Nat.reduceSub, Nat.reduceMul, Nat.reduceBEq, Int.reduceLT, Int.reduceLE, Int.reduceToNat, Int.reduceNeg, Int.reducePow, Int.reduceAdd, Int.reduceMul, Int.reduceSub, ↓Int.reduceNatCast', b128, papp_first, bufD_ne _ _ _ hne, bufS_ne _ _ hne]
  refine W_while (fun j : Nat => [(0, .slc (nz 1 (m.map byteD)) (m.map byteD) false), (3, .row 0 (m ++ [128] ++ List.replicate j 0).length 0 (m ++ [128] ++ List.replicate j 0).length)])
    (fun j => [⟨true, 1, (m ++ [128] ++ List.replicate j 0).map byteD, false⟩]) (fun j => j ≤ Sha.zeros m.length) (fun j => Sha.zeros m.length - j) 0 (by simp only [push_cast, ↓wF_free, ↓reduceIte, Nat.reduceEqDiff, Nat.reduceLT, Nat.reduceLeDiff, Nat.reduceAdd, Nat.reduceSub, Nat.reduceMul, Nat.reduceBEq, Int.reduceLT, Int.reduceLE, Int.reduceToNat, Int.reduceNeg, Int.reducePow, Int.reduceAdd, Int.reduceMul, Int.reduceSub, ↓Int.reduceNatCast', List.replicate_zero, List.append_nil] <;> rfl) (by omega) ?_
  intro j hj
  have hlen : (m ++ [128] ++ List.replicate j 0).length = m.length + 1 + j := by simp; omega
  have hz2 : (m.length + 1 + Sha.zeros m.length) % 64 = 56 := by unfold Sha.zeros; omega
  have hz : Sha.zeros m.length < 64 := by unfold Sha.zeros; omega
  unfold F_wagonpoolref02_padded_L0
  simp (disch := first | omega | decide) only [push_cast, ↓wF_free, ↓reduceIte, Nat.reduceEqDiff, Nat.reduceLT, Nat.reduceLeDiff, Nat.reduceAdd, Nat.reduceSub, Nat.reduceMul, Nat.reduceBEq, Int.reduceLT, Int.reduceLE, Int.reduceToNat, Int.reduceNeg, Int.reducePow, Int.reduceAdd, Int.reduceMul, Int.reduceSub, ↓Int.reduceNatCast', rem_i]
  refine ifD_split (fun h2 => ?_) (fun h2 => ?_)
  · obtain rfl : j = Sha.zeros m.length := by
      unfold Sha.zeros at hj ⊢; omega
    simp (disch := first | omega | decide) only [push_cast, ↓wF_free, ↓reduceIte, Nat.reduceEqDiff, Nat.reduceLT, Nat.reduceLeDiff, Nat.reduceAdd, Nat.reduceSub, Nat.reduceMul, Nat.reduceBEq, Int.reduceLT, Int.reduceLE, Int.reduceToNat, Int.reduceNeg, Int.reducePow, Int.reduceAdd, Int.reduceMul, Int.reduceSub, ↓Int.reduceNatCast', conv_iu, mul_q8]
    generalize hq : UInt64.ofNat m.length * 8 = q
    have hmz : (m ++ [128] ++ List.replicate (Sha.zeros m.length) 0) = (m ++ [128] ++ List.replicate (Sha.zeros m.length) 0) ++ Sha.lenB q 0 := (List.append_nil _).symm
    have hP : (m ++ [128] ++ List.replicate (Sha.zeros m.length) 0) ++ Sha.lenB q 8 = Sha.padded m := by rw [← hq]; rfl
    rw [← hP]
    generalize hM : m ++ [128] ++ List.replicate (Sha.zeros m.length) 0 = M at hlen hmz h2
    refine W_while (fun j : Nat => [(3, .row 0 (M ++ Sha.lenB q j).length 0 (M ++ Sha.lenB q j).length), (4, qD q), (5, .int .i64 (j : Int))])
      (fun j => [⟨true, 1, (M ++ Sha.lenB q j).map byteD, false⟩]) (fun j => j ≤ 8) (fun j => 8 - j) 0 (by rw [← hmz]; simp only [push_cast, ↓wF_free, ↓reduceIte, Nat.reduceEqDiff, Nat.reduceLT, Nat.reduceLeDiff, Nat.reduceAdd, Nat.reduceSub, Nat.reduceMul, Nat.reduceBEq, Int.reduceLT, Int.reduceLE, Int.reduceToNat, Int.reduceNeg, Int.reducePow, Int.reduceAdd, Int.reduceMul, Int.reduceSub, ↓Int.reduceNatCast'] <;> rfl) (by omega) ?_
    intro j hj
    have hl2 : (M ++ Sha.lenB q j).length = M.length + j := by rw [List.length_append, Sha.lenB_length]
    unfold F_wagonpoolref02_padded_L1
    simp only [push_cast, ↓wF_free, ↓reduceIte, Nat.reduceEqDiff, Nat.reduceLT, Nat.reduceLeDiff, Nat.reduceAdd, Nat.reduceSub, Nat.reduceMul, Nat.reduceBEq, Int.reduceLT, Int.reduceLE, Int.reduceToNat, Int.reduceNeg, Int.reducePow, Int.reduceAdd, Int.reduceMul, Int.reduceSub, ↓Int.reduceNatCast']
    refine ifD_split (fun h3 => ?_) (fun h3 => ?_)
    · have e : (56 - 8 * (j : Int)).toNat = 56 - 8 * j := by omega
      have e2 : M ++ Sha.lenB q (j + 1) = (M ++ Sha.lenB q j) ++ [(q >>> UInt64.ofNat (56 - 8 * j)).toUInt8] := by rw [Sha.lenB, List.append_assoc]
      simp (disch := first | omega | decide) only [push_cast, ↓wF_free, ↓reduceIte, Nat.reduceEqDiff, Nat.reduceLT, Nat.reduceLeDiff, Nat.reduceAdd, Nat.reduceSub, Nat.reduceMul, Nat.reduceBEq, Int.reduceLT, Int.reduceLE, Int.reduceToNat, Int.reduceNeg, Int.reducePow, Int.reduceAdd, Int.reduceMul, Int.reduceSub, ↓Int.reduceNatCast', mul_i, shr_qi, conv_qb, e, sub_i, add_i]
      refine next_head (j + 1) (by omega) (by omega) ?_
      rw [e2]
      simp only [push_cast, ↓wF_free, ↓reduceIte, Nat.reduceEqDiff, Nat.reduceLT, Nat.reduceLeDiff, Nat.reduceAdd, Nat.reduceSub, Nat.reduceMul, Nat.reduceBEq, Int.reduceLT, Int.reduceLE, Int.reduceToNat, Int.reduceNeg, Int.reducePow, Int.reduceAdd, Int.reduceMul, Int.reduceSub, ↓Int.reduceNatCast', qD_ren, qD_hk] <;> rfl
    · obtain rfl : j = 8 := by omega
      simp only [push_cast, ↓wF_free, ↓reduceIte, Nat.reduceEqDiff, Nat.reduceLT, Nat.reduceLeDiff, Nat.reduceAdd, Nat.reduceSub, Nat.reduceMul, Nat.reduceBEq, Int.reduceLT, Int.reduceLE, Int.reduceToNat, Int.reduceNeg, Int.reducePow, Int.reduceAdd, Int.reduceMul, Int.reduceSub, ↓Int.reduceNatCast']
  · simp (disch := first | omega | decide) only [push_cast, ↓wF_free, ↓reduceIte, Nat.reduceEqDiff, Nat.reduceLT, Nat.reduceLeDiff, Nat.reduceAdd, Nat.reduceSub, Nat.reduceMul, Nat.reduceBEq, Int.reduceLT, Int.reduceLE, Int.reduceToNat, Int.reduceNeg, Int.reducePow, Int.reduceAdd, Int.reduceMul, Int.reduceSub, ↓Int.reduceNatCast', b0]
    have h9 : j < Sha.zeros m.length := by
      rcases Nat.lt_or_ge j (Sha.zeros m.length) with h3 | h3
      · exact h3
      · exfalso
        obtain rfl : j = Sha.zeros m.length := by omega
        omega
    refine next_head (j + 1) (by omega) (by omega) ?_
    have e : m ++ [128] ++ List.replicate (j + 1) 0 = (m ++ [128] ++ List.replicate j 0) ++ [0] := by
      rw [List.replicate_succ', List.append_assoc, List.append_assoc, List.append_assoc]
    rw [e]
theorem c_rpadded : Contract Tryd.prog GG 45 sp_rpadded :=
  contract_of tr_wagonpoolref02_padded (tb_ok all_nil all_nil) (fun a h => w_rpadded a h)

noncomputable def sp_rSum : List D → Option D := spOf (α := List UInt8) (fun a => [.slc (nz 1 (a.map byteD)) (a.map byteD) false]) (fun a => a.length ≤ 4294960000) (fun a => digD (shaL a))
theorem call_rSum (m : List UInt8) (h : m.length ≤ 4294960000) : sp_rSum [.slc (nz 1 (m.map byteD)) (m.map byteD) false] = some (digD (shaL m)) :=
  spOf_enc (fun a b h => by simp only [List.cons.injEq, D.slc.injEq, D.int.injEq, D.bool.injEq, D.str.injEq, D.agg.injEq, digs_iff, dig_iff, digC_iff, bytes_iff, byte_iff, words_iff, word_iff, Sha.St8.list_iff, bsl_iff, true_and, and_true] at h; simp [h, Prod.ext_iff]) (m) h
set_option maxHeartbeats 4000000 in
set_option maxRecDepth 20000 in
theorem w_rSum (m : List UInt8) (h : m.length ≤ 4294960000) : @wW GG (tb [(45, sp_rpadded), (46, sp_rblock)] []) F_wagonpoolref02_Sum.code (argF [.slc (nz 1 (m.map byteD)) (m.map byteD) false]) [] ⟨retQ F_wagonpoolref02_Sum.res (digD (shaL m))⟩ := by
  unfold F_wagonpoolref02_Sum
  obtain ⟨hp1, hp2⟩ := padded_mod m
  have hzz : Sha.zeros m.length < 64 := by unfold Sha.zeros; omega
  have hsh : shaL m = ⟨Sha.outB (Sha.blocks Sha.H0 ((Sha.padded m).length / 64) (Sha.padded m)).list 32, Sha.outB_length _ 32⟩ := rfl
  have hH : Sha.H0.list.length = 8 := rfl
  have hz8 : (zW 8).length = 8 := rfl
  simp (disch := omega) only [push_cast, ↓wF_free, ↓reduceIte, Nat.reduceEqDiff, Nat.reduceLT, Nat.reduceLeDiff, Nat.reduceAdd, Nat.reduceSub, Nat.reduceMul, Nat.reduceBEq, Int.reduceLT, Int.reduceLE, Int.reduceToNat, Int.reduceNeg, Int.reducePow, Int.reduceAdd, Int.reduceMul, Int.reduceSub, ↓Int.reduceNatCast', fillH0, call_rpadded]
  rw [hsh]
  generalize Sha.padded m = PM at hp1 hp2
  have hnz : (nz 1 (PM.map byteD) = 1 ∨ PM.map byteD = []) ∧ 1 ≠ 0 := ⟨nz_or _ _, by decide⟩
  refine W_while (fun j : Nat => [(2, .ptr 0 0), (3, .ptr 1 0), (4, .slc (nz 1 (PM.map byteD)) (PM.map byteD) false), (5, .int .i64 (64 * (j : Int)))])
    (fun j => [⟨false, 1, digC zeroDig, false⟩, ⟨false, 1, (Sha.blocks Sha.H0 j PM).list.map wD, false⟩]) (fun j => j ≤ PM.length / 64) (fun j => PM.length / 64 - j) 0 (by simp only [push_cast, ↓wF_free, ↓reduceIte, Nat.reduceEqDiff, Nat.reduceLT, Nat.reduceLeDiff, Nat.reduceAdd, Nat.reduceSub, Nat.reduceMul, Nat.reduceBEq, Int.reduceLT, Int.reduceLE, Int.reduceToNat, Int.reduceNeg, Int.reducePow, Int.reduceAdd, Int.reduceMul, Int.reduceSub, ↓Int.reduceNatCast'] <;> rfl) (by omega) ?_
  intro j hj
  unfold F_wagonpoolref02_Sum_L0
  simp only [push_cast, ↓wF_free, ↓reduceIte, Nat.reduceEqDiff, Nat.reduceLT, Nat.reduceLeDiff, Nat.reduceAdd, Nat.reduceSub, Nat.reduceMul, Nat.reduceBEq, Int.reduceLT, Int.reduceLE, Int.reduceToNat, Int.reduceNeg, Int.reducePow, Int.reduceAdd, Int.reduceMul, Int.reduceSub, ↓Int.reduceNatCast']
  refine ifD_split (fun h4 => ?_) (fun h4 => ?_)
  · have e1 : (64 * (j : Int)).toNat = 64 * j := by omega
    have e2 : (64 * (j : Int) + 64).toNat = 64 * j + 64 := by omega
    have e3 : (PM.take (64 * j + 64)).drop (64 * j) = (PM.drop (64 * j)).take 64 := by
      rw [List.drop_take]; congr 1; omega
    have hbl : ((PM.drop (64 * j)).take 64).length = 64 := by simp; omega
    have hbs := blocks_succ Sha.H0 j PM
    generalize Sha.blocks Sha.H0 j PM = sj at hbs
    have hl8 : sj.list.length = 8 := rfl
    have hl9 : (Sha.block sj ((PM.drop (64 * j)).take 64)).list.length = 8 := rfl
    simp (disch := omega) only [push_cast, ↓wF_free, ↓reduceIte, Nat.reduceEqDiff, Nat.reduceLT, Nat.reduceLeDiff, Nat.reduceAdd, Nat.reduceSub, Nat.reduceMul, Nat.reduceBEq, Int.reduceLT, Int.reduceLE, Int.reduceToNat, Int.reduceNeg, Int.reducePow, Int.reduceAdd, Int.reduceMul, Int.reduceSub, ↓Int.reduceNatCast', slc_part _ _ _ _ _ _ _ _ _ _ hnz, add_i, e1, e2, call_rblock, e3, nz_take]
    refine next_head (j + 1) (by omega) (by omega) ?_
    rw [hbs]
    have e5 : 64 * (j : Int) + 64 = 64 * ((j + 1 : Nat) : Int) := by omega
    simp only [push_cast, ↓wF_free, ↓reduceIte, Nat.reduceEqDiff, Nat.reduceLT, Nat.reduceLeDiff, Nat.reduceAdd, Nat.reduceSub, Nat.reduceMul, Nat.reduceBEq, Int.reduceLT, Int.reduceLE, Int.reduceToNat, Int.reduceNeg, Int.reducePow, Int.reduceAdd, Int.reduceMul, Int.reduceSub, ↓Int.reduceNatCast', e5] <;> rfl
  · obtain rfl : j = PM.length / 64 := by omega
    generalize Sha.blocks Sha.H0 (PM.length / 64) PM = sj
    have hl8 : sj.list.length = 8 := rfl
    simp only [push_cast, ↓wF_free, ↓reduceIte, Nat.reduceEqDiff, Nat.reduceLT, Nat.reduceLeDiff, Nat.reduceAdd, Nat.reduceSub, Nat.reduceMul, Nat.reduceBEq, Int.reduceLT, Int.reduceLE, Int.reduceToNat, Int.reduceNeg, Int.reducePow, Int.reduceAdd, Int.reduceMul, Int.reduceSub, ↓Int.reduceNatCast']
    refine W_while (fun j : Nat => [(2, .ptr 0 0), (3, .ptr 1 0), (6, .ptr 2 0), (7, .int .i64 (j : Int))])
      (fun j => [⟨false, 1, digC zeroDig, false⟩, ⟨false, 1, sj.list.map wD, false⟩, ⟨false, 1, (outZ sj.list j).map byteD, false⟩]) (fun j => j ≤ 32) (fun j => 32 - j) 0 (by simp only [push_cast, ↓wF_free, ↓reduceIte, Nat.reduceEqDiff, Nat.reduceLT, Nat.reduceLeDiff, Nat.reduceAdd, Nat.reduceSub, Nat.reduceMul, Nat.reduceBEq, Int.reduceLT, Int.reduceLE, Int.reduceToNat, Int.reduceNeg, Int.reducePow, Int.reduceAdd, Int.reduceMul, Int.reduceSub, ↓Int.reduceNatCast'] <;> rfl) (by omega) ?_
    intro j hj
    unfold F_wagonpoolref02_Sum_L1
    simp only [push_cast, ↓wF_free, ↓reduceIte, Nat.reduceEqDiff, Nat.reduceLT, Nat.reduceLeDiff, Nat.reduceAdd, Nat.reduceSub, Nat.reduceMul, Nat.reduceBEq, Int.reduceLT, Int.reduceLE, Int.reduceToNat, Int.reduceNeg, Int.reducePow, Int.reduceAdd, Int.reduceMul, Int.reduceSub, ↓Int.reduceNatCast']
    refine ifD_split (fun h6 => ?_) (fun h6 => ?_)
    · have hz3 := outZ_length sj.list j (by omega)
      have hz4 := outZ_set sj.list j (by omega)
      have e1 : ((j : Int) / 4).toNat = j / 4 := by omega
      have e2 : (24 - 8 * ((j : Int) % 4)).toNat = 24 - 8 * (j % 4) := by omega
      simp (disch := omega) only [push_cast, ↓wF_free, ↓reduceIte, Nat.reduceEqDiff, Nat.reduceLT, Nat.reduceLeDiff, Nat.reduceAdd, Nat.reduceSub, Nat.reduceMul, Nat.reduceBEq, Int.reduceLT, Int.reduceLE, Int.reduceToNat, Int.reduceNeg, Int.reducePow, Int.reduceAdd, Int.reduceMul, Int.reduceSub, ↓Int.reduceNatCast', quo_i, rem_i, mul_i, sub_i, add_i, idxA_ptr, shr_wi, conv_wb, e1, e2]
      refine next_head (j + 1) (by omega) (by omega) ?_
      rw [← hz4]
      simp only [push_cast, ↓wF_free, ↓reduceIte, Nat.reduceEqDiff, Nat.reduceLT, Nat.reduceLeDiff, Nat.reduceAdd, Nat.reduceSub, Nat.reduceMul, Nat.reduceBEq, Int.reduceLT, Int.reduceLE, Int.reduceToNat, Int.reduceNeg, Int.reducePow, Int.reduceAdd, Int.reduceMul, Int.reduceSub, ↓Int.reduceNatCast'] <;> rfl
    · obtain rfl : j = 32 := by omega
      have hz3 := outZ_length sj.list 32 (by omega)
      have hz5 : D.agg ((outZ sj.list 32).map byteD) = digD ⟨Sha.outB sj.list 32, Sha.outB_length _ 32⟩ := by
        rw [show outZ sj.list 32 = Sha.outB sj.list 32 from List.append_nil _]
        rfl
      simp (disch := omega) only [push_cast, ↓wF_free, ↓reduceIte, Nat.reduceEqDiff, Nat.reduceLT, Nat.reduceLeDiff, Nat.reduceAdd, Nat.reduceSub, Nat.reduceMul, Nat.reduceBEq, Int.reduceLT, Int.reduceLE, Int.reduceToNat, Int.reduceNeg, Int.reducePow, Int.reduceAdd, Int.reduceMul, Int.reduceSub, ↓Int.reduceNatCast', hz5]
theorem c_rSum : Contract Tryd.prog GG 43 sp_rSum :=
  contract_of tr_wagonpoolref02_Sum (tb_ok (all_cons c_rpadded (all_cons c_rblock all_nil)) all_nil) (fun a h => w_rSum a h)

noncomputable def sp_rHashed : List D → Option D := spOf (α := List UInt8 × List UInt8) (fun a => [.str a.1, .slc (nz 1 (a.2.map byteD)) (a.2.map byteD) false]) (fun a => a.1.length + a.2.length ≤ 4294900000) (fun a => .slc (nz 1 ((hashedL a.1 a.2).map byteD)) ((hashedL a.1 a.2).map byteD) false)
theorem call_rHashed (t : List UInt8) (b : List UInt8) (h : t.length + b.length ≤ 4294900000) : sp_rHashed [.str t, .slc (nz 1 (b.map byteD)) (b.map byteD) false] = some (.slc (nz 1 ((hashedL t b).map byteD)) ((hashedL t b).map byteD) false) :=
  spOf_enc (fun ⟨a0, a1⟩ ⟨b0, b1⟩ h => by simp only [List.cons.injEq, D.slc.injEq, D.int.injEq, D.bool.injEq, D.str.injEq, D.agg.injEq, digs_iff, dig_iff, digC_iff, bytes_iff, byte_iff, words_iff, word_iff, Sha.St8.list_iff, bsl_iff, true_and, and_true] at h; simp [h, Prod.ext_iff]) (t, b) h
set_option maxHeartbeats 4000000 in
set_option maxRecDepth 20000 in
theorem w_rHashed (t : List UInt8) (b : List UInt8) (h : t.length + b.length ≤ 4294900000) : @wW GG (tb [] []) F_wagonpoolref02_Hashed.code (argF [.str t, .slc (nz 1 (b.map byteD)) (b.map byteD) false]) [] ⟨retQ F_wagonpoolref02_Hashed.res (.slc (nz 1 ((hashedL t b).map byteD)) ((hashedL t b).map byteD) false)⟩ := by
  unfold F_wagonpoolref02_Hashed
  have e1 : (min (t.length : Int) 255).toNat = min t.length 255 := by omega
  have e2 : t.take (min t.length 255) = t.take 255 := by
    rcases Nat.le_total t.length 255 with h1 | h1
    · rw [Nat.min_eq_left h1, List.take_length, List.take_of_length_le h1]
    · rw [Nat.min_eq_right h1]
  have hl : (t.take 255).length ≤ 255 := by simp; omega
  have hl2 : (t.take 255).length ≤ t.length := by simp; omega
  have hh : hashedL t b = UInt8.ofNat (t.take 255).length :: (t.take 255 ++ b) := rfl
  rw [hh]
  simp (disch := omega) only [push_cast, ↓wF_free, ↓reduceIte, Nat.reduceEqDiff, Nat.reduceLT, Nat.reduceLeDiff, Nat.reduceAdd, Nat.reduceSub, Nat.reduceMul, Nat.reduceBEq, Int.reduceLT, Int.reduceLE, Int.reduceToNat, Int.reduceNeg, Int.reducePow, Int.reduceAdd, Int.reduceMul, Int.reduceSub, ↓Int.reduceNatCast', pslice_str, e1, e2, conv_ub]
  generalize t.take 255 = T at hl hl2
  generalize UInt8.ofNat T.length = x
  by_cases hT : T = []
  · subst hT
    by_cases hb : b = []
    · subst hb
      simp (disch := first | omega | decide) only [push_cast, ↓wF_free, ↓reduceIte, Nat.reduceEqDiff, Nat.reduceLT, Nat.reduceLeDiff, Nat.reduceAdd, Nat.reduceSub, Nat.reduceMul, Nat.reduceBEq, Int.reduceLT, Int.reduceLE, Int.reduceToNat, Int.reduceNeg, Int.reducePow, Int.reduceAdd, Int.reduceMul, Int.reduceSub, ↓Int.reduceNatCast', papp_keep]
    · have e3 : papp [] 1 1 (.slc 1 [byteD x] true) (.slc (nz 1 (b.map byteD)) (b.map byteD) false) = some (.row 0 (x :: b).length 0 (x :: b).length, [⟨true, 1, (x :: b).map byteD, false⟩]) :=
        papp_newm byteD [] 1 1 [x] b false (nz 1 (b.map byteD)) hb (nz_or _ _) (by decide) (by simp; omega) (by simp; omega)
      rw [show x :: ([] ++ b) = x :: b from rfl]
      generalize hX : x :: b = X at e3
      simp (disch := first | omega | decide) only [push_cast, ↓wF_free, ↓reduceIte, Nat.reduceEqDiff, Nat.reduceLT, Nat.reduceLeDiff, Nat.reduceAdd, Nat.reduceSub, Nat.reduceMul, Nat.reduceBEq, Int.reduceLT, Int.reduceLE, Int.reduceToNat, Int.reduceNeg, Int.reducePow, Int.reduceAdd, Int.reduceMul, Int.reduceSub, ↓Int.reduceNatCast', papp_keep, e3]
  · have e3 : papp [] 1 1 (.slc 1 [byteD x] true) (.slc 1 (T.map byteD) false) = some (.row 0 (x :: T).length 0 (x :: T).length, [⟨true, 1, (x :: T).map byteD, false⟩]) :=
      papp_newm byteD [] 1 1 [x] T false 1 hT (.inl rfl) (by decide) (by simp; omega) (by simp; omega)
    have e4 : (x :: T).length = T.length + 1 := by simp
    generalize hX : x :: T = X at e3 e4
    rw [show x :: (T ++ b) = X ++ b by rw [← hX]; rfl]
    simp (disch := first | omega | decide) only [push_cast, ↓wF_free, ↓reduceIte, Nat.reduceEqDiff, Nat.reduceLT, Nat.reduceLeDiff, Nat.reduceAdd, Nat.reduceSub, Nat.reduceMul, Nat.reduceBEq, Int.reduceLT, Int.reduceLE, Int.reduceToNat, Int.reduceNeg, Int.reducePow, Int.reduceAdd, Int.reduceMul, Int.reduceSub, ↓Int.reduceNatCast', e3]
theorem c_rHashed : Contract Tryd.prog GG 44 sp_rHashed :=
  contract_of tr_wagonpoolref02_Hashed (tb_ok all_nil all_nil) (fun a h => w_rHashed a.1 a.2 h)

noncomputable def sp_rtagged : List D → Option D := spOf (α := List UInt8 × List UInt8) (fun a => [.str a.1, .slc (nz 1 (a.2.map byteD)) (a.2.map byteD) false]) (fun a => a.1.length + a.2.length ≤ 4294900000) (fun a => digD (taggedL a.1 a.2))
theorem call_rtagged (t : List UInt8) (b : List UInt8) (h : t.length + b.length ≤ 4294900000) : sp_rtagged [.str t, .slc (nz 1 (b.map byteD)) (b.map byteD) false] = some (digD (taggedL t b)) :=
  spOf_enc (fun ⟨a0, a1⟩ ⟨b0, b1⟩ h => by simp only [List.cons.injEq, D.slc.injEq, D.int.injEq, D.bool.injEq, D.str.injEq, D.agg.injEq, digs_iff, dig_iff, digC_iff, bytes_iff, byte_iff, words_iff, word_iff, Sha.St8.list_iff, bsl_iff, true_and, and_true] at h; simp [h, Prod.ext_iff]) (t, b) h
set_option maxHeartbeats 4000000 in
set_option maxRecDepth 20000 in
theorem w_rtagged (t : List UInt8) (b : List UInt8) (h : t.length + b.length ≤ 4294900000) : @wW GG (tb [(44, sp_rHashed), (43, sp_rSum)] []) F_wagonpoolref02_Tagged.code (argF [.str t, .slc (nz 1 (b.map byteD)) (b.map byteD) false]) [] ⟨retQ F_wagonpoolref02_Tagged.res (digD (taggedL t b))⟩ := by
  unfold F_wagonpoolref02_Tagged
  have hl : (hashedL t b).length ≤ 4294960000 := by simp [hashedL]; omega
  simp (disch := omega) only [push_cast, ↓wF_free, ↓reduceIte, Nat.reduceEqDiff, Nat.reduceLT, Nat.reduceLeDiff, Nat.reduceAdd, Nat.reduceSub, Nat.reduceMul, Nat.reduceBEq, Int.reduceLT, Int.reduceLE, Int.reduceToNat, Int.reduceNeg, Int.reducePow, Int.reduceAdd, Int.reduceMul, Int.reduceSub, ↓Int.reduceNatCast', call_rHashed, call_rSum]
  rfl
theorem c_rtagged : Contract Tryd.prog GG 41 sp_rtagged :=
  contract_of tr_wagonpoolref02_Tagged (tb_ok (all_cons c_rHashed (all_cons c_rSum all_nil)) all_nil) (fun a h => w_rtagged a.1 a.2 h)

end Go.Proofs.YteacnlikmagfcaaDoor.PI
