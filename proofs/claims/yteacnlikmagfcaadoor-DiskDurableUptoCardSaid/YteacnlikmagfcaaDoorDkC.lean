/-
  disk: units of the reference, concatenation, comparison.
  Conditions: none; these are lemmas.
-/
import Derived.Test.YteacnlikmagfcaaDoorDkB
namespace Go.Proofs.YteacnlikmagfcaaDoor.PI
open Go
set_option linter.unusedSimpArgs false
set_option linter.unusedVariables false

noncomputable def sp_rsum : List D → Option D := spOf (α := Int × List UInt8) (fun a => [.int .i64 a.1, .slc (nz 1 (a.2.map byteD)) (a.2.map byteD) false]) (fun a => 0 ≤ a.1 ∧ a.1 < 9223372036854775808 ∧ a.2.length ≤ 16000) (fun a => bsD (sumL a.1 a.2))
theorem call_rsum (n : Int) (r : List UInt8) (h : 0 ≤ n ∧ n < 9223372036854775808 ∧ r.length ≤ 16000) : sp_rsum [.int .i64 n, .slc (nz 1 (r.map byteD)) (r.map byteD) false] = some (bsD (sumL n r)) :=
  spOf_enc (fun ⟨a0, a1⟩ ⟨b0, b1⟩ h => by simp only [List.cons.injEq, D.slc.injEq, D.int.injEq, D.bool.injEq, D.str.injEq, D.agg.injEq, digs_iff, dig_iff, digC_iff, bytes_iff, byte_iff, words_iff, word_iff, Sha.St8.list_iff, bsl_iff, true_and, and_true, bsD_inj', dkD_iff, trD_iff, Int.ofNat_inj] at h; simp [h, Prod.ext_iff]) (n, r) h
set_option maxHeartbeats 4000000 in
set_option maxRecDepth 20000 in
theorem w_rsum (n : Int) (r : List UInt8) (h : 0 ≤ n ∧ n < 9223372036854775808 ∧ r.length ≤ 16000) : @wW GG (tb [(41, sp_rtagged)] [(38, si_number)]) F_wagonpoolref13_Checksum.code (argF [.int .i64 n, .slc (nz 1 (r.map byteD)) (r.map byteD) false]) [] ⟨retQ F_wagonpoolref13_Checksum.res (bsD (sumL n r))⟩ := by
  obtain ⟨h0, h1, h2⟩ := h
  unfold F_wagonpoolref13_Checksum
  have hb8 := be_length n 8
  have hsl := sumL_length n r
  have cn := call_number n 8 ⟨h0, h1, by decide, by decide⟩
  rw [show ((8 : Nat) : Int) = 8 from rfl] at cn
  have ct := call_rtagged [117, 110, 105, 116] (be n 8 ++ r) (by simp; omega)
  simp (disch := first | omega | decide) only [push_cast, ↓wF_free, ↓reduceIte, Nat.reduceEqDiff, Nat.reduceLT, Nat.reduceLeDiff, Nat.reduceAdd, Nat.reduceSub, Nat.reduceMul, Nat.reduceBEq, Int.reduceLT, Int.reduceLE, Int.reduceToNat, Int.reduceNeg, Int.reducePow, Int.reduceAdd, Int.reduceMul, Int.reduceSub, ↓Int.reduceNatCast', cn, ct]
  generalize hd : taggedL [117, 110, 105, 116] (be n 8 ++ r) = d
  have hs : sumL n r = d.bs.take 8 := by rw [← hd]; rfl
  have hdl := d.len
  refine W_while (fun j : Nat => [(6, .ptr 1 0), (7, bufD 1 2 ((d.bs.take j).map byteD)), (8, .int .i64 (j : Int))]) (fun j => ⟨true, 1, (be n 8 ++ r).map byteD, false⟩ :: ⟨false, 1, digC d, false⟩ :: bufS 1 ((d.bs.take j).map byteD)) (fun j => j ≤ 8) (fun j => 8 - j) 0 (by simp only [push_cast, ↓wF_free, ↓reduceIte, Nat.reduceEqDiff, Nat.reduceLT, Nat.reduceLeDiff, Nat.reduceAdd, Nat.reduceSub, Nat.reduceMul, Nat.reduceBEq, Int.reduceLT, Int.reduceLE, Int.reduceToNat, Int.reduceNeg, Int.reducePow, Int.reduceAdd, Int.reduceMul, Int.reduceSub, ↓Int.reduceNatCast', List.take_zero, List.map_nil] <;> rfl) (by omega) ?_
  intro j hj
  unfold F_wagonpoolref13_Checksum_L0
  simp (disch := omega) only [push_cast, ↓wF_free, ↓reduceIte, Nat.reduceEqDiff, Nat.reduceLT, Nat.reduceLeDiff, Nat.reduceAdd, Nat.reduceSub, Nat.reduceMul, Nat.reduceBEq, Int.reduceLT, Int.reduceLE, Int.reduceToNat, Int.reduceNeg, Int.reducePow, Int.reduceAdd, Int.reduceMul, Int.reduceSub, ↓Int.reduceNatCast']
  refine ifD_split (fun h2 => ?_) (fun h2 => ?_)
  · have hlt : (d.bs.take j).length = j := by simp; omega
    have he := take_getD d.bs j (by omega)
    have hl2 : ldO (some ⟨false, 1, digC d, false⟩) 1 false j = some (byteD (d.bs.getD j default)) := ldO_map 1 false byteD d.bs j (by omega)
    simp (disch := first | omega | decide) only [push_cast, ↓wF_free, ↓reduceIte, Nat.reduceEqDiff, Nat.reduceLT, Nat.reduceLeDiff, Nat.reduceAdd, Nat.reduceSub, Nat.reduceMul, Nat.reduceBEq, Int.reduceLT, Int.reduceLE, Int.reduceToNat, Int.reduceNeg, Int.reducePow, Int.reduceAdd, Int.reduceMul, Int.reduceSub, ↓Int.reduceNatCast', idxA_ptr, hl2, add_i]
    refine next_head (j + 1) (by omega) (by omega) ?_
    rw [he]
    simp only [push_cast, ↓wF_free, ↓reduceIte, Nat.reduceEqDiff, Nat.reduceLT, Nat.reduceLeDiff, Nat.reduceAdd, Nat.reduceSub, Nat.reduceMul, Nat.reduceBEq, Int.reduceLT, Int.reduceLE, Int.reduceToNat, Int.reduceNeg, Int.reducePow, Int.reduceAdd, Int.reduceMul, Int.reduceSub, ↓Int.reduceNatCast'] <;> rfl
  · obtain rfl : j = 8 := by omega
    simp (disch := omega) only [push_cast, ↓wF_free, ↓reduceIte, Nat.reduceEqDiff, Nat.reduceLT, Nat.reduceLeDiff, Nat.reduceAdd, Nat.reduceSub, Nat.reduceMul, Nat.reduceBEq, Int.reduceLT, Int.reduceLE, Int.reduceToNat, Int.reduceNeg, Int.reducePow, Int.reduceAdd, Int.reduceMul, Int.reduceSub, ↓Int.reduceNatCast', ← hs]
    rfl
theorem c_rsum : Contract Tryd.prog GG 39 sp_rsum :=
  contract_of tr_wagonpoolref13_Checksum (tb_ok (all_cons c_rtagged all_nil) (all_cons ci_number all_nil)) (fun a h => w_rsum a.1 a.2 h)

noncomputable def sp_runit : List D → Option D := spOf (α := Int × List UInt8) (fun a => [.int .i64 a.1, .slc (nz 1 (a.2.map byteD)) (a.2.map byteD) false]) (fun a => 0 ≤ a.1 ∧ a.1 < 9223372036854775808 ∧ a.2.length ≤ 16000) (fun a => bsD (unitL a.1 a.2))
theorem call_runit (n : Int) (r : List UInt8) (h : 0 ≤ n ∧ n < 9223372036854775808 ∧ r.length ≤ 16000) : sp_runit [.int .i64 n, .slc (nz 1 (r.map byteD)) (r.map byteD) false] = some (bsD (unitL n r)) :=
  spOf_enc (fun ⟨a0, a1⟩ ⟨b0, b1⟩ h => by simp only [List.cons.injEq, D.slc.injEq, D.int.injEq, D.bool.injEq, D.str.injEq, D.agg.injEq, digs_iff, dig_iff, digC_iff, bytes_iff, byte_iff, words_iff, word_iff, Sha.St8.list_iff, bsl_iff, true_and, and_true, bsD_inj', dkD_iff, trD_iff, Int.ofNat_inj] at h; simp [h, Prod.ext_iff]) (n, r) h
set_option maxHeartbeats 4000000 in
set_option maxRecDepth 20000 in
theorem w_runit (n : Int) (r : List UInt8) (h : 0 ≤ n ∧ n < 9223372036854775808 ∧ r.length ≤ 16000) : @wW GG (tb [(39, sp_rsum)] [(38, si_number)]) F_wagonpoolref13_Unit.code (argF [.int .i64 n, .slc (nz 1 (r.map byteD)) (r.map byteD) false]) [] ⟨retQ F_wagonpoolref13_Unit.res (bsD (unitL n r))⟩ := by
  obtain ⟨h0, h1, h2⟩ := h
  unfold F_wagonpoolref13_Unit
  have hbl := be_length (r.length : Int) 4
  have hsl := sumL_length n r
  have cn := call_number (r.length : Int) 4 ⟨by omega, by omega, by decide, by decide⟩
  rw [show ((4 : Nat) : Int) = 4 from rfl] at cn
  have hl2 : (be (r.length : Int) 4 ++ sumL n r).length = 12 := by simp [hbl, hsl]
  have cs := call_rsum n r ⟨h0, h1, h2⟩
  simp (disch := first | omega | decide) only [push_cast, ↓wF_free, ↓reduceIte, Nat.reduceEqDiff, Nat.reduceLT, Nat.reduceLeDiff, Nat.reduceAdd, Nat.reduceSub, Nat.reduceMul, Nat.reduceBEq, Int.reduceLT, Int.reduceLE, Int.reduceToNat, Int.reduceNeg, Int.reducePow, Int.reduceAdd, Int.reduceMul, Int.reduceSub, ↓Int.reduceNatCast', cn, cs, bsD, List.append_assoc]
  rfl
theorem c_runit : Contract Tryd.prog GG 31 sp_runit :=
  contract_of tr_wagonpoolref13_Unit (tb_ok (all_cons c_rsum all_nil) (all_cons ci_number all_nil)) (fun a h => w_runit a.1 a.2 h)

noncomputable def sp_join : List D → Option D := spOf (α := List UInt8 × List UInt8) (fun a => [.slc (nz 1 (a.1.map byteD)) (a.1.map byteD) false, .slc (nz 1 (a.2.map byteD)) (a.2.map byteD) false]) (fun a => a.1.length + a.2.length ≤ 4294900000) (fun a => bsD (a.1 ++ a.2))
theorem call_join (a : List UInt8) (b : List UInt8) (h : a.length + b.length ≤ 4294900000) : sp_join [.slc (nz 1 (a.map byteD)) (a.map byteD) false, .slc (nz 1 (b.map byteD)) (b.map byteD) false] = some (bsD (a ++ b)) :=
  spOf_enc (fun ⟨a0, a1⟩ ⟨b0, b1⟩ h => by simp only [List.cons.injEq, D.slc.injEq, D.int.injEq, D.bool.injEq, D.str.injEq, D.agg.injEq, digs_iff, dig_iff, digC_iff, bytes_iff, byte_iff, words_iff, word_iff, Sha.St8.list_iff, bsl_iff, true_and, and_true, bsD_inj', dkD_iff, trD_iff, Int.ofNat_inj] at h; simp [h, Prod.ext_iff]) (a, b) h
set_option maxHeartbeats 4000000 in
set_option maxRecDepth 20000 in
theorem w_join (a : List UInt8) (b : List UInt8) (h : a.length + b.length ≤ 4294900000) : @wW GG (tb [] []) F_disk_join.code (argF [.slc (nz 1 (a.map byteD)) (a.map byteD) false, .slc (nz 1 (b.map byteD)) (b.map byteD) false]) [] ⟨retQ F_disk_join.res (bsD (a ++ b))⟩ := by
  unfold F_disk_join
  simp (disch := first | omega | decide) only [push_cast, ↓wF_free, ↓reduceIte, Nat.reduceEqDiff, Nat.reduceLT, Nat.reduceLeDiff, Nat.reduceAdd, Nat.reduceSub, Nat.reduceMul, Nat.reduceBEq, Int.reduceLT, Int.reduceLE, Int.reduceToNat, Int.reduceNeg, Int.reducePow, Int.reduceAdd, Int.reduceMul, Int.reduceSub, ↓Int.reduceNatCast', add_i, mkslc_zero]
  rfl
theorem c_join : Contract Tryd.prog GG 26 sp_join :=
  contract_of tr_disk_join (tb_ok all_nil all_nil) (fun a h => w_join a.1 a.2 h)

noncomputable def sp_rjoin : List D → Option D := spOf (α := List UInt8 × List UInt8) (fun a => [.slc (nz 1 (a.1.map byteD)) (a.1.map byteD) false, .slc (nz 1 (a.2.map byteD)) (a.2.map byteD) false]) (fun a => a.1.length + a.2.length ≤ 4294900000) (fun a => bsD (a.1 ++ a.2))
theorem call_rjoin (a : List UInt8) (b : List UInt8) (h : a.length + b.length ≤ 4294900000) : sp_rjoin [.slc (nz 1 (a.map byteD)) (a.map byteD) false, .slc (nz 1 (b.map byteD)) (b.map byteD) false] = some (bsD (a ++ b)) :=
  spOf_enc (fun ⟨a0, a1⟩ ⟨b0, b1⟩ h => by simp only [List.cons.injEq, D.slc.injEq, D.int.injEq, D.bool.injEq, D.str.injEq, D.agg.injEq, digs_iff, dig_iff, digC_iff, bytes_iff, byte_iff, words_iff, word_iff, Sha.St8.list_iff, bsl_iff, true_and, and_true, bsD_inj', dkD_iff, trD_iff, Int.ofNat_inj] at h; simp [h, Prod.ext_iff]) (a, b) h
set_option maxHeartbeats 4000000 in
set_option maxRecDepth 20000 in
theorem w_rjoin (a : List UInt8) (b : List UInt8) (h : a.length + b.length ≤ 4294900000) : @wW GG (tb [] []) F_wagonpoolref13_Joined.code (argF [.slc (nz 1 (a.map byteD)) (a.map byteD) false, .slc (nz 1 (b.map byteD)) (b.map byteD) false]) [] ⟨retQ F_wagonpoolref13_Joined.res (bsD (a ++ b))⟩ := by
  unfold F_wagonpoolref13_Joined
  simp (disch := first | omega | decide) only [push_cast, ↓wF_free, ↓reduceIte, Nat.reduceEqDiff, Nat.reduceLT, Nat.reduceLeDiff, Nat.reduceAdd, Nat.reduceSub, Nat.reduceMul, Nat.reduceBEq, Int.reduceLT, Int.reduceLE, Int.reduceToNat, Int.reduceNeg, Int.reducePow, Int.reduceAdd, Int.reduceMul, Int.reduceSub, ↓Int.reduceNatCast', papp_first]
  rfl
theorem c_rjoin : Contract Tryd.prog GG 16 sp_rjoin :=
  contract_of tr_wagonpoolref13_Joined (tb_ok all_nil all_nil) (fun a h => w_rjoin a.1 a.2 h)

noncomputable def sp_beq : List D → Option D := spOf (α := List UInt8 × List UInt8) (fun a => [.slc (nz 1 (a.1.map byteD)) (a.1.map byteD) false, .slc (nz 1 (a.2.map byteD)) (a.2.map byteD) false]) (fun a => True) (fun a => .bool (decide (a.1 = a.2)))
theorem call_beq (a : List UInt8) (b : List UInt8) : sp_beq [.slc (nz 1 (a.map byteD)) (a.map byteD) false, .slc (nz 1 (b.map byteD)) (b.map byteD) false] = some (.bool (decide (a = b))) :=
  spOf_enc (fun ⟨a0, a1⟩ ⟨b0, b1⟩ h => by simp only [List.cons.injEq, D.slc.injEq, D.int.injEq, D.bool.injEq, D.str.injEq, D.agg.injEq, digs_iff, dig_iff, digC_iff, bytes_iff, byte_iff, words_iff, word_iff, Sha.St8.list_iff, bsl_iff, true_and, and_true, bsD_inj', dkD_iff, trD_iff, Int.ofNat_inj] at h; simp [h, Prod.ext_iff]) (a, b) trivial
set_option maxHeartbeats 4000000 in
set_option maxRecDepth 20000 in
theorem w_beq (a : List UInt8) (b : List UInt8) : @wW GG (tb [] []) F_bytes_Equal.code (argF [.slc (nz 1 (a.map byteD)) (a.map byteD) false, .slc (nz 1 (b.map byteD)) (b.map byteD) false]) [] ⟨retQ F_bytes_Equal.res (.bool (decide (a = b)))⟩ := by
  unfold F_bytes_Equal
  simp (disch := first | omega | decide) only [push_cast, ↓wF_free, ↓reduceIte, Nat.reduceEqDiff, Nat.reduceLT, Nat.reduceLeDiff, Nat.reduceAdd, Nat.reduceSub, Nat.reduceMul, Nat.reduceBEq, Int.reduceLT, Int.reduceLE, Int.reduceToNat, Int.reduceNeg, Int.reducePow, Int.reduceAdd, Int.reduceMul, Int.reduceSub, ↓Int.reduceNatCast']
theorem c_beq : Contract Tryd.prog GG 36 sp_beq :=
  contract_of tr_bytes_Equal (tb_ok all_nil all_nil) (fun a h => w_beq a.1 a.2)
end Go.Proofs.YteacnlikmagfcaaDoor.PI
