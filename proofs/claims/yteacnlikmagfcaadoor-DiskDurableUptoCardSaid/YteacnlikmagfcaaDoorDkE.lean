/-
  disk: appends, syncs, crashes; comparison of lists and of disks.
  Conditions: none; these are lemmas.
-/
import Derived.Test.YteacnlikmagfcaaDoorDkC
import Derived.Test.YteacnlikmagfcaaDoorDkL
namespace Go.Proofs.YteacnlikmagfcaaDoor.PI
open Go
set_option linter.unusedSimpArgs false
set_option linter.unusedVariables false

def badD (d : List UInt8 × Int) : Prop := d.2 < 0 ∨ (d.1.length : Int) < d.2
instance (d : List UInt8 × Int) : Decidable (badD d) := by unfold badD; infer_instance
def syncL (d : List UInt8 × Int) : List UInt8 × Int := (d.1, (d.1.length : Int))
def appL (d : List UInt8 × Int) (r : List UInt8) : (List UInt8 × Int) × Int :=
  if badD d then (([], 0), 130) else if 16000 < r.length then (([], 0), 2) else ((d.1 ++ unitL (d.1.length : Int) r, d.2), 0)
def badT (d : List UInt8 × Int) (t : Int × List UInt8) : Prop := badD d ∨ t.1 < 0 ∨ (d.1.length : Int) - d.2 < t.1 ∨ 64 < t.2.length
instance (d : List UInt8 × Int) (t : Int × List UInt8) : Decidable (badT d t) := by unfold badT; infer_instance
def crashL (d : List UInt8 × Int) (t : Int × List UInt8) : (List UInt8 × Int) × Int :=
  if badT d t then (([], 0), 1) else (syncL (d.1.take (d.2 + t.1).toNat ++ t.2, 0), 0)
def okD (d : List UInt8 × Int) : Prop := d.1.length ≤ 4000000000 ∧ -9223372036854775808 ≤ d.2 ∧ d.2 < 9223372036854775808

noncomputable def sp_sync : List D → Option D := spOf (α := (List UInt8 × Int)) (fun a => [dkD a]) (fun a => a.1.length ≤ 4294960000) (fun a => dkD (syncL a))
theorem call_sync (d : List UInt8 × Int) (h : d.1.length ≤ 4294960000) : sp_sync [dkD d] = some (dkD (syncL d)) :=
  spOf_enc (fun a b h => by simp only [List.cons.injEq, D.slc.injEq, D.int.injEq, D.bool.injEq, D.str.injEq, D.agg.injEq, digs_iff, dig_iff, digC_iff, bytes_iff, byte_iff, words_iff, word_iff, Sha.St8.list_iff, bsl_iff, true_and, and_true, bsD_inj', dkD_iff, trD_iff, Int.ofNat_inj] at h; simp [h, Prod.ext_iff]) (d) h
set_option maxHeartbeats 4000000 in
set_option maxRecDepth 20000 in
theorem w_sync (d : List UInt8 × Int) (h : d.1.length ≤ 4294960000) : @wW GG (tb [] []) F_disk_Sync.code (argF [dkD d]) [] ⟨retQ F_disk_Sync.res (dkD (syncL d))⟩ := by
  obtain ⟨b, s⟩ := d
  dsimp only at h
  unfold F_disk_Sync
  simp (disch := first | omega | decide) only [push_cast, ↓wF_free, ↓reduceIte, Nat.reduceEqDiff, Nat.reduceLT, Nat.reduceLeDiff, Nat.reduceAdd, Nat.reduceSub, Nat.reduceMul, Nat.reduceBEq, Int.reduceLT, Int.reduceLE, Int.reduceToNat, Int.reduceNeg, Int.reducePow, Int.reduceAdd, Int.reduceMul, Int.reduceSub, ↓Int.reduceNatCast', dkD, bsD, syncL]
theorem c_sync : Contract Tryd.prog GG 12 sp_sync :=
  contract_of tr_disk_Sync (tb_ok all_nil all_nil) (fun a h => w_sync a h)

noncomputable def sp_rsync : List D → Option D := spOf (α := (List UInt8 × Int)) (fun a => [dkD a]) (fun a => a.1.length ≤ 4294960000) (fun a => dkD (syncL a))
theorem call_rsync (d : List UInt8 × Int) (h : d.1.length ≤ 4294960000) : sp_rsync [dkD d] = some (dkD (syncL d)) :=
  spOf_enc (fun a b h => by simp only [List.cons.injEq, D.slc.injEq, D.int.injEq, D.bool.injEq, D.str.injEq, D.agg.injEq, digs_iff, dig_iff, digC_iff, bytes_iff, byte_iff, words_iff, word_iff, Sha.St8.list_iff, bsl_iff, true_and, and_true, bsD_inj', dkD_iff, trD_iff, Int.ofNat_inj] at h; simp [h, Prod.ext_iff]) (d) h
set_option maxHeartbeats 4000000 in
set_option maxRecDepth 20000 in
theorem w_rsync (d : List UInt8 × Int) (h : d.1.length ≤ 4294960000) : @wW GG (tb [] []) F_wagonpoolref13_Sync.code (argF [dkD d]) [] ⟨retQ F_wagonpoolref13_Sync.res (dkD (syncL d))⟩ := by
  obtain ⟨b, s⟩ := d
  dsimp only at h
  unfold F_wagonpoolref13_Sync
  simp (disch := first | omega | decide) only [push_cast, ↓wF_free, ↓reduceIte, Nat.reduceEqDiff, Nat.reduceLT, Nat.reduceLeDiff, Nat.reduceAdd, Nat.reduceSub, Nat.reduceMul, Nat.reduceBEq, Int.reduceLT, Int.reduceLE, Int.reduceToNat, Int.reduceNeg, Int.reducePow, Int.reduceAdd, Int.reduceMul, Int.reduceSub, ↓Int.reduceNatCast', dkD, bsD, syncL]
theorem c_rsync : Contract Tryd.prog GG 25 sp_rsync :=
  contract_of tr_wagonpoolref13_Sync (tb_ok all_nil all_nil) (fun a h => w_rsync a h)

noncomputable def sp_rvalid : List D → Option D := spOf (α := (List UInt8 × Int)) (fun a => [dkD a]) (fun a => okD a) (fun a => .bool (decide ¬ badD a))
theorem call_rvalid (d : List UInt8 × Int) (h : okD d) : sp_rvalid [dkD d] = some (.bool (decide ¬ badD d)) :=
  spOf_enc (fun a b h => by simp only [List.cons.injEq, D.slc.injEq, D.int.injEq, D.bool.injEq, D.str.injEq, D.agg.injEq, digs_iff, dig_iff, digC_iff, bytes_iff, byte_iff, words_iff, word_iff, Sha.St8.list_iff, bsl_iff, true_and, and_true, bsD_inj', dkD_iff, trD_iff, Int.ofNat_inj] at h; simp [h, Prod.ext_iff]) (d) h
set_option maxHeartbeats 4000000 in
set_option maxRecDepth 20000 in
theorem w_rvalid (d : List UInt8 × Int) (h : okD d) : @wW GG (tb [] []) F_wagonpoolref13_valid.code (argF [dkD d]) [] ⟨retQ F_wagonpoolref13_valid.res (.bool (decide ¬ badD d))⟩ := by
  obtain ⟨b, s⟩ := d
  obtain ⟨h1, h2, h3⟩ := h
  dsimp only at h1 h2 h3
  unfold F_wagonpoolref13_valid
  by_cases e1 : 0 ≤ s
  · have e : (decide ¬ badD (b, s)) = decide (s ≤ (b.length : Int)) := by
      apply decide_eq_decide.2; unfold badD; dsimp only; omega
    simp (disch := first | omega | decide) only [push_cast, ↓wF_free, ↓reduceIte, Nat.reduceEqDiff, Nat.reduceLT, Nat.reduceLeDiff, Nat.reduceAdd, Nat.reduceSub, Nat.reduceMul, Nat.reduceBEq, Int.reduceLT, Int.reduceLE, Int.reduceToNat, Int.reduceNeg, Int.reducePow, Int.reduceAdd, Int.reduceMul, Int.reduceSub, ↓Int.reduceNatCast', dkD, bsD, e1, e]
  · have e : (decide ¬ badD (b, s)) = false := by
      apply decide_eq_false; unfold badD; dsimp only; omega
    simp (disch := first | omega | decide) only [push_cast, ↓wF_free, ↓reduceIte, Nat.reduceEqDiff, Nat.reduceLT, Nat.reduceLeDiff, Nat.reduceAdd, Nat.reduceSub, Nat.reduceMul, Nat.reduceBEq, Int.reduceLT, Int.reduceLE, Int.reduceToNat, Int.reduceNeg, Int.reducePow, Int.reduceAdd, Int.reduceMul, Int.reduceSub, ↓Int.reduceNatCast', dkD, bsD, e1, e]
theorem c_rvalid : Contract Tryd.prog GG 30 sp_rvalid :=
  contract_of tr_wagonpoolref13_valid (tb_ok all_nil all_nil) (fun a h => w_rvalid a h)

noncomputable def sp_append : List D → Option D := spOf (α := (List UInt8 × Int) × List UInt8) (fun a => [dkD a.1, .slc (nz 1 (a.2.map byteD)) (a.2.map byteD) false]) (fun a => okD a.1 ∧ a.2.length ≤ 4294960000) (fun a => .tup [dkD (appL a.1 a.2).1, .int .i64 (appL a.1 a.2).2])
theorem call_append (d : List UInt8 × Int) (r : List UInt8) (h : okD d ∧ r.length ≤ 4294960000) : sp_append [dkD d, .slc (nz 1 (r.map byteD)) (r.map byteD) false] = some (.tup [dkD (appL d r).1, .int .i64 (appL d r).2]) :=
  spOf_enc (fun ⟨a0, a1⟩ ⟨b0, b1⟩ h => by simp only [List.cons.injEq, D.slc.injEq, D.int.injEq, D.bool.injEq, D.str.injEq, D.agg.injEq, digs_iff, dig_iff, digC_iff, bytes_iff, byte_iff, words_iff, word_iff, Sha.St8.list_iff, bsl_iff, true_and, and_true, bsD_inj', dkD_iff, trD_iff, Int.ofNat_inj] at h; simp [h, Prod.ext_iff]) (d, r) h
set_option maxHeartbeats 4000000 in
set_option maxRecDepth 20000 in
theorem w_append (d : List UInt8 × Int) (r : List UInt8) (h : okD d ∧ r.length ≤ 4294960000) : @wW GG (tb [(27, sp_unit), (26, sp_join)] []) F_disk_Append.code (argF [dkD d, .slc (nz 1 (r.map byteD)) (r.map byteD) false]) [] ⟨retQ F_disk_Append.res (.tup [dkD (appL d r).1, .int .i64 (appL d r).2])⟩ := by
  obtain ⟨b, s⟩ := d
  obtain ⟨⟨h1, h2, h3⟩, h4⟩ := h
  dsimp only at h1 h2 h3
  unfold F_disk_Append
  by_cases e1 : s < 0
  · have e : badD (b, s) := .inl e1
    simp (disch := first | omega | decide) only [push_cast, ↓wF_free, ↓reduceIte, Nat.reduceEqDiff, Nat.reduceLT, Nat.reduceLeDiff, Nat.reduceAdd, Nat.reduceSub, Nat.reduceMul, Nat.reduceBEq, Int.reduceLT, Int.reduceLE, Int.reduceToNat, Int.reduceNeg, Int.reducePow, Int.reduceAdd, Int.reduceMul, Int.reduceSub, ↓Int.reduceNatCast', dkD, bsD, e1, e, appL]
  · by_cases e2 : (b.length : Int) < s
    · have e : badD (b, s) := .inr e2
      simp (disch := first | omega | decide) only [push_cast, ↓wF_free, ↓reduceIte, Nat.reduceEqDiff, Nat.reduceLT, Nat.reduceLeDiff, Nat.reduceAdd, Nat.reduceSub, Nat.reduceMul, Nat.reduceBEq, Int.reduceLT, Int.reduceLE, Int.reduceToNat, Int.reduceNeg, Int.reducePow, Int.reduceAdd, Int.reduceMul, Int.reduceSub, ↓Int.reduceNatCast', dkD, bsD, e1, e2, e, appL]
    · have e : ¬ badD (b, s) := by unfold badD; dsimp only; omega
      by_cases e3 : 16000 < r.length
      · have e3' : (16000 : Int) < (r.length : Int) := by omega
        simp (disch := first | omega | decide) only [push_cast, ↓wF_free, ↓reduceIte, Nat.reduceEqDiff, Nat.reduceLT, Nat.reduceLeDiff, Nat.reduceAdd, Nat.reduceSub, Nat.reduceMul, Nat.reduceBEq, Int.reduceLT, Int.reduceLE, Int.reduceToNat, Int.reduceNeg, Int.reducePow, Int.reduceAdd, Int.reduceMul, Int.reduceSub, ↓Int.reduceNatCast', dkD, bsD, e1, e2, e, e3, e3', appL]
      · have e3' : ¬ (16000 : Int) < (r.length : Int) := by omega
        have cu := call_unit (b.length : Int) r ⟨by omega, by omega, by omega⟩
        have ul := unitL_length (b.length : Int) r
        have cj := call_join b (unitL (b.length : Int) r) (by omega)
        simp (disch := first | omega | decide) only [push_cast, ↓wF_free, ↓reduceIte, Nat.reduceEqDiff, Nat.reduceLT, Nat.reduceLeDiff, Nat.reduceAdd, Nat.reduceSub, Nat.reduceMul, Nat.reduceBEq, Int.reduceLT, Int.reduceLE, Int.reduceToNat, Int.reduceNeg, Int.reducePow, Int.reduceAdd, Int.reduceMul, Int.reduceSub, ↓Int.reduceNatCast', dkD, bsD, e1, e2, e, e3, e3', appL, cu, cj]
theorem c_append : Contract Tryd.prog GG 11 sp_append :=
  contract_of tr_disk_Append (tb_ok (all_cons c_unit (all_cons c_join all_nil)) all_nil) (fun a h => w_append a.1 a.2 h)

noncomputable def sp_rappend : List D → Option D := spOf (α := (List UInt8 × Int) × List UInt8) (fun a => [dkD a.1, .slc (nz 1 (a.2.map byteD)) (a.2.map byteD) false]) (fun a => okD a.1 ∧ a.2.length ≤ 4294960000) (fun a => .tup [dkD (appL a.1 a.2).1, .int .i64 (appL a.1 a.2).2])
theorem call_rappend (d : List UInt8 × Int) (r : List UInt8) (h : okD d ∧ r.length ≤ 4294960000) : sp_rappend [dkD d, .slc (nz 1 (r.map byteD)) (r.map byteD) false] = some (.tup [dkD (appL d r).1, .int .i64 (appL d r).2]) :=
  spOf_enc (fun ⟨a0, a1⟩ ⟨b0, b1⟩ h => by simp only [List.cons.injEq, D.slc.injEq, D.int.injEq, D.bool.injEq, D.str.injEq, D.agg.injEq, digs_iff, dig_iff, digC_iff, bytes_iff, byte_iff, words_iff, word_iff, Sha.St8.list_iff, bsl_iff, true_and, and_true, bsD_inj', dkD_iff, trD_iff, Int.ofNat_inj] at h; simp [h, Prod.ext_iff]) (d, r) h
set_option maxHeartbeats 4000000 in
set_option maxRecDepth 20000 in
theorem w_rappend (d : List UInt8 × Int) (r : List UInt8) (h : okD d ∧ r.length ≤ 4294960000) : @wW GG (tb [(31, sp_runit), (16, sp_rjoin), (30, sp_rvalid)] []) F_wagonpoolref13_Append.code (argF [dkD d, .slc (nz 1 (r.map byteD)) (r.map byteD) false]) [] ⟨retQ F_wagonpoolref13_Append.res (.tup [dkD (appL d r).1, .int .i64 (appL d r).2])⟩ := by
  obtain ⟨b, s⟩ := d
  obtain ⟨⟨h1, h2, h3⟩, h4⟩ := h
  dsimp only at h1 h2 h3
  have cv := call_rvalid (b, s) ⟨h1, h2, h3⟩
  simp only [dkD, bsD] at cv
  unfold F_wagonpoolref13_Append
  by_cases e : badD (b, s)
  · rw [decide_eq_false (fun h => h e)] at cv
    simp (disch := first | omega | decide) only [push_cast, ↓wF_free, ↓reduceIte, Nat.reduceEqDiff, Nat.reduceLT, Nat.reduceLeDiff, Nat.reduceAdd, Nat.reduceSub, Nat.reduceMul, Nat.reduceBEq, Int.reduceLT, Int.reduceLE, Int.reduceToNat, Int.reduceNeg, Int.reducePow, Int.reduceAdd, Int.reduceMul, Int.reduceSub, ↓Int.reduceNatCast', dkD, bsD, e, appL, cv]
  · rw [decide_eq_true e] at cv
    by_cases e3 : 16000 < r.length
    · have e3' : (16000 : Int) < (r.length : Int) := by omega
      simp (disch := first | omega | decide) only [push_cast, ↓wF_free, ↓reduceIte, Nat.reduceEqDiff, Nat.reduceLT, Nat.reduceLeDiff, Nat.reduceAdd, Nat.reduceSub, Nat.reduceMul, Nat.reduceBEq, Int.reduceLT, Int.reduceLE, Int.reduceToNat, Int.reduceNeg, Int.reducePow, Int.reduceAdd, Int.reduceMul, Int.reduceSub, ↓Int.reduceNatCast', dkD, bsD, e, e3, e3', appL, cv]
    · have e3' : ¬ (16000 : Int) < (r.length : Int) := by omega
      have cu := call_runit (b.length : Int) r ⟨by omega, by omega, by omega⟩
      have ul := unitL_length (b.length : Int) r
      have cj := call_rjoin b (unitL (b.length : Int) r) (by omega)
      simp (disch := first | omega | decide) only [push_cast, ↓wF_free, ↓reduceIte, Nat.reduceEqDiff, Nat.reduceLT, Nat.reduceLeDiff, Nat.reduceAdd, Nat.reduceSub, Nat.reduceMul, Nat.reduceBEq, Int.reduceLT, Int.reduceLE, Int.reduceToNat, Int.reduceNeg, Int.reducePow, Int.reduceAdd, Int.reduceMul, Int.reduceSub, ↓Int.reduceNatCast', dkD, bsD, e, e3, e3', appL, cu, cj, cv]
theorem c_rappend : Contract Tryd.prog GG 20 sp_rappend :=
  contract_of tr_wagonpoolref13_Append (tb_ok (all_cons c_runit (all_cons c_rjoin (all_cons c_rvalid all_nil))) all_nil) (fun a h => w_rappend a.1 a.2 h)
noncomputable def sp_crash : List D → Option D := spOf (α := (List UInt8 × Int) × (Int × List UInt8)) (fun a => [dkD a.1, trD a.2]) (fun a => okD a.1 ∧ -9223372036854775808 ≤ a.2.1 ∧ a.2.1 < 9223372036854775808 ∧ a.2.2.length ≤ 4294960000) (fun a => .tup [dkD (crashL a.1 a.2).1, .int .i64 (crashL a.1 a.2).2])
theorem call_crash (d : List UInt8 × Int) (t : Int × List UInt8) (h : okD d ∧ -9223372036854775808 ≤ t.1 ∧ t.1 < 9223372036854775808 ∧ t.2.length ≤ 4294960000) : sp_crash [dkD d, trD t] = some (.tup [dkD (crashL d t).1, .int .i64 (crashL d t).2]) :=
  spOf_enc (fun ⟨a0, a1⟩ ⟨b0, b1⟩ h => by simp only [List.cons.injEq, D.slc.injEq, D.int.injEq, D.bool.injEq, D.str.injEq, D.agg.injEq, digs_iff, dig_iff, digC_iff, bytes_iff, byte_iff, words_iff, word_iff, Sha.St8.list_iff, bsl_iff, true_and, and_true, bsD_inj', dkD_iff, trD_iff, Int.ofNat_inj] at h; simp [h, Prod.ext_iff]) (d, t) h
set_option maxHeartbeats 4000000 in
set_option maxRecDepth 20000 in
theorem w_crash (d : List UInt8 × Int) (t : Int × List UInt8) (h : okD d ∧ -9223372036854775808 ≤ t.1 ∧ t.1 < 9223372036854775808 ∧ t.2.length ≤ 4294960000) : @wW GG (tb [(26, sp_join), (12, sp_sync)] []) F_disk_Crash.code (argF [dkD d, trD t]) [] ⟨retQ F_disk_Crash.res (.tup [dkD (crashL d t).1, .int .i64 (crashL d t).2])⟩ := by
  obtain ⟨b, s⟩ := d
  obtain ⟨k, r⟩ := t
  obtain ⟨⟨h1, h2, h3⟩, h4, h5, h6⟩ := h
  dsimp only at h1 h2 h3 h4 h5 h6
  unfold F_disk_Crash
  by_cases e1 : s < 0
  · have e : badT (b, s) (k, r) := .inl (.inl e1)
    simp (disch := first | omega | decide) only [push_cast, ↓wF_free, ↓reduceIte, Nat.reduceEqDiff, Nat.reduceLT, Nat.reduceLeDiff, Nat.reduceAdd, Nat.reduceSub, Nat.reduceMul, Nat.reduceBEq, Int.reduceLT, Int.reduceLE, Int.reduceToNat, Int.reduceNeg, Int.reducePow, Int.reduceAdd, Int.reduceMul, Int.reduceSub, ↓Int.reduceNatCast', dkD, trD, bsD, e1, e, crashL]
  · by_cases e2 : (b.length : Int) < s
    · have e : badT (b, s) (k, r) := .inl (.inr e2)
      simp (disch := first | omega | decide) only [push_cast, ↓wF_free, ↓reduceIte, Nat.reduceEqDiff, Nat.reduceLT, Nat.reduceLeDiff, Nat.reduceAdd, Nat.reduceSub, Nat.reduceMul, Nat.reduceBEq, Int.reduceLT, Int.reduceLE, Int.reduceToNat, Int.reduceNeg, Int.reducePow, Int.reduceAdd, Int.reduceMul, Int.reduceSub, ↓Int.reduceNatCast', dkD, trD, bsD, e1, e2, e, crashL]
    · by_cases e3 : k < 0
      · have e : badT (b, s) (k, r) := .inr (.inl e3)
        simp (disch := first | omega | decide) only [push_cast, ↓wF_free, ↓reduceIte, Nat.reduceEqDiff, Nat.reduceLT, Nat.reduceLeDiff, Nat.reduceAdd, Nat.reduceSub, Nat.reduceMul, Nat.reduceBEq, Int.reduceLT, Int.reduceLE, Int.reduceToNat, Int.reduceNeg, Int.reducePow, Int.reduceAdd, Int.reduceMul, Int.reduceSub, ↓Int.reduceNatCast', dkD, trD, bsD, e1, e2, e3, e, crashL]
      · by_cases e4 : (b.length : Int) - s < k
        · have e : badT (b, s) (k, r) := .inr (.inr (.inl e4))
          simp (disch := first | omega | decide) only [push_cast, ↓wF_free, ↓reduceIte, Nat.reduceEqDiff, Nat.reduceLT, Nat.reduceLeDiff, Nat.reduceAdd, Nat.reduceSub, Nat.reduceMul, Nat.reduceBEq, Int.reduceLT, Int.reduceLE, Int.reduceToNat, Int.reduceNeg, Int.reducePow, Int.reduceAdd, Int.reduceMul, Int.reduceSub, ↓Int.reduceNatCast', dkD, trD, bsD, e1, e2, e3, e4, e, crashL, sub_i]
        · by_cases e5 : 64 < (r.length : Int)
          · have e : badT (b, s) (k, r) := .inr (.inr (.inr (by dsimp only; omega)))
            simp (disch := first | omega | decide) only [push_cast, ↓wF_free, ↓reduceIte, Nat.reduceEqDiff, Nat.reduceLT, Nat.reduceLeDiff, Nat.reduceAdd, Nat.reduceSub, Nat.reduceMul, Nat.reduceBEq, Int.reduceLT, Int.reduceLE, Int.reduceToNat, Int.reduceNeg, Int.reducePow, Int.reduceAdd, Int.reduceMul, Int.reduceSub, ↓Int.reduceNatCast', dkD, trD, bsD, e1, e2, e3, e4, e5, e, crashL, sub_i]
          · have e : ¬ badT (b, s) (k, r) := by unfold badT badD; dsimp only; omega
            have e6 : (s + k).toNat ≤ b.length := by omega
            have e7 : (b.take (s + k).toNat).length ≤ b.length := by simp; omega
            have cj := call_join (b.take (s + k).toNat) r (by omega)
            have cs := call_sync (b.take (s + k).toNat ++ r, 0) (by simp only [List.length_append]; omega)
            simp only [dkD, bsD, syncL] at cj cs
            have hnz : (nz 1 (b.map byteD) = 1 ∨ b.map byteD = []) ∧ 1 ≠ 0 := ⟨nz_or _ _, by decide⟩
            simp (disch := first | omega | decide) only [push_cast, ↓wF_free, ↓reduceIte, Nat.reduceEqDiff, Nat.reduceLT, Nat.reduceLeDiff, Nat.reduceAdd, Nat.reduceSub, Nat.reduceMul, Nat.reduceBEq, Int.reduceLT, Int.reduceLE, Int.reduceToNat, Int.reduceNeg, Int.reducePow, Int.reduceAdd, Int.reduceMul, Int.reduceSub, ↓Int.reduceNatCast', dkD, trD, bsD, e1, e2, e3, e4, e5, e, crashL, syncL, sub_i, add_i, slc_to _ _ _ _ _ _ _ _ hnz, cj, cs]
theorem c_crash : Contract Tryd.prog GG 13 sp_crash :=
  contract_of tr_disk_Crash (tb_ok (all_cons c_join (all_cons c_sync all_nil)) all_nil) (fun a h => w_crash a.1 a.2 h)

noncomputable def sp_rcrash : List D → Option D := spOf (α := (List UInt8 × Int) × (Int × List UInt8)) (fun a => [dkD a.1, trD a.2]) (fun a => okD a.1 ∧ -9223372036854775808 ≤ a.2.1 ∧ a.2.1 < 9223372036854775808 ∧ a.2.2.length ≤ 4294960000) (fun a => .tup [dkD (crashL a.1 a.2).1, .int .i64 (crashL a.1 a.2).2])
theorem call_rcrash (d : List UInt8 × Int) (t : Int × List UInt8) (h : okD d ∧ -9223372036854775808 ≤ t.1 ∧ t.1 < 9223372036854775808 ∧ t.2.length ≤ 4294960000) : sp_rcrash [dkD d, trD t] = some (.tup [dkD (crashL d t).1, .int .i64 (crashL d t).2]) :=
  spOf_enc (fun ⟨a0, a1⟩ ⟨b0, b1⟩ h => by simp only [List.cons.injEq, D.slc.injEq, D.int.injEq, D.bool.injEq, D.str.injEq, D.agg.injEq, digs_iff, dig_iff, digC_iff, bytes_iff, byte_iff, words_iff, word_iff, Sha.St8.list_iff, bsl_iff, true_and, and_true, bsD_inj', dkD_iff, trD_iff, Int.ofNat_inj] at h; simp [h, Prod.ext_iff]) (d, t) h
set_option maxHeartbeats 4000000 in
set_option maxRecDepth 20000 in
theorem w_rcrash (d : List UInt8 × Int) (t : Int × List UInt8) (h : okD d ∧ -9223372036854775808 ≤ t.1 ∧ t.1 < 9223372036854775808 ∧ t.2.length ≤ 4294960000) : @wW GG (tb [(16, sp_rjoin), (25, sp_rsync), (30, sp_rvalid)] []) F_wagonpoolref13_Crash.code (argF [dkD d, trD t]) [] ⟨retQ F_wagonpoolref13_Crash.res (.tup [dkD (crashL d t).1, .int .i64 (crashL d t).2])⟩ := by
  obtain ⟨b, s⟩ := d
  obtain ⟨k, r⟩ := t
  obtain ⟨⟨h1, h2, h3⟩, h4, h5, h6⟩ := h
  dsimp only at h1 h2 h3 h4 h5 h6
  have cv := call_rvalid (b, s) ⟨h1, h2, h3⟩
  simp only [dkD, bsD] at cv
  unfold F_wagonpoolref13_Crash
  by_cases e1 : badD (b, s)
  · have e : badT (b, s) (k, r) := .inl e1
    rw [decide_eq_false (fun h => h e1)] at cv
    simp (disch := first | omega | decide) only [push_cast, ↓wF_free, ↓reduceIte, Nat.reduceEqDiff, Nat.reduceLT, Nat.reduceLeDiff, Nat.reduceAdd, Nat.reduceSub, Nat.reduceMul, Nat.reduceBEq, Int.reduceLT, Int.reduceLE, Int.reduceToNat, Int.reduceNeg, Int.reducePow, Int.reduceAdd, Int.reduceMul, Int.reduceSub, ↓Int.reduceNatCast', dkD, trD, bsD, e1, e, crashL, cv]
  · rw [decide_eq_true e1] at cv
    have e1' := e1
    unfold badD at e1'
    dsimp only at e1'
    by_cases e3 : k < 0
    · have e : badT (b, s) (k, r) := .inr (.inl e3)
      simp (disch := first | omega | decide) only [push_cast, ↓wF_free, ↓reduceIte, Nat.reduceEqDiff, Nat.reduceLT, Nat.reduceLeDiff, Nat.reduceAdd, Nat.reduceSub, Nat.reduceMul, Nat.reduceBEq, Int.reduceLT, Int.reduceLE, Int.reduceToNat, Int.reduceNeg, Int.reducePow, Int.reduceAdd, Int.reduceMul, Int.reduceSub, ↓Int.reduceNatCast', dkD, trD, bsD, e3, e, crashL, cv]
    · by_cases e4 : (b.length : Int) - s < k
      · have e : badT (b, s) (k, r) := .inr (.inr (.inl e4))
        simp (disch := first | omega | decide) only [push_cast, ↓wF_free, ↓reduceIte, Nat.reduceEqDiff, Nat.reduceLT, Nat.reduceLeDiff, Nat.reduceAdd, Nat.reduceSub, Nat.reduceMul, Nat.reduceBEq, Int.reduceLT, Int.reduceLE, Int.reduceToNat, Int.reduceNeg, Int.reducePow, Int.reduceAdd, Int.reduceMul, Int.reduceSub, ↓Int.reduceNatCast', dkD, trD, bsD, e3, e4, e, crashL, sub_i, cv]
      · by_cases e5 : 64 < (r.length : Int)
        · have e : badT (b, s) (k, r) := .inr (.inr (.inr (by dsimp only; omega)))
          simp (disch := first | omega | decide) only [push_cast, ↓wF_free, ↓reduceIte, Nat.reduceEqDiff, Nat.reduceLT, Nat.reduceLeDiff, Nat.reduceAdd, Nat.reduceSub, Nat.reduceMul, Nat.reduceBEq, Int.reduceLT, Int.reduceLE, Int.reduceToNat, Int.reduceNeg, Int.reducePow, Int.reduceAdd, Int.reduceMul, Int.reduceSub, ↓Int.reduceNatCast', dkD, trD, bsD, e3, e4, e5, e, crashL, sub_i, cv]
        · have e : ¬ badT (b, s) (k, r) := by unfold badT badD; dsimp only; omega
          have e6 : (s + k).toNat ≤ b.length := by omega
          have e7 : (b.take (s + k).toNat).length ≤ b.length := by simp; omega
          have cj := call_rjoin (b.take (s + k).toNat) r (by omega)
          have cs := call_rsync (b.take (s + k).toNat ++ r, 0) (by simp only [List.length_append]; omega)
          simp only [dkD, bsD, syncL] at cj cs
          have hnz : (nz 1 (b.map byteD) = 1 ∨ b.map byteD = []) ∧ 1 ≠ 0 := ⟨nz_or _ _, by decide⟩
          simp (disch := first | omega | decide) only [push_cast, ↓wF_free, ↓reduceIte, Nat.reduceEqDiff, Nat.reduceLT, Nat.reduceLeDiff, Nat.reduceAdd, Nat.reduceSub, Nat.reduceMul, Nat.reduceBEq, Int.reduceLT, Int.reduceLE, Int.reduceToNat, Int.reduceNeg, Int.reducePow, Int.reduceAdd, Int.reduceMul, Int.reduceSub, ↓Int.reduceNatCast', dkD, trD, bsD, e3, e4, e5, e, crashL, syncL, sub_i, add_i, slc_to _ _ _ _ _ _ _ _ hnz, cj, cs, cv]
theorem c_rcrash : Contract Tryd.prog GG 21 sp_rcrash :=
  contract_of tr_wagonpoolref13_Crash (tb_ok (all_cons c_rjoin (all_cons c_rsync (all_cons c_rvalid all_nil))) all_nil) (fun a h => w_rcrash a.1 a.2 h)

noncomputable def sp_samed : List D → Option D := spOf (α := (List UInt8 × Int) × (List UInt8 × Int)) (fun a => [dkD a.1, dkD a.2]) (fun a => True) (fun a => .bool (decide (a.1 = a.2)))
theorem call_samed (a : List UInt8 × Int) (b : List UInt8 × Int) : sp_samed [dkD a, dkD b] = some (.bool (decide (a = b))) :=
  spOf_enc (fun ⟨a0, a1⟩ ⟨b0, b1⟩ h => by simp only [List.cons.injEq, D.slc.injEq, D.int.injEq, D.bool.injEq, D.str.injEq, D.agg.injEq, digs_iff, dig_iff, digC_iff, bytes_iff, byte_iff, words_iff, word_iff, Sha.St8.list_iff, bsl_iff, true_and, and_true, bsD_inj', dkD_iff, trD_iff, Int.ofNat_inj] at h; simp [h, Prod.ext_iff]) (a, b) trivial
set_option maxHeartbeats 4000000 in
set_option maxRecDepth 20000 in
theorem w_samed (a : List UInt8 × Int) (b : List UInt8 × Int) : @wW GG (tb [] []) F_wagonpoolref13_SameDisk.code (argF [dkD a, dkD b]) [] ⟨retQ F_wagonpoolref13_SameDisk.res (.bool (decide (a = b)))⟩ := by
  obtain ⟨u, s⟩ := a
  obtain ⟨v, s'⟩ := b
  unfold F_wagonpoolref13_SameDisk
  by_cases e1 : s = s'
  · subst e1
    have e : decide ((u, s) = (v, s)) = decide (u = v) := by apply decide_eq_decide.2; simp
    simp (disch := first | omega | decide) only [push_cast, ↓wF_free, ↓reduceIte, Nat.reduceEqDiff, Nat.reduceLT, Nat.reduceLeDiff, Nat.reduceAdd, Nat.reduceSub, Nat.reduceMul, Nat.reduceBEq, Int.reduceLT, Int.reduceLE, Int.reduceToNat, Int.reduceNeg, Int.reducePow, Int.reduceAdd, Int.reduceMul, Int.reduceSub, ↓Int.reduceNatCast', dkD, bsD, e]
  · have e : decide ((u, s) = (v, s')) = false := by simp [e1]
    simp (disch := first | omega | decide) only [push_cast, ↓wF_free, ↓reduceIte, Nat.reduceEqDiff, Nat.reduceLT, Nat.reduceLeDiff, Nat.reduceAdd, Nat.reduceSub, Nat.reduceMul, Nat.reduceBEq, Int.reduceLT, Int.reduceLE, Int.reduceToNat, Int.reduceNeg, Int.reducePow, Int.reduceAdd, Int.reduceMul, Int.reduceSub, ↓Int.reduceNatCast', dkD, bsD, e1, e]
theorem c_samed : Contract Tryd.prog GG 24 sp_samed :=
  contract_of tr_wagonpoolref13_SameDisk (tb_ok all_nil all_nil) (fun a h => w_samed a.1 a.2)

noncomputable def sp_begins : List D → Option D := spOf (α := List (List UInt8) × List (List UInt8)) (fun a => [.slc (nz 1 (a.1.map bsD)) (a.1.map bsD) false, .slc (nz 1 (a.2.map bsD)) (a.2.map bsD) false]) (fun a => a.2.length ≤ 4294967296) (fun a => .bool (decide (a.2 <+: a.1)))
theorem call_begins (a : List (List UInt8)) (b : List (List UInt8)) (h : b.length ≤ 4294967296) : sp_begins [.slc (nz 1 (a.map bsD)) (a.map bsD) false, .slc (nz 1 (b.map bsD)) (b.map bsD) false] = some (.bool (decide (b <+: a))) :=
  spOf_enc (fun ⟨a0, a1⟩ ⟨b0, b1⟩ h => by simp only [List.cons.injEq, D.slc.injEq, D.int.injEq, D.bool.injEq, D.str.injEq, D.agg.injEq, digs_iff, dig_iff, digC_iff, bytes_iff, byte_iff, words_iff, word_iff, Sha.St8.list_iff, bsl_iff, true_and, and_true, bsD_inj', dkD_iff, trD_iff, Int.ofNat_inj] at h; simp [h, Prod.ext_iff]) (a, b) h
set_option maxHeartbeats 4000000 in
set_option maxRecDepth 20000 in
theorem w_begins (a : List (List UInt8)) (b : List (List UInt8)) (h : b.length ≤ 4294967296) : @wW GG (tb [] []) F_wagonpoolref13_Begins.code (argF [.slc (nz 1 (a.map bsD)) (a.map bsD) false, .slc (nz 1 (b.map bsD)) (b.map bsD) false]) [] ⟨retQ F_wagonpoolref13_Begins.res (.bool (decide (b <+: a)))⟩ := by
  unfold F_wagonpoolref13_Begins
  by_cases e1 : (a.length : Int) < (b.length : Int)
  · have e : decide (b <+: a) = false := by
      apply decide_eq_false
      intro h
      have := h.length_le
      omega
    simp (disch := first | omega | decide) only [push_cast, ↓wF_free, ↓reduceIte, Nat.reduceEqDiff, Nat.reduceLT, Nat.reduceLeDiff, Nat.reduceAdd, Nat.reduceSub, Nat.reduceMul, Nat.reduceBEq, Int.reduceLT, Int.reduceLE, Int.reduceToNat, Int.reduceNeg, Int.reducePow, Int.reduceAdd, Int.reduceMul, Int.reduceSub, ↓Int.reduceNatCast', e1, e]
  · simp (disch := first | omega | decide) only [push_cast, ↓wF_free, ↓reduceIte, Nat.reduceEqDiff, Nat.reduceLT, Nat.reduceLeDiff, Nat.reduceAdd, Nat.reduceSub, Nat.reduceMul, Nat.reduceBEq, Int.reduceLT, Int.reduceLE, Int.reduceToNat, Int.reduceNeg, Int.reducePow, Int.reduceAdd, Int.reduceMul, Int.reduceSub, ↓Int.reduceNatCast', e1]
    refine W_while (fun i : Nat => [(0, .slc (nz 1 (a.map bsD)) (a.map bsD) false), (1, .slc (nz 1 (b.map bsD)) (b.map bsD) false), (5, .int .i64 (i : Int))]) (fun i => []) (fun i => i ≤ b.length ∧ a.take i = b.take i) (fun i => b.length - i) 0 (by simp only [push_cast, ↓wF_free, ↓reduceIte, Nat.reduceEqDiff, Nat.reduceLT, Nat.reduceLeDiff, Nat.reduceAdd, Nat.reduceSub, Nat.reduceMul, Nat.reduceBEq, Int.reduceLT, Int.reduceLE, Int.reduceToNat, Int.reduceNeg, Int.reducePow, Int.reduceAdd, Int.reduceMul, Int.reduceSub, ↓Int.reduceNatCast'] <;> rfl) (by simp) ?_
    rintro i ⟨hi, hp⟩
    unfold F_wagonpoolref13_Begins_L0
    simp (disch := first | omega | decide) only [push_cast, ↓wF_free, ↓reduceIte, Nat.reduceEqDiff, Nat.reduceLT, Nat.reduceLeDiff, Nat.reduceAdd, Nat.reduceSub, Nat.reduceMul, Nat.reduceBEq, Int.reduceLT, Int.reduceLE, Int.reduceToNat, Int.reduceNeg, Int.reducePow, Int.reduceAdd, Int.reduceMul, Int.reduceSub, ↓Int.reduceNatCast']
    refine ifD_split (fun h2 => ?_) (fun h2 => ?_)
    · have ta := take_getD a i (by omega)
      have tb := take_getD b i (by omega)
      simp (disch := first | omega | decide) only [push_cast, ↓wF_free, ↓reduceIte, Nat.reduceEqDiff, Nat.reduceLT, Nat.reduceLeDiff, Nat.reduceAdd, Nat.reduceSub, Nat.reduceMul, Nat.reduceBEq, Int.reduceLT, Int.reduceLE, Int.reduceToNat, Int.reduceNeg, Int.reducePow, Int.reduceAdd, Int.reduceMul, Int.reduceSub, ↓Int.reduceNatCast', idxS_nz, bsD]
      by_cases e2 : a.getD i default = b.getD i default
      · simp (disch := first | omega | decide) only [push_cast, ↓wF_free, ↓reduceIte, Nat.reduceEqDiff, Nat.reduceLT, Nat.reduceLeDiff, Nat.reduceAdd, Nat.reduceSub, Nat.reduceMul, Nat.reduceBEq, Int.reduceLT, Int.reduceLE, Int.reduceToNat, Int.reduceNeg, Int.reducePow, Int.reduceAdd, Int.reduceMul, Int.reduceSub, ↓Int.reduceNatCast', e2, add_i]
        refine next_head (i + 1) (by exact ⟨by omega, by rw [ta, tb, hp, e2]⟩) (by omega) ?_
        simp only [push_cast, ↓wF_free, ↓reduceIte, Nat.reduceEqDiff, Nat.reduceLT, Nat.reduceLeDiff, Nat.reduceAdd, Nat.reduceSub, Nat.reduceMul, Nat.reduceBEq, Int.reduceLT, Int.reduceLE, Int.reduceToNat, Int.reduceNeg, Int.reducePow, Int.reduceAdd, Int.reduceMul, Int.reduceSub, ↓Int.reduceNatCast'] <;> rfl
      · have e : decide (b <+: a) = false := by
          apply decide_eq_false
          intro h
          apply e2
          obtain ⟨s, rfl⟩ := h
          simp [List.getD_eq_getElem?_getD, List.getElem?_append, show i < b.length by omega]
        simp (disch := first | omega | decide) only [push_cast, ↓wF_free, ↓reduceIte, Nat.reduceEqDiff, Nat.reduceLT, Nat.reduceLeDiff, Nat.reduceAdd, Nat.reduceSub, Nat.reduceMul, Nat.reduceBEq, Int.reduceLT, Int.reduceLE, Int.reduceToNat, Int.reduceNeg, Int.reducePow, Int.reduceAdd, Int.reduceMul, Int.reduceSub, ↓Int.reduceNatCast', e2, e]
    · obtain rfl : i = b.length := by omega
      have e : decide (b <+: a) = true := by
        apply decide_eq_true
        rw [List.take_length] at hp
        rw [← hp]
        exact List.take_prefix _ _
      simp (disch := first | omega | decide) only [push_cast, ↓wF_free, ↓reduceIte, Nat.reduceEqDiff, Nat.reduceLT, Nat.reduceLeDiff, Nat.reduceAdd, Nat.reduceSub, Nat.reduceMul, Nat.reduceBEq, Int.reduceLT, Int.reduceLE, Int.reduceToNat, Int.reduceNeg, Int.reducePow, Int.reduceAdd, Int.reduceMul, Int.reduceSub, ↓Int.reduceNatCast', e]
theorem c_begins : Contract Tryd.prog GG 15 sp_begins :=
  contract_of tr_wagonpoolref13_Begins (tb_ok all_nil all_nil) (fun a h => w_begins a.1 a.2 h)

noncomputable def sp_same : List D → Option D := spOf (α := List (List UInt8) × List (List UInt8)) (fun a => [.slc (nz 1 (a.1.map bsD)) (a.1.map bsD) false, .slc (nz 1 (a.2.map bsD)) (a.2.map bsD) false]) (fun a => a.2.length ≤ 4294967296) (fun a => .bool (decide (a.1 = a.2)))
theorem call_same (a : List (List UInt8)) (b : List (List UInt8)) (h : b.length ≤ 4294967296) : sp_same [.slc (nz 1 (a.map bsD)) (a.map bsD) false, .slc (nz 1 (b.map bsD)) (b.map bsD) false] = some (.bool (decide (a = b))) :=
  spOf_enc (fun ⟨a0, a1⟩ ⟨b0, b1⟩ h => by simp only [List.cons.injEq, D.slc.injEq, D.int.injEq, D.bool.injEq, D.str.injEq, D.agg.injEq, digs_iff, dig_iff, digC_iff, bytes_iff, byte_iff, words_iff, word_iff, Sha.St8.list_iff, bsl_iff, true_and, and_true, bsD_inj', dkD_iff, trD_iff, Int.ofNat_inj] at h; simp [h, Prod.ext_iff]) (a, b) h
set_option maxHeartbeats 4000000 in
set_option maxRecDepth 20000 in
theorem w_same (a : List (List UInt8)) (b : List (List UInt8)) (h : b.length ≤ 4294967296) : @wW GG (tb [(15, sp_begins)] []) F_wagonpoolref13_Same.code (argF [.slc (nz 1 (a.map bsD)) (a.map bsD) false, .slc (nz 1 (b.map bsD)) (b.map bsD) false]) [] ⟨retQ F_wagonpoolref13_Same.res (.bool (decide (a = b)))⟩ := by
  have cb := call_begins a b h
  unfold F_wagonpoolref13_Same
  by_cases e1 : (a.length : Int) = (b.length : Int)
  · have e : decide (b <+: a) = decide (a = b) := by
      apply decide_eq_decide.2
      refine ⟨fun h => (prefix_eq h (by omega)).symm, fun h => by rw [h]; exact List.prefix_refl _⟩
    simp (disch := first | omega | decide) only [push_cast, ↓wF_free, ↓reduceIte, Nat.reduceEqDiff, Nat.reduceLT, Nat.reduceLeDiff, Nat.reduceAdd, Nat.reduceSub, Nat.reduceMul, Nat.reduceBEq, Int.reduceLT, Int.reduceLE, Int.reduceToNat, Int.reduceNeg, Int.reducePow, Int.reduceAdd, Int.reduceMul, Int.reduceSub, ↓Int.reduceNatCast', e1, e, cb]
  · have e : decide (a = b) = false := by
      apply decide_eq_false
      intro h
      rw [h] at e1
      exact e1 rfl
    simp (disch := first | omega | decide) only [push_cast, ↓wF_free, ↓reduceIte, Nat.reduceEqDiff, Nat.reduceLT, Nat.reduceLeDiff, Nat.reduceAdd, Nat.reduceSub, Nat.reduceMul, Nat.reduceBEq, Int.reduceLT, Int.reduceLE, Int.reduceToNat, Int.reduceNeg, Int.reducePow, Int.reduceAdd, Int.reduceMul, Int.reduceSub, ↓Int.reduceNatCast', e1, e]
theorem c_same : Contract Tryd.prog GG 18 sp_same :=
  contract_of tr_wagonpoolref13_Same (tb_ok (all_cons c_begins all_nil) all_nil) (fun a h => w_same a.1 a.2 h)
end Go.Proofs.YteacnlikmagfcaaDoor.PI
