/-
  disk: the reference agrees; opening a disk; valid prefixes.
  Conditions: the arguments' bulk is at most 1048576.
-/
import Derived.Test.YteacnlikmagfcaaDoorDkI
namespace Go.Proofs.YteacnlikmagfcaaDoor.PI
open Go
set_option linter.unusedSimpArgs false
set_option linter.unusedVariables false

theorem wt_dkD (d : List UInt8 × Int) : wt (dkD d) = d.1.length + 2 := by
  show wts [bsD d.1, .int .i64 d.2] = _
  simp only [wts, wt_bsD, wt]
theorem wt_trD (t : Int × List UInt8) : wt (trD t) = t.2.length + 2 := by
  show wts [.int .i64 t.1, bsD t.2] = _
  simp only [wts, wt_bsD, wt]
  omega
theorem decide_refl {α : Type} [DecidableEq α] (a : α) : decide (a = a) = true := decide_eq_true rfl

set_option maxHeartbeats 4000000 in
set_option maxRecDepth 20000 in
theorem lw_DiskMatchesReference (d : List UInt8 × Int) (hd1 : -9223372036854775808 ≤ d.2) (hd2 : d.2 < 9223372036854775808) (r : List UInt8) (t : Int × List UInt8) (ht1 : -9223372036854775808 ≤ t.1) (ht2 : t.1 < 9223372036854775808) (hw : wts [dkD d, .slc (nz 1 (r.map byteD)) (r.map byteD) false, trD t] ≤ 1048576) : @wW GG (tb [(10, sp_sane), (11, sp_append), (20, sp_rappend), (13, sp_crash), (21, sp_rcrash), (14, sp_read), (22, sp_rread), (19, sp_open), (23, sp_ropen), (24, sp_samed), (18, sp_same), (12, sp_sync), (25, sp_rsync)] []) F_wagonpoollaw13_DiskMatchesReference.code (argF [dkD d, .slc (nz 1 (r.map byteD)) (r.map byteD) false, trD t]) [] ⟨retQ F_wagonpoollaw13_DiskMatchesReference.res (.bool true)⟩ := by
  obtain ⟨b, s⟩ := d
  obtain ⟨k, z⟩ := t
  have hw2 : wts [dkD (b, s), .slc (nz 1 (r.map byteD)) (r.map byteD) false, trD (k, z)] = (b.length + 2) + ((r.length + 1) + ((z.length + 2) + 0)) := by
    simp only [wts, wt_dkD, wt_trD, bsD_fold, wt_bsD]
  rw [hw2] at hw
  dsimp only at hd1 hd2 ht1 ht2
  have hok : okD (b, s) := ⟨by dsimp only; omega, hd1, hd2⟩
  have c1 := call_append (b, s) r ⟨hok, by omega⟩
  have c2 := call_rappend (b, s) r ⟨hok, by omega⟩
  have c3 := call_crash (b, s) (k, z) ⟨hok, ht1, ht2, by dsimp only; omega⟩
  have c4 := call_rcrash (b, s) (k, z) ⟨hok, ht1, ht2, by dsimp only; omega⟩
  have c5 := call_read (b, s) hok
  have c6 := call_rread (b, s) hok
  have c7 := call_open (b, s) hok
  have c8 := call_ropen (b, s) hok
  have c9 := call_sync (b, s) (by dsimp only; omega)
  have c10 := call_rsync (b, s) (by dsimp only; omega)
  have s1 := call_samed (appL (b, s) r).1 (appL (b, s) r).1
  have s2 := call_samed (crashL (b, s) (k, z)).1 (crashL (b, s) (k, z)).1
  have s3 := call_samed (openL b) (openL b)
  have s4 := call_samed (syncL (b, s)) (syncL (b, s))
  have hl := recs_length b
  have s5 := call_same (recs b) (recs b) (by omega)
  rw [decide_refl] at s1 s2 s3 s4 s5
  generalize appL (b, s) r = A at *
  generalize crashL (b, s) (k, z) = C at *
  generalize syncL (b, s) = Y at *
  dsimp only at c5 c6 c7 c8
  generalize openL b = O at *
  generalize recs b = R at *
  generalize endN b = E at *
  obtain ⟨⟨a1, a2⟩, a3⟩ := A
  obtain ⟨⟨o1, o2⟩, o3⟩ := C
  obtain ⟨y1, y2⟩ := Y
  obtain ⟨p1, p2⟩ := O
  simp only [dkD, trD, bsD] at c1 c2 c3 c4 c5 c6 c7 c8 c9 c10 s1 s2 s3 s4
  unfold F_wagonpoollaw13_DiskMatchesReference
  simp (disch := first | omega | decide) only [push_cast, ↓wF_free, ↓reduceIte, Nat.reduceEqDiff, Nat.reduceLT, Nat.reduceLeDiff, Nat.reduceAdd, Nat.reduceSub, Nat.reduceMul, Nat.reduceBEq, Int.reduceLT, Int.reduceLE, Int.reduceToNat, Int.reduceNeg, Int.reducePow, Int.reduceAdd, Int.reduceMul, Int.reduceSub, ↓Int.reduceNatCast', call_sane, dkD, trD, bsD, c1, c2, c3, c4, c5, c6, c7, c8, c9, c10, s1, s2, s3, s4, s5]
theorem law_DiskMatchesReference : Contract Tryd.prog GG 6 (lawSpU [.agg [.slc (.int .u8), .int .i64], .slc (.int .u8), .agg [.int .i64, .slc (.int .u8)]] 1048576) := by
  refine lawCU tr_wagonpoollaw13_DiskMatchesReference (T := tb [(10, sp_sane), (11, sp_append), (20, sp_rappend), (13, sp_crash), (21, sp_rcrash), (14, sp_read), (22, sp_rread), (19, sp_open), (23, sp_ropen), (24, sp_samed), (18, sp_same), (12, sp_sync), (25, sp_rsync)] []) (tb_ok (all_cons c_sane (all_cons c_append (all_cons c_rappend (all_cons c_crash (all_cons c_rcrash (all_cons c_read (all_cons c_rread (all_cons c_open (all_cons c_ropen (all_cons c_samed (all_cons c_same (all_cons c_sync (all_cons c_rsync all_nil))))))))))))) all_nil) ?_
  intro xs h hw
  obtain ⟨x0, xs, rfl, h0, h⟩ := hasAll_cons h
  obtain ⟨x1, xs, rfl, h1, h⟩ := hasAll_cons h
  obtain ⟨x2, xs, rfl, h2, h⟩ := hasAll_cons h
  obtain rfl := hasAll_nil h
  obtain ⟨y0, rfl, ya0, yb0⟩ := has_dk h0
  obtain ⟨y1, rfl, ya1⟩ := has_bytes h1
  obtain ⟨y2, rfl, ya2, yb2⟩ := has_tr h2
  exact lw_DiskMatchesReference y0 ya0 yb0 y1 y2 ya2 yb2 hw

set_option maxHeartbeats 4000000 in
set_option maxRecDepth 20000 in
theorem lw_DiskOpens (d : List UInt8 × Int) (hd1 : -9223372036854775808 ≤ d.2) (hd2 : d.2 < 9223372036854775808) (r : List UInt8) (hw : wts [dkD d, .slc (nz 1 (r.map byteD)) (r.map byteD) false] ≤ 1048576) : @wW GG (tb [(10, sp_sane), (11, sp_append), (14, sp_read), (19, sp_open), (24, sp_samed), (18, sp_same), (15, sp_begins)] []) F_wagonpoollaw13_DiskOpens.code (argF [dkD d, .slc (nz 1 (r.map byteD)) (r.map byteD) false]) [] ⟨retQ F_wagonpoollaw13_DiskOpens.res (.bool true)⟩ := by
  obtain ⟨b, s⟩ := d
  have hw2 : wts [dkD (b, s), .slc (nz 1 (r.map byteD)) (r.map byteD) false] = (b.length + 2) + ((r.length + 1) + 0) := by
    simp only [wts, wt_dkD, bsD_fold, wt_bsD]
  rw [hw2] at hw
  dsimp only at hd1 hd2
  have hok : okD (b, s) := ⟨by dsimp only; omega, hd1, hd2⟩
  have hR := recs_ok b
  have hlR := recs_length b
  have hE := endN_le b
  have hE2 := endN_eq b
  have hT := recs_take b
  have c1 := call_read (b, s) hok
  have c2 := call_open (b, s) hok
  have ho : openL b = (encL 0 (recs b), (endN b : Int)) := by rw [openL, hT]
  rw [ho] at c2
  dsimp only at c1 c2
  generalize recs b = R at *
  generalize endN b = E at *
  have c3 := call_open (encL 0 R, (E : Int)) ⟨by dsimp only; omega, by dsimp only; omega, by dsimp only; omega⟩
  have ho2 : openL (encL 0 R) = (encL 0 R, (E : Int)) := by
    rw [openL, endN_enc R hR, ← hE2, List.take_of_length_le (by omega)]
  dsimp only at c3
  rw [ho2, recs_enc R hR] at c3
  have s1 := call_same R R (by omega)
  have s2 := call_samed (encL 0 R, (E : Int)) (encL 0 R, (E : Int))
  rw [decide_refl] at s1 s2
  have c4 := call_append (encL 0 R, (E : Int)) r ⟨⟨by dsimp only; omega, by dsimp only; omega, by dsimp only; omega⟩, by omega⟩
  unfold F_wagonpoollaw13_DiskOpens
  by_cases hr : r.length ≤ 16000
  · rw [appL_enc R (E : Int) r (by omega) (by omega) hr] at c4
    have hR2 := okL_snoc hR hr
    have hl2 := encL_snoc_length R r
    have c5 := call_read (encL 0 (R ++ [r]), (E : Int)) ⟨by dsimp only; omega, by dsimp only; omega, by dsimp only; omega⟩
    dsimp only at c5
    rw [recs_enc _ hR2, endN_enc _ hR2] at c5
    have s3 := call_begins (R ++ [r]) R (by omega)
    rw [decide_eq_true (List.prefix_append R [r])] at s3
    have hg : (R ++ [r]).getD R.length default = r := by simp [List.getD_eq_getElem?_getD]
    have hl3 : (R ++ [r]).length = R.length + 1 := by simp
    have e1 : (R.length : Int).toNat = R.length := by omega
    simp only [dkD, bsD] at c1 c2 c3 c4 c5 s1 s2 s3
    simp (disch := first | omega | decide) only [push_cast, ↓wF_free, ↓reduceIte, Nat.reduceEqDiff, Nat.reduceLT, Nat.reduceLeDiff, Nat.reduceAdd, Nat.reduceSub, Nat.reduceMul, Nat.reduceBEq, Int.reduceLT, Int.reduceLE, Int.reduceToNat, Int.reduceNeg, Int.reducePow, Int.reduceAdd, Int.reduceMul, Int.reduceSub, ↓Int.reduceNatCast', call_sane, dkD, bsD, c1, c2, c3, c4, c5, s1, s2, s3, ← hE2, hl3, add_i, idxS_nz, e1, hg]
  · rw [appL_long (encL 0 R) (E : Int) r (by omega) (by omega) (by omega)] at c4
    have hnn : (16000 : Int) < (r.length : Int) := by omega
    have h20 : ¬ (2 : Int) = 0 := by decide
    simp only [dkD, bsD] at c1 c2 c3 c4 s1 s2
    simp (disch := first | omega | decide) only [push_cast, ↓wF_free, ↓reduceIte, Nat.reduceEqDiff, Nat.reduceLT, Nat.reduceLeDiff, Nat.reduceAdd, Nat.reduceSub, Nat.reduceMul, Nat.reduceBEq, Int.reduceLT, Int.reduceLE, Int.reduceToNat, Int.reduceNeg, Int.reducePow, Int.reduceAdd, Int.reduceMul, Int.reduceSub, ↓Int.reduceNatCast', call_sane, dkD, bsD, c1, c2, c3, c4, s1, s2, ← hE2, hnn, h20]
theorem law_DiskOpens : Contract Tryd.prog GG 7 (lawSpU [.agg [.slc (.int .u8), .int .i64], .slc (.int .u8)] 1048576) := by
  refine lawCU tr_wagonpoollaw13_DiskOpens (T := tb [(10, sp_sane), (11, sp_append), (14, sp_read), (19, sp_open), (24, sp_samed), (18, sp_same), (15, sp_begins)] []) (tb_ok (all_cons c_sane (all_cons c_append (all_cons c_read (all_cons c_open (all_cons c_samed (all_cons c_same (all_cons c_begins all_nil))))))) all_nil) ?_
  intro xs h hw
  obtain ⟨x0, xs, rfl, h0, h⟩ := hasAll_cons h
  obtain ⟨x1, xs, rfl, h1, h⟩ := hasAll_cons h
  obtain rfl := hasAll_nil h
  obtain ⟨y0, rfl, ya0, yb0⟩ := has_dk h0
  obtain ⟨y1, rfl, ya1⟩ := has_bytes h1
  exact lw_DiskOpens y0 ya0 yb0 y1 hw

set_option maxHeartbeats 4000000 in
set_option maxRecDepth 20000 in
theorem lw_DiskPrefixes (b : List UInt8) (n : Int) (hn1 : -9223372036854775808 ≤ n) (hn2 : n < 9223372036854775808) (hw : wts [.slc (nz 1 (b.map byteD)) (b.map byteD) false, .int .i64 n] ≤ 1048576) : @wW GG (tb [(10, sp_sane), (11, sp_append), (14, sp_read), (15, sp_begins)] []) F_wagonpoollaw13_DiskPrefixes.code (argF [.slc (nz 1 (b.map byteD)) (b.map byteD) false, .int .i64 n]) [] ⟨retQ F_wagonpoollaw13_DiskPrefixes.res (.bool true)⟩ := by
  have hw2 : wts [.slc (nz 1 (b.map byteD)) (b.map byteD) false, .int .i64 n] = (b.length + 1) + (1 + 0) := by
    simp only [wts, wts_bytes, wt]
  rw [hw2] at hw
  have hR := recs_ok b
  have hlR := recs_length b
  have hE := endN_le b
  have hE2 := endN_eq b
  have hT := recs_take b
  have hpre := recs_prefix b
  have c1 := call_read (b, 0) ⟨by dsimp only; omega, by dsimp only; omega, by dsimp only; omega⟩
  simp only [dkD, bsD] at c1
  generalize hRR : recs b = R at *
  generalize hEE : endN b = E at *
  have hnE : ¬ ((b.length : Int) < (E : Int)) := by omega
  have hEn : ¬ ((E : Int) < 0) := by omega
  unfold F_wagonpoollaw13_DiskPrefixes
  simp (disch := first | omega | decide) only [push_cast, ↓wF_free, ↓reduceIte, Nat.reduceEqDiff, Nat.reduceLT, Nat.reduceLeDiff, Nat.reduceAdd, Nat.reduceSub, Nat.reduceMul, Nat.reduceBEq, Int.reduceLT, Int.reduceLE, Int.reduceToNat, Int.reduceNeg, Int.reducePow, Int.reduceAdd, Int.reduceMul, Int.reduceSub, ↓Int.reduceNatCast', call_sane, c1, hnE, hEn]
  refine W_while (fun i : Nat × Bool => [(0, .slc (nz 1 (b.map byteD)) (b.map byteD) false), (1, .int .i64 n), (5, .slc (nz 1 (R.map bsD)) (R.map bsD) false), (6, .int .i64 (E : Int)), (7, .ptr 0 0), (8, .int .i64 (i.1 : Int))])
    (fun i => [⟨false, 1, [.slc (nz 1 ((encL 0 (R.take i.1)).map byteD)) ((encL 0 (R.take i.1)).map byteD) i.2, .int .i64 0], false⟩]) (fun i => i.1 ≤ R.length) (fun i => R.length - i.1) (0, true) (by simp only [push_cast, ↓wF_free, ↓reduceIte, Nat.reduceEqDiff, Nat.reduceLT, Nat.reduceLeDiff, Nat.reduceAdd, Nat.reduceSub, Nat.reduceMul, Nat.reduceBEq, Int.reduceLT, Int.reduceLE, Int.reduceToNat, Int.reduceNeg, Int.reducePow, Int.reduceAdd, Int.reduceMul, Int.reduceSub, ↓Int.reduceNatCast'] <;> rfl) (by exact Nat.zero_le _) ?_
  rintro ⟨i, t⟩ hi
  dsimp only at hi
  unfold F_wagonpoollaw13_DiskPrefixes_L0
  simp (disch := first | omega | decide) only [push_cast, ↓wF_free, ↓reduceIte, Nat.reduceEqDiff, Nat.reduceLT, Nat.reduceLeDiff, Nat.reduceAdd, Nat.reduceSub, Nat.reduceMul, Nat.reduceBEq, Int.reduceLT, Int.reduceLE, Int.reduceToNat, Int.reduceNeg, Int.reducePow, Int.reduceAdd, Int.reduceMul, Int.reduceSub, ↓Int.reduceNatCast']
  refine ifD_split (fun h2 => ?_) (fun h2 => ?_)
  · have hm := getD_mem' (show i < R.length by omega)
    have hr := hR _ hm
    have htk := take_getD R i (by omega)
    have hb1 := encL_prefix_length (List.take_prefix i R)
    simp (disch := first | omega | decide) only [push_cast, ↓wF_free, ↓reduceIte, Nat.reduceEqDiff, Nat.reduceLT, Nat.reduceLeDiff, Nat.reduceAdd, Nat.reduceSub, Nat.reduceMul, Nat.reduceBEq, Int.reduceLT, Int.reduceLE, Int.reduceToNat, Int.reduceNeg, Int.reducePow, Int.reduceAdd, Int.reduceMul, Int.reduceSub, ↓Int.reduceNatCast', idxS_nz, bsD]
    generalize hg : R.getD i default = r at *
    have ca := call_append (encL 0 (R.take i), 0) r ⟨⟨by dsimp only; omega, by dsimp only; omega, by dsimp only; omega⟩, by omega⟩
    rw [appL_enc (R.take i) 0 r (by omega) (by omega) hr, ← htk] at ca
    simp only [dkD, bsD] at ca
    simp (disch := first | omega | decide) only [push_cast, ↓wF_free, ↓reduceIte, Nat.reduceEqDiff, Nat.reduceLT, Nat.reduceLeDiff, Nat.reduceAdd, Nat.reduceSub, Nat.reduceMul, Nat.reduceBEq, Int.reduceLT, Int.reduceLE, Int.reduceToNat, Int.reduceNeg, Int.reducePow, Int.reduceAdd, Int.reduceMul, Int.reduceSub, ↓Int.reduceNatCast', ca, add_i]
    refine next_head (i + 1, false) (by omega) (by omega) ?_
    simp only [push_cast, ↓wF_free, ↓reduceIte, Nat.reduceEqDiff, Nat.reduceLT, Nat.reduceLeDiff, Nat.reduceAdd, Nat.reduceSub, Nat.reduceMul, Nat.reduceBEq, Int.reduceLT, Int.reduceLE, Int.reduceToNat, Int.reduceNeg, Int.reducePow, Int.reduceAdd, Int.reduceMul, Int.reduceSub, ↓Int.reduceNatCast'] <;> rfl
  · obtain rfl : i = R.length := by omega
    rw [List.take_length]
    have hnz : (nz 1 (b.map byteD) = 1 ∨ b.map byteD = []) ∧ 1 ≠ 0 := ⟨nz_or _ _, by decide⟩
    have hsz : ∀ A : List UInt8, nz 1 (b.map byteD) = 1 ∨ b.take E = [] := by
      intro A
      rcases nz_or 1 (b.map byteD) with h | h
      · exact .inl h
      · right
        have : b = [] := by simpa using h
        rw [this]; simp
    have cv : ∀ (st : St) (t : Bool), pconv st .str (.slc (nz 1 (b.map byteD)) ((b.take E).map byteD) t) = some (.str (b.take E)) := fun st t => conv_sb st _ _ t (hsz [])
    have e1 : (E : Int).toNat = E := by omega
    simp (disch := first | omega | decide) only [push_cast, ↓wF_free, ↓reduceIte, Nat.reduceEqDiff, Nat.reduceLT, Nat.reduceLeDiff, Nat.reduceAdd, Nat.reduceSub, Nat.reduceMul, Nat.reduceBEq, Int.reduceLT, Int.reduceLE, Int.reduceToNat, Int.reduceNeg, Int.reducePow, Int.reduceAdd, Int.reduceMul, Int.reduceSub, ↓Int.reduceNatCast', slc_to _ _ _ _ _ _ _ _ hnz, e1, cv, hT]
    by_cases n1 : n < 0
    · simp (disch := first | omega | decide) only [push_cast, ↓wF_free, ↓reduceIte, Nat.reduceEqDiff, Nat.reduceLT, Nat.reduceLeDiff, Nat.reduceAdd, Nat.reduceSub, Nat.reduceMul, Nat.reduceBEq, Int.reduceLT, Int.reduceLE, Int.reduceToNat, Int.reduceNeg, Int.reducePow, Int.reduceAdd, Int.reduceMul, Int.reduceSub, ↓Int.reduceNatCast', n1]
    · by_cases n2 : (b.length : Int) < n
      · simp (disch := first | omega | decide) only [push_cast, ↓wF_free, ↓reduceIte, Nat.reduceEqDiff, Nat.reduceLT, Nat.reduceLeDiff, Nat.reduceAdd, Nat.reduceSub, Nat.reduceMul, Nat.reduceBEq, Int.reduceLT, Int.reduceLE, Int.reduceToNat, Int.reduceNeg, Int.reducePow, Int.reduceAdd, Int.reduceMul, Int.reduceSub, ↓Int.reduceNatCast', n1, n2]
      · obtain ⟨m, rfl⟩ := Int.eq_ofNat_of_zero_le (show 0 ≤ n by omega)
        have hlm : (b.take m).length ≤ b.length := by simp; omega
        have c2 := call_read (b.take m, 0) ⟨by dsimp only; omega, by dsimp only; omega, by dsimp only; omega⟩
        have hM := recs_mono (List.take_prefix m b)
        rw [hRR] at hM
        have hM2 := recs_length (b.take m)
        have hM3 := endN_le (b.take m)
        have hM4 := encL_prefix_length hM
        rw [← endN_eq] at hM4
        have s1 := call_begins R (recs (b.take m)) (by omega)
        rw [decide_eq_true hM] at s1
        have hm3 : (b.take m).length = m := by simp; omega
        have e2 : (m : Int).toNat = m := by omega
        have q1 : (endN (b.take m) : Int) ≤ (E : Int) := by omega
        have q2 : (endN (b.take m) : Int) ≤ (m : Int) := by omega
        have q3 : ¬ (m : Int) < (E : Int) → ((recs (b.take m)).length : Int) = (R.length : Int) := by
          intro hmE
          have h1 : R <+: recs (b.take m) := recs_begins _ R hR (by
            rw [hT]
            exact List.prefix_iff_eq_take.2 (by rw [List.take_take, List.length_take, Nat.min_eq_left (by omega : E ≤ b.length), Nat.min_eq_left (by omega)]))
          have h2 := h1.length_le
          have h3 := hM.length_le
          omega
        simp only [dkD, bsD] at c2
        by_cases n3 : (m : Int) < (E : Int)
        · simp (disch := first | omega | decide) only [push_cast, ↓wF_free, ↓reduceIte, Nat.reduceEqDiff, Nat.reduceLT, Nat.reduceLeDiff, Nat.reduceAdd, Nat.reduceSub, Nat.reduceMul, Nat.reduceBEq, Int.reduceLT, Int.reduceLE, Int.reduceToNat, Int.reduceNeg, Int.reducePow, Int.reduceAdd, Int.reduceMul, Int.reduceSub, ↓Int.reduceNatCast', n1, n2, slc_to _ _ _ _ _ _ _ _ hnz, e2, c2, s1, q1, q2, n3]
        · simp (disch := first | omega | decide) only [push_cast, ↓wF_free, ↓reduceIte, Nat.reduceEqDiff, Nat.reduceLT, Nat.reduceLeDiff, Nat.reduceAdd, Nat.reduceSub, Nat.reduceMul, Nat.reduceBEq, Int.reduceLT, Int.reduceLE, Int.reduceToNat, Int.reduceNeg, Int.reducePow, Int.reduceAdd, Int.reduceMul, Int.reduceSub, ↓Int.reduceNatCast', n1, n2, slc_to _ _ _ _ _ _ _ _ hnz, e2, c2, s1, q1, q2, n3, q3 n3]
theorem law_DiskPrefixes : Contract Tryd.prog GG 8 (lawSpU [.slc (.int .u8), .int .i64] 1048576) := by
  refine lawCU tr_wagonpoollaw13_DiskPrefixes (T := tb [(10, sp_sane), (11, sp_append), (14, sp_read), (15, sp_begins)] []) (tb_ok (all_cons c_sane (all_cons c_append (all_cons c_read (all_cons c_begins all_nil)))) all_nil) ?_
  intro xs h hw
  obtain ⟨x0, xs, rfl, h0, h⟩ := hasAll_cons h
  obtain ⟨x1, xs, rfl, h1, h⟩ := hasAll_cons h
  obtain rfl := hasAll_nil h
  obtain ⟨y0, rfl, ya0⟩ := has_bytes h0
  obtain ⟨y1, rfl, ya1, yb1⟩ := has_i64 h1
  exact lw_DiskPrefixes y0 y1 ya1 yb1 hw
end Go.Proofs.YteacnlikmagfcaaDoor.PI
