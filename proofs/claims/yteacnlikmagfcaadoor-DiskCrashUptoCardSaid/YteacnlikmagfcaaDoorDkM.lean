/-
  disk: crashes.
  Conditions: the arguments' bulk is at most 1048576.
-/
import Derived.Test.YteacnlikmagfcaaDoorDkI
namespace Go.Proofs.YteacnlikmagfcaaDoor.PI
open Go
set_option linter.unusedSimpArgs false
set_option linter.unusedVariables false

/-! ### Lists of numbers -/
def eI (n : Nat) : D := .int .i64 (n : Int)
theorem litD_int (k : IntKind) (n : Int) : litD 1 [.int k n] = some (.slc 1 [.int k n] true) := (rfl)
theorem papp_fI (st : St) (sz0 : Nat) (n : Nat) (t : Bool) : papp st 1 8 (.slc sz0 [] true) (.slc 1 [.int .i64 (n : Int)] t) = some (.row st.length 1 0 1, st ++ [⟨true, 1, [.int .i64 (n : Int)], false⟩]) :=
  papp_first1 eI st 1 sz0 8 n t (by decide) (by decide)
theorem apR_I (st : St) (A : List Nat) (n : Nat) (lent t : Bool) (hl : A.length + 1 ≤ 4294967296) : apR (some ⟨true, 1, A.map eI, lent⟩) 1 8 A.length (elsOf st (.slc 1 [.int .i64 (n : Int)] t)) = some ⟨true, 1, (A ++ [n]).map eI, lent⟩ :=
  apR_one eI 1 8 A n lent t st (by decide) (by omega) hl
theorem ldR_I (A : List Nat) (lent : Bool) (i : Nat) (h : i < A.length) : ldR (some ⟨true, 1, A.map eI, lent⟩) 1 false A.length i 0 = some (.int .i64 (A.getD i default : Int)) := ldR_cell eI (fun _ => rfl) 1 A lent i h
def endsL (l : List (List UInt8)) (i : Nat) : List Nat := (List.range i).map fun j => (encL 0 (l.take (j + 1))).length
theorem endsL_length (l : List (List UInt8)) (i : Nat) : (endsL l i).length = i := by simp [endsL]
theorem endsL_succ (l : List (List UInt8)) (i : Nat) : endsL l (i + 1) = endsL l i ++ [(encL 0 (l.take (i + 1))).length] := by
  unfold endsL; rw [List.range_succ, List.map_append]; rfl
theorem endsL_get (l : List (List UInt8)) (i j : Nat) (h : j < i) : (endsL l i).getD j default = (encL 0 (l.take (j + 1))).length := by
  simp [endsL, List.getD_eq_getElem?_getD, h]
theorem endsL_ne (l : List (List UInt8)) (i : Nat) (h : 0 < i) : (endsL l i).map eI ≠ [] := by
  intro e
  have := congrArg List.length e
  rw [List.length_map, endsL_length] at this
  simp at this
  omega
theorem encL_mono (l : List (List UInt8)) {i j : Nat} (h : i ≤ j) : (encL 0 (l.take i)).length ≤ (encL 0 (l.take j)).length := by
  apply encL_prefix_length
  rw [show l.take i = (l.take j).take i by rw [List.take_take, Nat.min_eq_left h]]
  exact List.take_prefix _ _
theorem encL_step (l : List (List UInt8)) {i j : Nat} (h : i < j) (h2 : i < l.length) : (encL 0 (l.take i)).length + 12 ≤ (encL 0 (l.take j)).length := by
  have h3 : (encL 0 (l.take i)).length + 12 ≤ (encL 0 (l.take (i + 1))).length := by
    refine encL_len_lt ?_ (by simp; omega)
    rw [show l.take i = (l.take (i + 1)).take i by rw [List.take_take, Nat.min_eq_left (by omega)]]
    exact List.take_prefix _ _
  have := encL_mono l (show i + 1 ≤ j by omega)
  omega
/-- the plain law -/
theorem crash_begins (l : List (List UInt8)) (hk : okL l) (n kept : Nat) (torn : List UInt8) (h : (encL 0 (l.take n)).length ≤ kept) : l.take n <+: recs ((encL 0 l).take kept ++ torn) := by
  refine recs_begins _ _ (okL_take hk n) (List.IsPrefix.trans ?_ (List.prefix_append _ _))
  have h1 := encL_prefix (List.take_prefix n l)
  rw [List.prefix_take_iff]
  exact ⟨h1, h⟩
theorem crash_length (l : List (List UInt8)) (hk : okL l) (n kept : Nat) (hn : n ≤ l.length) (h : (encL 0 (l.take n)).length ≤ kept) (h2 : n < l.length → kept < (encL 0 (l.take (n + 1))).length) : (recs ((encL 0 l).take kept)).length = n := by
  have h3 := crash_begins l hk n kept [] h
  rw [List.append_nil] at h3
  have h4 := h3.length_le
  rw [List.length_take, Nat.min_eq_left hn] at h4
  have h5 := recs_mono (List.take_prefix kept (encL 0 l))
  rw [recs_enc l hk] at h5
  have h6 := (recs_prefix ((encL 0 l).take kept)).length_le
  rw [List.length_take] at h6
  have h7 := h5.length_le
  rcases Nat.lt_or_ge n (recs ((encL 0 l).take kept)).length with h8 | h8
  · have h9 := h2 (by omega)
    rw [List.prefix_iff_eq_take.1 h5] at h6
    have := encL_mono l (show n + 1 ≤ (recs ((encL 0 l).take kept)).length by omega)
    omega
  · omega

theorem wt_tr (t : Int × List UInt8) : wt (trD t) = t.2.length + 2 := by
  show wts [.int .i64 t.1, bsD t.2] = _
  simp only [wts, wt_bsD, wt]
  omega
def sncN (l : List (List UInt8)) (s : Int) (i : Nat) : Nat := (encL 0 (l.take (min i s.toNat))).length
set_option maxHeartbeats 4000000 in
set_option maxRecDepth 20000 in
theorem lw_DiskCrash (l : List (List UInt8)) (s : Int) (hs1 : -9223372036854775808 ≤ s) (hs2 : s < 9223372036854775808) (t : Int × List UInt8) (ht1 : -9223372036854775808 ≤ t.1) (ht2 : t.1 < 9223372036854775808) (hw : wts [.slc (nz 1 (l.map bsD)) (l.map bsD) false, .int .i64 s, trD t] ≤ 1048576) : @wW GG (tb [(10, sp_sane), (11, sp_append), (12, sp_sync), (13, sp_crash), (14, sp_read), (15, sp_begins)] []) F_wagonpoollaw13_DiskCrash.code (argF [.slc (nz 1 (l.map bsD)) (l.map bsD) false, .int .i64 s, trD t]) [] ⟨retQ F_wagonpoollaw13_DiskCrash.res (.bool true)⟩ := by
  obtain ⟨k, z⟩ := t
  have hw2 : wts [.slc (nz 1 (l.map bsD)) (l.map bsD) false, .int .i64 s, trD (k, z)] = (wl l + 1) + (1 + ((z.length + 2) + 0)) := by
    simp only [wts, wts_lbs, wt_tr, wt]
  rw [hw2] at hw
  dsimp only at ht1 ht2
  have hlen := wl_len l
  have hB := encL_wl l 0
  have hBi : ∀ i, (encL 0 (l.take i)).length ≤ (encL 0 l).length := fun i => encL_prefix_length (List.take_prefix i l)
  unfold F_wagonpoollaw13_DiskCrash
  simp (disch := first | omega | decide) only [push_cast, ↓wF_free, ↓reduceIte, Nat.reduceEqDiff, Nat.reduceLT, Nat.reduceLeDiff, Nat.reduceAdd, Nat.reduceSub, Nat.reduceMul, Nat.reduceBEq, Int.reduceLT, Int.reduceLE, Int.reduceToNat, Int.reduceNeg, Int.reducePow, Int.reduceAdd, Int.reduceMul, Int.reduceSub, ↓Int.reduceNatCast', call_sane, trD, bsD]
  refine W_while (fun i : Nat × Bool => [(0, .slc (nz 1 (l.map bsD)) (l.map bsD) false), (1, .int .i64 s), (5, .ptr 0 0), (7, .ptr 1 0), (8, bufD 1 2 ((endsL l i.1).map eI)), (9, .int .i64 (i.1 : Int))])
    (fun i => ⟨false, 1, [.int .i64 k, .slc (nz 1 (z.map byteD)) (z.map byteD) false], false⟩ :: ⟨false, 1, [.slc (nz 1 ((encL 0 (l.take i.1)).map byteD)) ((encL 0 (l.take i.1)).map byteD) i.2, .int .i64 (sncN l s i.1 : Int)], false⟩ :: bufS 1 ((endsL l i.1).map eI)) (fun i => i.1 ≤ l.length ∧ okL (l.take i.1)) (fun i => l.length - i.1) (0, true) (by simp only [push_cast, ↓wF_free, ↓reduceIte, Nat.reduceEqDiff, Nat.reduceLT, Nat.reduceLeDiff, Nat.reduceAdd, Nat.reduceSub, Nat.reduceMul, Nat.reduceBEq, Int.reduceLT, Int.reduceLE, Int.reduceToNat, Int.reduceNeg, Int.reducePow, Int.reduceAdd, Int.reduceMul, Int.reduceSub, ↓Int.reduceNatCast', sncN] <;> rfl) ⟨Nat.zero_le _, okL_nil⟩ ?_
  rintro ⟨i, t⟩ ⟨hi, hok⟩
  dsimp only at hi hok
  unfold F_wagonpoollaw13_DiskCrash_L0
  simp (disch := first | omega | decide) only [push_cast, ↓wF_free, ↓reduceIte, Nat.reduceEqDiff, Nat.reduceLT, Nat.reduceLeDiff, Nat.reduceAdd, Nat.reduceSub, Nat.reduceMul, Nat.reduceBEq, Int.reduceLT, Int.reduceLE, Int.reduceToNat, Int.reduceNeg, Int.reducePow, Int.reduceAdd, Int.reduceMul, Int.reduceSub, ↓Int.reduceNatCast']
  refine ifD_split (fun h2 => ?_) (fun h2 => ?_)
  · have hm := getD_mem' (show i < l.length by omega)
    have hr := wl_mem hm
    have htk := take_getD l i (by omega)
    have hb1 := hBi i
    have hS1 : sncN l s i ≤ (encL 0 (l.take i)).length := encL_mono l (Nat.min_le_left _ _)
    simp (disch := first | omega | decide) only [push_cast, ↓wF_free, ↓reduceIte, Nat.reduceEqDiff, Nat.reduceLT, Nat.reduceLeDiff, Nat.reduceAdd, Nat.reduceSub, Nat.reduceMul, Nat.reduceBEq, Int.reduceLT, Int.reduceLE, Int.reduceToNat, Int.reduceNeg, Int.reducePow, Int.reduceAdd, Int.reduceMul, Int.reduceSub, ↓Int.reduceNatCast', idxS_nz, bsD]
    generalize hg : l.getD i default = r at *
    have ca := call_append (encL 0 (l.take i), (sncN l s i : Int)) r ⟨⟨by dsimp only; omega, by dsimp only; omega, by dsimp only; omega⟩, by omega⟩
    by_cases hr16 : r.length ≤ 16000
    · rw [appL_enc (l.take i) _ r (by omega) (by omega) hr16, ← htk] at ca
      have hok2 : okL (l.take (i + 1)) := by rw [htk]; exact okL_snoc hok hr16
      have hb2 := hBi (i + 1)
      have hS2 : sncN l s (i + 1) = if (i : Int) < s then (encL 0 (l.take (i + 1))).length else sncN l s i := by
        unfold sncN
        split
        · rw [Nat.min_eq_left (by omega)]
        · rw [Nat.min_eq_right (by omega), Nat.min_eq_right (by omega)]
      have cs := call_sync (encL 0 (l.take (i + 1)), (sncN l s i : Int)) (by dsimp only; omega)
      simp only [dkD, bsD, syncL] at ca cs
      have hm2 : (endsL l i ++ [(encL 0 (l.take (i + 1))).length]).map eI ≠ [] := by simp
      have hl2 := endsL_length l i
      by_cases hn : i = 0
      · have he0 : endsL l i = [] := by rw [hn]; rfl
        by_cases hs : (i : Int) < s
        · rw [if_pos hs] at hS2
          simp (disch := first | omega | decide) only [push_cast, ↓wF_free, ↓reduceIte, Nat.reduceEqDiff, Nat.reduceLT, Nat.reduceLeDiff, Nat.reduceAdd, Nat.reduceSub, Nat.reduceMul, Nat.reduceBEq, Int.reduceLT, Int.reduceLE, Int.reduceToNat, Int.reduceNeg, Int.reducePow, Int.reduceAdd, Int.reduceMul, Int.reduceSub, ↓Int.reduceNatCast', ca, cs, hs, he0, bufD_nil, bufS_nil, List.map_nil, litD_int, papp_fI, add_i]
          refine next_head (i + 1, false) (by exact ⟨by omega, hok2⟩) (by omega) ?_
          dsimp only
          rw [hS2, endsL_succ, bufD_ne _ _ _ hm2, bufS_ne _ _ hm2, he0]
          simp only [push_cast, ↓wF_free, ↓reduceIte, Nat.reduceEqDiff, Nat.reduceLT, Nat.reduceLeDiff, Nat.reduceAdd, Nat.reduceSub, Nat.reduceMul, Nat.reduceBEq, Int.reduceLT, Int.reduceLE, Int.reduceToNat, Int.reduceNeg, Int.reducePow, Int.reduceAdd, Int.reduceMul, Int.reduceSub, ↓Int.reduceNatCast'] <;> rfl
        · rw [if_neg hs] at hS2
          simp (disch := first | omega | decide) only [push_cast, ↓wF_free, ↓reduceIte, Nat.reduceEqDiff, Nat.reduceLT, Nat.reduceLeDiff, Nat.reduceAdd, Nat.reduceSub, Nat.reduceMul, Nat.reduceBEq, Int.reduceLT, Int.reduceLE, Int.reduceToNat, Int.reduceNeg, Int.reducePow, Int.reduceAdd, Int.reduceMul, Int.reduceSub, ↓Int.reduceNatCast', ca, cs, hs, he0, bufD_nil, bufS_nil, List.map_nil, litD_int, papp_fI, add_i]
          refine next_head (i + 1, false) (by exact ⟨by omega, hok2⟩) (by omega) ?_
          dsimp only
          rw [hS2, endsL_succ, bufD_ne _ _ _ hm2, bufS_ne _ _ hm2, he0]
          simp only [push_cast, ↓wF_free, ↓reduceIte, Nat.reduceEqDiff, Nat.reduceLT, Nat.reduceLeDiff, Nat.reduceAdd, Nat.reduceSub, Nat.reduceMul, Nat.reduceBEq, Int.reduceLT, Int.reduceLE, Int.reduceToNat, Int.reduceNeg, Int.reducePow, Int.reduceAdd, Int.reduceMul, Int.reduceSub, ↓Int.reduceNatCast'] <;> rfl
      · have hn2 := endsL_ne l i (by omega)
        by_cases hs : (i : Int) < s
        · rw [if_pos hs] at hS2
          simp (disch := first | omega | decide) only [push_cast, ↓wF_free, ↓reduceIte, Nat.reduceEqDiff, Nat.reduceLT, Nat.reduceLeDiff, Nat.reduceAdd, Nat.reduceSub, Nat.reduceMul, Nat.reduceBEq, Int.reduceLT, Int.reduceLE, Int.reduceToNat, Int.reduceNeg, Int.reducePow, Int.reduceAdd, Int.reduceMul, Int.reduceSub, ↓Int.reduceNatCast', ca, cs, hs, bufD_ne _ _ _ hn2, bufS_ne _ _ hn2, litD_int, apR_I, add_i]
          refine next_head (i + 1, false) (by exact ⟨by omega, hok2⟩) (by omega) ?_
          dsimp only
          rw [hS2, endsL_succ, bufD_ne _ _ _ hm2, bufS_ne _ _ hm2]
          simp only [push_cast, ↓wF_free, ↓reduceIte, Nat.reduceEqDiff, Nat.reduceLT, Nat.reduceLeDiff, Nat.reduceAdd, Nat.reduceSub, Nat.reduceMul, Nat.reduceBEq, Int.reduceLT, Int.reduceLE, Int.reduceToNat, Int.reduceNeg, Int.reducePow, Int.reduceAdd, Int.reduceMul, Int.reduceSub, ↓Int.reduceNatCast'] <;> rfl
        · rw [if_neg hs] at hS2
          simp (disch := first | omega | decide) only [push_cast, ↓wF_free, ↓reduceIte, Nat.reduceEqDiff, Nat.reduceLT, Nat.reduceLeDiff, Nat.reduceAdd, Nat.reduceSub, Nat.reduceMul, Nat.reduceBEq, Int.reduceLT, Int.reduceLE, Int.reduceToNat, Int.reduceNeg, Int.reducePow, Int.reduceAdd, Int.reduceMul, Int.reduceSub, ↓Int.reduceNatCast', ca, cs, hs, bufD_ne _ _ _ hn2, bufS_ne _ _ hn2, litD_int, apR_I, add_i]
          refine next_head (i + 1, false) (by exact ⟨by omega, hok2⟩) (by omega) ?_
          dsimp only
          rw [hS2, endsL_succ, bufD_ne _ _ _ hm2, bufS_ne _ _ hm2]
          simp only [push_cast, ↓wF_free, ↓reduceIte, Nat.reduceEqDiff, Nat.reduceLT, Nat.reduceLeDiff, Nat.reduceAdd, Nat.reduceSub, Nat.reduceMul, Nat.reduceBEq, Int.reduceLT, Int.reduceLE, Int.reduceToNat, Int.reduceNeg, Int.reducePow, Int.reduceAdd, Int.reduceMul, Int.reduceSub, ↓Int.reduceNatCast'] <;> rfl
    · rw [appL_long _ _ r (by omega) (by omega) (by omega)] at ca
      have hnn : (16000 : Int) < (r.length : Int) := by omega
      have h20 : ¬ (2 : Int) = 0 := by decide
      simp only [dkD, bsD] at ca
      by_cases hn : i = 0
      · have he0 : endsL l i = [] := by rw [hn]; rfl
        simp (disch := first | omega | decide) only [push_cast, ↓wF_free, ↓reduceIte, Nat.reduceEqDiff, Nat.reduceLT, Nat.reduceLeDiff, Nat.reduceAdd, Nat.reduceSub, Nat.reduceMul, Nat.reduceBEq, Int.reduceLT, Int.reduceLE, Int.reduceToNat, Int.reduceNeg, Int.reducePow, Int.reduceAdd, Int.reduceMul, Int.reduceSub, ↓Int.reduceNatCast', ca, hnn, h20, idxS_nz, hg, bsD, he0, bufD_nil, bufS_nil, List.map_nil]
      · have hn2 := endsL_ne l i (by omega)
        simp (disch := first | omega | decide) only [push_cast, ↓wF_free, ↓reduceIte, Nat.reduceEqDiff, Nat.reduceLT, Nat.reduceLeDiff, Nat.reduceAdd, Nat.reduceSub, Nat.reduceMul, Nat.reduceBEq, Int.reduceLT, Int.reduceLE, Int.reduceToNat, Int.reduceNeg, Int.reducePow, Int.reduceAdd, Int.reduceMul, Int.reduceSub, ↓Int.reduceNatCast', ca, hnn, h20, idxS_nz, hg, bsD, bufD_ne _ _ _ hn2, bufS_ne _ _ hn2]
  · obtain rfl : i = l.length := by omega
    rw [List.take_length] at hok ⊢
    have hS : sncN l s l.length ≤ (encL 0 l).length := hBi _
    have hSd : sncN l s l.length = (encL 0 (l.take (min l.length s.toNat))).length := rfl
    have hel := endsL_length l l.length
    generalize hSS : sncN l s l.length = S at *
    generalize hBB : encL 0 l = B at *
    have hcr := call_crash (B, (S : Int)) (k, z) ⟨⟨by dsimp only; omega, by dsimp only; omega, by dsimp only; omega⟩, ht1, ht2, by dsimp only; omega⟩
    have h10 : ¬ (1 : Int) = 0 := by decide
    by_cases hbad : badT (B, (S : Int)) (k, z)
    · have hc : crashL (B, (S : Int)) (k, z) = (([], 0), 1) := by unfold crashL; rw [if_pos hbad]
      rw [hc] at hcr
      unfold badT badD at hbad
      dsimp only at hbad
      simp only [dkD, trD, bsD] at hcr
      by_cases hl0 : l.length = 0
      · have he0 : endsL l l.length = [] := List.eq_nil_of_length_eq_zero (by rw [hel]; exact hl0)
        by_cases k1 : k < 0
        · simp (disch := first | omega | decide) only [push_cast, ↓wF_free, ↓reduceIte, Nat.reduceEqDiff, Nat.reduceLT, Nat.reduceLeDiff, Nat.reduceAdd, Nat.reduceSub, Nat.reduceMul, Nat.reduceBEq, Int.reduceLT, Int.reduceLE, Int.reduceToNat, Int.reduceNeg, Int.reducePow, Int.reduceAdd, Int.reduceMul, Int.reduceSub, ↓Int.reduceNatCast', trD, bsD, hcr, h10, k1, he0, bufD_nil, bufS_nil, List.map_nil]
        · by_cases k2 : (B.length : Int) - (S : Int) < k
          · simp (disch := first | omega | decide) only [push_cast, ↓wF_free, ↓reduceIte, Nat.reduceEqDiff, Nat.reduceLT, Nat.reduceLeDiff, Nat.reduceAdd, Nat.reduceSub, Nat.reduceMul, Nat.reduceBEq, Int.reduceLT, Int.reduceLE, Int.reduceToNat, Int.reduceNeg, Int.reducePow, Int.reduceAdd, Int.reduceMul, Int.reduceSub, ↓Int.reduceNatCast', trD, bsD, hcr, h10, k1, k2, sub_i, he0, bufD_nil, bufS_nil, List.map_nil]
          · have k3 : 64 < (z.length : Int) := by omega
            simp (disch := first | omega | decide) only [push_cast, ↓wF_free, ↓reduceIte, Nat.reduceEqDiff, Nat.reduceLT, Nat.reduceLeDiff, Nat.reduceAdd, Nat.reduceSub, Nat.reduceMul, Nat.reduceBEq, Int.reduceLT, Int.reduceLE, Int.reduceToNat, Int.reduceNeg, Int.reducePow, Int.reduceAdd, Int.reduceMul, Int.reduceSub, ↓Int.reduceNatCast', trD, bsD, hcr, h10, k1, k2, k3, sub_i, he0, bufD_nil, bufS_nil, List.map_nil]
      · have hn2 := endsL_ne l l.length (by omega)
        by_cases k1 : k < 0
        · simp (disch := first | omega | decide) only [push_cast, ↓wF_free, ↓reduceIte, Nat.reduceEqDiff, Nat.reduceLT, Nat.reduceLeDiff, Nat.reduceAdd, Nat.reduceSub, Nat.reduceMul, Nat.reduceBEq, Int.reduceLT, Int.reduceLE, Int.reduceToNat, Int.reduceNeg, Int.reducePow, Int.reduceAdd, Int.reduceMul, Int.reduceSub, ↓Int.reduceNatCast', trD, bsD, hcr, h10, k1, bufD_ne _ _ _ hn2, bufS_ne _ _ hn2, List.length_map, hel]
        · by_cases k2 : (B.length : Int) - (S : Int) < k
          · simp (disch := first | omega | decide) only [push_cast, ↓wF_free, ↓reduceIte, Nat.reduceEqDiff, Nat.reduceLT, Nat.reduceLeDiff, Nat.reduceAdd, Nat.reduceSub, Nat.reduceMul, Nat.reduceBEq, Int.reduceLT, Int.reduceLE, Int.reduceToNat, Int.reduceNeg, Int.reducePow, Int.reduceAdd, Int.reduceMul, Int.reduceSub, ↓Int.reduceNatCast', trD, bsD, hcr, h10, k1, k2, sub_i, bufD_ne _ _ _ hn2, bufS_ne _ _ hn2, List.length_map, hel]
          · have k3 : 64 < (z.length : Int) := by omega
            simp (disch := first | omega | decide) only [push_cast, ↓wF_free, ↓reduceIte, Nat.reduceEqDiff, Nat.reduceLT, Nat.reduceLeDiff, Nat.reduceAdd, Nat.reduceSub, Nat.reduceMul, Nat.reduceBEq, Int.reduceLT, Int.reduceLE, Int.reduceToNat, Int.reduceNeg, Int.reducePow, Int.reduceAdd, Int.reduceMul, Int.reduceSub, ↓Int.reduceNatCast', trD, bsD, hcr, h10, k1, k2, k3, sub_i, bufD_ne _ _ _ hn2, bufS_ne _ _ hn2, List.length_map, hel]
    · unfold badT badD at hbad
      dsimp only at hbad
      have hc : crashL (B, (S : Int)) (k, z) = (syncL (B.take ((S : Int) + k).toNat ++ z, 0), 0) := crashL_ok _ _ _ _ (by omega) (by omega) (by omega) (by omega) (by omega)
      rw [hc] at hcr
      obtain ⟨K, hK⟩ : ∃ K : Nat, (S : Int) + k = (K : Int) := ⟨((S : Int) + k).toNat, by omega⟩
      have hSK : S ≤ K := by omega
      have hKB : K ≤ B.length := by omega
      rw [show ((S : Int) + k).toNat = K by omega] at hcr
      simp only [dkD, trD, bsD, syncL] at hcr
      have hxl : (B.take K ++ z).length ≤ 20000000 := by simp only [List.length_append, List.length_take]; omega
      have crd := call_read (B.take K ++ z, ((B.take K ++ z).length : Int)) ⟨by dsimp only; omega, by dsimp only; omega, by dsimp only; omega⟩
      have hgot := recs_length (B.take K ++ z)
      have hcb : ∀ n, (encL 0 (l.take n)).length ≤ K → l.take n <+: recs (B.take K ++ z) := fun n hn => by rw [← hBB]; exact crash_begins l hok n K z hn
      have hcl : z = [] → ∀ n, n ≤ l.length → (encL 0 (l.take n)).length ≤ K → (n < l.length → K < (encL 0 (l.take (n + 1))).length) → (recs (B.take K ++ z)).length = n := fun hz n h1 h2 h3 => by
        rw [hz, List.append_nil, ← hBB]; exact crash_length l hok n K h1 h2 h3
      simp only [dkD, bsD] at crd
      generalize hX : B.take K ++ z = X at *
      generalize hG : recs X = G at *
      have hnz : (nz 1 (l.map bsD) = 1 ∨ l.map bsD = []) ∧ 1 ≠ 0 := ⟨nz_or _ _, by decide⟩
      by_cases hl0 : l.length = 0
      · have he0 : endsL l l.length = [] := List.eq_nil_of_length_eq_zero (by rw [hel]; exact hl0)
        simp (disch := first | omega | decide) only [push_cast, ↓wF_free, ↓reduceIte, Nat.reduceEqDiff, Nat.reduceLT, Nat.reduceLeDiff, Nat.reduceAdd, Nat.reduceSub, Nat.reduceMul, Nat.reduceBEq, Int.reduceLT, Int.reduceLE, Int.reduceToNat, Int.reduceNeg, Int.reducePow, Int.reduceAdd, Int.reduceMul, Int.reduceSub, ↓Int.reduceNatCast', trD, bsD, hcr, add_i, hK, he0, bufD_nil, bufS_nil, List.map_nil]
        refine W_while (fun j : Nat => [(0, .slc (nz 1 (l.map bsD)) (l.map bsD) false), (1, .int .i64 s), (5, .ptr 0 0), (8, .slc 1 [] true), (12, .ptr 2 0), (14, .int .i64 (K : Int)), (15, .int .i64 (j : Int))])
          (fun j => [⟨false, 1, [.int .i64 k, .slc (nz 1 (z.map byteD)) (z.map byteD) false], false⟩, ⟨false, 1, [.slc (nz 1 (B.map byteD)) (B.map byteD) t, .int .i64 (S : Int)], false⟩, ⟨false, 1, [.slc (nz 1 (X.map byteD)) (X.map byteD) false, .int .i64 (X.length : Int)], false⟩]) (fun j => j ≤ l.length ∧ (encL 0 (l.take j)).length ≤ K) (fun j => l.length - j) 0 (by simp only [push_cast, ↓wF_free, ↓reduceIte, Nat.reduceEqDiff, Nat.reduceLT, Nat.reduceLeDiff, Nat.reduceAdd, Nat.reduceSub, Nat.reduceMul, Nat.reduceBEq, Int.reduceLT, Int.reduceLE, Int.reduceToNat, Int.reduceNeg, Int.reducePow, Int.reduceAdd, Int.reduceMul, Int.reduceSub, ↓Int.reduceNatCast'] <;> rfl) ⟨Nat.zero_le _, by simp [encL]⟩ ?_
        rintro j ⟨hj, hjk⟩
        unfold F_wagonpoollaw13_DiskCrash_L1
        obtain rfl : j = 0 := by omega
        simp (disch := first | omega | decide) only [push_cast, ↓wF_free, ↓reduceIte, Nat.reduceEqDiff, Nat.reduceLT, Nat.reduceLeDiff, Nat.reduceAdd, Nat.reduceSub, Nat.reduceMul, Nat.reduceBEq, Int.reduceLT, Int.reduceLE, Int.reduceToNat, Int.reduceNeg, Int.reducePow, Int.reduceAdd, Int.reduceMul, Int.reduceSub, ↓Int.reduceNatCast']
        have q1 : ¬ ((0 : Int) < s ∧ (0 : Int) < (l.length : Int)) := by
          rintro ⟨a1, a2⟩
          have := encL_mono l (show 0 + 1 ≤ min l.length s.toNat by omega)
          omega
        have q2 := call_begins G (l.take 0) (by simp)
        rw [decide_eq_true (hcb 0 (by first | omega | (simp [encL])))] at q2
        have q3 : ∀ hz : z = [], G.length = 0 := fun hz => hcl hz 0 (by omega) (by first | omega | (simp [encL])) (by intro h; omega)
        have ej : ((0 : Int)).toNat = 0 := by omega
        simp only [List.take_zero, List.map_nil, nz_nil] at q2
        by_cases m1 : (0 : Int) < s
        · have m2 : ¬ (0 : Int) < (l.length : Int) := fun h => q1 ⟨m1, h⟩
          by_cases hz : z = []
          · have q4 : (G.length : Int) = (0 : Int) := by have := q3 hz; omega
            simp (disch := first | omega | decide) only [push_cast, ↓wF_free, ↓reduceIte, Nat.reduceEqDiff, Nat.reduceLT, Nat.reduceLeDiff, Nat.reduceAdd, Nat.reduceSub, Nat.reduceMul, Nat.reduceBEq, Int.reduceLT, Int.reduceLE, Int.reduceToNat, Int.reduceNeg, Int.reducePow, Int.reduceAdd, Int.reduceMul, Int.reduceSub, ↓Int.reduceNatCast', m1, m2, q4, trD, bsD, crd, q2, slc_to _ _ _ _ _ _ _ _ hnz, ej, hl0]
          · have q5 : 0 < (z.length : Int) := by have := List.length_pos_iff.2 hz; omega
            by_cases q4 : (G.length : Int) = (0 : Int)
            · simp (disch := first | omega | decide) only [push_cast, ↓wF_free, ↓reduceIte, Nat.reduceEqDiff, Nat.reduceLT, Nat.reduceLeDiff, Nat.reduceAdd, Nat.reduceSub, Nat.reduceMul, Nat.reduceBEq, Int.reduceLT, Int.reduceLE, Int.reduceToNat, Int.reduceNeg, Int.reducePow, Int.reduceAdd, Int.reduceMul, Int.reduceSub, ↓Int.reduceNatCast', m1, m2, q4, trD, bsD, crd, q2, slc_to _ _ _ _ _ _ _ _ hnz, ej, hl0]
            · simp (disch := first | omega | decide) only [push_cast, ↓wF_free, ↓reduceIte, Nat.reduceEqDiff, Nat.reduceLT, Nat.reduceLeDiff, Nat.reduceAdd, Nat.reduceSub, Nat.reduceMul, Nat.reduceBEq, Int.reduceLT, Int.reduceLE, Int.reduceToNat, Int.reduceNeg, Int.reducePow, Int.reduceAdd, Int.reduceMul, Int.reduceSub, ↓Int.reduceNatCast', m1, m2, q4, q5, trD, bsD, crd, q2, slc_to _ _ _ _ _ _ _ _ hnz, ej, hl0]
        · by_cases hz : z = []
          · have q4 : (G.length : Int) = (0 : Int) := by have := q3 hz; omega
            simp (disch := first | omega | decide) only [push_cast, ↓wF_free, ↓reduceIte, Nat.reduceEqDiff, Nat.reduceLT, Nat.reduceLeDiff, Nat.reduceAdd, Nat.reduceSub, Nat.reduceMul, Nat.reduceBEq, Int.reduceLT, Int.reduceLE, Int.reduceToNat, Int.reduceNeg, Int.reducePow, Int.reduceAdd, Int.reduceMul, Int.reduceSub, ↓Int.reduceNatCast', m1, q4, trD, bsD, crd, q2, slc_to _ _ _ _ _ _ _ _ hnz, ej, hl0]
          · have q5 : 0 < (z.length : Int) := by have := List.length_pos_iff.2 hz; omega
            by_cases q4 : (G.length : Int) = (0 : Int)
            · simp (disch := first | omega | decide) only [push_cast, ↓wF_free, ↓reduceIte, Nat.reduceEqDiff, Nat.reduceLT, Nat.reduceLeDiff, Nat.reduceAdd, Nat.reduceSub, Nat.reduceMul, Nat.reduceBEq, Int.reduceLT, Int.reduceLE, Int.reduceToNat, Int.reduceNeg, Int.reducePow, Int.reduceAdd, Int.reduceMul, Int.reduceSub, ↓Int.reduceNatCast', m1, q4, trD, bsD, crd, q2, slc_to _ _ _ _ _ _ _ _ hnz, ej, hl0]
            · simp (disch := first | omega | decide) only [push_cast, ↓wF_free, ↓reduceIte, Nat.reduceEqDiff, Nat.reduceLT, Nat.reduceLeDiff, Nat.reduceAdd, Nat.reduceSub, Nat.reduceMul, Nat.reduceBEq, Int.reduceLT, Int.reduceLE, Int.reduceToNat, Int.reduceNeg, Int.reducePow, Int.reduceAdd, Int.reduceMul, Int.reduceSub, ↓Int.reduceNatCast', m1, q4, q5, trD, bsD, crd, q2, slc_to _ _ _ _ _ _ _ _ hnz, ej, hl0]
      · have hn2 := endsL_ne l l.length (by omega)
        simp (disch := first | omega | decide) only [push_cast, ↓wF_free, ↓reduceIte, Nat.reduceEqDiff, Nat.reduceLT, Nat.reduceLeDiff, Nat.reduceAdd, Nat.reduceSub, Nat.reduceMul, Nat.reduceBEq, Int.reduceLT, Int.reduceLE, Int.reduceToNat, Int.reduceNeg, Int.reducePow, Int.reduceAdd, Int.reduceMul, Int.reduceSub, ↓Int.reduceNatCast', trD, bsD, hcr, add_i, hK, bufD_ne _ _ _ hn2, bufS_ne _ _ hn2, List.length_map, hel]
        refine W_while (fun j : Nat => [(0, .slc (nz 1 (l.map bsD)) (l.map bsD) false), (1, .int .i64 s), (5, .ptr 0 0), (8, .row 2 l.length 0 l.length), (12, .ptr 3 0), (14, .int .i64 (K : Int)), (15, .int .i64 (j : Int))])
          (fun j => [⟨false, 1, [.int .i64 k, .slc (nz 1 (z.map byteD)) (z.map byteD) false], false⟩, ⟨false, 1, [.slc (nz 1 (B.map byteD)) (B.map byteD) t, .int .i64 (S : Int)], false⟩, ⟨true, 1, (endsL l l.length).map eI, false⟩, ⟨false, 1, [.slc (nz 1 (X.map byteD)) (X.map byteD) false, .int .i64 (X.length : Int)], false⟩]) (fun j => j ≤ l.length ∧ (encL 0 (l.take j)).length ≤ K) (fun j => l.length - j) 0 (by simp only [push_cast, ↓wF_free, ↓reduceIte, Nat.reduceEqDiff, Nat.reduceLT, Nat.reduceLeDiff, Nat.reduceAdd, Nat.reduceSub, Nat.reduceMul, Nat.reduceBEq, Int.reduceLT, Int.reduceLE, Int.reduceToNat, Int.reduceNeg, Int.reducePow, Int.reduceAdd, Int.reduceMul, Int.reduceSub, ↓Int.reduceNatCast'] <;> rfl) ⟨Nat.zero_le _, by simp [encL]⟩ ?_
        rintro j ⟨hj, hjk⟩
        unfold F_wagonpoollaw13_DiskCrash_L1
        by_cases hj2 : (j : Int) < (l.length : Int)
        · have hld := ldR_I (endsL l l.length) false j (by omega)
          rw [endsL_get l l.length j (by omega), hel] at hld
          have hix := ixR_row eI 1 (endsL l l.length) false 2 0 l.length (j : Int) (by omega) (by omega)
          rw [hel] at hix
          have hli := liR_row eI 1 (endsL l l.length) false
          rw [hel] at hli
          have ej : 0 + (j : Int).toNat = j := by omega
          rw [ej] at hix
          by_cases hc2 : ((encL 0 (l.take (j + 1))).length : Int) ≤ (K : Int)
          · simp (disch := first | omega | decide) only [push_cast, ↓wF_free, ↓reduceIte, Nat.reduceEqDiff, Nat.reduceLT, Nat.reduceLeDiff, Nat.reduceAdd, Nat.reduceSub, Nat.reduceMul, Nat.reduceBEq, Int.reduceLT, Int.reduceLE, Int.reduceToNat, Int.reduceNeg, Int.reducePow, Int.reduceAdd, Int.reduceMul, Int.reduceSub, ↓Int.reduceNatCast', hj2, hix, hld, hli, hc2, add_i]
            refine next_head (j + 1) (by exact ⟨by omega, by omega⟩) (by omega) ?_
            simp only [push_cast, ↓wF_free, ↓reduceIte, Nat.reduceEqDiff, Nat.reduceLT, Nat.reduceLeDiff, Nat.reduceAdd, Nat.reduceSub, Nat.reduceMul, Nat.reduceBEq, Int.reduceLT, Int.reduceLE, Int.reduceToNat, Int.reduceNeg, Int.reducePow, Int.reduceAdd, Int.reduceMul, Int.reduceSub, ↓Int.reduceNatCast'] <;> rfl
          · simp (disch := first | omega | decide) only [push_cast, ↓wF_free, ↓reduceIte, Nat.reduceEqDiff, Nat.reduceLT, Nat.reduceLeDiff, Nat.reduceAdd, Nat.reduceSub, Nat.reduceMul, Nat.reduceBEq, Int.reduceLT, Int.reduceLE, Int.reduceToNat, Int.reduceNeg, Int.reducePow, Int.reduceAdd, Int.reduceMul, Int.reduceSub, ↓Int.reduceNatCast', hj2, hix, hld, hli, hc2]
            have q1 : ¬ ((j : Int) < s ∧ (j : Int) < (l.length : Int)) := by
              rintro ⟨a1, a2⟩
              have := encL_mono l (show j + 1 ≤ min l.length s.toNat by omega)
              omega
            have q2 := call_begins G (l.take j) (by simp; omega)
            rw [decide_eq_true (hcb j (by first | omega | (simp [encL])))] at q2
            have q3 : ∀ hz : z = [], G.length = j := fun hz => hcl hz j (by omega) (by first | omega | (simp [encL])) (by intro h; omega)
            have ej : ((j : Int)).toNat = j := by omega
            by_cases m1 : (j : Int) < s
            · have m2 : ¬ (j : Int) < (l.length : Int) := fun h => q1 ⟨m1, h⟩
              by_cases hz : z = []
              · have q4 : (G.length : Int) = (j : Int) := by have := q3 hz; omega
                simp (disch := first | omega | decide) only [push_cast, ↓wF_free, ↓reduceIte, Nat.reduceEqDiff, Nat.reduceLT, Nat.reduceLeDiff, Nat.reduceAdd, Nat.reduceSub, Nat.reduceMul, Nat.reduceBEq, Int.reduceLT, Int.reduceLE, Int.reduceToNat, Int.reduceNeg, Int.reducePow, Int.reduceAdd, Int.reduceMul, Int.reduceSub, ↓Int.reduceNatCast', m1, m2, q4, trD, bsD, crd, q2, slc_to _ _ _ _ _ _ _ _ hnz, ej, hj2, hix, hld, hc2]
              · have q5 : 0 < (z.length : Int) := by have := List.length_pos_iff.2 hz; omega
                by_cases q4 : (G.length : Int) = (j : Int)
                · simp (disch := first | omega | decide) only [push_cast, ↓wF_free, ↓reduceIte, Nat.reduceEqDiff, Nat.reduceLT, Nat.reduceLeDiff, Nat.reduceAdd, Nat.reduceSub, Nat.reduceMul, Nat.reduceBEq, Int.reduceLT, Int.reduceLE, Int.reduceToNat, Int.reduceNeg, Int.reducePow, Int.reduceAdd, Int.reduceMul, Int.reduceSub, ↓Int.reduceNatCast', m1, m2, q4, trD, bsD, crd, q2, slc_to _ _ _ _ _ _ _ _ hnz, ej, hj2, hix, hld, hc2]
                · simp (disch := first | omega | decide) only [push_cast, ↓wF_free, ↓reduceIte, Nat.reduceEqDiff, Nat.reduceLT, Nat.reduceLeDiff, Nat.reduceAdd, Nat.reduceSub, Nat.reduceMul, Nat.reduceBEq, Int.reduceLT, Int.reduceLE, Int.reduceToNat, Int.reduceNeg, Int.reducePow, Int.reduceAdd, Int.reduceMul, Int.reduceSub, ↓Int.reduceNatCast', m1, m2, q4, q5, trD, bsD, crd, q2, slc_to _ _ _ _ _ _ _ _ hnz, ej, hj2, hix, hld, hc2]
            · by_cases hz : z = []
              · have q4 : (G.length : Int) = (j : Int) := by have := q3 hz; omega
                simp (disch := first | omega | decide) only [push_cast, ↓wF_free, ↓reduceIte, Nat.reduceEqDiff, Nat.reduceLT, Nat.reduceLeDiff, Nat.reduceAdd, Nat.reduceSub, Nat.reduceMul, Nat.reduceBEq, Int.reduceLT, Int.reduceLE, Int.reduceToNat, Int.reduceNeg, Int.reducePow, Int.reduceAdd, Int.reduceMul, Int.reduceSub, ↓Int.reduceNatCast', m1, q4, trD, bsD, crd, q2, slc_to _ _ _ _ _ _ _ _ hnz, ej, hj2, hix, hld, hc2]
              · have q5 : 0 < (z.length : Int) := by have := List.length_pos_iff.2 hz; omega
                by_cases q4 : (G.length : Int) = (j : Int)
                · simp (disch := first | omega | decide) only [push_cast, ↓wF_free, ↓reduceIte, Nat.reduceEqDiff, Nat.reduceLT, Nat.reduceLeDiff, Nat.reduceAdd, Nat.reduceSub, Nat.reduceMul, Nat.reduceBEq, Int.reduceLT, Int.reduceLE, Int.reduceToNat, Int.reduceNeg, Int.reducePow, Int.reduceAdd, Int.reduceMul, Int.reduceSub, ↓Int.reduceNatCast', m1, q4, trD, bsD, crd, q2, slc_to _ _ _ _ _ _ _ _ hnz, ej, hj2, hix, hld, hc2]
                · simp (disch := first | omega | decide) only [push_cast, ↓wF_free, ↓reduceIte, Nat.reduceEqDiff, Nat.reduceLT, Nat.reduceLeDiff, Nat.reduceAdd, Nat.reduceSub, Nat.reduceMul, Nat.reduceBEq, Int.reduceLT, Int.reduceLE, Int.reduceToNat, Int.reduceNeg, Int.reducePow, Int.reduceAdd, Int.reduceMul, Int.reduceSub, ↓Int.reduceNatCast', m1, q4, q5, trD, bsD, crd, q2, slc_to _ _ _ _ _ _ _ _ hnz, ej, hj2, hix, hld, hc2]
        · obtain rfl : j = l.length := by omega
          have hli := liR_row eI 1 (endsL l l.length) false
          rw [hel] at hli
          simp (disch := first | omega | decide) only [push_cast, ↓wF_free, ↓reduceIte, Nat.reduceEqDiff, Nat.reduceLT, Nat.reduceLeDiff, Nat.reduceAdd, Nat.reduceSub, Nat.reduceMul, Nat.reduceBEq, Int.reduceLT, Int.reduceLE, Int.reduceToNat, Int.reduceNeg, Int.reducePow, Int.reduceAdd, Int.reduceMul, Int.reduceSub, ↓Int.reduceNatCast', hj2, hli]
          have q1 : ¬ ((l.length : Int) < s ∧ (l.length : Int) < (l.length : Int)) := by
            rintro ⟨a1, a2⟩
            have := encL_mono l (show l.length + 1 ≤ min l.length s.toNat by omega)
            omega
          have q2 := call_begins G (l.take l.length) (by simp; omega)
          rw [decide_eq_true (hcb l.length (by first | omega | (simp [encL])))] at q2
          have q3 : ∀ hz : z = [], G.length = l.length := fun hz => hcl hz l.length (by omega) (by first | omega | (simp [encL])) (by intro h; omega)
          have ej : ((l.length : Int)).toNat = l.length := by omega
          simp only [List.take_length] at q2
          by_cases m1 : (l.length : Int) < s
          · have m2 : ¬ (l.length : Int) < (l.length : Int) := fun h => q1 ⟨m1, h⟩
            by_cases hz : z = []
            · have q4 : (G.length : Int) = (l.length : Int) := by have := q3 hz; omega
              simp (disch := first | omega | decide) only [push_cast, ↓wF_free, ↓reduceIte, Nat.reduceEqDiff, Nat.reduceLT, Nat.reduceLeDiff, Nat.reduceAdd, Nat.reduceSub, Nat.reduceMul, Nat.reduceBEq, Int.reduceLT, Int.reduceLE, Int.reduceToNat, Int.reduceNeg, Int.reducePow, Int.reduceAdd, Int.reduceMul, Int.reduceSub, ↓Int.reduceNatCast', m1, m2, q4, trD, bsD, crd, q2, slc_to _ _ _ _ _ _ _ _ hnz, ej, hj2]
            · have q5 : 0 < (z.length : Int) := by have := List.length_pos_iff.2 hz; omega
              by_cases q4 : (G.length : Int) = (l.length : Int)
              · simp (disch := first | omega | decide) only [push_cast, ↓wF_free, ↓reduceIte, Nat.reduceEqDiff, Nat.reduceLT, Nat.reduceLeDiff, Nat.reduceAdd, Nat.reduceSub, Nat.reduceMul, Nat.reduceBEq, Int.reduceLT, Int.reduceLE, Int.reduceToNat, Int.reduceNeg, Int.reducePow, Int.reduceAdd, Int.reduceMul, Int.reduceSub, ↓Int.reduceNatCast', m1, m2, q4, trD, bsD, crd, q2, slc_to _ _ _ _ _ _ _ _ hnz, ej, hj2]
              · simp (disch := first | omega | decide) only [push_cast, ↓wF_free, ↓reduceIte, Nat.reduceEqDiff, Nat.reduceLT, Nat.reduceLeDiff, Nat.reduceAdd, Nat.reduceSub, Nat.reduceMul, Nat.reduceBEq, Int.reduceLT, Int.reduceLE, Int.reduceToNat, Int.reduceNeg, Int.reducePow, Int.reduceAdd, Int.reduceMul, Int.reduceSub, ↓Int.reduceNatCast', m1, m2, q4, q5, trD, bsD, crd, q2, slc_to _ _ _ _ _ _ _ _ hnz, ej, hj2]
          · by_cases hz : z = []
            · have q4 : (G.length : Int) = (l.length : Int) := by have := q3 hz; omega
              simp (disch := first | omega | decide) only [push_cast, ↓wF_free, ↓reduceIte, Nat.reduceEqDiff, Nat.reduceLT, Nat.reduceLeDiff, Nat.reduceAdd, Nat.reduceSub, Nat.reduceMul, Nat.reduceBEq, Int.reduceLT, Int.reduceLE, Int.reduceToNat, Int.reduceNeg, Int.reducePow, Int.reduceAdd, Int.reduceMul, Int.reduceSub, ↓Int.reduceNatCast', m1, q4, trD, bsD, crd, q2, slc_to _ _ _ _ _ _ _ _ hnz, ej, hj2]
            · have q5 : 0 < (z.length : Int) := by have := List.length_pos_iff.2 hz; omega
              by_cases q4 : (G.length : Int) = (l.length : Int)
              · simp (disch := first | omega | decide) only [push_cast, ↓wF_free, ↓reduceIte, Nat.reduceEqDiff, Nat.reduceLT, Nat.reduceLeDiff, Nat.reduceAdd, Nat.reduceSub, Nat.reduceMul, Nat.reduceBEq, Int.reduceLT, Int.reduceLE, Int.reduceToNat, Int.reduceNeg, Int.reducePow, Int.reduceAdd, Int.reduceMul, Int.reduceSub, ↓Int.reduceNatCast', m1, q4, trD, bsD, crd, q2, slc_to _ _ _ _ _ _ _ _ hnz, ej, hj2]
              · simp (disch := first | omega | decide) only [push_cast, ↓wF_free, ↓reduceIte, Nat.reduceEqDiff, Nat.reduceLT, Nat.reduceLeDiff, Nat.reduceAdd, Nat.reduceSub, Nat.reduceMul, Nat.reduceBEq, Int.reduceLT, Int.reduceLE, Int.reduceToNat, Int.reduceNeg, Int.reducePow, Int.reduceAdd, Int.reduceMul, Int.reduceSub, ↓Int.reduceNatCast', m1, q4, q5, trD, bsD, crd, q2, slc_to _ _ _ _ _ _ _ _ hnz, ej, hj2]
theorem law_DiskCrash : Contract Tryd.prog GG 3 (lawSpU [.slc (.slc (.int .u8)), .int .i64, .agg [.int .i64, .slc (.int .u8)]] 1048576) := by
  refine lawCU tr_wagonpoollaw13_DiskCrash (T := tb [(10, sp_sane), (11, sp_append), (12, sp_sync), (13, sp_crash), (14, sp_read), (15, sp_begins)] []) (tb_ok (all_cons c_sane (all_cons c_append (all_cons c_sync (all_cons c_crash (all_cons c_read (all_cons c_begins all_nil)))))) all_nil) ?_
  intro xs h hw
  obtain ⟨x0, xs, rfl, h0, h⟩ := hasAll_cons h
  obtain ⟨x1, xs, rfl, h1, h⟩ := hasAll_cons h
  obtain ⟨x2, xs, rfl, h2, h⟩ := hasAll_cons h
  obtain rfl := hasAll_nil h
  obtain ⟨y0, rfl, ya0⟩ := has_lbs h0
  obtain ⟨y1, rfl, ya1, yb1⟩ := has_i64 h1
  obtain ⟨y2, rfl, ya2, yb2⟩ := has_tr h2
  exact lw_DiskCrash y0 y1 ya1 yb1 y2 ya2 yb2 hw
end Go.Proofs.YteacnlikmagfcaaDoor.PI
