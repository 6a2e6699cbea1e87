/-
  tbox: the first pair of clauses that overlaps, and gaps, against teval.
  Conditions: none.
-/
import Derived.Test.YtgppecaeegaooaaTbW
namespace Go.Proofs.Ytgppecaeegaooaa.PI
open Go
set_option linter.unusedSimpArgs false
set_option linter.unusedVariables false
def hldB (cl : List Cls) (v : List Int) (i : Nat) : Bool := (holdsF v (cl.getD i default).wh).1
theorem hld_iff {cl : List Cls} {v : List Int} (hv : caseV v) {i : Nat} (h : i < cl.length) : hldB cl v i = true ↔ smA cl i = true ∧ cov 0 (bxA cl i) v := by
  unfold hldB smA bxA
  rw [sms_at cl i h, bxs_at cl i h]
  exact box_holds hv _
theorem cov_meet {b c : Bx} (hb : b.ok) (hc : c.ok) (v : List Int) : cov 0 (meetB b c) v ↔ cov 0 b v ∧ cov 0 c v := by
  constructor
  · intro h
    refine ⟨fun i h0 hi => ?_, fun i h0 hi => ?_⟩ <;>
    · have := h i h0 hi
      rw [meetB_lo hb hc i hi, meetB_hi hb hc i hi] at this
      omega
  · rintro ⟨h1, h2⟩ i h0 hi
    have := h1 i h0 hi
    have := h2 i h0 hi
    rw [meetB_lo hb hc i hi, meetB_hi hb hc i hi]
    omega
theorem cov_lo {b : Bx} (h : someB b = true) : cov 0 b b.lo := fun i _ hi => ⟨Int.le_refl _, (someB_iff b).1 h i hi⟩
theorem inAll_of (l : List Tst) (h : (ofB l).2 = true) : inAll (ofB l).1 := by
  cases hr : runT allB l with
  | none => rw [ofB_none hr] at h; cases h
  | some c =>
    rw [ofB_some hr] at h ⊢
    split at h
    · rename_i hs; rw [if_pos hs]; exact inAll_run l allB_ok inAll_all hr
    · cases h
theorem hit_both {cl : List Cls} {v : List Int} (hv : caseV v) {i j : Nat} (hi : i < cl.length) (hj : j < cl.length) (h1 : hldB cl v i = true) (h2 : hldB cl v j = true) : hitB cl i j = true ∧ cov 0 (meetB (bxA cl i) (bxA cl j)) v := by
  obtain ⟨a1, a2⟩ := (hld_iff hv hi).1 h1
  obtain ⟨b1, b2⟩ := (hld_iff hv hj).1 h2
  have hc := (cov_meet (bxA_ok hi) (bxA_ok hj) v).2 ⟨a2, b2⟩
  refine ⟨?_, hc⟩
  unfold hitB
  rw [a1, b1, cov_some hc]; rfl
theorem lo_case {b : Bx} (hb : b.ok) (h1 : someB b = true) (h2 : inAll b) : caseV b.lo := by
  refine ⟨hb.1, fun i hi => ?_⟩
  have := h2 i hi
  have := (someB_iff b).1 h1 i hi
  omega
theorem inAll_meet {b c : Bx} (hb : b.ok) (hc : c.ok) (h1 : inAll b) (h2 : inAll c) : inAll (meetB b c) := by
  intro i hi
  have := h1 i hi
  have := h2 i hi
  rw [meetB_lo hb hc i hi, meetB_hi hb hc i hi]
  omega
theorem hit_lo {cl : List Cls} {i j : Nat} (hi : i < cl.length) (hj : j < cl.length) (h : hitB cl i j = true) : caseV (meetB (bxA cl i) (bxA cl j)).lo ∧ hldB cl (meetB (bxA cl i) (bxA cl j)).lo i = true ∧ hldB cl (meetB (bxA cl i) (bxA cl j)).lo j = true := by
  unfold hitB at h
  simp only [Bool.and_eq_true] at h
  obtain ⟨⟨h1, h2⟩, h3⟩ := h
  have ai : inAll (bxA cl i) := by
    unfold bxA; rw [bxs_at cl i hi]
    unfold smA at h2; rw [sms_at cl i hi] at h2
    exact inAll_of _ h2
  have aj : inAll (bxA cl j) := by
    unfold bxA; rw [bxs_at cl j hj]
    unfold smA at h3; rw [sms_at cl j hj] at h3
    exact inAll_of _ h3
  have hc := lo_case (meetB_ok (bxA_ok hi) (bxA_ok hj)) h1 (inAll_meet (bxA_ok hi) (bxA_ok hj) ai aj)
  obtain ⟨c1, c2⟩ := (cov_meet (bxA_ok hi) (bxA_ok hj) _).1 (cov_lo h1)
  exact ⟨hc, (hld_iff hc hi).2 ⟨h2, c1⟩, (hld_iff hc hj).2 ⟨h3, c2⟩⟩
theorem not_less {b : Bx} {v : List Int} (h : cov 0 b v) : less v b.lo = false := by
  cases hl : less v b.lo with
  | false => rfl
  | true =>
    obtain ⟨k, hk, _, l⟩ := (less_iff _ _).1 hl
    have := (h k (Nat.zero_le _) hk).1
    omega
theorem ov_found {cl : List Cls} {r : Nat × Nat × List Int} (h : ovF cl = some r) : r.1 < r.2.1 ∧ r.2.1 < cl.length ∧ caseV r.2.2 ∧ hldB cl r.2.2 r.1 = true ∧ hldB cl r.2.2 r.2.1 = true ∧
    ∀ v, caseV v → ∀ k l, k < l → l < cl.length → hldB cl v k = true → hldB cl v l = true → r.1 < k ∨ (r.1 = k ∧ r.2.1 < l) ∨ (r.1 = k ∧ r.2.1 = l ∧ less v r.2.2 = false) := by
  obtain ⟨h1, h2, h3, h4, h5, h6⟩ := ovI_some (k := cl.length) (i := 0) rfl h
  obtain ⟨i, j, w⟩ := r
  dsimp only at *
  subst h5
  obtain ⟨c1, c2, c3⟩ := hit_lo (Nat.lt_trans h2 h3) h3 h4
  refine ⟨h2, h3, c1, c2, c3, fun v hv k l hkl hl hk hl2 => ?_⟩
  obtain ⟨d1, d2⟩ := hit_both hv (Nat.lt_trans hkl hl) hl hk hl2
  rcases Nat.lt_trichotomy i k with e | e | e
  · exact .inl e
  · subst e
    rcases Nat.lt_trichotomy j l with e | e | e
    · exact .inr (.inl ⟨rfl, e⟩)
    · subst e
      exact .inr (.inr ⟨rfl, rfl, not_less d2⟩)
    · rw [h6.1 l hkl e] at d1; cases d1
  · rw [h6.2 k l (Nat.zero_le _) e hkl hl] at d1; cases d1
theorem ov_not {cl : List Cls} (h : ovF cl = none) {v : List Int} (hv : caseV v) {k l : Nat} (hkl : k < l) (hl : l < cl.length) (hk : hldB cl v k = true) : hldB cl v l = false := by
  cases hl2 : hldB cl v l with
  | false => rfl
  | true =>
    have := (hit_both hv (Nat.lt_trans hkl hl) hl hk hl2).1
    rw [ovI_none (k := cl.length) (i := 0) rfl h k l (Nat.zero_le _) hkl hl] at this
    cases this
set_option maxHeartbeats 4000000 in
set_option maxRecDepth 20000 in
theorem lw_TboxOverlaps (t : Tar) (ht : tarOk t) (v : Int × List Int) (hv : v.2.length = 16) : @wW GG (tb [(10, sp_lsane), (11, sp_isc), (21, sp_pov), (20, sp_lholds), (18, sp_rless)] []) F_wagonpoollaw19_TboxOverlaps.code (argF [tarD t, envD (Prod.fst v) (Prod.snd v)]) [] ⟨retQ F_wagonpoollaw19_TboxOverlaps.res (.bool true)⟩ := by
  have cs := call_lsane
  have hm := maxLen_le
  obtain ⟨kh, v⟩ := v
  dsimp only at hv
  have ci : sp_isc [envD kh v] = some (.bool (caseB kh v)) := call_isc (kh, v) hv
  unfold F_wagonpoollaw19_TboxOverlaps
  by_cases h40 : (40 : Int) < (t.cl.length : Int)
  · simp (disch := first | omega | decide) only [push_cast, ↓wF_free, ↓reduceIte, Nat.reduceEqDiff, Nat.reduceLT, Nat.reduceLeDiff, Nat.reduceAdd, Nat.reduceSub, Nat.reduceMul, Nat.reduceBEq, Int.reduceLT, Int.reduceLE, Int.reduceToNat, Int.reduceNeg, Int.reducePow, Int.reduceAdd, Int.reduceMul, Int.reduceSub, ↓Int.reduceNatCast', cs, h40]
  · cases hb : caseB kh v with
    | false =>
      rw [hb] at ci
      simp (disch := first | omega | decide) only [push_cast, ↓wF_free, ↓reduceIte, Nat.reduceEqDiff, Nat.reduceLT, Nat.reduceLeDiff, Nat.reduceAdd, Nat.reduceSub, Nat.reduceMul, Nat.reduceBEq, Int.reduceLT, Int.reduceLE, Int.reduceToNat, Int.reduceNeg, Int.reducePow, Int.reduceAdd, Int.reduceMul, Int.reduceSub, ↓Int.reduceNatCast', cs, h40, ci, ldE _ _ hv]
    | true =>
      obtain ⟨rfl, hcv⟩ := caseB_spec hv hb
      rw [hb] at ci
      have co := call_pov t ⟨by omega, fun c hc => Nat.le_trans (ht.2 c hc) hm⟩
      have hw := ovv_length t.cl
      have hld : ∀ (u : List Int) (i : Nat), caseV u → i < t.cl.length → sp_lholds [clsD (t.cl.getD i default), envD 65535 u] = some (.bool (hldB t.cl u i)) := fun u i hu hi =>
        call_lholds (t.cl.getD i default) (_, u) ⟨rfl, hu, Nat.le_trans (ht.2 _ (getD_memC hi)) hm⟩
      have hix : ∀ (st : St) (i : Nat), i < t.cl.length → pidxS st 9 (.slc (nz 9 (t.cl.map clsD)) (t.cl.map clsD) false) (.int .i64 (i : Int)) = some (.eptr (clsD (t.cl.getD i default)) 0) := fun st i hi => by
        have := idxS_nz st 9 clsD t.cl false .i64 (i : Int) (by omega) (by omega)
        rwa [Int.toNat_natCast] at this
      have hfnd := fun r => ov_found (cl := t.cl) (r := r)
      have hnot := ov_not (cl := t.cl)
      have les : ∀ w : List Int, w.length = 16 → sp_rless [envD 65535 v, envD 65535 w] = some (.bool (less v w)) := fun w hw => call_rless (_, _) (_, _) ⟨hv, hw⟩
      generalize ovF t.cl = o at *
      cases o with
      | none =>
        dsimp only [ovi, ovj, ovh, ovv, ovb] at co hw
        simp (disch := first | omega | decide) only [push_cast, ↓wF_free, ↓reduceIte, Nat.reduceEqDiff, Nat.reduceLT, Nat.reduceLeDiff, Nat.reduceAdd, Nat.reduceSub, Nat.reduceMul, Nat.reduceBEq, Int.reduceLT, Int.reduceLE, Int.reduceToNat, Int.reduceNeg, Int.reducePow, Int.reduceAdd, Int.reduceMul, Int.reduceSub, ↓Int.reduceNatCast', cs, h40, ci, co, ldE _ _ hv, stE _ z16_length z16_length]
        refine W_while (fun k : Nat => [(2, .ptr 0 0), (3, .ptr 1 0), (5, .int .i64 0), (6, .int .i64 0), (7, .ptr 2 0), (8, .bool false), (9, .int .i64 (k : Int))]) (fun _ => [⟨false, 1, tarC t, false⟩, ⟨false, 1, envC 65535 v, false⟩, ⟨false, 1, envC 0 z16, false⟩]) (fun k => k ≤ t.cl.length) (fun k => t.cl.length - k) 0 (by simp only [push_cast, ↓wF_free, ↓reduceIte, Nat.reduceEqDiff, Nat.reduceLT, Nat.reduceLeDiff, Nat.reduceAdd, Nat.reduceSub, Nat.reduceMul, Nat.reduceBEq, Int.reduceLT, Int.reduceLE, Int.reduceToNat, Int.reduceNeg, Int.reducePow, Int.reduceAdd, Int.reduceMul, Int.reduceSub, ↓Int.reduceNatCast'] <;> rfl) (Nat.zero_le _) ?_
        intro k hk
        unfold F_wagonpoollaw19_TboxOverlaps_L1
        simp (disch := first | omega | decide) only [push_cast, ↓wF_free, ↓reduceIte, Nat.reduceEqDiff, Nat.reduceLT, Nat.reduceLeDiff, Nat.reduceAdd, Nat.reduceSub, Nat.reduceMul, Nat.reduceBEq, Int.reduceLT, Int.reduceLE, Int.reduceToNat, Int.reduceNeg, Int.reducePow, Int.reduceAdd, Int.reduceMul, Int.reduceSub, ↓Int.reduceNatCast']
        refine ifD_split (fun h2 => ?_) (fun h2 => ?_)
        · have hkl : k < t.cl.length := by omega
          simp (disch := first | omega | decide) only [push_cast, ↓wF_free, ↓reduceIte, Nat.reduceEqDiff, Nat.reduceLT, Nat.reduceLeDiff, Nat.reduceAdd, Nat.reduceSub, Nat.reduceMul, Nat.reduceBEq, Int.reduceLT, Int.reduceLE, Int.reduceToNat, Int.reduceNeg, Int.reducePow, Int.reduceAdd, Int.reduceMul, Int.reduceSub, ↓Int.reduceNatCast', add_i]
          refine W_while (fun l : Nat => [(2, .ptr 0 0), (3, .ptr 1 0), (5, .int .i64 0), (6, .int .i64 0), (7, .ptr 2 0), (8, .bool false), (9, .int .i64 (k : Int)), (10, .int .i64 (l : Int))]) (fun _ => [⟨false, 1, tarC t, false⟩, ⟨false, 1, envC 65535 v, false⟩, ⟨false, 1, envC 0 z16, false⟩]) (fun l => k + 1 ≤ l ∧ l ≤ t.cl.length) (fun l => t.cl.length - l) (k + 1) (by simp only [push_cast, ↓wF_free, ↓reduceIte, Nat.reduceEqDiff, Nat.reduceLT, Nat.reduceLeDiff, Nat.reduceAdd, Nat.reduceSub, Nat.reduceMul, Nat.reduceBEq, Int.reduceLT, Int.reduceLE, Int.reduceToNat, Int.reduceNeg, Int.reducePow, Int.reduceAdd, Int.reduceMul, Int.reduceSub, ↓Int.reduceNatCast'] <;> rfl) ⟨Nat.le_refl _, hkl⟩ ?_
          rintro l ⟨hl1, hl2⟩
          unfold F_wagonpoollaw19_TboxOverlaps_L0
          simp (disch := first | omega | decide) only [push_cast, ↓wF_free, ↓reduceIte, Nat.reduceEqDiff, Nat.reduceLT, Nat.reduceLeDiff, Nat.reduceAdd, Nat.reduceSub, Nat.reduceMul, Nat.reduceBEq, Int.reduceLT, Int.reduceLE, Int.reduceToNat, Int.reduceNeg, Int.reducePow, Int.reduceAdd, Int.reduceMul, Int.reduceSub, ↓Int.reduceNatCast']
          refine ifD_split (fun h3 => ?_) (fun h3 => ?_)
          · have hll : l < t.cl.length := by omega
            have ik := fun st => hix st k hkl
            have il := fun st => hix st l hll
            have lk := hld v k hcv hkl
            have ll := hld v l hcv hll
            cases hbk : hldB t.cl v k with
            | false =>
              rw [hbk] at lk
              simp (disch := first | omega | decide) only [push_cast, ↓wF_free, ↓reduceIte, Nat.reduceEqDiff, Nat.reduceLT, Nat.reduceLeDiff, Nat.reduceAdd, Nat.reduceSub, Nat.reduceMul, Nat.reduceBEq, Int.reduceLT, Int.reduceLE, Int.reduceToNat, Int.reduceNeg, Int.reducePow, Int.reduceAdd, Int.reduceMul, Int.reduceSub, ↓Int.reduceNatCast', ik, lk, ldE _ _ hv, add_i]
              refine next_head (l + 1) (by omega) (by omega) ?_
              simp only [push_cast, ↓wF_free, ↓reduceIte, Nat.reduceEqDiff, Nat.reduceLT, Nat.reduceLeDiff, Nat.reduceAdd, Nat.reduceSub, Nat.reduceMul, Nat.reduceBEq, Int.reduceLT, Int.reduceLE, Int.reduceToNat, Int.reduceNeg, Int.reducePow, Int.reduceAdd, Int.reduceMul, Int.reduceSub, ↓Int.reduceNatCast'] <;> rfl
            | true =>
              rw [hbk] at lk
              cases hbl : hldB t.cl v l with
              | false =>
                rw [hbl] at ll
                simp (disch := first | omega | decide) only [push_cast, ↓wF_free, ↓reduceIte, Nat.reduceEqDiff, Nat.reduceLT, Nat.reduceLeDiff, Nat.reduceAdd, Nat.reduceSub, Nat.reduceMul, Nat.reduceBEq, Int.reduceLT, Int.reduceLE, Int.reduceToNat, Int.reduceNeg, Int.reducePow, Int.reduceAdd, Int.reduceMul, Int.reduceSub, ↓Int.reduceNatCast', ik, il, lk, ll, ldE _ _ hv, add_i]
                refine next_head (l + 1) (by omega) (by omega) ?_
                simp only [push_cast, ↓wF_free, ↓reduceIte, Nat.reduceEqDiff, Nat.reduceLT, Nat.reduceLeDiff, Nat.reduceAdd, Nat.reduceSub, Nat.reduceMul, Nat.reduceBEq, Int.reduceLT, Int.reduceLE, Int.reduceToNat, Int.reduceNeg, Int.reducePow, Int.reduceAdd, Int.reduceMul, Int.reduceSub, ↓Int.reduceNatCast'] <;> rfl
              | true =>
                rw [hbl] at ll
                exact absurd (hnot rfl hcv (by omega) hll hbk) (by rw [hbl]; decide)
          · obtain rfl : l = t.cl.length := by omega
            simp (disch := first | omega | decide) only [push_cast, ↓wF_free, ↓reduceIte, Nat.reduceEqDiff, Nat.reduceLT, Nat.reduceLeDiff, Nat.reduceAdd, Nat.reduceSub, Nat.reduceMul, Nat.reduceBEq, Int.reduceLT, Int.reduceLE, Int.reduceToNat, Int.reduceNeg, Int.reducePow, Int.reduceAdd, Int.reduceMul, Int.reduceSub, ↓Int.reduceNatCast', add_i]
            refine next_head (k + 1) (by omega) (by omega) ?_
            simp only [push_cast, ↓wF_free, ↓reduceIte, Nat.reduceEqDiff, Nat.reduceLT, Nat.reduceLeDiff, Nat.reduceAdd, Nat.reduceSub, Nat.reduceMul, Nat.reduceBEq, Int.reduceLT, Int.reduceLE, Int.reduceToNat, Int.reduceNeg, Int.reducePow, Int.reduceAdd, Int.reduceMul, Int.reduceSub, ↓Int.reduceNatCast'] <;> rfl
        · simp (disch := first | omega | decide) only [push_cast, ↓wF_free, ↓reduceIte, Nat.reduceEqDiff, Nat.reduceLT, Nat.reduceLeDiff, Nat.reduceAdd, Nat.reduceSub, Nat.reduceMul, Nat.reduceBEq, Int.reduceLT, Int.reduceLE, Int.reduceToNat, Int.reduceNeg, Int.reducePow, Int.reduceAdd, Int.reduceMul, Int.reduceSub, ↓Int.reduceNatCast']
      | some r =>
        obtain ⟨i, j, w⟩ := r
        obtain ⟨f1, f2, f3, f4, f5, f6⟩ := hfnd _ rfl
        dsimp only [ovi, ovj, ovh, ovv, ovb] at co hw f1 f2 f3 f4 f5 f6
        have ciw : sp_isc [envD 65535 w] = some (.bool true) := by
          have := call_isc (65535, w) hw
          dsimp only at this
          rwa [caseB_of f3] at this
        have x1 : ¬ ((i : Int) < 0) := by omega
        have x2 : ¬ ((j : Int) ≤ (i : Int)) := by omega
        have x3 : ¬ ((t.cl.length : Int) ≤ (j : Int)) := by omega
        have hi1 := fun st => hix st i (by omega)
        have hj1 := fun st => hix st j (by omega)
        have li := hld w i f3 (by omega)
        have lj := hld w j f3 (by omega)
        rw [f4] at li
        rw [f5] at lj
        simp (disch := first | omega | decide) only [push_cast, ↓wF_free, ↓reduceIte, Nat.reduceEqDiff, Nat.reduceLT, Nat.reduceLeDiff, Nat.reduceAdd, Nat.reduceSub, Nat.reduceMul, Nat.reduceBEq, Int.reduceLT, Int.reduceLE, Int.reduceToNat, Int.reduceNeg, Int.reducePow, Int.reduceAdd, Int.reduceMul, Int.reduceSub, ↓Int.reduceNatCast', cs, h40, ci, co, ldE _ _ hv, stE _ z16_length hw, ldE _ _ hw, x1, x2, x3, ciw, hi1, hj1, li, lj]
        refine W_while (fun k : Nat => [(2, .ptr 0 0), (3, .ptr 1 0), (5, .int .i64 (i : Int)), (6, .int .i64 (j : Int)), (7, .ptr 2 0), (8, .bool true), (9, .int .i64 (k : Int))]) (fun _ => [⟨false, 1, tarC t, false⟩, ⟨false, 1, envC 65535 v, false⟩, ⟨false, 1, envC 65535 w, false⟩]) (fun k => k ≤ t.cl.length) (fun k => t.cl.length - k) 0 (by simp only [push_cast, ↓wF_free, ↓reduceIte, Nat.reduceEqDiff, Nat.reduceLT, Nat.reduceLeDiff, Nat.reduceAdd, Nat.reduceSub, Nat.reduceMul, Nat.reduceBEq, Int.reduceLT, Int.reduceLE, Int.reduceToNat, Int.reduceNeg, Int.reducePow, Int.reduceAdd, Int.reduceMul, Int.reduceSub, ↓Int.reduceNatCast'] <;> rfl) (Nat.zero_le _) ?_
        intro k hk
        unfold F_wagonpoollaw19_TboxOverlaps_L1
        simp (disch := first | omega | decide) only [push_cast, ↓wF_free, ↓reduceIte, Nat.reduceEqDiff, Nat.reduceLT, Nat.reduceLeDiff, Nat.reduceAdd, Nat.reduceSub, Nat.reduceMul, Nat.reduceBEq, Int.reduceLT, Int.reduceLE, Int.reduceToNat, Int.reduceNeg, Int.reducePow, Int.reduceAdd, Int.reduceMul, Int.reduceSub, ↓Int.reduceNatCast']
        refine ifD_split (fun h2 => ?_) (fun h2 => ?_)
        · have hkl : k < t.cl.length := by omega
          simp (disch := first | omega | decide) only [push_cast, ↓wF_free, ↓reduceIte, Nat.reduceEqDiff, Nat.reduceLT, Nat.reduceLeDiff, Nat.reduceAdd, Nat.reduceSub, Nat.reduceMul, Nat.reduceBEq, Int.reduceLT, Int.reduceLE, Int.reduceToNat, Int.reduceNeg, Int.reducePow, Int.reduceAdd, Int.reduceMul, Int.reduceSub, ↓Int.reduceNatCast', add_i]
          refine W_while (fun l : Nat => [(2, .ptr 0 0), (3, .ptr 1 0), (5, .int .i64 (i : Int)), (6, .int .i64 (j : Int)), (7, .ptr 2 0), (8, .bool true), (9, .int .i64 (k : Int)), (10, .int .i64 (l : Int))]) (fun _ => [⟨false, 1, tarC t, false⟩, ⟨false, 1, envC 65535 v, false⟩, ⟨false, 1, envC 65535 w, false⟩]) (fun l => k + 1 ≤ l ∧ l ≤ t.cl.length) (fun l => t.cl.length - l) (k + 1) (by simp only [push_cast, ↓wF_free, ↓reduceIte, Nat.reduceEqDiff, Nat.reduceLT, Nat.reduceLeDiff, Nat.reduceAdd, Nat.reduceSub, Nat.reduceMul, Nat.reduceBEq, Int.reduceLT, Int.reduceLE, Int.reduceToNat, Int.reduceNeg, Int.reducePow, Int.reduceAdd, Int.reduceMul, Int.reduceSub, ↓Int.reduceNatCast'] <;> rfl) ⟨Nat.le_refl _, hkl⟩ ?_
          rintro l ⟨hl1, hl2⟩
          unfold F_wagonpoollaw19_TboxOverlaps_L0
          simp (disch := first | omega | decide) only [push_cast, ↓wF_free, ↓reduceIte, Nat.reduceEqDiff, Nat.reduceLT, Nat.reduceLeDiff, Nat.reduceAdd, Nat.reduceSub, Nat.reduceMul, Nat.reduceBEq, Int.reduceLT, Int.reduceLE, Int.reduceToNat, Int.reduceNeg, Int.reducePow, Int.reduceAdd, Int.reduceMul, Int.reduceSub, ↓Int.reduceNatCast']
          refine ifD_split (fun h3 => ?_) (fun h3 => ?_)
          · have hll : l < t.cl.length := by omega
            have ik := fun st => hix st k hkl
            have il := fun st => hix st l hll
            have lk := hld v k hcv hkl
            have ll := hld v l hcv hll
            cases hbk : hldB t.cl v k with
            | false =>
              rw [hbk] at lk
              simp (disch := first | omega | decide) only [push_cast, ↓wF_free, ↓reduceIte, Nat.reduceEqDiff, Nat.reduceLT, Nat.reduceLeDiff, Nat.reduceAdd, Nat.reduceSub, Nat.reduceMul, Nat.reduceBEq, Int.reduceLT, Int.reduceLE, Int.reduceToNat, Int.reduceNeg, Int.reducePow, Int.reduceAdd, Int.reduceMul, Int.reduceSub, ↓Int.reduceNatCast', ik, lk, ldE _ _ hv, add_i]
              refine next_head (l + 1) (by omega) (by omega) ?_
              simp only [push_cast, ↓wF_free, ↓reduceIte, Nat.reduceEqDiff, Nat.reduceLT, Nat.reduceLeDiff, Nat.reduceAdd, Nat.reduceSub, Nat.reduceMul, Nat.reduceBEq, Int.reduceLT, Int.reduceLE, Int.reduceToNat, Int.reduceNeg, Int.reducePow, Int.reduceAdd, Int.reduceMul, Int.reduceSub, ↓Int.reduceNatCast'] <;> rfl
            | true =>
              rw [hbk] at lk
              cases hbl : hldB t.cl v l with
              | false =>
                rw [hbl] at ll
                simp (disch := first | omega | decide) only [push_cast, ↓wF_free, ↓reduceIte, Nat.reduceEqDiff, Nat.reduceLT, Nat.reduceLeDiff, Nat.reduceAdd, Nat.reduceSub, Nat.reduceMul, Nat.reduceBEq, Int.reduceLT, Int.reduceLE, Int.reduceToNat, Int.reduceNeg, Int.reducePow, Int.reduceAdd, Int.reduceMul, Int.reduceSub, ↓Int.reduceNatCast', ik, il, lk, ll, ldE _ _ hv, add_i]
                refine next_head (l + 1) (by omega) (by omega) ?_
                simp only [push_cast, ↓wF_free, ↓reduceIte, Nat.reduceEqDiff, Nat.reduceLT, Nat.reduceLeDiff, Nat.reduceAdd, Nat.reduceSub, Nat.reduceMul, Nat.reduceBEq, Int.reduceLT, Int.reduceLE, Int.reduceToNat, Int.reduceNeg, Int.reducePow, Int.reduceAdd, Int.reduceMul, Int.reduceSub, ↓Int.reduceNatCast'] <;> rfl
              | true =>
                rw [hbl] at ll
                have lw := les w hw
                rcases f6 v hcv k l (by omega) hll hbk hbl with e | ⟨rfl, e⟩ | ⟨rfl, rfl, e⟩
                · have y1 : ¬ ((k : Int) < (i : Int)) := by omega
                  have y2 : ¬ ((k : Int) = (i : Int)) := by omega
                  simp (disch := first | omega | decide) only [push_cast, ↓wF_free, ↓reduceIte, Nat.reduceEqDiff, Nat.reduceLT, Nat.reduceLeDiff, Nat.reduceAdd, Nat.reduceSub, Nat.reduceMul, Nat.reduceBEq, Int.reduceLT, Int.reduceLE, Int.reduceToNat, Int.reduceNeg, Int.reducePow, Int.reduceAdd, Int.reduceMul, Int.reduceSub, ↓Int.reduceNatCast', ik, il, lk, ll, ldE _ _ hv, y1, y2, add_i]
                  refine next_head (l + 1) (by omega) (by omega) ?_
                  simp only [push_cast, ↓wF_free, ↓reduceIte, Nat.reduceEqDiff, Nat.reduceLT, Nat.reduceLeDiff, Nat.reduceAdd, Nat.reduceSub, Nat.reduceMul, Nat.reduceBEq, Int.reduceLT, Int.reduceLE, Int.reduceToNat, Int.reduceNeg, Int.reducePow, Int.reduceAdd, Int.reduceMul, Int.reduceSub, ↓Int.reduceNatCast'] <;> rfl
                · have y1 : ¬ ((i : Int) < (i : Int)) := by omega
                  have y2 : ¬ ((l : Int) < (j : Int)) := by omega
                  have y3 : ¬ ((l : Int) = (j : Int)) := by omega
                  simp (disch := first | omega | decide) only [push_cast, ↓wF_free, ↓reduceIte, Nat.reduceEqDiff, Nat.reduceLT, Nat.reduceLeDiff, Nat.reduceAdd, Nat.reduceSub, Nat.reduceMul, Nat.reduceBEq, Int.reduceLT, Int.reduceLE, Int.reduceToNat, Int.reduceNeg, Int.reducePow, Int.reduceAdd, Int.reduceMul, Int.reduceSub, ↓Int.reduceNatCast', ik, il, lk, ll, ldE _ _ hv, y1, y2, y3, add_i]
                  refine next_head (l + 1) (by omega) (by omega) ?_
                  simp only [push_cast, ↓wF_free, ↓reduceIte, Nat.reduceEqDiff, Nat.reduceLT, Nat.reduceLeDiff, Nat.reduceAdd, Nat.reduceSub, Nat.reduceMul, Nat.reduceBEq, Int.reduceLT, Int.reduceLE, Int.reduceToNat, Int.reduceNeg, Int.reducePow, Int.reduceAdd, Int.reduceMul, Int.reduceSub, ↓Int.reduceNatCast'] <;> rfl
                · have y1 : ¬ ((i : Int) < (i : Int)) := by omega
                  have y2 : ¬ ((j : Int) < (j : Int)) := by omega
                  rw [e] at lw
                  simp (disch := first | omega | decide) only [push_cast, ↓wF_free, ↓reduceIte, Nat.reduceEqDiff, Nat.reduceLT, Nat.reduceLeDiff, Nat.reduceAdd, Nat.reduceSub, Nat.reduceMul, Nat.reduceBEq, Int.reduceLT, Int.reduceLE, Int.reduceToNat, Int.reduceNeg, Int.reducePow, Int.reduceAdd, Int.reduceMul, Int.reduceSub, ↓Int.reduceNatCast', ik, il, lk, ll, ldE _ _ hv, ldE _ _ hw, lw, y1, y2, add_i]
                  refine next_head (j + 1) (by omega) (by omega) ?_
                  simp only [push_cast, ↓wF_free, ↓reduceIte, Nat.reduceEqDiff, Nat.reduceLT, Nat.reduceLeDiff, Nat.reduceAdd, Nat.reduceSub, Nat.reduceMul, Nat.reduceBEq, Int.reduceLT, Int.reduceLE, Int.reduceToNat, Int.reduceNeg, Int.reducePow, Int.reduceAdd, Int.reduceMul, Int.reduceSub, ↓Int.reduceNatCast'] <;> rfl
          · obtain rfl : l = t.cl.length := by omega
            simp (disch := first | omega | decide) only [push_cast, ↓wF_free, ↓reduceIte, Nat.reduceEqDiff, Nat.reduceLT, Nat.reduceLeDiff, Nat.reduceAdd, Nat.reduceSub, Nat.reduceMul, Nat.reduceBEq, Int.reduceLT, Int.reduceLE, Int.reduceToNat, Int.reduceNeg, Int.reducePow, Int.reduceAdd, Int.reduceMul, Int.reduceSub, ↓Int.reduceNatCast', add_i]
            refine next_head (k + 1) (by omega) (by omega) ?_
            simp only [push_cast, ↓wF_free, ↓reduceIte, Nat.reduceEqDiff, Nat.reduceLT, Nat.reduceLeDiff, Nat.reduceAdd, Nat.reduceSub, Nat.reduceMul, Nat.reduceBEq, Int.reduceLT, Int.reduceLE, Int.reduceToNat, Int.reduceNeg, Int.reducePow, Int.reduceAdd, Int.reduceMul, Int.reduceSub, ↓Int.reduceNatCast'] <;> rfl
        · simp (disch := first | omega | decide) only [push_cast, ↓wF_free, ↓reduceIte, Nat.reduceEqDiff, Nat.reduceLT, Nat.reduceLeDiff, Nat.reduceAdd, Nat.reduceSub, Nat.reduceMul, Nat.reduceBEq, Int.reduceLT, Int.reduceLE, Int.reduceToNat, Int.reduceNeg, Int.reducePow, Int.reduceAdd, Int.reduceMul, Int.reduceSub, ↓Int.reduceNatCast']
theorem law_TboxOverlaps : Contract Try.prog GG 9 (lawSp [tyTar, tyEnv]) := by
  refine lawC tr_wagonpoollaw19_TboxOverlaps (T := tb [(10, sp_lsane), (11, sp_isc), (21, sp_pov), (20, sp_lholds), (18, sp_rless)] []) (tb_ok (all_cons c_lsane (all_cons c_isc (all_cons c_pov (all_cons c_lholds (all_cons c_rless all_nil))))) all_nil) ?_
  intro xs h
  obtain ⟨x0, xs, rfl, h0, h⟩ := hasAll_cons h
  obtain ⟨x1, xs, rfl, h1, h⟩ := hasAll_cons h
  obtain rfl := hasAll_nil h
  obtain ⟨y0, rfl, ya0⟩ := has_tar h0
  obtain ⟨y1, rfl, ya1⟩ := has_env h1
  exact lw_TboxOverlaps y0 ya0 y1 ya1
end Go.Proofs.Ytgppecaeegaooaa.PI
