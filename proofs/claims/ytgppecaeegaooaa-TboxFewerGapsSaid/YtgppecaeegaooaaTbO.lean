/-
  tbox: a further clause gives no lesser gap.
  Conditions: none.
-/
import Derived.Test.YtgppecaeegaooaaTbN
namespace Go.Proofs.Ytgppecaeegaooaa.PI
open Go
set_option linter.unusedSimpArgs false
set_option linter.unusedVariables false
theorem gapE_eq {a b : List Cls} {l : List Tst} (h1 : a.length ≤ 16) (h2 : b.length ≤ 16) : gapE a l = gapE b l := by
  unfold gapE
  rw [if_neg (show ¬ 16 < a.length by omega), if_neg (show ¬ 16 < b.length by omega)]
theorem litC0 : litD 9 [] = some (.slc 9 [] true) := (rfl)
theorem gap_spec {cl : List Cls} {l : List Tst} (hd : domB l = true) : if (gapF cl l).2 then Least (domD l) (bsF cl) 0 z16 (gapF cl l).1 else ∀ w, ¬ Good (domD l) (bsF cl) 0 z16 w :=
  (srch_spec (dom_dom hd) 16 (Nat.le_refl _) (bsF cl) z16 z16_length).2
theorem bsF_app (a b : List Cls) : bsF (a ++ b) = bsF a ++ bsF b := by unfold bsF; rw [List.filterMap_append]
theorem gap_more {cl : List Cls} {c : Cls} {l : List Tst} (h : cl.length ≤ 5) (h2 : gapB (cl ++ [c]) l = true) : gapB cl l = true ∧ less (gapV (cl ++ [c]) l) (gapV cl l) = false := by
  have hd : domB l = true := by
    cases hd : domB l with
    | true => rfl
    | false => rw [(gapE_bad (cl := cl ++ [c]) hd).2.1] at h2; cases h2
  have hl : (cl ++ [c]).length ≤ 16 := by simp; omega
  obtain ⟨e1, b1⟩ := gapE_ok (cl := cl) hd (by omega)
  obtain ⟨e2, b2⟩ := gapE_ok (cl := cl ++ [c]) hd (by omega)
  have s1 := gap_spec (cl := cl) hd
  have s2 := gap_spec (cl := cl ++ [c]) hd
  have h3 := h2
  rw [b2] at h3
  rw [if_pos h3] at s2
  have hg : Good (domD l) (bsF cl) 0 z16 (gapF (cl ++ [c]) l).1 := ⟨s2.1.len, s2.1.pre, s2.1.dom, fun b hb => s2.1.out b (by rw [bsF_app]; exact List.mem_append_left _ hb)⟩
  cases k : (gapF cl l).2 with
  | false =>
    rw [k] at s1
    exact absurd hg (s1 _)
  | true =>
    rw [k, if_pos rfl] at s1
    rw [k] at b1
    refine ⟨b1, ?_⟩
    rw [(gap_yes h2).2, (gap_yes b1).2]
    cases hles : less (gapF (cl ++ [c]) l).1 (gapF cl l).1 with
    | false => rfl
    | true => exact absurd (s1.2 _ hg) (fun h4 => lexLt_irr ((less_iff _ _).1 hles) h4)
theorem gap_all {cl : List Cls} {l : List Tst} (h : cl.length ≤ 5) : gapB (cl ++ [clsN [] l]) l = false := by
  cases hd : domB l with
  | false => exact (gapE_bad hd).2.1
  | true =>
    have hl : (cl ++ [clsN [] l]).length ≤ 16 := by simp; omega
    obtain ⟨e2, b2⟩ := gapE_ok (cl := cl ++ [clsN [] l]) hd (by omega)
    have s2 := gap_spec (cl := cl ++ [clsN [] l]) hd
    have hr := dom_run (domB_some hd)
    have hdm := dom_dom hd
    have ho : ofB l = (domD l, true) := by
      rw [ofB_some hr, if_pos]
      exact (someF_iff _ 16).2 hdm.ne
    cases k : (gapF (cl ++ [clsN [] l]) l).2 with
    | false => rw [b2, k]
    | true =>
      rw [k, if_pos rfl] at s2
      exfalso
      refine s2.1.out (domD l) ?_ s2.1.dom
      rw [bsF_app]
      refine List.mem_append_right _ ?_
      simp only [bsF, clsN, List.filterMap_cons, ho, if_true, List.filterMap_nil, List.mem_singleton]
theorem keys_clsR (s : List UInt8) (L : List Tst) : keys (.agg (clsR s L)) = [] := (rfl)
theorem nr_tar (t : Tar) : (tarD t).noRef = false := (rfl)
set_option maxHeartbeats 4000000 in
set_option maxRecDepth 20000 in
theorem lw_TboxFewerGaps (t : Tar) (ht : tarOk t) (l : List Tst) (hl : l.length ≤ maxLen) (c : Cls) (hc : c.wh.length ≤ maxLen) : @wW GG (tb [(10, sp_lsane), (15, sp_few), (16, sp_mktar), (17, sp_pgap), (18, sp_rless)] []) F_wagonpoollaw19_TboxFewerGaps.code (argF [tarD t, .slc (nz 3 (l.map tstD)) (l.map tstD) false, clsD c]) [] ⟨retQ F_wagonpoollaw19_TboxFewerGaps.res (.bool true)⟩ := by
  have cs := call_lsane
  have cf := call_few t l (fewOk ht hl)
  unfold F_wagonpoollaw19_TboxFewerGaps
  by_cases h5 : (5 : Int) < (t.cl.length : Int)
  · simp (disch := first | omega | decide) only [push_cast, ↓wF_free, ↓reduceIte, Nat.reduceEqDiff, Nat.reduceLT, Nat.reduceLeDiff, Nat.reduceAdd, Nat.reduceSub, Nat.reduceMul, Nat.reduceBEq, Int.reduceLT, Int.reduceLE, Int.reduceToNat, Int.reduceNeg, Int.reducePow, Int.reduceAdd, Int.reduceMul, Int.reduceSub, ↓Int.reduceNatCast', cs, h5]
  · cases hf : fewB t.cl l with
    | false =>
      rw [hf] at cf
      simp (disch := first | omega | decide) only [push_cast, ↓wF_free, ↓reduceIte, Nat.reduceEqDiff, Nat.reduceLT, Nat.reduceLeDiff, Nat.reduceAdd, Nat.reduceSub, Nat.reduceMul, Nat.reduceBEq, Int.reduceLT, Int.reduceLE, Int.reduceToNat, Int.reduceNeg, Int.reducePow, Int.reduceAdd, Int.reduceMul, Int.reduceSub, ↓Int.reduceNatCast', cs, cf, h5]
    | true =>
      rw [hf] at cf
      obtain ⟨f1, f2, f3⟩ := few_max hf
      by_cases h40 : (40 : Int) < (c.wh.length : Int)
      · simp (disch := first | omega | decide) only [push_cast, ↓wF_free, ↓reduceIte, Nat.reduceEqDiff, Nat.reduceLT, Nat.reduceLeDiff, Nat.reduceAdd, Nat.reduceSub, Nat.reduceMul, Nat.reduceBEq, Int.reduceLT, Int.reduceLE, Int.reduceToNat, Int.reduceNeg, Int.reducePow, Int.reduceAdd, Int.reduceMul, Int.reduceSub, ↓Int.reduceNatCast', cs, cf, h5, h40]
      · simp (disch := first | omega | decide) only [push_cast, ↓wF_free, ↓reduceIte, Nat.reduceEqDiff, Nat.reduceLT, Nat.reduceLeDiff, Nat.reduceAdd, Nat.reduceSub, Nat.reduceMul, Nat.reduceBEq, Int.reduceLT, Int.reduceLE, Int.reduceToNat, Int.reduceNeg, Int.reducePow, Int.reduceAdd, Int.reduceMul, Int.reduceSub, ↓Int.reduceNatCast', cs, cf, h5, h40, litC0]
        have hm := gap_more (cl := t.cl) (c := c) (l := l) (by omega)
        have ha := gap_all (cl := t.cl) (l := l) (by omega)
        have e1 := gapE_eq (a := t.cl ++ [c]) (b := t.cl) (l := l) (by simp; omega) (by omega)
        have e2 := gapE_eq (a := t.cl ++ [clsN [] l]) (b := t.cl) (l := l) (by simp; omega) (by omega)
        have w3 : ∀ c ∈ t.cl, c.wh.length ≤ 9223372036854775807 := fun c hc => by have := f3 c hc; omega
        have v0 := gapV_len t.cl l
        have v1 := gapV_len (t.cl ++ [c]) l
        have v2 := gapV_len (t.cl ++ [clsN [] l]) l
        have w4 : ∀ x ∈ t.cl ++ [c], x.wh.length ≤ 9223372036854775807 := fun x hx => by
          rcases List.mem_append.1 hx with hx | hx
          · exact w3 x hx
          · rw [List.mem_singleton.1 hx]; omega
        have w5 : ∀ x ∈ t.cl ++ [clsN [] l], x.wh.length ≤ 9223372036854775807 := fun x hx => by
          rcases List.mem_append.1 hx with hx | hx
          · exact w3 x hx
          · rw [List.mem_singleton.1 hx]; show l.length ≤ _; omega
        have g0 := call_pgap t l ⟨by omega, w3⟩
        have g1 := call_pgap ⟨[], 0, t.cl ++ [c]⟩ l ⟨by omega, w4⟩
        have g2 := call_pgap ⟨[], 0, t.cl ++ [clsN [] l]⟩ l ⟨by omega, w5⟩
        dsimp only at g1 g2
        have m1 := call_mktar (t.cl ++ [c])
        have m2 := call_mktar (t.cl ++ [clsN [] l])
        have les : sp_rless [envD (gapH (t.cl ++ [c]) l) (gapV (t.cl ++ [c]) l), envD (gapH t.cl l) (gapV t.cl l)] = some (.bool (less (gapV (t.cl ++ [c]) l) (gapV t.cl l))) := call_rless (_, _) (_, _) ⟨v1, v0⟩
        rw [e1] at g1
        rw [e2, ha] at g2
        generalize gapE t.cl l = E at *
        generalize gapH t.cl l = H0 at *
        generalize gapV t.cl l = V0 at *
        generalize gapB t.cl l = B0 at *
        generalize gapH (t.cl ++ [c]) l = H1 at *
        generalize gapV (t.cl ++ [c]) l = V1 at *
        generalize gapB (t.cl ++ [c]) l = B1 at *
        generalize gapH (t.cl ++ [clsN [] l]) l = H2 at *
        generalize gapV (t.cl ++ [clsN [] l]) l = V2 at *
        have rr : ∀ (x : Cls) lent, reR (some ⟨true, 9, (t.cl ++ [x]).map clsD, lent⟩) (t.cl.length + 1) 0 (t.cl.length + 1) = some (9, (t.cl ++ [x]).map clsD) := fun x lent => by
          have := reR_all clsD 9 (t.cl ++ [x]) lent
          rwa [List.length_append] at this
        by_cases h0 : t.cl = []
        · have p1 : ∀ st : St, papp st 9 112 (.slc 9 [] true) (.slc (nz 9 (t.cl.map clsD)) (t.cl.map clsD) false) = some (.slc 9 [] true, st) := fun st => by rw [h0]; exact papp_keep st 9 112 9 0 [] false (by decide)
          have p2 := fun st x => papp_first1 clsD st 9 9 112 x true (by decide) (by decide)
          have n0 : ∀ n, appN (.slc (nz 9 (t.cl.map clsD)) (t.cl.map clsD) false) n = none := fun n => by rw [h0]; rfl
          have rr1 : ∀ (x : Cls) lent, reR (some ⟨true, 9, [clsD x], lent⟩) 1 0 1 = some (9, [clsD x]) := fun _ _ => rfl
          have hz : ∀ x : Cls, nz 9 [clsD x] = 9 := fun _ => rfl
          rw [h0] at m1 m2 g1 g2 ⊢
          change sp_mktar [.slc 9 [clsD c] false] = _ at m1
          change sp_mktar [.slc 9 [clsD (clsN [] l)] false] = _ at m2
          rw [List.nil_append] at g1 g2 m1 m2
          refine W_altR1 (by simp (disch := first | omega | decide) only [push_cast, ↓wF_free, ↓reduceIte, Nat.reduceEqDiff, Nat.reduceLT, Nat.reduceLeDiff, Nat.reduceAdd, Nat.reduceSub, Nat.reduceMul, Nat.reduceBEq, Int.reduceLT, Int.reduceLE, Int.reduceToNat, Int.reduceNeg, Int.reducePow, Int.reduceAdd, Int.reduceMul, Int.reduceSub, ↓Int.reduceNatCast', p1, p2, litC0, litC1, m1, m2, nr_tar, hz, rr1, n0, not_false_eq_true]) ?_
          refine W_altR2 (by simp (disch := first | omega | decide) only [push_cast, ↓wF_free, ↓reduceIte, Nat.reduceEqDiff, Nat.reduceLT, Nat.reduceLeDiff, Nat.reduceAdd, Nat.reduceSub, Nat.reduceMul, Nat.reduceBEq, Int.reduceLT, Int.reduceLE, Int.reduceToNat, Int.reduceNeg, Int.reducePow, Int.reduceAdd, Int.reduceMul, Int.reduceSub, ↓Int.reduceNatCast', p1, p2, litC0, litC1, m1, m2, nr_tar, hz, rr1, n0, not_false_eq_true]) ?_
          refine W_altL ?_
          simp (disch := first | omega | decide) only [push_cast, ↓wF_free, ↓reduceIte, Nat.reduceEqDiff, Nat.reduceLT, Nat.reduceLeDiff, Nat.reduceAdd, Nat.reduceSub, Nat.reduceMul, Nat.reduceBEq, Int.reduceLT, Int.reduceLE, Int.reduceToNat, Int.reduceNeg, Int.reducePow, Int.reduceAdd, Int.reduceMul, Int.reduceSub, ↓Int.reduceNatCast', p1, p2, litC0, litC1, m1, m2, g0, g1, g2, nr_tar, hz, rr1, n0, keys_clsR, stE _ z16_length v0, stE _ z16_length v1, stE _ z16_length v2, ldE _ _ v0, ldE _ _ v1]
          by_cases hE : E = 0
          · subst hE
            cases B1 with
            | false => simp (disch := first | omega | decide) only [push_cast, ↓wF_free, ↓reduceIte, Nat.reduceEqDiff, Nat.reduceLT, Nat.reduceLeDiff, Nat.reduceAdd, Nat.reduceSub, Nat.reduceMul, Nat.reduceBEq, Int.reduceLT, Int.reduceLE, Int.reduceToNat, Int.reduceNeg, Int.reducePow, Int.reduceAdd, Int.reduceMul, Int.reduceSub, ↓Int.reduceNatCast', stE _ z16_length v0, stE _ z16_length v1, stE _ z16_length v2, ldE _ _ v0, ldE _ _ v1]
            | true =>
              obtain ⟨hB, hL⟩ := hm rfl
              subst hB
              rw [hL] at les
              simp (disch := first | omega | decide) only [push_cast, ↓wF_free, ↓reduceIte, Nat.reduceEqDiff, Nat.reduceLT, Nat.reduceLeDiff, Nat.reduceAdd, Nat.reduceSub, Nat.reduceMul, Nat.reduceBEq, Int.reduceLT, Int.reduceLE, Int.reduceToNat, Int.reduceNeg, Int.reducePow, Int.reduceAdd, Int.reduceMul, Int.reduceSub, ↓Int.reduceNatCast', stE _ z16_length v0, stE _ z16_length v1, stE _ z16_length v2, ldE _ _ v0, ldE _ _ v1, les]
          · simp (disch := first | omega | decide) only [push_cast, ↓wF_free, ↓reduceIte, Nat.reduceEqDiff, Nat.reduceLT, Nat.reduceLeDiff, Nat.reduceAdd, Nat.reduceSub, Nat.reduceMul, Nat.reduceBEq, Int.reduceLT, Int.reduceLE, Int.reduceToNat, Int.reduceNeg, Int.reducePow, Int.reduceAdd, Int.reduceMul, Int.reduceSub, ↓Int.reduceNatCast', stE _ z16_length v0, stE _ z16_length v1, stE _ z16_length v2, ldE _ _ v0, ldE _ _ v1, hE]
        · have hne : t.cl.map clsD ≠ [] := by simpa using h0
          have p1 : ∀ st : St, papp st 9 112 (.slc 9 [] true) (.slc (nz 9 (t.cl.map clsD)) (t.cl.map clsD) false) = some (.row st.length t.cl.length 0 t.cl.length, st ++ [⟨true, 9, t.cl.map clsD, false⟩]) := fun st => by
            have := papp_first clsD st 9 9 112 t.cl false (by decide) (by omega) (by omega)
            rwa [bufD_ne _ _ _ hne, bufS_ne _ _ hne, List.length_map] at this
          have n1 : ∀ n, appN (.slc (nz 9 (t.cl.map clsD)) (t.cl.map clsD) false) n = some n := fun n => by
            cases hc : t.cl.map clsD with
            | nil => exact absurd hc hne
            | cons a l => rfl
          have p2 := fun lent st x => apR_one clsD 9 112 t.cl x lent true st (by decide) (by omega) (by omega)
          refine W_altR1 (by simp (disch := first | omega | decide) only [push_cast, ↓wF_free, ↓reduceIte, Nat.reduceEqDiff, Nat.reduceLT, Nat.reduceLeDiff, Nat.reduceAdd, Nat.reduceSub, Nat.reduceMul, Nat.reduceBEq, Int.reduceLT, Int.reduceLE, Int.reduceToNat, Int.reduceNeg, Int.reducePow, Int.reduceAdd, Int.reduceMul, Int.reduceSub, ↓Int.reduceNatCast', p1, p2, litC0, litC1, m1, m2, rr, nr_tar, n1, not_false_eq_true]) ?_
          refine W_altL ?_
          simp (disch := first | omega | decide) only [push_cast, ↓wF_free, ↓reduceIte, Nat.reduceEqDiff, Nat.reduceLT, Nat.reduceLeDiff, Nat.reduceAdd, Nat.reduceSub, Nat.reduceMul, Nat.reduceBEq, Int.reduceLT, Int.reduceLE, Int.reduceToNat, Int.reduceNeg, Int.reducePow, Int.reduceAdd, Int.reduceMul, Int.reduceSub, ↓Int.reduceNatCast', p1, p2, litC0, litC1, rr, m1, m2, g0, g1, g2, nr_tar, n1, keys_clsR, stE _ z16_length v0, stE _ z16_length v1, stE _ z16_length v2, ldE _ _ v0, ldE _ _ v1]
          by_cases hE : E = 0
          · subst hE
            cases B1 with
            | false => simp (disch := first | omega | decide) only [push_cast, ↓wF_free, ↓reduceIte, Nat.reduceEqDiff, Nat.reduceLT, Nat.reduceLeDiff, Nat.reduceAdd, Nat.reduceSub, Nat.reduceMul, Nat.reduceBEq, Int.reduceLT, Int.reduceLE, Int.reduceToNat, Int.reduceNeg, Int.reducePow, Int.reduceAdd, Int.reduceMul, Int.reduceSub, ↓Int.reduceNatCast', stE _ z16_length v0, stE _ z16_length v1, stE _ z16_length v2, ldE _ _ v0, ldE _ _ v1]
            | true =>
              obtain ⟨hB, hL⟩ := hm rfl
              subst hB
              rw [hL] at les
              simp (disch := first | omega | decide) only [push_cast, ↓wF_free, ↓reduceIte, Nat.reduceEqDiff, Nat.reduceLT, Nat.reduceLeDiff, Nat.reduceAdd, Nat.reduceSub, Nat.reduceMul, Nat.reduceBEq, Int.reduceLT, Int.reduceLE, Int.reduceToNat, Int.reduceNeg, Int.reducePow, Int.reduceAdd, Int.reduceMul, Int.reduceSub, ↓Int.reduceNatCast', stE _ z16_length v0, stE _ z16_length v1, stE _ z16_length v2, ldE _ _ v0, ldE _ _ v1, les]
          · simp (disch := first | omega | decide) only [push_cast, ↓wF_free, ↓reduceIte, Nat.reduceEqDiff, Nat.reduceLT, Nat.reduceLeDiff, Nat.reduceAdd, Nat.reduceSub, Nat.reduceMul, Nat.reduceBEq, Int.reduceLT, Int.reduceLE, Int.reduceToNat, Int.reduceNeg, Int.reducePow, Int.reduceAdd, Int.reduceMul, Int.reduceSub, ↓Int.reduceNatCast', stE _ z16_length v0, stE _ z16_length v1, stE _ z16_length v2, ldE _ _ v0, ldE _ _ v1, hE]
theorem law_TboxFewerGaps : Contract Try.prog GG 4 (lawSp [tyTar, .slc tyT, tyCls6]) := by
  refine lawC tr_wagonpoollaw19_TboxFewerGaps (T := tb [(10, sp_lsane), (15, sp_few), (16, sp_mktar), (17, sp_pgap), (18, sp_rless)] []) (tb_ok (all_cons c_lsane (all_cons c_few (all_cons c_mktar (all_cons c_pgap (all_cons c_rless all_nil))))) all_nil) ?_
  intro xs h
  obtain ⟨x0, xs, rfl, h0, h⟩ := hasAll_cons h
  obtain ⟨x1, xs, rfl, h1, h⟩ := hasAll_cons h
  obtain ⟨x2, xs, rfl, h2, h⟩ := hasAll_cons h
  obtain rfl := hasAll_nil h
  obtain ⟨y0, rfl, ya0⟩ := has_tar h0
  obtain ⟨y1, rfl, ya1⟩ := has_dom h1
  obtain ⟨y2, rfl, ya2⟩ := has_cls6 h2
  exact lw_TboxFewerGaps y0 ya0 y1 ya1 y2 ya2
end Go.Proofs.Ytgppecaeegaooaa.PI
