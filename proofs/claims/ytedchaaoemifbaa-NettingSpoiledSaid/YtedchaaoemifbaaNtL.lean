/-
  netting: order; conservation.
  Conditions: none.
-/
import Derived.Test.YtedchaaoemifbaaNtK
namespace Go.Proofs.Ytedchaaoemifbaa.PI
open Go
set_option linter.unusedSimpArgs false
set_option linter.unusedVariables false

theorem netOut_le (b : List Int) : (netOut b).1.length ≤ 336 := by
  by_cases h0 : (netOut b).2 = 0
  · obtain ⟨hc, _, e⟩ := netOut_ok h0
    rw [e]
    obtain ⟨h1, h2⟩ := chkE_ok hc
    have := pays_length h2
    omega
  · rw [netOut_bad h0]; simp
theorem pays_ord {b : List Int} (hc : chkE b = 0) (i : Nat) (hi : i + 1 < (pays b).length) : ((pays b).getD i default).f ≤ ((pays b).getD (i + 1) default).f ∧ ((pays b).getD i default).t ≤ ((pays b).getD (i + 1) default).t ∧
    ¬ (((pays b).getD (i + 1) default).f = ((pays b).getD i default).f ∧ ((pays b).getD (i + 1) default).t = ((pays b).getD i default).t) :=
  net_ord (b.length + 1) b 0 0 (netI0 b) (chkE_ok hc).2 (Nat.le_succ_of_le List.countP_le_length) i hi
theorem getD_mem {α : Type} [Inhabited α] {l : List α} {i : Nat} (h : i < l.length) : l.getD i default ∈ l := by
  rw [List.getD_eq_getElem?_getD, List.getElem?_eq_getElem h]
  exact List.getElem_mem h
theorem out_ord (b : List Int) (i : Nat) (hi : i < (netOut b).1.length) :
    (0 ≤ ((netOut b).1.getD i default).f ∧ ((netOut b).1.getD i default).f < b.length ∧ 0 ≤ ((netOut b).1.getD i default).t ∧ ((netOut b).1.getD i default).t < b.length ∧ 1 ≤ ((netOut b).1.getD i default).n) ∧
    (0 < i → ((netOut b).1.getD (i - 1) default).f ≤ ((netOut b).1.getD i default).f ∧ ((netOut b).1.getD (i - 1) default).t ≤ ((netOut b).1.getD i default).t ∧
      ¬ (((netOut b).1.getD i default).f = ((netOut b).1.getD (i - 1) default).f ∧ ((netOut b).1.getD i default).t = ((netOut b).1.getD (i - 1) default).t)) := by
  by_cases h0 : (netOut b).2 = 0
  · obtain ⟨hc, _, e⟩ := netOut_ok h0
    rw [e] at hi ⊢
    obtain ⟨_, h2, _, _⟩ := pays_all hc
    obtain ⟨a1, a2, a3, a4, a5, _, _, _⟩ := h2 _ (getD_mem hi)
    refine ⟨⟨a1, a2, a3, a4, a5⟩, fun hp => ?_⟩
    have := pays_ord hc (i - 1) (by omega)
    rwa [Nat.sub_add_cancel hp] at this
  · rw [netOut_bad h0] at hi
    simp at hi

set_option maxHeartbeats 4000000 in
set_option maxRecDepth 20000 in
theorem lw_NettingOrder (b : List Int) (hb : b.length ≤ maxLen) : @wW GG (tb [(9, sp_nsane), (15, sp_pnet)] []) F_wagonpoollaw34_NettingOrder.code (argF [.slc (nz 1 (b.map nI)) (b.map nI) false]) [] ⟨retQ F_wagonpoollaw34_NettingOrder.res (.bool true)⟩ := by
  have hm := maxLen_le
  have c1 := call_pnet b (by omega)
  have hord := out_ord b
  have hle := netOut_le b
  unfold F_wagonpoollaw34_NettingOrder
  simp (disch := first | omega | decide) only [push_cast, ↓wF_free, ↓reduceIte, Nat.reduceEqDiff, Nat.reduceLT, Nat.reduceLeDiff, Nat.reduceAdd, Nat.reduceSub, Nat.reduceMul, Nat.reduceBEq, Int.reduceLT, Int.reduceLE, Int.reduceToNat, Int.reduceNeg, Int.reducePow, Int.reduceAdd, Int.reduceMul, Int.reduceSub, ↓Int.reduceNatCast', call_nsane, c1]
  generalize (netOut b).1 = L at *
  refine W_while (fun i : Nat => [(0, .slc (nz 1 (b.map nI)) (b.map nI) false), (3, .slc (nz 3 (L.map payD)) (L.map payD) false), (5, .int .i64 (i : Int))]) (fun i => []) (fun i => i ≤ L.length) (fun i => L.length - i) 0 (by simp only [push_cast, ↓wF_free, ↓reduceIte, Nat.reduceEqDiff, Nat.reduceLT, Nat.reduceLeDiff, Nat.reduceAdd, Nat.reduceSub, Nat.reduceMul, Nat.reduceBEq, Int.reduceLT, Int.reduceLE, Int.reduceToNat, Int.reduceNeg, Int.reducePow, Int.reduceAdd, Int.reduceMul, Int.reduceSub, ↓Int.reduceNatCast'] <;> rfl) (Nat.zero_le _) ?_
  intro i hi
  unfold F_wagonpoollaw34_NettingOrder_L0
  simp (disch := first | omega | decide) only [push_cast, ↓wF_free, ↓reduceIte, Nat.reduceEqDiff, Nat.reduceLT, Nat.reduceLeDiff, Nat.reduceAdd, Nat.reduceSub, Nat.reduceMul, Nat.reduceBEq, Int.reduceLT, Int.reduceLE, Int.reduceToNat, Int.reduceNeg, Int.reducePow, Int.reduceAdd, Int.reduceMul, Int.reduceSub, ↓Int.reduceNatCast']
  refine ifD_split (fun h2 => ?_) (fun h2 => ?_)
  · have hlt : i < L.length := by omega
    obtain ⟨⟨a1, a2, a3, a4, a5⟩, hp⟩ := hord i hlt
    have hxx := idxS_nz (st := []) 3 payD L false .i64 (i : Int) (by omega) (by omega)
    rw [Int.toNat_natCast] at hxx
    generalize hP : L.getD i default = P at *
    have b1 : ¬ P.n < 1 := by omega
    have b2 : ¬ P.f < 0 := by omega
    have b3 : ¬ (b.length : Int) ≤ P.f := by omega
    have b4 : ¬ P.t < 0 := by omega
    have b5 : ¬ (b.length : Int) ≤ P.t := by omega
    simp (disch := first | omega | decide) only [push_cast, ↓wF_free, ↓reduceIte, Nat.reduceEqDiff, Nat.reduceLT, Nat.reduceLeDiff, Nat.reduceAdd, Nat.reduceSub, Nat.reduceMul, Nat.reduceBEq, Int.reduceLT, Int.reduceLE, Int.reduceToNat, Int.reduceNeg, Int.reducePow, Int.reduceAdd, Int.reduceMul, Int.reduceSub, ↓Int.reduceNatCast', hxx, pld_f, pld_t, pld_n, b1, b2, b3, b4, b5]
    by_cases h0 : 0 < i
    · obtain ⟨d1, d2, d3⟩ := hp h0
      have h0' : (0 : Int) < (i : Int) := by omega
      have hlt2 : i - 1 < L.length := by omega
      have hxy := idxS_nz (st := []) 3 payD L false .i64 ((i : Int) - 1) (by omega) (by omega)
      rw [show ((i : Int) - 1).toNat = i - 1 by omega] at hxy
      generalize hQ : L.getD (i - 1) default = Q at *
      have e1 : ¬ P.f < Q.f := by omega
      have e2 : ¬ P.t < Q.t := by omega
      have hfin : (decide (P.f = Q.f) && decide (P.t = Q.t)) = false := by simpa using d3
      by_cases e3 : P.f = Q.f
      · have e4 : ¬ P.t = Q.t := fun h => d3 ⟨e3, h⟩
        have e3' : decide (P.f = Q.f) = true := decide_eq_true e3
        simp (disch := first | omega | decide) only [push_cast, ↓wF_free, ↓reduceIte, Nat.reduceEqDiff, Nat.reduceLT, Nat.reduceLeDiff, Nat.reduceAdd, Nat.reduceSub, Nat.reduceMul, Nat.reduceBEq, Int.reduceLT, Int.reduceLE, Int.reduceToNat, Int.reduceNeg, Int.reducePow, Int.reduceAdd, Int.reduceMul, Int.reduceSub, ↓Int.reduceNatCast', h0', sub_i, hxx, hxy, pld_f, pld_t, pld_n, e1, e2, e3', e4, add_i]
        refine next_head (i + 1) (by omega) (by omega) ?_
        rfl
      · simp (disch := first | omega | decide) only [push_cast, ↓wF_free, ↓reduceIte, Nat.reduceEqDiff, Nat.reduceLT, Nat.reduceLeDiff, Nat.reduceAdd, Nat.reduceSub, Nat.reduceMul, Nat.reduceBEq, Int.reduceLT, Int.reduceLE, Int.reduceToNat, Int.reduceNeg, Int.reducePow, Int.reduceAdd, Int.reduceMul, Int.reduceSub, ↓Int.reduceNatCast', h0', sub_i, hxx, hxy, pld_f, pld_t, pld_n, e1, e2, e3, add_i]
        refine next_head (i + 1) (by omega) (by omega) ?_
        rfl
    · have h0' : ¬ (0 : Int) < (i : Int) := by omega
      simp (disch := first | omega | decide) only [push_cast, ↓wF_free, ↓reduceIte, Nat.reduceEqDiff, Nat.reduceLT, Nat.reduceLeDiff, Nat.reduceAdd, Nat.reduceSub, Nat.reduceMul, Nat.reduceBEq, Int.reduceLT, Int.reduceLE, Int.reduceToNat, Int.reduceNeg, Int.reducePow, Int.reduceAdd, Int.reduceMul, Int.reduceSub, ↓Int.reduceNatCast', h0', add_i]
      refine next_head (i + 1) (by omega) (by omega) ?_
      rfl
  · simp (disch := first | omega | decide) only [push_cast, ↓wF_free, ↓reduceIte, Nat.reduceEqDiff, Nat.reduceLT, Nat.reduceLeDiff, Nat.reduceAdd, Nat.reduceSub, Nat.reduceMul, Nat.reduceBEq, Int.reduceLT, Int.reduceLE, Int.reduceToNat, Int.reduceNeg, Int.reducePow, Int.reduceAdd, Int.reduceMul, Int.reduceSub, ↓Int.reduceNatCast']
theorem law_NettingOrder : Contract Try.prog GG 6 (lawSp [.slc (.int .i64)]) := by
  refine lawC tr_wagonpoollaw34_NettingOrder (T := tb [(9, sp_nsane), (15, sp_pnet)] []) (tb_ok (all_cons c_nsane (all_cons c_pnet all_nil)) all_nil) ?_
  intro xs h
  obtain ⟨x0, xs, rfl, h0, h⟩ := hasAll_cons h
  obtain rfl := hasAll_nil h
  obtain ⟨y0, rfl, ya0⟩ := has_ints h0
  exact lw_NettingOrder y0 ya0

/-! ### Conservation -/
theorem settleL_nil {b : List Int} {l : List Pay} (h : (settleL b l).2 ≠ 0) : (settleL b l).1 = [] := by
  unfold settleL at h ⊢
  by_cases hc : chkE b = 0
  · rw [if_neg (by rw [hc]; simp)] at h ⊢
    exact settle_nil_of l b h
  · rw [if_pos hc]
theorem settleL_bad {b : List Int} {T R : List Pay} (h : (settleL b T).2 ≠ 0) : settleL b (T ++ R) = settleL b T := by
  unfold settleL at h ⊢
  by_cases hc : chkE b = 0
  · rw [if_neg (by rw [hc]; simp)] at h ⊢
    rw [if_neg (by rw [hc]; simp), settle_append, if_neg h]
  · rw [if_pos hc, if_pos hc]
theorem settleL_chk {b : List Int} {T : List Pay} (h : (settleL b T).2 = 0) : chkE (settleL b T).1 = 0 := by
  obtain ⟨hc, hse⟩ := settleL_ok h
  obtain ⟨h1, h2⟩ := chkE_ok hc
  exact chkE_of (by rw [(settle_val T b _ hse).1]; exact h1) (settle_inR T b _ h2 hse)
theorem settleL_good {b : List Int} {T R : List Pay} (h : (settleL b T).2 = 0) : settleL (settleL b T).1 R = settleL b (T ++ R) := by
  have hc2 := settleL_chk h
  obtain ⟨hc, hse⟩ := settleL_ok h
  generalize settleL b T = y at *
  unfold settleL
  rw [if_neg (by rw [hc2]; simp), if_neg (by rw [hc]; simp), settle_append, hse]
  simp
theorem settleL_le {b : List Int} {l : List Pay} : (settleL b l).1.length ≤ 336 := by
  by_cases h0 : (settleL b l).2 = 0
  · exact (chkE_ok (settleL_chk h0)).1
  · rw [settleL_nil h0]; simp
theorem settleL_sum {b : List Int} {l : List Pay} (h : (settleL b l).2 = 0) : sumE (settleL b l).1 = sumE b ∧ (settleL b l).1.length = b.length := by
  have hc2 := settleL_chk h
  obtain ⟨hc, hse⟩ := settleL_ok h
  obtain ⟨h1, h2⟩ := chkE_ok hc
  obtain ⟨_, h3⟩ := chkE_ok hc2
  obtain ⟨a1, a2, _⟩ := settle_val l b _ hse
  refine ⟨?_, a1⟩
  rw [sumE_all (fun j hj => h3 _ (at_mem hj)), sumE_all (fun j hj => h2 _ (at_mem hj)), a2]

set_option maxHeartbeats 4000000 in
set_option maxRecDepth 20000 in
theorem lw_NettingConserves (b : List Int) (hb : b.length ≤ maxLen) (l : List Pay) (hl : l.length ≤ maxLen) (k : Int) (hk1 : -9223372036854775808 ≤ k) (hk2 : k < 9223372036854775808) : @wW GG (tb [(9, sp_nsane), (10, sp_psettle), (11, sp_msum), (12, sp_isame)] []) F_wagonpoollaw34_NettingConserves.code (argF [.slc (nz 1 (b.map nI)) (b.map nI) false, .slc (nz 3 (l.map payD)) (l.map payD) false, .int .i64 k]) [] ⟨retQ F_wagonpoollaw34_NettingConserves.res (.bool true)⟩ := by
  have hm := maxLen_le
  have c1 := call_psettle b l (by omega)
  have cs1 := call_msum b (by omega)
  have hle := settleL_le (b := b) (l := l)
  have hnz : (nz 3 (l.map payD) = 3 ∨ l.map payD = []) ∧ 3 ≠ 0 := ⟨nz_or _ _, by decide⟩
  have c2 := call_psettle b (l.take k.toNat) (by simp; omega)
  have c3 := call_psettle (settleL b (l.take k.toNat)).1 (l.drop k.toNat) (by simp; omega)
  have c4 := call_isame (settleL b l).1 (settleL b l).1 (by omega)
  rw [decide_eq_true rfl] at c4
  have hg := settleL_good (b := b) (T := l.take k.toNat) (R := l.drop k.toNat)
  have hbd := settleL_bad (b := b) (T := l.take k.toNat) (R := l.drop k.toNat)
  rw [List.take_append_drop] at hg hbd
  have hn := settleL_nil (b := b) (l := l)
  unfold F_wagonpoollaw34_NettingConserves
  by_cases h0 : (settleL b l).2 = 0
  · obtain ⟨hs1, hs2⟩ := settleL_sum h0
    have cs2 := call_msum (settleL b l).1 (by omega)
    rw [hs1] at cs2
    have ht : (settleL b (l.take k.toNat)).2 = 0 := Classical.byContradiction fun h => by
      have := hbd h
      rw [this] at h0
      exact h h0
    have hg := hg ht
    rw [hg] at c3
    by_cases a1 : k < 0
    · simp (disch := first | omega | decide) only [push_cast, ↓wF_free, ↓reduceIte, Nat.reduceEqDiff, Nat.reduceLT, Nat.reduceLeDiff, Nat.reduceAdd, Nat.reduceSub, Nat.reduceMul, Nat.reduceBEq, Int.reduceLT, Int.reduceLE, Int.reduceToNat, Int.reduceNeg, Int.reducePow, Int.reduceAdd, Int.reduceMul, Int.reduceSub, ↓Int.reduceNatCast', call_nsane, c1, h0, cs1, cs2, hs2, a1]
    · by_cases a2 : (l.length : Int) < k
      · simp (disch := first | omega | decide) only [push_cast, ↓wF_free, ↓reduceIte, Nat.reduceEqDiff, Nat.reduceLT, Nat.reduceLeDiff, Nat.reduceAdd, Nat.reduceSub, Nat.reduceMul, Nat.reduceBEq, Int.reduceLT, Int.reduceLE, Int.reduceToNat, Int.reduceNeg, Int.reducePow, Int.reduceAdd, Int.reduceMul, Int.reduceSub, ↓Int.reduceNatCast', call_nsane, c1, h0, cs1, cs2, hs2, a1, a2]
      · simp (disch := first | omega | decide) only [push_cast, ↓wF_free, ↓reduceIte, Nat.reduceEqDiff, Nat.reduceLT, Nat.reduceLeDiff, Nat.reduceAdd, Nat.reduceSub, Nat.reduceMul, Nat.reduceBEq, Int.reduceLT, Int.reduceLE, Int.reduceToNat, Int.reduceNeg, Int.reducePow, Int.reduceAdd, Int.reduceMul, Int.reduceSub, ↓Int.reduceNatCast', call_nsane, c1, h0, cs1, cs2, hs2, a1, a2, slc_to _ _ _ _ _ _ _ _ hnz, c2, ht, slc_from _ _ _ _ _ _ _ _ hnz, c3, c4]
  · by_cases a1 : k < 0
    · simp (disch := first | omega | decide) only [push_cast, ↓wF_free, ↓reduceIte, Nat.reduceEqDiff, Nat.reduceLT, Nat.reduceLeDiff, Nat.reduceAdd, Nat.reduceSub, Nat.reduceMul, Nat.reduceBEq, Int.reduceLT, Int.reduceLE, Int.reduceToNat, Int.reduceNeg, Int.reducePow, Int.reduceAdd, Int.reduceMul, Int.reduceSub, ↓Int.reduceNatCast', call_nsane, c1, h0, a1]
    · by_cases a2 : (l.length : Int) < k
      · simp (disch := first | omega | decide) only [push_cast, ↓wF_free, ↓reduceIte, Nat.reduceEqDiff, Nat.reduceLT, Nat.reduceLeDiff, Nat.reduceAdd, Nat.reduceSub, Nat.reduceMul, Nat.reduceBEq, Int.reduceLT, Int.reduceLE, Int.reduceToNat, Int.reduceNeg, Int.reducePow, Int.reduceAdd, Int.reduceMul, Int.reduceSub, ↓Int.reduceNatCast', call_nsane, c1, h0, a1, a2]
      · by_cases ht : (settleL b (l.take k.toNat)).2 = 0
        · have hg := hg ht
          rw [hg] at c3
          simp (disch := first | omega | decide) only [push_cast, ↓wF_free, ↓reduceIte, Nat.reduceEqDiff, Nat.reduceLT, Nat.reduceLeDiff, Nat.reduceAdd, Nat.reduceSub, Nat.reduceMul, Nat.reduceBEq, Int.reduceLT, Int.reduceLE, Int.reduceToNat, Int.reduceNeg, Int.reducePow, Int.reduceAdd, Int.reduceMul, Int.reduceSub, ↓Int.reduceNatCast', call_nsane, c1, h0, a1, a2, slc_to _ _ _ _ _ _ _ _ hnz, c2, ht, slc_from _ _ _ _ _ _ _ _ hnz, c3, c4]
        · have hn := hn h0
          have hb := hbd ht
          rw [hb] at hn c1
          rw [hn] at c1
          simp (disch := first | omega | decide) only [push_cast, ↓wF_free, ↓reduceIte, Nat.reduceEqDiff, Nat.reduceLT, Nat.reduceLeDiff, Nat.reduceAdd, Nat.reduceSub, Nat.reduceMul, Nat.reduceBEq, Int.reduceLT, Int.reduceLE, Int.reduceToNat, Int.reduceNeg, Int.reducePow, Int.reduceAdd, Int.reduceMul, Int.reduceSub, ↓Int.reduceNatCast', call_nsane, c1, h0, a1, a2, slc_to _ _ _ _ _ _ _ _ hnz, c2, ht, List.length_nil]
theorem law_NettingConserves : Contract Try.prog GG 3 (lawSp [.slc (.int .i64), .slc (.agg [.int .i64, .int .i64, .int .i64]), .int .i64]) := by
  refine lawC tr_wagonpoollaw34_NettingConserves (T := tb [(9, sp_nsane), (10, sp_psettle), (11, sp_msum), (12, sp_isame)] []) (tb_ok (all_cons c_nsane (all_cons c_psettle (all_cons c_msum (all_cons c_isame all_nil)))) all_nil) ?_
  intro xs h
  obtain ⟨x0, xs, rfl, h0, h⟩ := hasAll_cons h
  obtain ⟨x1, xs, rfl, h1, h⟩ := hasAll_cons h
  obtain ⟨x2, xs, rfl, h2, h⟩ := hasAll_cons h
  obtain rfl := hasAll_nil h
  obtain ⟨y0, rfl, ya0⟩ := has_ints h0
  obtain ⟨y1, rfl, ya1⟩ := has_pays h1
  obtain ⟨y2, rfl, ya2, yb2⟩ := has_i64 h2
  exact lw_NettingConserves y0 ya0 y1 ya1 y2 ya2 yb2
end Go.Proofs.Ytedchaaoemifbaa.PI
