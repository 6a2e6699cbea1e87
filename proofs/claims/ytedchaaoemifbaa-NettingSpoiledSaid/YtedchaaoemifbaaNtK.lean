/-
  netting: the reference agrees; order; conservation.
  Conditions: none.
-/
import Derived.Test.YtedchaaoemifbaaNtJ
namespace Go.Proofs.Ytedchaaoemifbaa.PI
open Go
set_option linter.unusedSimpArgs false
set_option linter.unusedVariables false

theorem has_ints {d : D} (h : Has (.slc (.int .i64)) d) : ∃ l : List Int, d = .slc (nz 1 (l.map nI)) (l.map nI) false ∧ l.length ≤ maxLen :=
  has_slc (f := nI) (fun x hx => by obtain ⟨n, rfl, _, _⟩ := has_i64 hx; exact ⟨n, rfl⟩) h
theorem has_payD {d : D} (h : Has (.agg [.int .i64, .int .i64, .int .i64]) d) : ∃ p, d = payD p := by
  obtain ⟨x, y, z, rfl, h1, h2, h3⟩ := has_agg3 h
  obtain ⟨a, rfl, _, _⟩ := has_i64 h1
  obtain ⟨b, rfl, _, _⟩ := has_i64 h2
  obtain ⟨c, rfl, _, _⟩ := has_i64 h3
  exact ⟨⟨a, b, c⟩, rfl⟩
theorem has_pays {d : D} (h : Has (.slc (.agg [.int .i64, .int .i64, .int .i64])) d) : ∃ l : List Pay, d = .slc (nz 3 (l.map payD)) (l.map payD) false ∧ l.length ≤ maxLen :=
  has_slc (f := payD) (fun x hx => has_payD hx) h
theorem maxLen_le : maxLen ≤ 9223372036854775807 := by decide

/-! ### Order -/
def pl (k : Nat) (x : List Int) (f t : Nat) : List Pay := (netF k x f t).map fun q => q.1
theorem net_ord : ∀ (k : Nat) (x : List Int) (f t : Nat), NetI x f t → (∀ v ∈ x, inR v) → cnt x ≤ k → ∀ i, i + 1 < (pl k x f t).length →
    ((pl k x f t).getD i default).f ≤ ((pl k x f t).getD (i + 1) default).f ∧ ((pl k x f t).getD i default).t ≤ ((pl k x f t).getD (i + 1) default).t ∧
    ¬ (((pl k x f t).getD (i + 1) default).f = ((pl k x f t).getD i default).f ∧ ((pl k x f t).getD (i + 1) default).t = ((pl k x f t).getD i default).t)
  | 0, x, f, t, _, _, _, i, hi => by simp [pl, netF] at hi
  | k + 1, x, f, t, h, hx, hc, i, hi => by
    by_cases hs : nx neg' x f < x.length ∧ nx pos' x t < x.length
    · have hp := net_pay h hs.1 hs.2
      have hn := net_next h hs.1 hs.2
      obtain ⟨c1, c2, _⟩ := net_cnt hp
      obtain ⟨n1, n2, n3, n4⟩ := hp.n
      unfold pl at hi ⊢
      rw [netF_go hs] at hi ⊢
      have hx' : ∀ v ∈ movP x (payF x (nx neg' x f) (nx pos' x t)), inR v := fun v hv => by
        have r1 := hx _ (at_mem hp.a1)
        have r2 := hx _ (at_mem hp.a2)
        unfold inR at r1 r2
        obtain ⟨j, hj, rfl⟩ := mem_at hv
        rw [hp.at]
        split
        · unfold inR; omega
        · split
          · unfold inR; omega
          · exact hx _ (at_mem (by rw [movP_length] at hj; exact hj))
      have ih := net_ord k _ _ _ hn hx' (by omega)
      unfold pl at ih
      have ha := (net_all k _ _ _ hn hx' (by omega)).2.2.2.1
      generalize hF : nx neg' x f = F at *
      generalize hT : nx pos' x t = T' at *
      generalize hL : netF k (movP x (payF x F T')) F T' = L at *
      cases i with
      | succ i =>
        simp only [List.map_cons, List.length_cons] at hi
        have := ih i (by omega)
        simpa [List.getD_eq_getElem?_getD] using this
      | zero =>
        cases L with
        | nil => simp at hi
        | cons q L =>
          obtain ⟨a1, a2, a3, a4, a5, a6, a7, a8, a9, a10⟩ := ha q (by simp)
          have e1 : (payF x F T').f = (F : Int) := rfl
          have e2 : (payF x F T').t = (T' : Int) := rfl
          simp only [List.map_cons, List.getD_cons_zero, List.getD_cons_succ, e1, e2]
          refine ⟨a9, a10, fun ⟨w1, w2⟩ => ?_⟩
          have u1 : q.1.f.toNat = F := by omega
          have u2 : q.1.t.toNat = T' := by omega
          rw [u1] at a7
          rw [u2] at a8
          rcases c2 with c2 | c2 <;> omega
    · unfold pl at hi
      rw [netF_stop hs] at hi
      simp at hi
theorem net_len : ∀ (k : Nat) (x : List Int) (f t : Nat), NetI x f t → cnt x ≤ k → (netF k x f t).length < cnt x ∨ (cnt x = 0 ∧ (netF k x f t).length = 0)
  | 0, x, f, t, h, hc => by simp [netF]; omega
  | k + 1, x, f, t, h, hc => by
    by_cases hs : nx neg' x f < x.length ∧ nx pos' x t < x.length
    · have hp := net_pay h hs.1 hs.2
      have hn := net_next h hs.1 hs.2
      obtain ⟨c1, c2, c3⟩ := net_cnt hp
      rw [netF_go hs]
      have := net_len k _ _ _ hn (by omega)
      rw [List.length_cons]
      omega
    · rw [netF_stop hs]; simp; omega
theorem netOut_ok {b : List Int} (h : (netOut b).2 = 0) : chkE b = 0 ∧ sumI b = 0 ∧ (netOut b).1 = pays b := by
  unfold netOut at h ⊢
  by_cases hc : chkE b = 0
  · rw [if_neg (by rw [hc]; simp)] at h ⊢
    by_cases h0 : sumI b = 0
    · rw [if_pos h0]; exact ⟨hc, h0, rfl⟩
    · rw [if_neg h0] at h; simp at h
  · rw [if_pos hc] at h
    exact absurd h hc
theorem netOut_bad {b : List Int} (h : (netOut b).2 ≠ 0) : (netOut b).1 = [] := by
  unfold netOut at h ⊢
  by_cases hc : chkE b = 0
  · rw [if_neg (by rw [hc]; simp)] at h ⊢
    by_cases h0 : sumI b = 0
    · rw [if_pos h0] at h; simp at h
    · rw [if_neg h0]
  · rw [if_pos hc]
theorem pays_all {b : List Int} (hc : chkE b = 0) : settleF b (pays b) = (netEnd (paysX b) b, 0) ∧ (∀ p ∈ pays b, 0 ≤ p.f ∧ p.f < b.length ∧ 0 ≤ p.t ∧ p.t < b.length ∧ 1 ≤ p.n ∧ p.n ≤ 9007199254740992 ∧ at' b p.f.toNat < 0 ∧ 0 < at' b p.t.toNat) ∧
    (sumI b = 0 → ∀ v ∈ netEnd (paysX b) b, v = 0) ∧ (netEnd (paysX b) b).length = b.length := by
  obtain ⟨hl, hin⟩ := chkE_ok hc
  obtain ⟨h1, h2, h3, h4, h5, h6⟩ := net_all (b.length + 1) b 0 0 (netI0 b) hin (Nat.le_succ_of_le List.countP_le_length)
  refine ⟨h1, fun p hp => ?_, h5, h3⟩
  unfold pays at hp
  rw [List.mem_map] at hp
  obtain ⟨q, hq, rfl⟩ := hp
  obtain ⟨a1, a2, a3, a4, a5, a6, a7, a8, _, _⟩ := h4 q hq
  exact ⟨a1, a2, a3, a4, a5, a6, a7, a8⟩

set_option maxHeartbeats 4000000 in
set_option maxRecDepth 20000 in
theorem lw_NettingMatchesReference (b : List Int) (hb : b.length ≤ maxLen) (l : List Pay) (hl : l.length ≤ maxLen) : @wW GG (tb [(9, sp_nsane), (15, sp_pnet), (16, sp_rnet), (10, sp_psettle), (17, sp_rsettle), (18, sp_psame), (12, sp_isame), (13, sp_pcheck2), (19, sp_rcheck)] []) F_wagonpoollaw34_NettingMatchesReference.code (argF [.slc (nz 1 (b.map nI)) (b.map nI) false, .slc (nz 3 (l.map payD)) (l.map payD) false]) [] ⟨retQ F_wagonpoollaw34_NettingMatchesReference.res (.bool true)⟩ := by
  have hm := maxLen_le
  have hsl : ∀ l, (settleL b l).1.length ≤ 9223372036854775807 := fun l => by
    by_cases h0 : (settleL b l).2 = 0
    · obtain ⟨hc, hse⟩ := settleL_ok h0
      have := (settle_val l b _ hse).1
      have := (chkE_ok hc).1
      omega
    · have : (settleL b l).1 = [] := by
        unfold settleL at h0 ⊢
        by_cases hc : chkE b = 0
        · rw [if_neg (by rw [hc]; simp)] at h0 ⊢
          exact settle_nil_of l b h0
        · rw [if_pos hc]
      rw [this]; simp
  have hnl : (netOut b).1.length ≤ 9223372036854775807 := by
    by_cases h0 : (netOut b).2 = 0
    · obtain ⟨hc, _, e⟩ := netOut_ok h0
      rw [e]
      have := pays_length (chkE_ok hc).2
      omega
    · rw [netOut_bad h0]; simp
  have c1 := call_pnet b (by omega)
  have c2 := call_rnet b (by omega)
  have c3 := call_psettle b l (by omega)
  have c4 := call_rsettle b l (by omega)
  have c5 := call_pcheck2 b l (by omega)
  have c6 := call_rcheck b l (by omega)
  have c7 := call_psame (netOut b).1 (netOut b).1 hnl
  have c8 := call_isame (settleL b l).1 (settleL b l).1 (hsl l)
  rw [decide_eq_true rfl] at c7 c8
  unfold F_wagonpoollaw34_NettingMatchesReference
  simp (disch := first | omega | decide) only [push_cast, ↓wF_free, ↓reduceIte, Nat.reduceEqDiff, Nat.reduceLT, Nat.reduceLeDiff, Nat.reduceAdd, Nat.reduceSub, Nat.reduceMul, Nat.reduceBEq, Int.reduceLT, Int.reduceLE, Int.reduceToNat, Int.reduceNeg, Int.reducePow, Int.reduceAdd, Int.reduceMul, Int.reduceSub, ↓Int.reduceNatCast', call_nsane, c1, c2, c3, c4, c5, c6, c7, c8]
theorem law_NettingMatchesReference : Contract Try.prog GG 5 (lawSp [.slc (.int .i64), .slc (.agg [.int .i64, .int .i64, .int .i64])]) := by
  refine lawC tr_wagonpoollaw34_NettingMatchesReference (T := tb [(9, sp_nsane), (15, sp_pnet), (16, sp_rnet), (10, sp_psettle), (17, sp_rsettle), (18, sp_psame), (12, sp_isame), (13, sp_pcheck2), (19, sp_rcheck)] []) (tb_ok (all_cons c_nsane (all_cons c_pnet (all_cons c_rnet (all_cons c_psettle (all_cons c_rsettle (all_cons c_psame (all_cons c_isame (all_cons c_pcheck2 (all_cons c_rcheck all_nil))))))))) all_nil) ?_
  intro xs h
  obtain ⟨x0, xs, rfl, h0, h⟩ := hasAll_cons h
  obtain ⟨x1, xs, rfl, h1, h⟩ := hasAll_cons h
  obtain rfl := hasAll_nil h
  obtain ⟨y0, rfl, ya0⟩ := has_ints h0
  obtain ⟨y1, rfl, ya1⟩ := has_pays h1
  exact lw_NettingMatchesReference y0 ya0 y1 ya1
end Go.Proofs.Ytedchaaoemifbaa.PI
