/-
  bisect: rounds over two lists; the laws of the order in a round and of refusals.
  Conditions: none; these are lemmas.
-/
import Derived.Test.YtokhnpjchpmndaaDoorBsE
namespace Go.Proofs.YtokhnpjchpmndaaDoor.PI
open Go
set_option linter.unusedSimpArgs false
set_option linter.unusedVariables false

theorem disc_first {x : Bis} {p : Int} {l r : Dig} (hv : bvalid x = true) (hp : p = 0 ∨ p = 1) (hl : x.l ≠ 0) (ht : toldB x p = false) (hr : parentL l r = nodeB x p) (ho : toldB x (1 - p) = false) : discL x p l r = setB x p l r ∧ discE x p l r = 0 := by
  have h1 : ¬ (x.l = 0 ∨ toldB x p = true) := by rw [ht]; intro h; rcases h with h | h; exact hl h; cases h
  refine ⟨?_, ?_⟩
  · unfold discL
    rw [if_pos ⟨hv, hp⟩, if_neg h1, if_pos hr, ho]
    rfl
  · unfold discE
    rw [if_pos ⟨hv, hp⟩, if_neg h1, if_pos hr]
theorem disc_second {x : Bis} {p : Int} {l r : Dig} (hv : bvalid x = true) (hp : p = 0 ∨ p = 1) (hl : x.l ≠ 0) (ht : toldB x p = false) (hr : parentL l r = nodeB x p) (ho : toldB x (1 - p) = true) : discL x p l r = stepB (setB x p l r) ∧ discE x p l r = 0 := by
  have h1 : ¬ (x.l = 0 ∨ toldB x p = true) := by rw [ht]; intro h; rcases h with h | h; exact hl h; cases h
  refine ⟨?_, ?_⟩
  · unfold discL
    rw [if_pos ⟨hv, hp⟩, if_neg h1, if_pos hr, if_pos ho]
  · unfold discE
    rw [if_pos ⟨hv, hp⟩, if_neg h1, if_pos hr]
theorem disc_told {x : Bis} {p : Int} {l r : Dig} (hv : bvalid x = true) (hp : p = 0 ∨ p = 1) (h : x.l = 0 ∨ toldB x p = true) : discL x p l r = zeroBis ∧ discE x p l r = 380 := by
  refine ⟨?_, ?_⟩
  · unfold discL
    rw [if_pos ⟨hv, hp⟩, if_pos h]
  · unfold discE
    rw [if_pos ⟨hv, hp⟩, if_pos h]
theorem disc_wrong {x : Bis} {p : Int} {l r : Dig} (hv : bvalid x = true) (hp : p = 0 ∨ p = 1) (hl : x.l ≠ 0) (ht : toldB x p = false) (hr : parentL l r ≠ nodeB x p) : discE x p l r = 381 := by
  have h1 : ¬ (x.l = 0 ∨ toldB x p = true) := by rw [ht]; intro h; rcases h with h | h; exact hl h; cases h
  unfold discE
  rw [if_pos ⟨hv, hp⟩, if_neg h1, if_neg hr]
theorem disc_party {x : Bis} {p : Int} {l r : Dig} (hp : ¬ (p = 0 ∨ p = 1)) : discE x p l r = 1 := by
  unfold discE
  rw [if_neg fun h => hp h.2]

theorem stAt_valid (a b : List Dig) {h lv i : Int} (h0 : 0 ≤ lv) (h1 : lv ≤ h) (h2 : h ≤ 16) (i0 : 0 ≤ i) (i1 : i < 2 ^ (h - lv).toNat) : bvalid (stAt a b h lv i) = true :=
  bvalid_of (x := stAt a b h lv i) (by show 0 ≤ h; omega) h2 h0 h1 i0 i1 rfl
theorem bvalid_set (x : Bis) (p : Int) (l r : Dig) : bvalid (setB x p l r) = bvalid x := by
  unfold setB
  split <;> rfl
def nextI (a b : List Dig) (lv i : Int) : Int := if nodeL a (lv - 1).toNat (2 * i) = nodeL b (lv - 1).toNat (2 * i) then 2 * i + 1 else 2 * i
theorem nextI_range (a b : List Dig) {h lv i : Int} (h0 : 1 ≤ lv) (h1 : lv ≤ h) (i0 : 0 ≤ i) (i1 : i < 2 ^ (h - lv).toNat) : 0 ≤ nextI a b lv i ∧ nextI a b lv i < 2 ^ (h - (lv - 1)).toNat := by
  have e : (h - (lv - 1)).toNat = (h - lv).toNat + 1 := by omega
  rw [e, Int.pow_succ]
  unfold nextI
  split <;> omega
theorem ans_st (a b s : List Dig) {h lv i : Int} (hs : (s.length : Int) ≤ 65536) (h0 : 1 ≤ lv) (h1 : lv ≤ h) (h2 : h ≤ 16) (i0 : 0 ≤ i) (i1 : i < 2 ^ (h - lv).toNat) :
    ansE s (stAt a b h lv i) = 0 ∧ ansL s (stAt a b h lv i) = nodeL s (lv - 1).toNat (2 * i) ∧ ansR s (stAt a b h lv i) = nodeL s (lv - 1).toNat (2 * i + 1) := by
  have hv := stAt_valid a b (by omega) h1 h2 i0 i1
  have e : ansE s (stAt a b h lv i) = 0 := by
    unfold ansE
    rw [if_pos hv, if_neg (by omega), if_neg (show ¬ (stAt a b h lv i).l = 0 from fun e => by have : lv = 0 := e; omega)]
  have hp := pow_mono (a := (h - lv).toNat) (b := (16 - lv).toNat) (by omega)
  have e2 : (16 - (lv - 1)).toNat = (16 - lv).toNat + 1 := by omega
  refine ⟨e, ?_, ?_⟩
  · unfold ansL
    rw [if_pos e]
    exact nodeR_in s (lv - 1) (2 * i) hs (by omega) (by omega) (by omega) (by rw [e2, Int.pow_succ]; omega)
  · unfold ansR
    rw [if_pos e]
    exact nodeR_in s (lv - 1) (2 * i + 1) hs (by omega) (by omega) (by omega) (by rw [e2, Int.pow_succ]; omega)
theorem par_st (s : List Dig) {lv i : Int} (h0 : 1 ≤ lv) (i0 : 0 ≤ i) : parentL (nodeL s (lv - 1).toNat (2 * i)) (nodeL s (lv - 1).toNat (2 * i + 1)) = nodeL s lv.toNat i := by
  have e : lv.toNat = (lv - 1).toNat + 1 := by omega
  rw [e, node_succ _ _ _ i0]
/-- two disclosures, whoever is ahead -/
theorem two_disc (a b : List Dig) {h lv i p : Int} (hp : p = 0 ∨ p = 1) (h0 : 1 ≤ lv) (h1 : lv ≤ h) (h2 : h ≤ 16) (i0 : 0 ≤ i) (i1 : i < 2 ^ (h - lv).toNat) :
    let la := if p = 0 then a else b
    let lb := if p = 0 then b else a
    let x := stAt a b h lv i
    let y := setB x p (nodeL la (lv - 1).toNat (2 * i)) (nodeL la (lv - 1).toNat (2 * i + 1))
    (discL x p (nodeL la (lv - 1).toNat (2 * i)) (nodeL la (lv - 1).toNat (2 * i + 1)) = y ∧ discE x p (nodeL la (lv - 1).toNat (2 * i)) (nodeL la (lv - 1).toNat (2 * i + 1)) = 0) ∧
    (discL y (1 - p) (nodeL lb (lv - 1).toNat (2 * i)) (nodeL lb (lv - 1).toNat (2 * i + 1)) = stAt a b h (lv - 1) (nextI a b lv i) ∧ discE y (1 - p) (nodeL lb (lv - 1).toNat (2 * i)) (nodeL lb (lv - 1).toNat (2 * i + 1)) = 0) := by
  have hv := stAt_valid a b (by omega) h1 h2 i0 i1
  have pa := par_st a (lv := lv) (i := i) h0 i0
  have pb := par_st b (lv := lv) (i := i) h0 i0
  have hl : lv ≠ 0 := by omega
  have en : h - lv + 1 = h - (lv - 1) := by omega
  rcases hp with rfl | rfl
  · refine ⟨disc_first hv (.inl rfl) hl rfl pa rfl, ?_⟩
    have hv2 : bvalid (setB (stAt a b h lv i) 0 (nodeL a (lv - 1).toNat (2 * i)) (nodeL a (lv - 1).toNat (2 * i + 1))) = true := by rw [bvalid_set]; exact hv
    obtain ⟨g1, g2⟩ := disc_second (x := setB (stAt a b h lv i) 0 (nodeL a (lv - 1).toNat (2 * i)) (nodeL a (lv - 1).toNat (2 * i + 1))) (p := 1 - 0) hv2 (.inr rfl) hl rfl pb rfl
    refine ⟨g1.trans ?_, g2⟩
    show stepB { stAt a b h lv i with t0 := true, l0 := nodeL a (lv - 1).toNat (2 * i), r0 := nodeL a (lv - 1).toNat (2 * i + 1), t1 := true, l1 := nodeL b (lv - 1).toNat (2 * i), r1 := nodeL b (lv - 1).toNat (2 * i + 1) } = _
    unfold stepB nextI stAt bis0
    dsimp only
    by_cases he : nodeL a (lv - 1).toNat (2 * i) = nodeL b (lv - 1).toNat (2 * i)
    · rw [if_pos he, if_pos he, en]; rfl
    · rw [if_neg he, if_neg he, en]; rfl
  · refine ⟨disc_first hv (.inr rfl) hl rfl pb rfl, ?_⟩
    have hv2 : bvalid (setB (stAt a b h lv i) 1 (nodeL b (lv - 1).toNat (2 * i)) (nodeL b (lv - 1).toNat (2 * i + 1))) = true := by rw [bvalid_set]; exact hv
    obtain ⟨g1, g2⟩ := disc_second (x := setB (stAt a b h lv i) 1 (nodeL b (lv - 1).toNat (2 * i)) (nodeL b (lv - 1).toNat (2 * i + 1))) (p := 1 - 1) hv2 (.inl rfl) hl rfl pa rfl
    refine ⟨g1.trans ?_, g2⟩
    show stepB { stAt a b h lv i with t0 := true, l0 := nodeL a (lv - 1).toNat (2 * i), r0 := nodeL a (lv - 1).toNat (2 * i + 1), t1 := true, l1 := nodeL b (lv - 1).toNat (2 * i), r1 := nodeL b (lv - 1).toNat (2 * i + 1) } = _
    unfold stepB nextI stAt bis0
    dsimp only
    by_cases he : nodeL a (lv - 1).toNat (2 * i) = nodeL b (lv - 1).toNat (2 * i)
    · rw [if_pos he, if_pos he, en]; rfl
    · rw [if_neg he, if_neg he, en]; rfl
theorem round_st (a b : List Dig) (ha : (a.length : Int) ≤ 65536) (hb : (b.length : Int) ≤ 65536) {h lv i p : Int} (hp : p = 0 ∨ p = 1) (h0 : 1 ≤ lv) (h1 : lv ≤ h) (h2 : h ≤ 16) (i0 : 0 ≤ i) (i1 : i < 2 ^ (h - lv).toNat) :
    roundL (stAt a b h lv i) a b p = stAt a b h (lv - 1) (nextI a b lv i) ∧ roundOk (stAt a b h lv i) a b p = true := by
  obtain ⟨⟨t1, t2⟩, t3, t4⟩ := two_disc a b hp h0 h1 h2 i0 i1
  have hla : ((if p = 0 then a else b).length : Int) ≤ 65536 := by split <;> assumption
  have hlb : ((if p = 0 then b else a).length : Int) ≤ 65536 := by split <;> assumption
  obtain ⟨x1, x2, x3⟩ := ans_st a b (if p = 0 then a else b) hla h0 h1 h2 i0 i1
  obtain ⟨y1, y2, y3⟩ := ans_st a b (if p = 0 then b else a) hlb h0 h1 h2 i0 i1
  unfold roundL roundOk roundY
  rw [x1, x2, x3, y1, y2, y3, t1, t2, t4]
  exact ⟨t3, rfl⟩

/-- the place that is reached after some rounds -/
def idxS (a b : List Dig) (h : Int) : Nat → Int
  | 0 => 0
  | k + 1 => nextI a b (h - k) (idxS a b h k)
theorem idxS_range (a b : List Dig) (h : Int) : ∀ k : Nat, (k : Int) ≤ h → 0 ≤ idxS a b h k ∧ idxS a b h k < 2 ^ (h - (h - k)).toNat
  | 0, _ => by
    have : (h - (h - ((0 : Nat) : Int))).toNat = 0 := by omega
    rw [this]; exact ⟨Int.le_refl 0, by show (0 : Int) < 2 ^ 0; decide⟩
  | k + 1, hk => by
    have ih := idxS_range a b h k (by omega)
    have := nextI_range a b (h := h) (lv := h - k) (i := idxS a b h k) (by omega) (by omega) ih.1 ih.2
    rw [show h - (h - (k : Int) - 1) = h - (h - ((k + 1 : Nat) : Int)) by omega] at this
    exact this
/-- the state after some rounds -/
def stK (a b : List Dig) (h : Int) (k : Nat) : Bis := stAt a b h (h - k) (idxS a b h k)
theorem stK_l (a b : List Dig) (h : Int) (k : Nat) : (stK a b h k).l = h - k := rfl
theorem stK_succ (a b : List Dig) (h : Int) (k : Nat) : stAt a b h (h - k - 1) (nextI a b (h - k) (idxS a b h k)) = stK a b h (k + 1) := by
  unfold stK
  rw [show h - (k : Int) - 1 = h - ((k + 1 : Nat) : Int) by omega]
  rfl
theorem round_k (a b : List Dig) (ha : (a.length : Int) ≤ 65536) (hb : (b.length : Int) ≤ 65536) {h p : Int} {k : Nat} (hp : p = 0 ∨ p = 1) (hk : (k : Int) < h) (h2 : h ≤ 16) : roundL (stK a b h k) a b p = stK a b h (k + 1) ∧ roundOk (stK a b h k) a b p = true := by
  have hr := idxS_range a b h k (by omega)
  have := round_st a b ha hb (h := h) (lv := h - k) (i := idxS a b h k) hp (by omega) (by omega) h2 hr.1 hr.2
  rw [stK_succ] at this
  exact this

set_option maxHeartbeats 4000000 in
set_option maxRecDepth 20000 in
theorem lw_BisectOrder (a : List Dig) (ha : a.length ≤ maxLen) (b : List Dig) (hb : b.length ≤ maxLen) : @wW GG (tb [(11, sp_bsane), (12, sp_few38), (14, sp_root), (13, sp_bBegin), (15, sp_round)] []) F_wagonpoollaw38_BisectOrder.code (argF [.slc (nz 32 (a.map digD)) (a.map digD) false, .slc (nz 32 (b.map digD)) (b.map digD) false]) [] ⟨retQ F_wagonpoollaw38_BisectOrder.res (.bool true)⟩ := by
  unfold F_wagonpoollaw38_BisectOrder
  have a1 : ∀ x : Bis, decide (x = x) = true := fun _ => by simp
  simp (disch := first | omega | decide) only [push_cast, ↓wF_free, ↓reduceIte, Nat.reduceEqDiff, Nat.reduceLT, Nat.reduceLeDiff, Nat.reduceAdd, Nat.reduceSub, Nat.reduceMul, Nat.reduceBEq, Int.reduceLT, Int.reduceLE, Int.reduceToNat, Int.reduceNeg, Int.reducePow, Int.reduceAdd, Int.reduceMul, Int.reduceSub, ↓Int.reduceNatCast', call_bsane, call_few38]
  refine ifD_split (fun h1 => ?_) (fun h1 => ?_)
  · obtain ⟨ha1, hb1⟩ := h1
    have hr := hgt_range a b ha1 hb1
    obtain ⟨g1, g2⟩ := begin_lists a b ha1 hb1
    have c1 := call_bBegin (rootL a) (rootL b)
    rw [g1, g2] at c1
    have n380 : ¬ (380 : Int) = 0 := by decide
    by_cases he : nodeL a (hgt a b).toNat 0 = nodeL b (hgt a b).toNat 0
    · rw [if_pos he, if_pos he] at c1
      simp (disch := first | omega | decide) only [push_cast, ↓wF_free, ↓reduceIte, Nat.reduceEqDiff, Nat.reduceLT, Nat.reduceLeDiff, Nat.reduceAdd, Nat.reduceSub, Nat.reduceMul, Nat.reduceBEq, Int.reduceLT, Int.reduceLE, Int.reduceToNat, Int.reduceNeg, Int.reducePow, Int.reduceAdd, Int.reduceMul, Int.reduceSub, ↓Int.reduceNatCast', ha1, hb1, call_root, c1, and_self]
      refine W_while (fun _ : Unit => [(0, .slc (nz 32 (a.map digD)) (a.map digD) false), (1, .slc (nz 32 (b.map digD)) (b.map digD) false), (5, .ptr 0 0), (6, .int .i64 380), (7, .int .i64 0)]) (fun _ => [⟨false, 1, bisC zeroBis, false⟩]) (fun _ => True) (fun _ => 0) () (by simp only [push_cast, ↓wF_free, ↓reduceIte, Nat.reduceEqDiff, Nat.reduceLT, Nat.reduceLeDiff, Nat.reduceAdd, Nat.reduceSub, Nat.reduceMul, Nat.reduceBEq, Int.reduceLT, Int.reduceLE, Int.reduceToNat, Int.reduceNeg, Int.reducePow, Int.reduceAdd, Int.reduceMul, Int.reduceSub, ↓Int.reduceNatCast'] <;> rfl) trivial ?_
      intro _ _
      unfold F_wagonpoollaw38_BisectOrder_L0
      simp (disch := first | omega | decide) only [push_cast, ↓wF_free, ↓reduceIte, Nat.reduceEqDiff, Nat.reduceLT, Nat.reduceLeDiff, Nat.reduceAdd, Nat.reduceSub, Nat.reduceMul, Nat.reduceBEq, Int.reduceLT, Int.reduceLE, Int.reduceToNat, Int.reduceNeg, Int.reducePow, Int.reduceAdd, Int.reduceMul, Int.reduceSub, ↓Int.reduceNatCast', n380]
    · rw [if_neg he, if_neg he] at c1
      have e0 : stAt a b (hgt a b) (hgt a b) 0 = stK a b (hgt a b) 0 := by
        unfold stK; rw [show hgt a b - ((0 : Nat) : Int) = hgt a b by omega]; rfl
      rw [e0] at c1
      simp (disch := first | omega | decide) only [push_cast, ↓wF_free, ↓reduceIte, Nat.reduceEqDiff, Nat.reduceLT, Nat.reduceLeDiff, Nat.reduceAdd, Nat.reduceSub, Nat.reduceMul, Nat.reduceBEq, Int.reduceLT, Int.reduceLE, Int.reduceToNat, Int.reduceNeg, Int.reducePow, Int.reduceAdd, Int.reduceMul, Int.reduceSub, ↓Int.reduceNatCast', ha1, hb1, call_root, c1, and_self]
      generalize hgt a b = h at *
      refine W_while (fun k : Nat => [(0, .slc (nz 32 (a.map digD)) (a.map digD) false), (1, .slc (nz 32 (b.map digD)) (b.map digD) false), (5, .ptr 0 0), (6, .int .i64 0), (7, .int .i64 (k : Int))]) (fun k => [⟨false, 1, bisC (stK a b h k), false⟩]) (fun k => (k : Int) ≤ h) (fun k => (h - k).toNat) 0 (by simp only [push_cast, ↓wF_free, ↓reduceIte, Nat.reduceEqDiff, Nat.reduceLT, Nat.reduceLeDiff, Nat.reduceAdd, Nat.reduceSub, Nat.reduceMul, Nat.reduceBEq, Int.reduceLT, Int.reduceLE, Int.reduceToNat, Int.reduceNeg, Int.reducePow, Int.reduceAdd, Int.reduceMul, Int.reduceSub, ↓Int.reduceNatCast'] <;> rfl) (by omega) ?_
      intro k hk
      unfold F_wagonpoollaw38_BisectOrder_L0
      by_cases hlt : (k : Int) < h
      · obtain ⟨r1, r2⟩ := round_k a b (by omega) (by omega) (p := 0) (k := k) (.inl rfl) hlt (by omega)
        obtain ⟨r3, r4⟩ := round_k a b (by omega) (by omega) (p := 1) (k := k) (.inr rfl) hlt (by omega)
        have c2 := call_round (stK a b h k) a b 0 (.inl rfl)
        have c3 := call_round (stK a b h k) a b 1 (.inr rfl)
        rw [r1, r2] at c2
        rw [r3, r4] at c3
        have q1 : (k : Int) < 5 := by omega
        have q2 : 0 < h - (k : Int) := by omega
        simp (disch := first | omega | decide) only [push_cast, ↓wF_free, ↓reduceIte, Nat.reduceEqDiff, Nat.reduceLT, Nat.reduceLeDiff, Nat.reduceAdd, Nat.reduceSub, Nat.reduceMul, Nat.reduceBEq, Int.reduceLT, Int.reduceLE, Int.reduceToNat, Int.reduceNeg, Int.reducePow, Int.reduceAdd, Int.reduceMul, Int.reduceSub, ↓Int.reduceNatCast', q1, q2, stK_l, c2, c3, a1, add_i]
        refine next_head (k + 1) (by omega) (by omega) ?_
        simp only [push_cast, ↓wF_free, ↓reduceIte, Nat.reduceEqDiff, Nat.reduceLT, Nat.reduceLeDiff, Nat.reduceAdd, Nat.reduceSub, Nat.reduceMul, Nat.reduceBEq, Int.reduceLT, Int.reduceLE, Int.reduceToNat, Int.reduceNeg, Int.reducePow, Int.reduceAdd, Int.reduceMul, Int.reduceSub, ↓Int.reduceNatCast'] <;> rfl
      · have q2 : ¬ 0 < h - (k : Int) := by omega
        have q1 : (k : Int) < 5 := by omega
        simp (disch := first | omega | decide) only [push_cast, ↓wF_free, ↓reduceIte, Nat.reduceEqDiff, Nat.reduceLT, Nat.reduceLeDiff, Nat.reduceAdd, Nat.reduceSub, Nat.reduceMul, Nat.reduceBEq, Int.reduceLT, Int.reduceLE, Int.reduceToNat, Int.reduceNeg, Int.reducePow, Int.reduceAdd, Int.reduceMul, Int.reduceSub, ↓Int.reduceNatCast', q1, q2, stK_l]
  · simp (disch := first | omega | decide) only [push_cast, ↓wF_free, ↓reduceIte, Nat.reduceEqDiff, Nat.reduceLT, Nat.reduceLeDiff, Nat.reduceAdd, Nat.reduceSub, Nat.reduceMul, Nat.reduceBEq, Int.reduceLT, Int.reduceLE, Int.reduceToNat, Int.reduceNeg, Int.reducePow, Int.reduceAdd, Int.reduceMul, Int.reduceSub, ↓Int.reduceNatCast', h1]
theorem law_BisectOrder : Contract Tryd.prog GG 9 (lawSp [.slc tDig, .slc tDig]) := by
  refine lawC tr_wagonpoollaw38_BisectOrder (T := tb [(11, sp_bsane), (12, sp_few38), (14, sp_root), (13, sp_bBegin), (15, sp_round)] []) (tb_ok (all_cons c_bsane (all_cons c_few38 (all_cons c_root (all_cons c_bBegin (all_cons c_round all_nil))))) all_nil) ?_
  intro xs h
  obtain ⟨x0, xs, rfl, h0, h⟩ := hasAll_cons h
  obtain ⟨x1, xs, rfl, h1, h⟩ := hasAll_cons h
  obtain rfl := hasAll_nil h
  obtain ⟨y0, rfl, ya0⟩ := has_digs h0
  obtain ⟨y1, rfl, ya1⟩ := has_digs h1
  exact lw_BisectOrder y0 ya0 y1 ya1

set_option maxHeartbeats 4000000 in
set_option maxRecDepth 20000 in
theorem lw_BisectRefuses (a : List Dig) (ha : a.length ≤ maxLen) (b : List Dig) (hb : b.length ≤ maxLen) (p : Int) (hp1 : -9223372036854775808 ≤ p) (hp2 : p < 9223372036854775808) : @wW GG (tb [(11, sp_bsane), (12, sp_few38), (14, sp_root), (13, sp_bBegin), (20, sp_bAns), (28, sp_bDisc)] []) F_wagonpoollaw38_BisectRefuses.code (argF [.slc (nz 32 (a.map digD)) (a.map digD) false, .slc (nz 32 (b.map digD)) (b.map digD) false, .int .i64 p]) [] ⟨retQ F_wagonpoollaw38_BisectRefuses.res (.bool true)⟩ := by
  unfold F_wagonpoollaw38_BisectRefuses
  simp (disch := first | omega | decide) only [push_cast, ↓wF_free, ↓reduceIte, Nat.reduceEqDiff, Nat.reduceLT, Nat.reduceLeDiff, Nat.reduceAdd, Nat.reduceSub, Nat.reduceMul, Nat.reduceBEq, Int.reduceLT, Int.reduceLE, Int.reduceToNat, Int.reduceNeg, Int.reducePow, Int.reduceAdd, Int.reduceMul, Int.reduceSub, ↓Int.reduceNatCast', call_bsane, call_few38]
  refine ifD_split (fun h1 => ?_) (fun h1 => ?_)
  · obtain ⟨ha1, hb1⟩ := h1
    have hr := hgt_range a b ha1 hb1
    obtain ⟨g1, g2⟩ := begin_lists a b ha1 hb1
    have c1 := call_bBegin (rootL a) (rootL b)
    rw [g1, g2] at c1
    have n380 : ¬ (380 : Int) = 0 := by decide
    by_cases he : nodeL a (hgt a b).toNat 0 = nodeL b (hgt a b).toNat 0
    · rw [if_pos he, if_pos he] at c1
      simp (disch := first | omega | decide) only [push_cast, ↓wF_free, ↓reduceIte, Nat.reduceEqDiff, Nat.reduceLT, Nat.reduceLeDiff, Nat.reduceAdd, Nat.reduceSub, Nat.reduceMul, Nat.reduceBEq, Int.reduceLT, Int.reduceLE, Int.reduceToNat, Int.reduceNeg, Int.reducePow, Int.reduceAdd, Int.reduceMul, Int.reduceSub, ↓Int.reduceNatCast', ha1, hb1, call_root, c1, n380, and_self]
    · rw [if_neg he, if_neg he] at c1
      generalize hgt a b = h at *
      by_cases hp : p = 0 ∨ p = 1
      · have hv := stAt_valid a b (h := h) (lv := h) (i := 0) (by omega) (by omega) (by omega) (by omega) (by rw [Int.sub_self]; decide)
        by_cases hz : h = 0
        · subst hz
          rcases hp with rfl | rfl
          · have d1 := (disc_told (l := ansL a (stAt a b 0 0 0)) (r := ansR a (stAt a b 0 0 0)) hv (.inl rfl) (.inl rfl)).2
            have d2 := (disc_told (l := ansL a (stAt a b 0 0 0)) (r := ansR a (stAt a b 0 0 0)) hv (.inl rfl) (.inl rfl)).1
            have e1 : ansE a (stAt a b 0 0 0) = 380 := by unfold ansE; rw [if_pos hv, if_neg (by omega)]; rfl
            have c2 := call_bDisc (stAt a b 0 0 0) 0 (ansL a (stAt a b 0 0 0)) (ansR a (stAt a b 0 0 0)) (by decide)
            rw [d1, d2] at c2
            have c3 := call_bAns a (stAt a b 0 0 0)
            rw [e1] at c3
            have s0 : (stAt a b 0 0 0).l = 0 := rfl
            have v0 : pidxV 2 1 false (.agg [.slc (nz 32 (a.map digD)) (a.map digD) false, .slc (nz 32 (b.map digD)) (b.map digD) false]) (.int .i64 0) = some (.slc (nz 32 (a.map digD)) (a.map digD) false) := rfl
            simp (disch := first | omega | decide) only [push_cast, ↓wF_free, ↓reduceIte, Nat.reduceEqDiff, Nat.reduceLT, Nat.reduceLeDiff, Nat.reduceAdd, Nat.reduceSub, Nat.reduceMul, Nat.reduceBEq, Int.reduceLT, Int.reduceLE, Int.reduceToNat, Int.reduceNeg, Int.reducePow, Int.reduceAdd, Int.reduceMul, Int.reduceSub, ↓Int.reduceNatCast', ha1, hb1, call_root, c1, c2, c3, s0, v0, fill_ss, and_self]
          · have d1 := (disc_told (l := ansL b (stAt a b 0 0 0)) (r := ansR b (stAt a b 0 0 0)) hv (.inr rfl) (.inl rfl)).2
            have d2 := (disc_told (l := ansL b (stAt a b 0 0 0)) (r := ansR b (stAt a b 0 0 0)) hv (.inr rfl) (.inl rfl)).1
            have e1 : ansE b (stAt a b 0 0 0) = 380 := by unfold ansE; rw [if_pos hv, if_neg (by omega)]; rfl
            have c2 := call_bDisc (stAt a b 0 0 0) 1 (ansL b (stAt a b 0 0 0)) (ansR b (stAt a b 0 0 0)) (by decide)
            rw [d1, d2] at c2
            have c3 := call_bAns b (stAt a b 0 0 0)
            rw [e1] at c3
            have s0 : (stAt a b 0 0 0).l = 0 := rfl
            have v0 : pidxV 2 1 false (.agg [.slc (nz 32 (a.map digD)) (a.map digD) false, .slc (nz 32 (b.map digD)) (b.map digD) false]) (.int .i64 1) = some (.slc (nz 32 (b.map digD)) (b.map digD) false) := rfl
            simp (disch := first | omega | decide) only [push_cast, ↓wF_free, ↓reduceIte, Nat.reduceEqDiff, Nat.reduceLT, Nat.reduceLeDiff, Nat.reduceAdd, Nat.reduceSub, Nat.reduceMul, Nat.reduceBEq, Int.reduceLT, Int.reduceLE, Int.reduceToNat, Int.reduceNeg, Int.reducePow, Int.reduceAdd, Int.reduceMul, Int.reduceSub, ↓Int.reduceNatCast', ha1, hb1, call_root, c1, c2, c3, s0, v0, fill_ss, and_self]
        · have s0 : (stAt a b h h 0).l = h := rfl
          have i1 : (0 : Int) < 2 ^ (h - h).toNat := by rw [Int.sub_self]; decide
          rcases hp with rfl | rfl
          · obtain ⟨⟨t1, t2⟩, _⟩ := two_disc a b (h := h) (lv := h) (i := 0) (p := 0) (.inl rfl) (by omega) (by omega) (by omega) (by omega) i1
            obtain ⟨x1, x2, x3⟩ := ans_st a b a (h := h) (lv := h) (i := 0) (by omega) (by omega) (by omega) (by omega) (by omega) i1
            simp only [if_true] at t1 t2
            have c2 := call_bDisc (stAt a b h h 0) 0 (ansL a (stAt a b h h 0)) (ansR a (stAt a b h h 0)) (by decide)
            have c3 := call_bAns a (stAt a b h h 0)
            rw [x2, x3] at c2
            rw [t1, t2] at c2
            rw [x1, x2, x3] at c3
            have hv2 : bvalid (setB (stAt a b h h 0) 0 (nodeL a (h - 1).toNat (2 * 0)) (nodeL a (h - 1).toNat (2 * 0 + 1))) = true := by rw [bvalid_set]; exact hv
            have d := disc_told (x := setB (stAt a b h h 0) 0 (nodeL a (h - 1).toNat (2 * 0)) (nodeL a (h - 1).toNat (2 * 0 + 1))) (p := 0) (l := nodeL a (h - 1).toNat (2 * 0)) (r := nodeL a (h - 1).toNat (2 * 0 + 1)) hv2 (.inl rfl) (.inr rfl)
            have c4 := call_bDisc (setB (stAt a b h h 0) 0 (nodeL a (h - 1).toNat (2 * 0)) (nodeL a (h - 1).toNat (2 * 0 + 1))) 0 (nodeL a (h - 1).toNat (2 * 0)) (nodeL a (h - 1).toNat (2 * 0 + 1)) (by decide)
            rw [d.1, d.2] at c4
            have u0 : (setB (stAt a b h h 0) 0 (nodeL a (h - 1).toNat (2 * 0)) (nodeL a (h - 1).toNat (2 * 0 + 1))).t0 = true := rfl
            have u1 : (setB (stAt a b h h 0) 0 (nodeL a (h - 1).toNat (2 * 0)) (nodeL a (h - 1).toNat (2 * 0 + 1))).t1 = false := rfl
            have u2 : (setB (stAt a b h h 0) 0 (nodeL a (h - 1).toNat (2 * 0)) (nodeL a (h - 1).toNat (2 * 0 + 1))).l = h := rfl
            generalize setB (stAt a b h h 0) 0 (nodeL a (h - 1).toNat (2 * 0)) (nodeL a (h - 1).toNat (2 * 0 + 1)) = Y at *
            generalize nodeL a (h - 1).toNat (2 * 0) = L at *
            generalize nodeL a (h - 1).toNat (2 * 0 + 1) = R at *
            have v0 : pidxV 2 1 false (.agg [.slc (nz 32 (a.map digD)) (a.map digD) false, .slc (nz 32 (b.map digD)) (b.map digD) false]) (.int .i64 0) = some (.slc (nz 32 (a.map digD)) (a.map digD) false) := rfl
            have a2 : ∀ x : Int, decide (x = x) = true := fun _ => by simp
            simp (disch := first | omega | decide) only [push_cast, ↓wF_free, ↓reduceIte, Nat.reduceEqDiff, Nat.reduceLT, Nat.reduceLeDiff, Nat.reduceAdd, Nat.reduceSub, Nat.reduceMul, Nat.reduceBEq, Int.reduceLT, Int.reduceLE, Int.reduceToNat, Int.reduceNeg, Int.reducePow, Int.reduceAdd, Int.reduceMul, Int.reduceSub, ↓Int.reduceNatCast', ha1, hb1, call_root, c1, c2, c3, c4, s0, v0, hz, u0, u1, u2, a2, fill_ss, idxA_pp, sub_i, and_self]
          · obtain ⟨⟨t1, t2⟩, _⟩ := two_disc a b (h := h) (lv := h) (i := 0) (p := 1) (.inr rfl) (by omega) (by omega) (by omega) (by omega) i1
            obtain ⟨x1, x2, x3⟩ := ans_st a b b (h := h) (lv := h) (i := 0) (by omega) (by omega) (by omega) (by omega) (by omega) i1
            have q1 : ¬ (1 : Int) = 0 := by decide
            simp only [if_neg q1] at t1 t2
            have c2 := call_bDisc (stAt a b h h 0) 1 (ansL b (stAt a b h h 0)) (ansR b (stAt a b h h 0)) (by decide)
            have c3 := call_bAns b (stAt a b h h 0)
            rw [x2, x3] at c2
            rw [t1, t2] at c2
            rw [x1, x2, x3] at c3
            have hv2 : bvalid (setB (stAt a b h h 0) 1 (nodeL b (h - 1).toNat (2 * 0)) (nodeL b (h - 1).toNat (2 * 0 + 1))) = true := by rw [bvalid_set]; exact hv
            have d := disc_told (x := setB (stAt a b h h 0) 1 (nodeL b (h - 1).toNat (2 * 0)) (nodeL b (h - 1).toNat (2 * 0 + 1))) (p := 1) (l := nodeL b (h - 1).toNat (2 * 0)) (r := nodeL b (h - 1).toNat (2 * 0 + 1)) hv2 (.inr rfl) (.inr rfl)
            have c4 := call_bDisc (setB (stAt a b h h 0) 1 (nodeL b (h - 1).toNat (2 * 0)) (nodeL b (h - 1).toNat (2 * 0 + 1))) 1 (nodeL b (h - 1).toNat (2 * 0)) (nodeL b (h - 1).toNat (2 * 0 + 1)) (by decide)
            rw [d.1, d.2] at c4
            have u0 : (setB (stAt a b h h 0) 1 (nodeL b (h - 1).toNat (2 * 0)) (nodeL b (h - 1).toNat (2 * 0 + 1))).t1 = true := rfl
            have u1 : (setB (stAt a b h h 0) 1 (nodeL b (h - 1).toNat (2 * 0)) (nodeL b (h - 1).toNat (2 * 0 + 1))).t0 = false := rfl
            have u2 : (setB (stAt a b h h 0) 1 (nodeL b (h - 1).toNat (2 * 0)) (nodeL b (h - 1).toNat (2 * 0 + 1))).l = h := rfl
            generalize setB (stAt a b h h 0) 1 (nodeL b (h - 1).toNat (2 * 0)) (nodeL b (h - 1).toNat (2 * 0 + 1)) = Y at *
            generalize nodeL b (h - 1).toNat (2 * 0) = L at *
            generalize nodeL b (h - 1).toNat (2 * 0 + 1) = R at *
            have v0 : pidxV 2 1 false (.agg [.slc (nz 32 (a.map digD)) (a.map digD) false, .slc (nz 32 (b.map digD)) (b.map digD) false]) (.int .i64 1) = some (.slc (nz 32 (b.map digD)) (b.map digD) false) := rfl
            have a2 : ∀ x : Int, decide (x = x) = true := fun _ => by simp
            simp (disch := first | omega | decide) only [push_cast, ↓wF_free, ↓reduceIte, Nat.reduceEqDiff, Nat.reduceLT, Nat.reduceLeDiff, Nat.reduceAdd, Nat.reduceSub, Nat.reduceMul, Nat.reduceBEq, Int.reduceLT, Int.reduceLE, Int.reduceToNat, Int.reduceNeg, Int.reducePow, Int.reduceAdd, Int.reduceMul, Int.reduceSub, ↓Int.reduceNatCast', ha1, hb1, call_root, c1, c2, c3, c4, s0, v0, hz, u0, u1, u2, a2, fill_ss, idxA_pp, sub_i, and_self]
      · have d := disc_party (x := stAt a b h h 0) (l := zeroDig) (r := zeroDig) hp
        have c2 := call_bDisc (stAt a b h h 0) p zeroDig zeroDig ⟨by omega, by omega⟩
        rw [d] at c2
        by_cases p2 : p < 0
        · simp (disch := first | omega | decide) only [push_cast, ↓wF_free, ↓reduceIte, Nat.reduceEqDiff, Nat.reduceLT, Nat.reduceLeDiff, Nat.reduceAdd, Nat.reduceSub, Nat.reduceMul, Nat.reduceBEq, Int.reduceLT, Int.reduceLE, Int.reduceToNat, Int.reduceNeg, Int.reducePow, Int.reduceAdd, Int.reduceMul, Int.reduceSub, ↓Int.reduceNatCast', ha1, hb1, call_root, c1, c2, p2, fill_nil, and_self]
        · have p3 : 1 < p := by omega
          simp (disch := first | omega | decide) only [push_cast, ↓wF_free, ↓reduceIte, Nat.reduceEqDiff, Nat.reduceLT, Nat.reduceLeDiff, Nat.reduceAdd, Nat.reduceSub, Nat.reduceMul, Nat.reduceBEq, Int.reduceLT, Int.reduceLE, Int.reduceToNat, Int.reduceNeg, Int.reducePow, Int.reduceAdd, Int.reduceMul, Int.reduceSub, ↓Int.reduceNatCast', ha1, hb1, call_root, c1, c2, p2, p3, fill_nil, and_self]
  · simp (disch := first | omega | decide) only [push_cast, ↓wF_free, ↓reduceIte, Nat.reduceEqDiff, Nat.reduceLT, Nat.reduceLeDiff, Nat.reduceAdd, Nat.reduceSub, Nat.reduceMul, Nat.reduceBEq, Int.reduceLT, Int.reduceLE, Int.reduceToNat, Int.reduceNeg, Int.reducePow, Int.reduceAdd, Int.reduceMul, Int.reduceSub, ↓Int.reduceNatCast', h1]
theorem law_BisectRefuses : Contract Tryd.prog GG 10 (lawSp [.slc tDig, .slc tDig, .int .i64]) := by
  refine lawC tr_wagonpoollaw38_BisectRefuses (T := tb [(11, sp_bsane), (12, sp_few38), (14, sp_root), (13, sp_bBegin), (20, sp_bAns), (28, sp_bDisc)] []) (tb_ok (all_cons c_bsane (all_cons c_few38 (all_cons c_root (all_cons c_bBegin (all_cons c_bAns (all_cons c_bDisc all_nil)))))) all_nil) ?_
  intro xs h
  obtain ⟨x0, xs, rfl, h0, h⟩ := hasAll_cons h
  obtain ⟨x1, xs, rfl, h1, h⟩ := hasAll_cons h
  obtain ⟨x2, xs, rfl, h2, h⟩ := hasAll_cons h
  obtain rfl := hasAll_nil h
  obtain ⟨y0, rfl, ya0⟩ := has_digs h0
  obtain ⟨y1, rfl, ya1⟩ := has_digs h1
  obtain ⟨y2, rfl, ya2, yb2⟩ := has_i64 h2
  exact lw_BisectRefuses y0 ya0 y1 ya1 y2 ya2 yb2
end Go.Proofs.YtokhnpjchpmndaaDoor.PI
