/-
  tbox: the search for the least case that no box contains, as plain functions, with and without a memory of what failed.
  Conditions: none; these are lemmas.
-/
import Derived.Test.YtgppecaeegaooaaTbP
namespace Go.Proofs.Ytgppecaeegaooaa.PI
open Go
set_option linter.unusedSimpArgs false
set_option linter.unusedVariables false
def lexLt (x y : List Int) : Prop := ∃ k, k < 16 ∧ (∀ i, i < k → at' x i = at' y i) ∧ at' x k < at' y k
def lexLe (x y : List Int) : Prop := (∀ i, i < 16 → at' x i = at' y i) ∨ lexLt x y
theorem lexLt_irr {x y : List Int} (h1 : lexLt x y) (h2 : lexLe y x) : False := by
  obtain ⟨k, hk, e, l⟩ := h1
  rcases h2 with h2 | ⟨j, hj, e2, l2⟩
  · have := h2 k hk; omega
  · rcases Nat.lt_trichotomy j k with h | h | h
    · have := e j h; omega
    · subst h; omega
    · have := e2 k h; omega
theorem lexLe_anti {x y : List Int} (h1 : lexLe x y) (h2 : lexLe y x) : ∀ i, i < 16 → at' x i = at' y i := by
  rcases h1 with h1 | h1
  · exact h1
  · exact (lexLt_irr h1 h2).elim
theorem lexLe_total (x y : List Int) : lexLe x y ∨ lexLt y x := by
  by_cases h : ∀ i, i < 16 → at' x i = at' y i
  · exact .inl (.inl h)
  · have : ∃ n, ¬ ∀ i, i < n → at' x i = at' y i := ⟨16, h⟩
    have hn : ∀ n, n ≤ 16 → (¬ ∀ i, i < n → at' x i = at' y i) → lexLt x y ∨ lexLt y x := by
      intro n
      induction n with
      | zero => intro _ h; exact absurd (fun i hi => absurd hi (Nat.not_lt_zero _)) h
      | succ n ih =>
        intro hn hx
        by_cases hp : ∀ i, i < n → at' x i = at' y i
        · have hne : at' x n ≠ at' y n := fun e => hx fun i hi => by
            rcases Nat.lt_or_ge i n with h | h
            · exact hp i h
            · obtain rfl : i = n := by omega
              exact e
          rcases Int.lt_or_gt_of_ne hne with h1 | h1
          · exact .inl ⟨n, by omega, hp, h1⟩
          · exact .inr ⟨n, by omega, fun i hi => (hp i hi).symm, h1⟩
        · exact ih (by omega) hp
    rcases hn 16 (Nat.le_refl _) h with h | h
    · exact .inl (.inr h)
    · exact .inr h
def lessF (x y : List Int) : Nat → Nat → Bool
  | 0, _ => false
  | n + 1, i => if at' x i = at' y i then lessF x y n (i + 1) else decide (at' x i < at' y i)
def less (x y : List Int) : Bool := lessF x y 16 0
theorem lessF_iff (x y : List Int) : ∀ (n i : Nat), i + n = 16 → (∀ j, j < i → at' x j = at' y j) → (lessF x y n i = true ↔ lexLt x y)
  | 0, i, hi, he => by
    simp only [lessF, Bool.false_eq_true, false_iff]
    rintro ⟨k, hk, _, l⟩
    have := he k (by omega); omega
  | n + 1, i, hi, he => by
    simp only [lessF]
    split
    · rename_i e
      refine lessF_iff x y n (i + 1) (by omega) fun j hj => ?_
      rcases Nat.lt_or_ge j i with h | h
      · exact he j h
      · obtain rfl : j = i := by omega
        exact e
    · rename_i e
      simp only [decide_eq_true_eq]
      constructor
      · exact fun h => ⟨i, by omega, he, h⟩
      · rintro ⟨k, hk, e2, l⟩
        rcases Nat.lt_trichotomy k i with h | h | h
        · have := he k h; omega
        · subst h; exact l
        · exact absurd (e2 i h) e
theorem less_iff (x y : List Int) : less x y = true ↔ lexLt x y := lessF_iff x y 16 0 rfl fun j hj => absurd hj (Nat.not_lt_zero _)
def cov (a : Nat) (b : Bx) (w : List Int) : Prop := ∀ i, a ≤ i → i < 16 → at' b.lo i ≤ at' w i ∧ at' w i ≤ at' b.hi i
structure Good (d : Bx) (l : List Bx) (a : Nat) (v w : List Int) : Prop where
  len : w.length = 16
  pre : ∀ i, i < a → at' w i = at' v i
  dom : ∀ i, a ≤ i → i < 16 → at' d.lo i ≤ at' w i ∧ at' w i ≤ at' d.hi i
  out : ∀ b ∈ l, ¬ cov a b w
def Least (d : Bx) (l : List Bx) (a : Nat) (v w : List Int) : Prop := Good d l a v w ∧ ∀ x, Good d l a v x → lexLe w x
theorem Good.mono {d : Bx} {l : List Bx} {a : Nat} {v v' w : List Int} (h : Good d l a v w) (e : ∀ i, i < a → at' v i = at' v' i) : Good d l a v' w := ⟨h.len, fun i hi => (h.pre i hi).trans (e i hi), h.dom, h.out⟩
theorem Least.mono {d : Bx} {l : List Bx} {a : Nat} {v v' w : List Int} (h : Least d l a v w) (e : ∀ i, i < a → at' v i = at' v' i) : Least d l a v' w :=
  ⟨h.1.mono e, fun x hx => h.2 x (hx.mono fun i hi => (e i hi).symm)⟩
theorem Least.unique {d : Bx} {l : List Bx} {a : Nat} {v w x : List Int} (h1 : Least d l a v w) (h2 : Least d l a v x) : w = x :=
  ext_at (h1.1.len.trans h2.1.len.symm) fun i hi => lexLe_anti (h1.2 x h2.1) (h2.2 w h1.1) i (by have := h1.1.len; omega)
theorem least_nil {d : Bx} {a : Nat} {v : List Int} (hd : d.ok) (hne : ∀ i, i < 16 → at' d.lo i ≤ at' d.hi i) (hv : v.length = 16) (ha : a ≤ 16) : Least d [] a v (v.take a ++ d.lo.drop a) := by
  have hat := fun i => at_app v d.lo a (by omega) i
  refine ⟨⟨by simp [hd.1, hv]; omega, fun i hi => by rw [hat, if_pos hi], fun i h1 h2 => by rw [hat, if_neg (by omega)]; exact ⟨Int.le_refl _, hne i h2⟩, fun b hb => by cases hb⟩, fun x hx => ?_⟩
  rcases lexLe_total (v.take a ++ d.lo.drop a) x with h | ⟨k, hk, e, l⟩
  · exact h
  · exfalso
    rw [hat] at l
    split at l
    · rename_i h; have := hx.pre k h; omega
    · rename_i h; have := (hx.dom k (by omega) hk).1; omega
def atL (l : List Bx) (a : Nat) (n : Int) : List Bx := l.filter fun b => decide (at' b.lo a ≤ n) && decide (n ≤ at' b.hi a)
def afterL : List Bx → Nat → Int → Int → Int
  | [], _, _, x => x
  | b :: l, a, n, x => afterL l a n (if n ≤ at' b.hi a then min x (at' b.hi a + 1) else x)
def maxA1 : Int := 9007199254740993
theorem afterL_spec (a : Nat) (n : Int) : ∀ (l : List Bx) (x : Int), n < x → n < afterL l a n x ∧ afterL l a n x ≤ x ∧ (∀ b ∈ l, n ≤ at' b.hi a → afterL l a n x ≤ at' b.hi a + 1) ∧ (afterL l a n x = x ∨ ∃ b ∈ l, n ≤ at' b.hi a ∧ afterL l a n x = at' b.hi a + 1)
  | [], x, h => ⟨h, Int.le_refl _, fun b hb => (by cases hb), .inl rfl⟩
  | b :: l, x, h => by
    simp only [afterL]
    by_cases hb : n ≤ at' b.hi a
    · rw [if_pos hb]
      obtain ⟨h1, h2, h3, h4⟩ := afterL_spec a n l (min x (at' b.hi a + 1)) (by omega)
      refine ⟨h1, by omega, fun c hc hn => ?_, ?_⟩
      · rcases List.mem_cons.1 hc with rfl | hc
        · omega
        · exact h3 c hc hn
      · rcases h4 with h4 | ⟨c, hc, h5, h6⟩
        · rcases Int.le_total x (at' b.hi a + 1) with h | h
          · exact .inl (by omega)
          · exact .inr ⟨b, by simp, hb, by omega⟩
        · exact .inr ⟨c, by simp [hc], h5, h6⟩
    · rw [if_neg hb]
      obtain ⟨h1, h2, h3, h4⟩ := afterL_spec a n l x h
      refine ⟨h1, h2, fun c hc hn => ?_, ?_⟩
      · rcases List.mem_cons.1 hc with rfl | hc
        · exact absurd hn hb
        · exact h3 c hc hn
      · rcases h4 with h4 | ⟨c, hc, h5, h6⟩
        · exact .inl h4
        · exact .inr ⟨c, by simp [hc], h5, h6⟩
def cnt : List Bx → Nat → Int → Nat
  | [], _, _ => 0
  | b :: l, a, n => (if n ≤ at' b.hi a then 1 else 0) + cnt l a n
theorem cnt_le : ∀ (l : List Bx) (a : Nat) (n : Int), cnt l a n ≤ l.length
  | [], a, n => Nat.le_refl _
  | b :: l, a, n => by
    have := cnt_le l a n
    simp only [cnt, List.length_cons]
    split <;> omega
theorem cnt_mono (a : Nat) {n m : Int} (h : n ≤ m) : ∀ l : List Bx, cnt l a m ≤ cnt l a n
  | [] => Nat.le_refl _
  | b :: l => by
    have := cnt_mono a h l
    simp only [cnt]
    split <;> split <;> omega
theorem cnt_lt (a : Nat) {n : Int} : ∀ (l : List Bx) (b : Bx), b ∈ l → n ≤ at' b.hi a → cnt l a (at' b.hi a + 1) < cnt l a n
  | [], b, hb, _ => by cases hb
  | c :: l, b, hb, hn => by
    have hm := cnt_mono a (show n ≤ at' b.hi a + 1 by omega) l
    simp only [cnt]
    rcases List.mem_cons.1 hb with rfl | hb
    · rw [if_neg (by omega), if_pos hn]; omega
    · have := cnt_lt a l b hb hn
      split <;> split <;> omega
def enough (l : List Bx) (a : Nat) (hi n : Int) (k : Nat) : Prop := cnt l a n < k ∨ hi < n
theorem enough_start (l : List Bx) (a : Nat) (hi n : Int) : enough l a hi n (l.length + 1) := .inl (by have := cnt_le l a n; omega)
theorem enough_next {l : List Bx} {a : Nat} {hi n : Int} {k : Nat} (h : enough l a hi n (k + 1)) (hn : n ≤ hi) (hh : hi ≤ 9007199254740992) : enough l a hi (afterL l a n maxA1) k := by
  rcases h with h | h
  · rcases (afterL_spec a n l maxA1 (by unfold maxA1; omega)).2.2.2 with h4 | ⟨b, hb, h5, h6⟩
    · exact .inr (by rw [h4]; unfold maxA1; omega)
    · have := cnt_lt a l b hb h5
      exact .inl (by rw [h6]; omega)
  · omega
def scanG {σ : Type} (hi : Int) (nx : Int → Int) (rec : Int → σ → σ × Bool) : Nat → Int → σ → σ × Bool
  | 0, _, s => (s, false)
  | k + 1, n, s => if n ≤ hi then (if (rec n s).2 then ((rec n s).1, true) else scanG hi nx rec k (nx n) (rec n s).1) else (s, false)
theorem good_at {d : Bx} {l : List Bx} {a : Nat} {v w : List Int} (ha : a < 16) (hv : v.length = 16) {n : Int} (h1 : at' d.lo a ≤ n) (h2 : n ≤ at' d.hi a) : (Good d l a v w ∧ at' w a = n) ↔ Good d (atL l a n) (a + 1) (v.set a n) w := by
  have hset := fun i => at_set v a i n (by omega)
  constructor
  · rintro ⟨h, e⟩
    refine ⟨h.len, fun i hi => ?_, fun i hi hj => h.dom i (by omega) hj, fun b hb hc => ?_⟩
    · rw [hset]
      split
      · rename_i e2; subst e2; exact e
      · exact h.pre i (by omega)
    · simp only [atL, List.mem_filter, Bool.and_eq_true, decide_eq_true_eq] at hb
      refine h.out b hb.1 fun i hi hj => ?_
      rcases Nat.lt_or_ge a i with h3 | h3
      · exact hc i h3 hj
      · obtain rfl : i = a := by omega
        rw [e]; exact hb.2
  · intro h
    have e : at' w a = n := by rw [h.pre a (by omega), hset, if_pos rfl]
    refine ⟨⟨h.len, fun i hi => ?_, fun i hi hj => ?_, fun b hb hc => ?_⟩, e⟩
    · rw [h.pre i (by omega), hset, if_neg (by omega)]
    · rcases Nat.lt_or_ge a i with h3 | h3
      · exact h.dom i h3 hj
      · obtain rfl : i = a := by omega
        rw [e]; exact ⟨h1, h2⟩
    · refine h.out b ?_ fun i hi hj => hc i (by omega) hj
      simp only [atL, List.mem_filter, Bool.and_eq_true, decide_eq_true_eq]
      refine ⟨hb, ?_⟩
      have := hc a (Nat.le_refl _) ha
      rw [e] at this; exact this
theorem atL_sub {l : List Bx} {a : Nat} {n x : Int} (h1 : n ≤ x) (h2 : x < afterL l a n maxA1) (hn : n < maxA1) : ∀ b ∈ atL l a n, b ∈ atL l a x := by
  intro b hb
  simp only [atL, List.mem_filter, Bool.and_eq_true, decide_eq_true_eq] at hb ⊢
  have := (afterL_spec a n l maxA1 hn).2.2.1 b hb.1 hb.2.2
  exact ⟨hb.1, by omega, by omega⟩
theorem none_until {d : Bx} {l : List Bx} {a : Nat} {v : List Int} (ha : a < 16) (hv : v.length = 16) {n : Int} (h1 : at' d.lo a ≤ n) (h2 : n ≤ at' d.hi a) (hn : n < maxA1) (h : ∀ w, ¬ Good d (atL l a n) (a + 1) (v.set a n) w) :
    ∀ w, Good d l a v w → at' w a < n ∨ afterL l a n maxA1 ≤ at' w a := by
  intro w hw
  refine Classical.byContradiction fun hc => ?_
  have hx1 : n ≤ at' w a := by omega
  have hx2 : at' w a < afterL l a n maxA1 := by omega
  have hd := hw.dom a (Nat.le_refl _) ha
  have hg := (good_at (l := l) (w := w) ha hv hd.1 hd.2).1 ⟨hw, rfl⟩
  have hset := fun i => at_set w a i n (by rw [hw.len]; exact ha)
  refine h (w.set a n) ⟨by rw [List.length_set]; exact hw.len, fun i hi => ?_, fun i hi hj => ?_, fun b hb hcv => ?_⟩
  · rw [hset, at_set v a i n (by omega)]
    split
    · rfl
    · exact hw.pre i (by omega)
  · rw [hset, if_neg (by omega)]; exact hw.dom i (by omega) hj
  · refine hg.out b (atL_sub hx1 hx2 hn b hb) fun i hi hj => ?_
    have := hcv i hi hj
    rw [hset, if_neg (by omega)] at this
    exact this
theorem scanG_spec {σ : Type} {d : Bx} {l : List Bx} {a : Nat} {v : List Int} (ha : a < 16) (hv : v.length = 16) (hh : at' d.hi a ≤ 9007199254740992) (Inv : σ → Prop) (pt : σ → List Int) {rec : Int → σ → σ × Bool}
    (hrec : ∀ n s, Inv s → at' d.lo a ≤ n → n ≤ at' d.hi a → Inv (rec n s).1 ∧ if (rec n s).2 then Least d (atL l a n) (a + 1) (v.set a n) (pt (rec n s).1) else ∀ w, ¬ Good d (atL l a n) (a + 1) (v.set a n) w) :
    ∀ (k : Nat) (n : Int) (s : σ), Inv s → at' d.lo a ≤ n → enough l a (at' d.hi a) n k → (∀ w, Good d l a v w → n ≤ at' w a) →
      Inv (scanG (at' d.hi a) (fun n => afterL l a n maxA1) rec k n s).1 ∧ if (scanG (at' d.hi a) (fun n => afterL l a n maxA1) rec k n s).2 then Least d l a v (pt (scanG (at' d.hi a) (fun n => afterL l a n maxA1) rec k n s).1) else ∀ w, ¬ Good d l a v w
  | 0, n, s, hs, hn, he, hw => by
    refine ⟨hs, ?_⟩
    rw [if_neg (by simp [scanG])]
    intro w hg
    have := hw w hg
    have h2 := (hg.dom a (Nat.le_refl _) ha).2
    rcases he with h | h
    · exact absurd h (Nat.not_lt_zero _)
    · omega
  | k + 1, n, s, hs, hn, he, hw => by
    by_cases h1 : n ≤ at' d.hi a
    · obtain ⟨r1, r2⟩ := hrec n s hs hn h1
      by_cases h2 : (rec n s).2 = true
      · rw [if_pos h2] at r2
        have e : scanG (at' d.hi a) (fun n => afterL l a n maxA1) rec (k + 1) n s = ((rec n s).1, true) := by simp only [scanG, if_pos h1, h2, if_true]
        rw [e]
        refine ⟨r1, ?_⟩
        rw [if_pos rfl]
        obtain ⟨g1, g2⟩ := (good_at (l := l) ha hv hn h1).2 r2.1
        refine ⟨g1, fun x hx => ?_⟩
        have h3 := hw x hx
        rcases Classical.em (n < at' x a) with h4 | h4
        · exact .inr ⟨a, ha, fun i hi => (g1.pre i hi).trans (hx.pre i hi).symm, by simp only; omega⟩
        · exact r2.2 x ((good_at (l := l) ha hv hn h1).1 ⟨hx, by omega⟩)
      · rw [if_neg h2] at r2
        have e : scanG (at' d.hi a) (fun n => afterL l a n maxA1) rec (k + 1) n s = scanG (at' d.hi a) (fun n => afterL l a n maxA1) rec k (afterL l a n maxA1) (rec n s).1 := by
          simp only [scanG, if_pos h1, h2, if_false, Bool.false_eq_true]
        rw [e]
        have hnx : n < maxA1 := by unfold maxA1; omega
        have hgt := (afterL_spec a n l maxA1 hnx).1
        refine scanG_spec ha hv hh Inv pt hrec k _ _ r1 (by omega) (enough_next he h1 hh) fun w hg => ?_
        have h3 := hw w hg
        rcases none_until ha hv hn h1 hnx r2 w hg with h4 | h4
        · omega
        · exact h4
    · have e : scanG (at' d.hi a) (fun n => afterL l a n maxA1) rec (k + 1) n s = (s, false) := by simp only [scanG, if_neg h1]
      rw [e]
      refine ⟨hs, ?_⟩
      rw [if_neg (by simp)]
      intro w hg
      have := hw w hg
      have h2 := (hg.dom a (Nat.le_refl _) ha).2
      omega
def srch (d : Bx) : Nat → List Bx → List Int → List Int × Bool
  | 0, l, v => if l.isEmpty then (v.take 16 ++ d.lo.drop 16, true) else (v, false)
  | m + 1, l, v => if l.isEmpty then (v.take (15 - m) ++ d.lo.drop (15 - m), true) else
      scanG (at' d.hi (15 - m)) (fun n => afterL l (15 - m) n maxA1) (fun n v => if (srch d m (atL l (15 - m) n) (v.set (15 - m) n)).2 then ((srch d m (atL l (15 - m) n) (v.set (15 - m) n)).1, true) else (v.set (15 - m) n, false)) (l.length + 1) (at' d.lo (15 - m)) v
structure Dom (d : Bx) : Prop where
  ok : d.ok
  ne : ∀ i, i < 16 → at' d.lo i ≤ at' d.hi i
  hi : ∀ i, i < 16 → at' d.hi i ≤ 9007199254740992
theorem good_full {d : Bx} {l : List Bx} {v w : List Int} (hl : l ≠ []) : ¬ Good d l 16 v w := by
  intro h
  cases l with
  | nil => exact hl rfl
  | cons b l => exact h.out b (by simp) fun i h1 h2 => by omega
theorem srch_spec {d : Bx} (hd : Dom d) : ∀ (m : Nat), m ≤ 16 → ∀ (l : List Bx) (v : List Int), v.length = 16 →
    (srch d m l v).1.length = 16 ∧ if (srch d m l v).2 then Least d l (16 - m) v (srch d m l v).1 else ∀ w, ¬ Good d l (16 - m) v w
  | 0, hm, l, v, hv => by
    simp only [srch]
    by_cases hl : l = []
    · subst hl
      have := least_nil hd.ok hd.ne hv (Nat.le_refl 16)
      simp only [List.isEmpty_nil, if_true]
      exact ⟨this.1.len, this⟩
    · have : l.isEmpty = false := by simpa using hl
      simp only [this, Bool.false_eq_true, if_false]
      exact ⟨hv, fun w => good_full hl⟩
  | m + 1, hm, l, v, hv => by
    have ha : 15 - m < 16 := by omega
    rw [show 16 - (m + 1) = 15 - m by omega]
    by_cases hl : l = []
    · subst hl
      have := least_nil hd.ok hd.ne hv (show 15 - m ≤ 16 by omega)
      simp only [srch, List.isEmpty_nil, if_true]
      exact ⟨this.1.len, this⟩
    · have hle : l.isEmpty = false := by simpa using hl
      have ih := srch_spec hd m (by omega)
      rw [show 16 - m = 15 - m + 1 by omega] at ih
      have e : srch d (m + 1) l v = scanG (at' d.hi (15 - m)) (fun n => afterL l (15 - m) n maxA1) (fun n v => if (srch d m (atL l (15 - m) n) (v.set (15 - m) n)).2 then ((srch d m (atL l (15 - m) n) (v.set (15 - m) n)).1, true) else (v.set (15 - m) n, false)) (l.length + 1) (at' d.lo (15 - m)) v := by
        simp only [srch, hle, Bool.false_eq_true, if_false]
      rw [e]
      have key := scanG_spec (σ := List Int) (d := d) (l := l) (a := 15 - m) (v := v) ha hv (hd.hi _ ha) (fun s => s.length = 16 ∧ ∀ i, i < 15 - m → at' s i = at' v i) id
        (rec := fun n v => if (srch d m (atL l (15 - m) n) (v.set (15 - m) n)).2 then ((srch d m (atL l (15 - m) n) (v.set (15 - m) n)).1, true) else (v.set (15 - m) n, false)) (fun n s hs h1 h2 => by
        obtain ⟨i1, i2⟩ := ih (atL l (15 - m) n) (s.set (15 - m) n) (by rw [List.length_set]; exact hs.1)
        have hpre : ∀ i, i < 15 - m + 1 → at' (s.set (15 - m) n) i = at' (v.set (15 - m) n) i := fun i hi => by
          rw [at_set _ _ _ _ (by rw [hs.1]; exact ha), at_set _ _ _ _ (by rw [hv]; exact ha)]
          split
          · rfl
          · exact hs.2 i (by omega)
        by_cases h : (srch d m (atL l (15 - m) n) (s.set (15 - m) n)).2 = true
        · rw [if_pos h] at i2
          simp only [h, if_true]
          refine ⟨⟨i1, fun i hi => ?_⟩, i2.mono hpre⟩
          rw [i2.1.pre i (by omega), at_set _ _ _ _ (by rw [hs.1]; exact ha), if_neg (by omega)]
          exact hs.2 i hi
        · rw [if_neg h] at i2
          simp only [h, if_false, Bool.false_eq_true]
          refine ⟨⟨by rw [List.length_set]; exact hs.1, fun i hi => ?_⟩, fun w hw => i2 w (hw.mono fun i hi => (hpre i hi).symm)⟩
          rw [at_set _ _ _ _ (by rw [hs.1]; exact ha), if_neg (by omega)]
          exact hs.2 i hi)
        (l.length + 1) (at' d.lo (15 - m)) v ⟨hv, fun i hi => rfl⟩ (Int.le_refl _) (enough_start _ _ _ _) (fun w hw => (hw.dom _ (Nat.le_refl _) ha).1)
      exact ⟨key.1.1, key.2⟩
def selL : List Bx → Nat → List Bx
  | [], _ => []
  | b :: l, s => if s % 2 = 1 then b :: selL l (s / 2) else selL l (s / 2)
def restS : List Bx → Nat → Nat → Int → Nat
  | [], _, _, _ => 0
  | b :: l, a, s, n => (if s % 2 = 1 ∧ at' b.lo a ≤ n ∧ n ≤ at' b.hi a then 1 else 0) + 2 * restS l a (s / 2) n
theorem sel_one (b : Bx) (l : List Bx) (s x : Nat) (h : s = 1 + 2 * x) : selL (b :: l) s = b :: selL l x := by
  have h1 : s % 2 = 1 := by omega
  have h2 : s / 2 = x := by omega
  simp only [selL, h1, h2, if_true]
theorem sel_two (b : Bx) (l : List Bx) (s x : Nat) (h : s = 0 + 2 * x) : selL (b :: l) s = selL l x := by
  have h1 : ¬ s % 2 = 1 := by omega
  have h2 : s / 2 = x := by omega
  simp only [selL, h1, h2, if_false]
theorem sel_rest (a : Nat) (n : Int) : ∀ (l : List Bx) (s : Nat), selL l (restS l a s n) = atL (selL l s) a n
  | [], s => rfl
  | b :: l, s => by
    have ih := sel_rest a n l (s / 2)
    by_cases h2 : s % 2 = 1
    · rw [sel_one b l s (s / 2) (by omega)]
      by_cases h3 : at' b.lo a ≤ n ∧ n ≤ at' b.hi a
      · rw [sel_one b l _ (restS l a (s / 2) n) (by rw [restS, if_pos ⟨h2, h3⟩]), ih]
        simp only [atL, List.filter_cons, h3.1, h3.2, decide_true, Bool.and_self, if_true]
      · rw [sel_two b l _ (restS l a (s / 2) n) (by rw [restS, if_neg (fun h => h3 h.2)]), ih]
        have : (decide (at' b.lo a ≤ n) && decide (n ≤ at' b.hi a)) = false := by
          rw [Bool.eq_false_iff]; simp only [ne_eq, Bool.and_eq_true, decide_eq_true_eq]; exact h3
        simp only [atL, List.filter_cons, this, Bool.false_eq_true, if_false]
    · rw [sel_two b l s (s / 2) (by omega), sel_two b l _ (restS l a (s / 2) n) (by rw [restS, if_neg (fun h => h2 h.1)]), ih]
theorem sel_zero : ∀ l : List Bx, selL l 0 = []
  | [] => rfl
  | b :: l => by simp [selL, sel_zero l]
theorem sel_ne : ∀ (l : List Bx) (s : Nat), s ≠ 0 → s < 2 ^ l.length → selL l s ≠ []
  | [], s, h1, h2 => by simp at h2; omega
  | b :: l, s, h1, h2 => by
    simp only [selL]
    split
    · simp
    · exact sel_ne l (s / 2) (by omega) (by simp only [List.length_cons, Nat.pow_succ] at h2; omega)
theorem sel_all : ∀ l : List Bx, selL l (2 ^ l.length - 1) = l
  | [] => rfl
  | b :: l => by
    have h := Nat.one_le_two_pow (n := l.length)
    rw [sel_one b l _ (2 ^ l.length - 1) (by simp only [List.length_cons, Nat.pow_succ]; omega), sel_all l]
theorem rest_lt (a : Nat) (n : Int) : ∀ (l : List Bx) (s : Nat), restS l a s n < 2 ^ l.length
  | [], s => by simp [restS]
  | b :: l, s => by
    have := rest_lt a n l (s / 2)
    simp only [restS, List.length_cons, Nat.pow_succ]
    split <;> omega
theorem sel_length : ∀ (l : List Bx) (s : Nat), (selL l s).length ≤ l.length
  | [], s => Nat.le_refl _
  | b :: l, s => by
    have := sel_length l (s / 2)
    simp only [selL]
    split <;> simp <;> omega
abbrev Mem := List (Nat × Nat)
def insM (F : Mem) (x : Nat × Nat) : Mem := if F.contains x then F else F ++ [x]
theorem mem_insM {F : Mem} {x p : Nat × Nat} (h : p ∈ insM F x) : p ∈ F ∨ p = x := by
  unfold insM at h
  split at h
  · exact .inl h
  · rcases List.mem_append.1 h with h | h
    · exact .inl h
    · exact .inr (List.mem_singleton.1 h)
def fromF (d : Bx) (bs : List Bx) : Nat → Nat → List Int × Mem → (List Int × Mem) × Bool
  | 0, s, q => if s = 0 then ((q.1.take 16 ++ d.lo.drop 16, q.2), true) else (q, false)
  | m + 1, s, q => if s = 0 then ((q.1.take (15 - m) ++ d.lo.drop (15 - m), q.2), true) else if q.2.contains (15 - m, s) then (q, false) else
      let r := scanG (at' d.hi (15 - m)) (fun n => afterL (selL bs s) (15 - m) n maxA1) (fun n q => fromF d bs m (restS bs (15 - m) s n) (q.1.set (15 - m) n, q.2)) (bs.length + 1) (at' d.lo (15 - m)) q
      if r.2 then r else ((r.1.1, insM r.1.2 (15 - m, s)), false)
def MemOk (d : Bx) (bs : List Bx) (F : Mem) : Prop := ∀ p ∈ F, ∀ v w, ¬ Good d (selL bs p.2) p.1 v w
theorem fromF_spec {d : Bx} (hd : Dom d) (bs : List Bx) : ∀ (m : Nat), m ≤ 16 → ∀ (s : Nat) (q : List Int × Mem), s < 2 ^ bs.length → q.1.length = 16 → MemOk d bs q.2 →
    (fromF d bs m s q).1.1.length = 16 ∧ MemOk d bs (fromF d bs m s q).1.2 ∧ (∀ i, i < 16 - m → at' (fromF d bs m s q).1.1 i = at' q.1 i) ∧
      if (fromF d bs m s q).2 then Least d (selL bs s) (16 - m) q.1 (fromF d bs m s q).1.1 else ∀ w, ¬ Good d (selL bs s) (16 - m) q.1 w
  | 0, hm, s, q, hs, hq, hF => by
    by_cases h : s = 0
    · subst h
      have := least_nil hd.ok hd.ne hq (Nat.le_refl 16)
      simp only [fromF, if_true, sel_zero]
      exact ⟨this.1.len, hF, fun i hi => this.1.pre i hi, this⟩
    · rw [show fromF d bs 0 s q = (q, false) by simp only [fromF, h, if_false]]
      exact ⟨hq, hF, fun i hi => rfl, fun w => good_full (sel_ne _ _ h hs)⟩
  | m + 1, hm, s, q, hs, hq, hF => by
    have ha : 15 - m < 16 := by omega
    rw [show 16 - (m + 1) = 15 - m by omega]
    by_cases h : s = 0
    · subst h
      have := least_nil hd.ok hd.ne hq (show 15 - m ≤ 16 by omega)
      simp only [fromF, if_true, sel_zero]
      exact ⟨this.1.len, hF, fun i hi => this.1.pre i hi, this⟩
    · by_cases hc : q.2.contains (15 - m, s) = true
      · have hmem : (15 - m, s) ∈ q.2 := by simpa using hc
        rw [show fromF d bs (m + 1) s q = (q, false) by simp only [fromF, h, hc, if_true, if_false, Bool.false_eq_true]]
        exact ⟨hq, hF, fun _ _ => rfl, fun w => hF _ hmem _ w⟩
      · have ih := fromF_spec hd bs m (by omega)
        rw [show 16 - m = 15 - m + 1 by omega] at ih
        have key := scanG_spec (σ := List Int × Mem) (d := d) (l := selL bs s) (a := 15 - m) (v := q.1) ha hq (hd.hi _ ha) (fun r => r.1.length = 16 ∧ MemOk d bs r.2 ∧ ∀ i, i < 15 - m → at' r.1 i = at' q.1 i) (fun r => r.1)
          (rec := fun n q => fromF d bs m (restS bs (15 - m) s n) (q.1.set (15 - m) n, q.2)) (fun n r hr h1 h2 => by
          obtain ⟨i1, i2, i3, i4⟩ := ih (restS bs (15 - m) s n) (r.1.set (15 - m) n, r.2) (rest_lt _ _ _ _) (by simp only [List.length_set]; exact hr.1) hr.2.1
          simp only at i1 i2 i3 i4
          have hpre : ∀ i, i < 15 - m + 1 → at' (r.1.set (15 - m) n) i = at' (q.1.set (15 - m) n) i := fun i hi => by
            rw [at_set _ _ _ _ (by rw [hr.1]; exact ha), at_set _ _ _ _ (by rw [hq]; exact ha)]
            split
            · rfl
            · exact hr.2.2 i (by omega)
          rw [sel_rest] at i4
          refine ⟨⟨i1, i2, fun i hi => ?_⟩, ?_⟩
          · rw [i3 i (by omega), at_set _ _ _ _ (by rw [hr.1]; exact ha), if_neg (by omega)]
            exact hr.2.2 i hi
          · by_cases h : (fromF d bs m (restS bs (15 - m) s n) (r.1.set (15 - m) n, r.2)).2 = true
            · rw [if_pos h] at i4 ⊢
              exact i4.mono hpre
            · rw [if_neg h] at i4 ⊢
              exact fun w hw => i4 w (hw.mono fun i hi => (hpre i hi).symm))
          (bs.length + 1) (at' d.lo (15 - m)) q ⟨hq, hF, fun i hi => rfl⟩ (Int.le_refl _) (.inl (by have := cnt_le (selL bs s) (15 - m) (at' d.lo (15 - m)); have := sel_length bs s; omega)) (fun w hw => (hw.dom _ (Nat.le_refl _) ha).1)
        have e : fromF d bs (m + 1) s q = if (scanG (at' d.hi (15 - m)) (fun n => afterL (selL bs s) (15 - m) n maxA1) (fun n q => fromF d bs m (restS bs (15 - m) s n) (q.1.set (15 - m) n, q.2)) (bs.length + 1) (at' d.lo (15 - m)) q).2 = true then scanG (at' d.hi (15 - m)) (fun n => afterL (selL bs s) (15 - m) n maxA1) (fun n q => fromF d bs m (restS bs (15 - m) s n) (q.1.set (15 - m) n, q.2)) (bs.length + 1) (at' d.lo (15 - m)) q
            else (((scanG (at' d.hi (15 - m)) (fun n => afterL (selL bs s) (15 - m) n maxA1) (fun n q => fromF d bs m (restS bs (15 - m) s n) (q.1.set (15 - m) n, q.2)) (bs.length + 1) (at' d.lo (15 - m)) q).1.1, insM (scanG (at' d.hi (15 - m)) (fun n => afterL (selL bs s) (15 - m) n maxA1) (fun n q => fromF d bs m (restS bs (15 - m) s n) (q.1.set (15 - m) n, q.2)) (bs.length + 1) (at' d.lo (15 - m)) q).1.2 (15 - m, s)), false) := by
          simp only [fromF, h, hc, if_false, Bool.false_eq_true]
        rw [e]
        generalize scanG (at' d.hi (15 - m)) (fun n => afterL (selL bs s) (15 - m) n maxA1) (fun n q => fromF d bs m (restS bs (15 - m) s n) (q.1.set (15 - m) n, q.2)) (bs.length + 1) (at' d.lo (15 - m)) q = r at key ⊢
        obtain ⟨⟨k1, k2, k3⟩, k4⟩ := key
        by_cases hr : r.2 = true
        · rw [if_pos hr] at k4
          simp only [if_pos hr]
          exact ⟨k1, k2, k3, k4⟩
        · rw [if_neg hr] at k4
          simp only [if_neg hr, Bool.false_eq_true, if_false]
          refine ⟨k1, fun p hp v w => ?_, k3, k4⟩
          rcases mem_insM hp with hp | hp
          · exact k2 p hp v w
          · subst hp
            have gen : ∀ v w, Good d (selL bs s) (15 - m) v w → False := by
              intro v w hg
              have hat := fun i => at_app q.1 w (15 - m) (by omega) i
              refine k4 (q.1.take (15 - m) ++ w.drop (15 - m)) ⟨by simp [hq, hg.len]; omega, fun i hi => by rw [hat, if_pos hi], fun i h1 h2 => by rw [hat, if_neg (by omega)]; exact hg.dom i h1 h2, fun b hb hcv => hg.out b hb fun i h1 h2 => ?_⟩
              have := hcv i h1 h2
              rw [hat, if_neg (by omega)] at this
              exact this
            exact gen v w
end Go.Proofs.Ytgppecaeegaooaa.PI
