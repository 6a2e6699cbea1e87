/-
  tbox: maps of what failed, sets as bits, copies between arrays; the program's search, carried out.
  Conditions: none; these are lemmas.
-/
import Derived.Test.YtgppecaeegaooaaEngLaw
import Derived.Test.YtgppecaeegaooaaEngV2
import Derived.Test.YtgppecaeegaooaaEngC2
import Derived.Test.YtgppecaeegaooaaFns
namespace Go.Proofs.Ytgppecaeegaooaa.PI
open Go
set_option linter.unusedSimpArgs false
set_option linter.unusedVariables false
def GG : Glob := fun _ => none
abbrev at' (x : List Int) (i : Nat) : Int := x.getD i default
theorem at_set (x : List Int) (i j : Nat) (v : Int) (h : i < x.length) : at' (x.set i v) j = if i = j then v else at' x j := by
  unfold at'
  simp only [List.getD_eq_getElem?_getD, List.getElem?_set]
  by_cases e : i = j
  · subst e; simp [h]
  · simp [e]
theorem ext_at {x y : List Int} (hl : x.length = y.length) (h : ∀ i, i < x.length → at' x i = at' y i) : x = y := by
  apply List.ext_getElem hl
  intro i h1 h2
  have := h i h1
  unfold at' at this
  simpa [List.getD_eq_getElem?_getD, List.getElem?_eq_getElem h1, List.getElem?_eq_getElem h2] using this
theorem at_app (x y : List Int) (a : Nat) (ha : a ≤ x.length) (i : Nat) : at' (x.take a ++ y.drop a) i = if i < a then at' x i else at' y i := by
  unfold at'
  simp only [List.getD_eq_getElem?_getD]
  by_cases e : i < a
  · rw [List.getElem?_append_left (by simp; omega), List.getElem?_take]; simp [e]
  · rw [List.getElem?_append_right (by simp; omega), List.getElem?_drop, List.length_take]
    simp only [e, if_false]
    congr 2
    omega
theorem at_rep (n : Nat) (v : Int) (i : Nat) (h : i < n) : at' (List.replicate n v) i = v := by
  simp [at', List.getD_eq_getElem?_getD, h]
theorem at_zip (f : Int → Int → Int) (x y : List Int) (i : Nat) (h1 : i < x.length) (h2 : i < y.length) : at' (List.zipWith f x y) i = f (at' x i) (at' y i) := by
  simp [at', List.getD_eq_getElem?_getD, List.getElem?_zipWith, h1, h2]
structure Tst where
  a : Int
  lo : Int
  hi : Int
  deriving DecidableEq
instance : Inhabited Tst := ⟨⟨0, 0, 0⟩⟩
structure Bx where
  lo : List Int
  hi : List Int
  deriving DecidableEq
def zBx : Bx := ⟨List.replicate 16 0, List.replicate 16 0⟩
instance : Inhabited Bx := ⟨zBx⟩
def Bx.ok (b : Bx) : Prop := b.lo.length = 16 ∧ b.hi.length = 16
theorem zBx_ok : zBx.ok := ⟨rfl, rfl⟩
def allB : Bx := ⟨List.replicate 16 0, List.replicate 16 9007199254740992⟩
theorem allB_ok : allB.ok := ⟨rfl, rfl⟩
def okA (t : Tst) : Prop := 0 ≤ t.a ∧ t.a < 16
instance (t : Tst) : Decidable (okA t) := by unfold okA; infer_instance
def cutB (b : Bx) (t : Tst) : Bx := ⟨b.lo.set t.a.toNat (max (at' b.lo t.a.toNat) t.lo), b.hi.set t.a.toNat (min (at' b.hi t.a.toNat) t.hi)⟩
def meetB (b c : Bx) : Bx := ⟨List.zipWith max b.lo c.lo, List.zipWith min b.hi c.hi⟩
def someF (b : Bx) : Nat → Bool
  | 0 => true
  | i + 1 => someF b i && decide (at' b.lo i ≤ at' b.hi i)
def someB (b : Bx) : Bool := someF b 16
theorem someF_iff (b : Bx) : ∀ n, someF b n = true ↔ ∀ i, i < n → at' b.lo i ≤ at' b.hi i
  | 0 => by simp [someF]
  | n + 1 => by
    simp only [someF, Bool.and_eq_true, someF_iff b n, decide_eq_true_eq]
    constructor
    · rintro ⟨h1, h2⟩ i hi
      rcases Nat.lt_or_ge i n with h | h
      · exact h1 i h
      · obtain rfl : i = n := by omega
        exact h2
    · exact fun h => ⟨fun i hi => h i (by omega), h n (by omega)⟩
theorem someB_iff (b : Bx) : someB b = true ↔ ∀ i, i < 16 → at' b.lo i ≤ at' b.hi i := someF_iff b 16
def runT (b : Bx) : List Tst → Option Bx
  | [] => some b
  | t :: l => if okA t then runT (cutB b t) l else none
def ofB (l : List Tst) : Bx × Bool := match runT allB l with
  | some b => if someB b then (b, true) else (zBx, false)
  | none => (zBx, false)
theorem cutB_ok {b : Bx} (h : b.ok) (t : Tst) : (cutB b t).ok := ⟨by simp [cutB, h.1], by simp [cutB, h.2]⟩
theorem meetB_ok {b c : Bx} (h : b.ok) (h2 : c.ok) : (meetB b c).ok := ⟨by simp [meetB, h.1, h2.1], by simp [meetB, h.2, h2.2]⟩
theorem runT_ok : ∀ {l : List Tst} {b c : Bx}, b.ok → runT b l = some c → c.ok
  | [], b, c, h, e => by simp only [runT, Option.some.injEq] at e; exact e ▸ h
  | t :: l, b, c, h, e => by
    simp only [runT] at e
    split at e
    · exact runT_ok (cutB_ok h t) e
    · cases e
theorem ofB_ok (l : List Tst) : (ofB l).1.ok := by
  unfold ofB
  split
  · rename_i b hb
    split
    · exact runT_ok allB_ok hb
    · exact zBx_ok
  · exact zBx_ok
theorem Bx_ext {b c : Bx} (hb : b.ok) (hc : c.ok) (h1 : ∀ i, i < 16 → at' b.lo i = at' c.lo i) (h2 : ∀ i, i < 16 → at' b.hi i = at' c.hi i) : b = c := by
  obtain ⟨bl, bh⟩ := b
  obtain ⟨cl, ch⟩ := c
  have e1 : bl = cl := ext_at (hb.1.trans hc.1.symm) (fun i hi => h1 i (by have := hb.1; simp only at this; omega))
  have e2 : bh = ch := ext_at (hb.2.trans hc.2.symm) (fun i hi => h2 i (by have := hb.2; simp only at this; omega))
  rw [e1, e2]
theorem meetB_lo {b c : Bx} (hb : b.ok) (hc : c.ok) (i : Nat) (h : i < 16) : at' (meetB b c).lo i = max (at' b.lo i) (at' c.lo i) := at_zip _ _ _ _ (by rw [hb.1]; exact h) (by rw [hc.1]; exact h)
theorem meetB_hi {b c : Bx} (hb : b.ok) (hc : c.ok) (i : Nat) (h : i < 16) : at' (meetB b c).hi i = min (at' b.hi i) (at' c.hi i) := at_zip _ _ _ _ (by rw [hb.2]; exact h) (by rw [hc.2]; exact h)
theorem cutB_lo {b : Bx} {t : Tst} (hb : b.ok) (ht : okA t) (i : Nat) : at' (cutB b t).lo i = if t.a.toNat = i then max (at' b.lo i) t.lo else at' b.lo i := by
  obtain ⟨h1, h2⟩ := ht
  unfold cutB
  simp only
  rw [at_set _ _ _ _ (by rw [hb.1]; omega)]
  split
  · rename_i e; rw [e]
  · rfl
theorem cutB_hi {b : Bx} {t : Tst} (hb : b.ok) (ht : okA t) (i : Nat) : at' (cutB b t).hi i = if t.a.toNat = i then min (at' b.hi i) t.hi else at' b.hi i := by
  obtain ⟨h1, h2⟩ := ht
  unfold cutB
  simp only
  rw [at_set _ _ _ _ (by rw [hb.2]; omega)]
  split
  · rename_i e; rw [e]
  · rfl
def inAll (b : Bx) : Prop := ∀ i, i < 16 → 0 ≤ at' b.lo i ∧ at' b.hi i ≤ 9007199254740992
theorem inAll_all : inAll allB := fun i hi => by
  unfold allB
  simp only
  rw [at_rep _ _ _ hi, at_rep _ _ _ hi]
  omega
theorem inAll_run : ∀ (l : List Tst) {b c : Bx}, b.ok → inAll b → runT b l = some c → inAll c
  | [], b, c, h, ha, e => by simp only [runT, Option.some.injEq] at e; exact e ▸ ha
  | t :: l, b, c, h, ha, e => by
    simp only [runT] at e
    split at e
    · rename_i ht
      refine inAll_run l (cutB_ok h t) (fun i hi => ?_) e
      have := ha i hi
      rw [cutB_lo h ht, cutB_hi h ht]
      split <;> omega
    · cases e
theorem meet_self {b : Bx} (hb : b.ok) : meetB b b = b := by
  refine Bx_ext (meetB_ok hb hb) hb (fun i hi => ?_) (fun i hi => ?_)
  · rw [meetB_lo hb hb i hi]; omega
  · rw [meetB_hi hb hb i hi]; omega
end Go.Proofs.Ytgppecaeegaooaa.PI
namespace Go.Proofs.Ytgppecaeegaooaa.PI
open Go
set_option linter.unusedSimpArgs false
set_option linter.unusedVariables false
def lexLt (x y : List Int) : Prop := ∃ k, k < 16 ∧ (∀ i, i < k → at' x i = at' y i) ∧ at' x k < at' y k
def lexLe (x y : List Int) : Prop := (∀ i, i < 16 → at' x i = at' y i) ∨ lexLt x y
theorem lexLt_irr {x y : List Int} (h1 : lexLt x y) (h2 : lexLe y x) : False := by
  obtain ⟨k, hk, e, l⟩ := h1
  rcases h2 with h2 | ⟨j, hj, e2, l2⟩
  · have := h2 k hk; omega
  · rcases Nat.lt_trichotomy j k with h | h | h
    · have := e j h; omega
    · subst h; omega
    · have := e2 k h; omega
theorem lexLe_anti {x y : List Int} (h1 : lexLe x y) (h2 : lexLe y x) : ∀ i, i < 16 → at' x i = at' y i := by
  rcases h1 with h1 | h1
  · exact h1
  · exact (lexLt_irr h1 h2).elim
theorem lexLe_total (x y : List Int) : lexLe x y ∨ lexLt y x := by
  by_cases h : ∀ i, i < 16 → at' x i = at' y i
  · exact .inl (.inl h)
  · have : ∃ n, ¬ ∀ i, i < n → at' x i = at' y i := ⟨16, h⟩
    have hn : ∀ n, n ≤ 16 → (¬ ∀ i, i < n → at' x i = at' y i) → lexLt x y ∨ lexLt y x := by
      intro n
      induction n with
      | zero => intro _ h; exact absurd (fun i hi => absurd hi (Nat.not_lt_zero _)) h
      | succ n ih =>
        intro hn hx
        by_cases hp : ∀ i, i < n → at' x i = at' y i
        · have hne : at' x n ≠ at' y n := fun e => hx fun i hi => by
            rcases Nat.lt_or_ge i n with h | h
            · exact hp i h
            · obtain rfl : i = n := by omega
              exact e
          rcases Int.lt_or_gt_of_ne hne with h1 | h1
          · exact .inl ⟨n, by omega, hp, h1⟩
          · exact .inr ⟨n, by omega, fun i hi => (hp i hi).symm, h1⟩
        · exact ih (by omega) hp
    rcases hn 16 (Nat.le_refl _) h with h | h
    · exact .inl (.inr h)
    · exact .inr h
def lessF (x y : List Int) : Nat → Nat → Bool
  | 0, _ => false
  | n + 1, i => if at' x i = at' y i then lessF x y n (i + 1) else decide (at' x i < at' y i)
def less (x y : List Int) : Bool := lessF x y 16 0
def cov (a : Nat) (b : Bx) (w : List Int) : Prop := ∀ i, a ≤ i → i < 16 → at' b.lo i ≤ at' w i ∧ at' w i ≤ at' b.hi i
structure Good (d : Bx) (l : List Bx) (a : Nat) (v w : List Int) : Prop where
  len : w.length = 16
  pre : ∀ i, i < a → at' w i = at' v i
  dom : ∀ i, a ≤ i → i < 16 → at' d.lo i ≤ at' w i ∧ at' w i ≤ at' d.hi i
  out : ∀ b ∈ l, ¬ cov a b w
def Least (d : Bx) (l : List Bx) (a : Nat) (v w : List Int) : Prop := Good d l a v w ∧ ∀ x, Good d l a v x → lexLe w x
theorem Good.mono {d : Bx} {l : List Bx} {a : Nat} {v v' w : List Int} (h : Good d l a v w) (e : ∀ i, i < a → at' v i = at' v' i) : Good d l a v' w := ⟨h.len, fun i hi => (h.pre i hi).trans (e i hi), h.dom, h.out⟩
theorem Least.mono {d : Bx} {l : List Bx} {a : Nat} {v v' w : List Int} (h : Least d l a v w) (e : ∀ i, i < a → at' v i = at' v' i) : Least d l a v' w :=
  ⟨h.1.mono e, fun x hx => h.2 x (hx.mono fun i hi => (e i hi).symm)⟩
theorem Least.unique {d : Bx} {l : List Bx} {a : Nat} {v w x : List Int} (h1 : Least d l a v w) (h2 : Least d l a v x) : w = x :=
  ext_at (h1.1.len.trans h2.1.len.symm) fun i hi => lexLe_anti (h1.2 x h2.1) (h2.2 w h1.1) i (by have := h1.1.len; omega)
theorem least_nil {d : Bx} {a : Nat} {v : List Int} (hd : d.ok) (hne : ∀ i, i < 16 → at' d.lo i ≤ at' d.hi i) (hv : v.length = 16) (ha : a ≤ 16) : Least d [] a v (v.take a ++ d.lo.drop a) := by
  have hat := fun i => at_app v d.lo a (by omega) i
  refine ⟨⟨by simp [hd.1, hv]; omega, fun i hi => by rw [hat, if_pos hi], fun i h1 h2 => by rw [hat, if_neg (by omega)]; exact ⟨Int.le_refl _, hne i h2⟩, fun b hb => by cases hb⟩, fun x hx => ?_⟩
  rcases lexLe_total (v.take a ++ d.lo.drop a) x with h | ⟨k, hk, e, l⟩
  · exact h
  · exfalso
    rw [hat] at l
    split at l
    · rename_i h; have := hx.pre k h; omega
    · rename_i h; have := (hx.dom k (by omega) hk).1; omega
def atL (l : List Bx) (a : Nat) (n : Int) : List Bx := l.filter fun b => decide (at' b.lo a ≤ n) && decide (n ≤ at' b.hi a)
def afterL : List Bx → Nat → Int → Int → Int
  | [], _, _, x => x
  | b :: l, a, n, x => afterL l a n (if n ≤ at' b.hi a then min x (at' b.hi a + 1) else x)
def maxA1 : Int := 9007199254740993
theorem afterL_spec (a : Nat) (n : Int) : ∀ (l : List Bx) (x : Int), n < x → n < afterL l a n x ∧ afterL l a n x ≤ x ∧ (∀ b ∈ l, n ≤ at' b.hi a → afterL l a n x ≤ at' b.hi a + 1) ∧ (afterL l a n x = x ∨ ∃ b ∈ l, n ≤ at' b.hi a ∧ afterL l a n x = at' b.hi a + 1)
  | [], x, h => ⟨h, Int.le_refl _, fun b hb => (by cases hb), .inl rfl⟩
  | b :: l, x, h => by
    simp only [afterL]
    by_cases hb : n ≤ at' b.hi a
    · rw [if_pos hb]
      obtain ⟨h1, h2, h3, h4⟩ := afterL_spec a n l (min x (at' b.hi a + 1)) (by omega)
      refine ⟨h1, by omega, fun c hc hn => ?_, ?_⟩
      · rcases List.mem_cons.1 hc with rfl | hc
        · omega
        · exact h3 c hc hn
      · rcases h4 with h4 | ⟨c, hc, h5, h6⟩
        · rcases Int.le_total x (at' b.hi a + 1) with h | h
          · exact .inl (by omega)
          · exact .inr ⟨b, by simp, hb, by omega⟩
        · exact .inr ⟨c, by simp [hc], h5, h6⟩
    · rw [if_neg hb]
      obtain ⟨h1, h2, h3, h4⟩ := afterL_spec a n l x h
      refine ⟨h1, h2, fun c hc hn => ?_, ?_⟩
      · rcases List.mem_cons.1 hc with rfl | hc
        · exact absurd hn hb
        · exact h3 c hc hn
      · rcases h4 with h4 | ⟨c, hc, h5, h6⟩
        · exact .inl h4
        · exact .inr ⟨c, by simp [hc], h5, h6⟩
def cnt : List Bx → Nat → Int → Nat
  | [], _, _ => 0
  | b :: l, a, n => (if n ≤ at' b.hi a then 1 else 0) + cnt l a n
theorem cnt_le : ∀ (l : List Bx) (a : Nat) (n : Int), cnt l a n ≤ l.length
  | [], a, n => Nat.le_refl _
  | b :: l, a, n => by
    have := cnt_le l a n
    simp only [cnt, List.length_cons]
    split <;> omega
theorem cnt_mono (a : Nat) {n m : Int} (h : n ≤ m) : ∀ l : List Bx, cnt l a m ≤ cnt l a n
  | [] => Nat.le_refl _
  | b :: l => by
    have := cnt_mono a h l
    simp only [cnt]
    split <;> split <;> omega
theorem cnt_lt (a : Nat) {n : Int} : ∀ (l : List Bx) (b : Bx), b ∈ l → n ≤ at' b.hi a → cnt l a (at' b.hi a + 1) < cnt l a n
  | [], b, hb, _ => by cases hb
  | c :: l, b, hb, hn => by
    have hm := cnt_mono a (show n ≤ at' b.hi a + 1 by omega) l
    simp only [cnt]
    rcases List.mem_cons.1 hb with rfl | hb
    · rw [if_neg (by omega), if_pos hn]; omega
    · have := cnt_lt a l b hb hn
      split <;> split <;> omega
def enough (l : List Bx) (a : Nat) (hi n : Int) (k : Nat) : Prop := cnt l a n < k ∨ hi < n
theorem enough_start (l : List Bx) (a : Nat) (hi n : Int) : enough l a hi n (l.length + 1) := .inl (by have := cnt_le l a n; omega)
theorem enough_next {l : List Bx} {a : Nat} {hi n : Int} {k : Nat} (h : enough l a hi n (k + 1)) (hn : n ≤ hi) (hh : hi ≤ 9007199254740992) : enough l a hi (afterL l a n maxA1) k := by
  rcases h with h | h
  · rcases (afterL_spec a n l maxA1 (by unfold maxA1; omega)).2.2.2 with h4 | ⟨b, hb, h5, h6⟩
    · exact .inr (by rw [h4]; unfold maxA1; omega)
    · have := cnt_lt a l b hb h5
      exact .inl (by rw [h6]; omega)
  · omega
def scanG {σ : Type} (hi : Int) (nx : Int → Int) (rec : Int → σ → σ × Bool) : Nat → Int → σ → σ × Bool
  | 0, _, s => (s, false)
  | k + 1, n, s => if n ≤ hi then (if (rec n s).2 then ((rec n s).1, true) else scanG hi nx rec k (nx n) (rec n s).1) else (s, false)
theorem good_at {d : Bx} {l : List Bx} {a : Nat} {v w : List Int} (ha : a < 16) (hv : v.length = 16) {n : Int} (h1 : at' d.lo a ≤ n) (h2 : n ≤ at' d.hi a) : (Good d l a v w ∧ at' w a = n) ↔ Good d (atL l a n) (a + 1) (v.set a n) w := by
  have hset := fun i => at_set v a i n (by omega)
  constructor
  · rintro ⟨h, e⟩
    refine ⟨h.len, fun i hi => ?_, fun i hi hj => h.dom i (by omega) hj, fun b hb hc => ?_⟩
    · rw [hset]
      split
      · rename_i e2; subst e2; exact e
      · exact h.pre i (by omega)
    · simp only [atL, List.mem_filter, Bool.and_eq_true, decide_eq_true_eq] at hb
      refine h.out b hb.1 fun i hi hj => ?_
      rcases Nat.lt_or_ge a i with h3 | h3
      · exact hc i h3 hj
      · obtain rfl : i = a := by omega
        rw [e]; exact hb.2
  · intro h
    have e : at' w a = n := by rw [h.pre a (by omega), hset, if_pos rfl]
    refine ⟨⟨h.len, fun i hi => ?_, fun i hi hj => ?_, fun b hb hc => ?_⟩, e⟩
    · rw [h.pre i (by omega), hset, if_neg (by omega)]
    · rcases Nat.lt_or_ge a i with h3 | h3
      · exact h.dom i h3 hj
      · obtain rfl : i = a := by omega
        rw [e]; exact ⟨h1, h2⟩
    · refine h.out b ?_ fun i hi hj => hc i (by omega) hj
      simp only [atL, List.mem_filter, Bool.and_eq_true, decide_eq_true_eq]
      refine ⟨hb, ?_⟩
      have := hc a (Nat.le_refl _) ha
      rw [e] at this; exact this
theorem atL_sub {l : List Bx} {a : Nat} {n x : Int} (h1 : n ≤ x) (h2 : x < afterL l a n maxA1) (hn : n < maxA1) : ∀ b ∈ atL l a n, b ∈ atL l a x := by
  intro b hb
  simp only [atL, List.mem_filter, Bool.and_eq_true, decide_eq_true_eq] at hb ⊢
  have := (afterL_spec a n l maxA1 hn).2.2.1 b hb.1 hb.2.2
  exact ⟨hb.1, by omega, by omega⟩
theorem none_until {d : Bx} {l : List Bx} {a : Nat} {v : List Int} (ha : a < 16) (hv : v.length = 16) {n : Int} (h1 : at' d.lo a ≤ n) (h2 : n ≤ at' d.hi a) (hn : n < maxA1) (h : ∀ w, ¬ Good d (atL l a n) (a + 1) (v.set a n) w) :
    ∀ w, Good d l a v w → at' w a < n ∨ afterL l a n maxA1 ≤ at' w a := by
  intro w hw
  refine Classical.byContradiction fun hc => ?_
  have hx1 : n ≤ at' w a := by omega
  have hx2 : at' w a < afterL l a n maxA1 := by omega
  have hd := hw.dom a (Nat.le_refl _) ha
  have hg := (good_at (l := l) (w := w) ha hv hd.1 hd.2).1 ⟨hw, rfl⟩
  have hset := fun i => at_set w a i n (by rw [hw.len]; exact ha)
  refine h (w.set a n) ⟨by rw [List.length_set]; exact hw.len, fun i hi => ?_, fun i hi hj => ?_, fun b hb hcv => ?_⟩
  · rw [hset, at_set v a i n (by omega)]
    split
    · rfl
    · exact hw.pre i (by omega)
  · rw [hset, if_neg (by omega)]; exact hw.dom i (by omega) hj
  · refine hg.out b (atL_sub hx1 hx2 hn b hb) fun i hi hj => ?_
    have := hcv i hi hj
    rw [hset, if_neg (by omega)] at this
    exact this
theorem scanG_spec {σ : Type} {d : Bx} {l : List Bx} {a : Nat} {v : List Int} (ha : a < 16) (hv : v.length = 16) (hh : at' d.hi a ≤ 9007199254740992) (Inv : σ → Prop) (pt : σ → List Int) {rec : Int → σ → σ × Bool}
    (hrec : ∀ n s, Inv s → at' d.lo a ≤ n → n ≤ at' d.hi a → Inv (rec n s).1 ∧ if (rec n s).2 then Least d (atL l a n) (a + 1) (v.set a n) (pt (rec n s).1) else ∀ w, ¬ Good d (atL l a n) (a + 1) (v.set a n) w) :
    ∀ (k : Nat) (n : Int) (s : σ), Inv s → at' d.lo a ≤ n → enough l a (at' d.hi a) n k → (∀ w, Good d l a v w → n ≤ at' w a) →
      Inv (scanG (at' d.hi a) (fun n => afterL l a n maxA1) rec k n s).1 ∧ if (scanG (at' d.hi a) (fun n => afterL l a n maxA1) rec k n s).2 then Least d l a v (pt (scanG (at' d.hi a) (fun n => afterL l a n maxA1) rec k n s).1) else ∀ w, ¬ Good d l a v w
  | 0, n, s, hs, hn, he, hw => by
    refine ⟨hs, ?_⟩
    rw [if_neg (by simp [scanG])]
    intro w hg
    have := hw w hg
    have h2 := (hg.dom a (Nat.le_refl _) ha).2
    rcases he with h | h
    · exact absurd h (Nat.not_lt_zero _)
    · omega
  | k + 1, n, s, hs, hn, he, hw => by
    by_cases h1 : n ≤ at' d.hi a
    · obtain ⟨r1, r2⟩ := hrec n s hs hn h1
      by_cases h2 : (rec n s).2 = true
      · rw [if_pos h2] at r2
        have e : scanG (at' d.hi a) (fun n => afterL l a n maxA1) rec (k + 1) n s = ((rec n s).1, true) := by simp only [scanG, if_pos h1, h2, if_true]
        rw [e]
        refine ⟨r1, ?_⟩
        rw [if_pos rfl]
        obtain ⟨g1, g2⟩ := (good_at (l := l) ha hv hn h1).2 r2.1
        refine ⟨g1, fun x hx => ?_⟩
        have h3 := hw x hx
        rcases Classical.em (n < at' x a) with h4 | h4
        · exact .inr ⟨a, ha, fun i hi => (g1.pre i hi).trans (hx.pre i hi).symm, by simp only; omega⟩
        · exact r2.2 x ((good_at (l := l) ha hv hn h1).1 ⟨hx, by omega⟩)
      · rw [if_neg h2] at r2
        have e : scanG (at' d.hi a) (fun n => afterL l a n maxA1) rec (k + 1) n s = scanG (at' d.hi a) (fun n => afterL l a n maxA1) rec k (afterL l a n maxA1) (rec n s).1 := by
          simp only [scanG, if_pos h1, h2, if_false, Bool.false_eq_true]
        rw [e]
        have hnx : n < maxA1 := by unfold maxA1; omega
        have hgt := (afterL_spec a n l maxA1 hnx).1
        refine scanG_spec ha hv hh Inv pt hrec k _ _ r1 (by omega) (enough_next he h1 hh) fun w hg => ?_
        have h3 := hw w hg
        rcases none_until ha hv hn h1 hnx r2 w hg with h4 | h4
        · omega
        · exact h4
    · have e : scanG (at' d.hi a) (fun n => afterL l a n maxA1) rec (k + 1) n s = (s, false) := by simp only [scanG, if_neg h1]
      rw [e]
      refine ⟨hs, ?_⟩
      rw [if_neg (by simp)]
      intro w hg
      have := hw w hg
      have h2 := (hg.dom a (Nat.le_refl _) ha).2
      omega
def srch (d : Bx) : Nat → List Bx → List Int → List Int × Bool
  | 0, l, v => if l.isEmpty then (v.take 16 ++ d.lo.drop 16, true) else (v, false)
  | m + 1, l, v => if l.isEmpty then (v.take (15 - m) ++ d.lo.drop (15 - m), true) else
      scanG (at' d.hi (15 - m)) (fun n => afterL l (15 - m) n maxA1) (fun n v => if (srch d m (atL l (15 - m) n) (v.set (15 - m) n)).2 then ((srch d m (atL l (15 - m) n) (v.set (15 - m) n)).1, true) else (v.set (15 - m) n, false)) (l.length + 1) (at' d.lo (15 - m)) v
structure Dom (d : Bx) : Prop where
  ok : d.ok
  ne : ∀ i, i < 16 → at' d.lo i ≤ at' d.hi i
  hi : ∀ i, i < 16 → at' d.hi i ≤ 9007199254740992
theorem good_full {d : Bx} {l : List Bx} {v w : List Int} (hl : l ≠ []) : ¬ Good d l 16 v w := by
  intro h
  cases l with
  | nil => exact hl rfl
  | cons b l => exact h.out b (by simp) fun i h1 h2 => by omega
theorem srch_spec {d : Bx} (hd : Dom d) : ∀ (m : Nat), m ≤ 16 → ∀ (l : List Bx) (v : List Int), v.length = 16 →
    (srch d m l v).1.length = 16 ∧ if (srch d m l v).2 then Least d l (16 - m) v (srch d m l v).1 else ∀ w, ¬ Good d l (16 - m) v w
  | 0, hm, l, v, hv => by
    simp only [srch]
    by_cases hl : l = []
    · subst hl
      have := least_nil hd.ok hd.ne hv (Nat.le_refl 16)
      simp only [List.isEmpty_nil, if_true]
      exact ⟨this.1.len, this⟩
    · have : l.isEmpty = false := by simpa using hl
      simp only [this, Bool.false_eq_true, if_false]
      exact ⟨hv, fun w => good_full hl⟩
  | m + 1, hm, l, v, hv => by
    have ha : 15 - m < 16 := by omega
    rw [show 16 - (m + 1) = 15 - m by omega]
    by_cases hl : l = []
    · subst hl
      have := least_nil hd.ok hd.ne hv (show 15 - m ≤ 16 by omega)
      simp only [srch, List.isEmpty_nil, if_true]
      exact ⟨this.1.len, this⟩
    · have hle : l.isEmpty = false := by simpa using hl
      have ih := srch_spec hd m (by omega)
      rw [show 16 - m = 15 - m + 1 by omega] at ih
      have e : srch d (m + 1) l v = scanG (at' d.hi (15 - m)) (fun n => afterL l (15 - m) n maxA1) (fun n v => if (srch d m (atL l (15 - m) n) (v.set (15 - m) n)).2 then ((srch d m (atL l (15 - m) n) (v.set (15 - m) n)).1, true) else (v.set (15 - m) n, false)) (l.length + 1) (at' d.lo (15 - m)) v := by
        simp only [srch, hle, Bool.false_eq_true, if_false]
      rw [e]
      have key := scanG_spec (σ := List Int) (d := d) (l := l) (a := 15 - m) (v := v) ha hv (hd.hi _ ha) (fun s => s.length = 16 ∧ ∀ i, i < 15 - m → at' s i = at' v i) id
        (rec := fun n v => if (srch d m (atL l (15 - m) n) (v.set (15 - m) n)).2 then ((srch d m (atL l (15 - m) n) (v.set (15 - m) n)).1, true) else (v.set (15 - m) n, false)) (fun n s hs h1 h2 => by
        obtain ⟨i1, i2⟩ := ih (atL l (15 - m) n) (s.set (15 - m) n) (by rw [List.length_set]; exact hs.1)
        have hpre : ∀ i, i < 15 - m + 1 → at' (s.set (15 - m) n) i = at' (v.set (15 - m) n) i := fun i hi => by
          rw [at_set _ _ _ _ (by rw [hs.1]; exact ha), at_set _ _ _ _ (by rw [hv]; exact ha)]
          split
          · rfl
          · exact hs.2 i (by omega)
        by_cases h : (srch d m (atL l (15 - m) n) (s.set (15 - m) n)).2 = true
        · rw [if_pos h] at i2
          simp only [h, if_true]
          refine ⟨⟨i1, fun i hi => ?_⟩, i2.mono hpre⟩
          rw [i2.1.pre i (by omega), at_set _ _ _ _ (by rw [hs.1]; exact ha), if_neg (by omega)]
          exact hs.2 i hi
        · rw [if_neg h] at i2
          simp only [h, if_false, Bool.false_eq_true]
          refine ⟨⟨by rw [List.length_set]; exact hs.1, fun i hi => ?_⟩, fun w hw => i2 w (hw.mono fun i hi => (hpre i hi).symm)⟩
          rw [at_set _ _ _ _ (by rw [hs.1]; exact ha), if_neg (by omega)]
          exact hs.2 i hi)
        (l.length + 1) (at' d.lo (15 - m)) v ⟨hv, fun i hi => rfl⟩ (Int.le_refl _) (enough_start _ _ _ _) (fun w hw => (hw.dom _ (Nat.le_refl _) ha).1)
      exact ⟨key.1.1, key.2⟩
def selL : List Bx → Nat → List Bx
  | [], _ => []
  | b :: l, s => if s % 2 = 1 then b :: selL l (s / 2) else selL l (s / 2)
def restS : List Bx → Nat → Nat → Int → Nat
  | [], _, _, _ => 0
  | b :: l, a, s, n => (if s % 2 = 1 ∧ at' b.lo a ≤ n ∧ n ≤ at' b.hi a then 1 else 0) + 2 * restS l a (s / 2) n
theorem sel_one (b : Bx) (l : List Bx) (s x : Nat) (h : s = 1 + 2 * x) : selL (b :: l) s = b :: selL l x := by
  have h1 : s % 2 = 1 := by omega
  have h2 : s / 2 = x := by omega
  simp only [selL, h1, h2, if_true]
theorem sel_two (b : Bx) (l : List Bx) (s x : Nat) (h : s = 0 + 2 * x) : selL (b :: l) s = selL l x := by
  have h1 : ¬ s % 2 = 1 := by omega
  have h2 : s / 2 = x := by omega
  simp only [selL, h1, h2, if_false]
theorem sel_rest (a : Nat) (n : Int) : ∀ (l : List Bx) (s : Nat), selL l (restS l a s n) = atL (selL l s) a n
  | [], s => rfl
  | b :: l, s => by
    have ih := sel_rest a n l (s / 2)
    by_cases h2 : s % 2 = 1
    · rw [sel_one b l s (s / 2) (by omega)]
      by_cases h3 : at' b.lo a ≤ n ∧ n ≤ at' b.hi a
      · rw [sel_one b l _ (restS l a (s / 2) n) (by rw [restS, if_pos ⟨h2, h3⟩]), ih]
        simp only [atL, List.filter_cons, h3.1, h3.2, decide_true, Bool.and_self, if_true]
      · rw [sel_two b l _ (restS l a (s / 2) n) (by rw [restS, if_neg (fun h => h3 h.2)]), ih]
        have : (decide (at' b.lo a ≤ n) && decide (n ≤ at' b.hi a)) = false := by
          rw [Bool.eq_false_iff]; simp only [ne_eq, Bool.and_eq_true, decide_eq_true_eq]; exact h3
        simp only [atL, List.filter_cons, this, Bool.false_eq_true, if_false]
    · rw [sel_two b l s (s / 2) (by omega), sel_two b l _ (restS l a (s / 2) n) (by rw [restS, if_neg (fun h => h2 h.1)]), ih]
theorem sel_zero : ∀ l : List Bx, selL l 0 = []
  | [] => rfl
  | b :: l => by simp [selL, sel_zero l]
theorem sel_ne : ∀ (l : List Bx) (s : Nat), s ≠ 0 → s < 2 ^ l.length → selL l s ≠ []
  | [], s, h1, h2 => by simp at h2; omega
  | b :: l, s, h1, h2 => by
    simp only [selL]
    split
    · simp
    · exact sel_ne l (s / 2) (by omega) (by simp only [List.length_cons, Nat.pow_succ] at h2; omega)
theorem sel_all : ∀ l : List Bx, selL l (2 ^ l.length - 1) = l
  | [] => rfl
  | b :: l => by
    have h := Nat.one_le_two_pow (n := l.length)
    rw [sel_one b l _ (2 ^ l.length - 1) (by simp only [List.length_cons, Nat.pow_succ]; omega), sel_all l]
theorem rest_lt (a : Nat) (n : Int) : ∀ (l : List Bx) (s : Nat), restS l a s n < 2 ^ l.length
  | [], s => by simp [restS]
  | b :: l, s => by
    have := rest_lt a n l (s / 2)
    simp only [restS, List.length_cons, Nat.pow_succ]
    split <;> omega
theorem sel_length : ∀ (l : List Bx) (s : Nat), (selL l s).length ≤ l.length
  | [], s => Nat.le_refl _
  | b :: l, s => by
    have := sel_length l (s / 2)
    simp only [selL]
    split <;> simp <;> omega
abbrev Mem := List (Nat × Nat)
def insM (F : Mem) (x : Nat × Nat) : Mem := if F.contains x then F else F ++ [x]
theorem mem_insM {F : Mem} {x p : Nat × Nat} (h : p ∈ insM F x) : p ∈ F ∨ p = x := by
  unfold insM at h
  split at h
  · exact .inl h
  · rcases List.mem_append.1 h with h | h
    · exact .inl h
    · exact .inr (List.mem_singleton.1 h)
def fromF (d : Bx) (bs : List Bx) : Nat → Nat → List Int × Mem → (List Int × Mem) × Bool
  | 0, s, q => if s = 0 then ((q.1.take 16 ++ d.lo.drop 16, q.2), true) else (q, false)
  | m + 1, s, q => if s = 0 then ((q.1.take (15 - m) ++ d.lo.drop (15 - m), q.2), true) else if q.2.contains (15 - m, s) then (q, false) else
      let r := scanG (at' d.hi (15 - m)) (fun n => afterL (selL bs s) (15 - m) n maxA1) (fun n q => fromF d bs m (restS bs (15 - m) s n) (q.1.set (15 - m) n, q.2)) (bs.length + 1) (at' d.lo (15 - m)) q
      if r.2 then r else ((r.1.1, insM r.1.2 (15 - m, s)), false)
def MemOk (d : Bx) (bs : List Bx) (F : Mem) : Prop := ∀ p ∈ F, ∀ v w, ¬ Good d (selL bs p.2) p.1 v w
theorem fromF_spec {d : Bx} (hd : Dom d) (bs : List Bx) : ∀ (m : Nat), m ≤ 16 → ∀ (s : Nat) (q : List Int × Mem), s < 2 ^ bs.length → q.1.length = 16 → MemOk d bs q.2 →
    (fromF d bs m s q).1.1.length = 16 ∧ MemOk d bs (fromF d bs m s q).1.2 ∧ (∀ i, i < 16 - m → at' (fromF d bs m s q).1.1 i = at' q.1 i) ∧
      if (fromF d bs m s q).2 then Least d (selL bs s) (16 - m) q.1 (fromF d bs m s q).1.1 else ∀ w, ¬ Good d (selL bs s) (16 - m) q.1 w
  | 0, hm, s, q, hs, hq, hF => by
    by_cases h : s = 0
    · subst h
      have := least_nil hd.ok hd.ne hq (Nat.le_refl 16)
      simp only [fromF, if_true, sel_zero]
      exact ⟨this.1.len, hF, fun i hi => this.1.pre i hi, this⟩
    · rw [show fromF d bs 0 s q = (q, false) by simp only [fromF, h, if_false]]
      exact ⟨hq, hF, fun i hi => rfl, fun w => good_full (sel_ne _ _ h hs)⟩
  | m + 1, hm, s, q, hs, hq, hF => by
    have ha : 15 - m < 16 := by omega
    rw [show 16 - (m + 1) = 15 - m by omega]
    by_cases h : s = 0
    · subst h
      have := least_nil hd.ok hd.ne hq (show 15 - m ≤ 16 by omega)
      simp only [fromF, if_true, sel_zero]
      exact ⟨this.1.len, hF, fun i hi => this.1.pre i hi, this⟩
    · by_cases hc : q.2.contains (15 - m, s) = true
      · have hmem : (15 - m, s) ∈ q.2 := by simpa using hc
        rw [show fromF d bs (m + 1) s q = (q, false) by simp only [fromF, h, hc, if_true, if_false, Bool.false_eq_true]]
        exact ⟨hq, hF, fun _ _ => rfl, fun w => hF _ hmem _ w⟩
      · have ih := fromF_spec hd bs m (by omega)
        rw [show 16 - m = 15 - m + 1 by omega] at ih
        have key := scanG_spec (σ := List Int × Mem) (d := d) (l := selL bs s) (a := 15 - m) (v := q.1) ha hq (hd.hi _ ha) (fun r => r.1.length = 16 ∧ MemOk d bs r.2 ∧ ∀ i, i < 15 - m → at' r.1 i = at' q.1 i) (fun r => r.1)
          (rec := fun n q => fromF d bs m (restS bs (15 - m) s n) (q.1.set (15 - m) n, q.2)) (fun n r hr h1 h2 => by
          obtain ⟨i1, i2, i3, i4⟩ := ih (restS bs (15 - m) s n) (r.1.set (15 - m) n, r.2) (rest_lt _ _ _ _) (by simp only [List.length_set]; exact hr.1) hr.2.1
          simp only at i1 i2 i3 i4
          have hpre : ∀ i, i < 15 - m + 1 → at' (r.1.set (15 - m) n) i = at' (q.1.set (15 - m) n) i := fun i hi => by
            rw [at_set _ _ _ _ (by rw [hr.1]; exact ha), at_set _ _ _ _ (by rw [hq]; exact ha)]
            split
            · rfl
            · exact hr.2.2 i (by omega)
          rw [sel_rest] at i4
          refine ⟨⟨i1, i2, fun i hi => ?_⟩, ?_⟩
          · rw [i3 i (by omega), at_set _ _ _ _ (by rw [hr.1]; exact ha), if_neg (by omega)]
            exact hr.2.2 i hi
          · by_cases h : (fromF d bs m (restS bs (15 - m) s n) (r.1.set (15 - m) n, r.2)).2 = true
            · rw [if_pos h] at i4 ⊢
              exact i4.mono hpre
            · rw [if_neg h] at i4 ⊢
              exact fun w hw => i4 w (hw.mono fun i hi => (hpre i hi).symm))
          (bs.length + 1) (at' d.lo (15 - m)) q ⟨hq, hF, fun i hi => rfl⟩ (Int.le_refl _) (.inl (by have := cnt_le (selL bs s) (15 - m) (at' d.lo (15 - m)); have := sel_length bs s; omega)) (fun w hw => (hw.dom _ (Nat.le_refl _) ha).1)
        have e : fromF d bs (m + 1) s q = if (scanG (at' d.hi (15 - m)) (fun n => afterL (selL bs s) (15 - m) n maxA1) (fun n q => fromF d bs m (restS bs (15 - m) s n) (q.1.set (15 - m) n, q.2)) (bs.length + 1) (at' d.lo (15 - m)) q).2 = true then scanG (at' d.hi (15 - m)) (fun n => afterL (selL bs s) (15 - m) n maxA1) (fun n q => fromF d bs m (restS bs (15 - m) s n) (q.1.set (15 - m) n, q.2)) (bs.length + 1) (at' d.lo (15 - m)) q
            else (((scanG (at' d.hi (15 - m)) (fun n => afterL (selL bs s) (15 - m) n maxA1) (fun n q => fromF d bs m (restS bs (15 - m) s n) (q.1.set (15 - m) n, q.2)) (bs.length + 1) (at' d.lo (15 - m)) q).1.1, insM (scanG (at' d.hi (15 - m)) (fun n => afterL (selL bs s) (15 - m) n maxA1) (fun n q => fromF d bs m (restS bs (15 - m) s n) (q.1.set (15 - m) n, q.2)) (bs.length + 1) (at' d.lo (15 - m)) q).1.2 (15 - m, s)), false) := by
          simp only [fromF, h, hc, if_false, Bool.false_eq_true]
        rw [e]
        generalize scanG (at' d.hi (15 - m)) (fun n => afterL (selL bs s) (15 - m) n maxA1) (fun n q => fromF d bs m (restS bs (15 - m) s n) (q.1.set (15 - m) n, q.2)) (bs.length + 1) (at' d.lo (15 - m)) q = r at key ⊢
        obtain ⟨⟨k1, k2, k3⟩, k4⟩ := key
        by_cases hr : r.2 = true
        · rw [if_pos hr] at k4
          simp only [if_pos hr]
          exact ⟨k1, k2, k3, k4⟩
        · rw [if_neg hr] at k4
          simp only [if_neg hr, Bool.false_eq_true, if_false]
          refine ⟨k1, fun p hp v w => ?_, k3, k4⟩
          rcases mem_insM hp with hp | hp
          · exact k2 p hp v w
          · subst hp
            have gen : ∀ v w, Good d (selL bs s) (15 - m) v w → False := by
              intro v w hg
              have hat := fun i => at_app q.1 w (15 - m) (by omega) i
              refine k4 (q.1.take (15 - m) ++ w.drop (15 - m)) ⟨by simp [hq, hg.len]; omega, fun i hi => by rw [hat, if_pos hi], fun i h1 h2 => by rw [hat, if_neg (by omega)]; exact hg.dom i h1 h2, fun b hb hcv => hg.out b hb fun i h1 h2 => ?_⟩
              have := hcv i h1 h2
              rw [hat, if_neg (by omega)] at this
              exact this
            exact gen v w
end Go.Proofs.Ytgppecaeegaooaa.PI
namespace Go.Proofs.Ytgppecaeegaooaa.PI
open Go
set_option linter.unusedSimpArgs false
set_option linter.unusedVariables false
def nI (n : Int) : D := .int .i64 n
theorem nI_inj {a b : Int} (h : nI a = nI b) : a = b := by simpa [nI] using h
theorem nI_iff {a b : Int} : nI a = nI b ↔ a = b := ⟨nI_inj, fun h => by rw [h]⟩
theorem ints_iff {a b : List Int} : a.map nI = b.map nI ↔ a = b := ⟨map_inj fun _ _ => nI_inj, fun h => by rw [h]⟩
theorem ints_solid (l : List Int) : (l.map nI).all solid1 = true := map_solid nI (fun _ => rfl) l
theorem ints_cell (l : List Int) : (l.map nI).all D.isCell = true := map_cells nI (fun _ => rfl) l
def ptD (p : List Int) : D := .agg (p.map nI)
theorem ptD_iff {a b : List Int} : ptD a = ptD b ↔ a = b := by simp only [ptD, D.agg.injEq, ints_iff]
def bxL (b : Bx) : List Int := b.lo ++ b.hi
def bxC (b : Bx) : List D := (bxL b).map nI
def bxD (b : Bx) : D := .agg (bxC b)
theorem bxL_length {b : Bx} (h : b.ok) : (bxL b).length = 32 := by simp [bxL, h.1, h.2]
theorem bxC_length {b : Bx} (h : b.ok) : (bxC b).length = 32 := by simp [bxC, bxL_length h]
theorem bxD_inj {a b : Bx} (ha : a.ok) (hb : b.ok) (h : bxD a = bxD b) : a = b := by
  simp only [bxD, bxC, D.agg.injEq, ints_iff, bxL] at h
  obtain ⟨h1, h2⟩ := List.append_inj h (ha.1.trans hb.1.symm)
  obtain ⟨al, ah⟩ := a
  obtain ⟨bl, bh⟩ := b
  simp only at h1 h2
  rw [h1, h2]
theorem bxD_cond {a b : Bx} (ha : a.ok) (hb : b.ok) : bxD a = bxD b ↔ a = b := ⟨bxD_inj ha hb, fun h => by rw [h]⟩
def okL (l : List Bx) : Prop := ∀ b ∈ l, b.ok
theorem boxs_cond {a b : List Bx} (ha : okL a) (hb : okL b) : a.map bxD = b.map bxD ↔ a = b := by
  refine ⟨fun h => ?_, fun h => by rw [h]⟩
  induction a generalizing b with
  | nil => cases b with
    | nil => rfl
    | cons y b => cases h
  | cons x a ih => cases b with
    | nil => cases h
    | cons y b =>
      simp only [List.map_cons, List.cons.injEq] at h
      rw [bxD_inj (ha x (by simp)) (hb y (by simp)) h.1, ih (fun z hz => ha z (by simp [hz])) (fun z hz => hb z (by simp [hz])) h.2]
theorem spOf_encP {α : Type} {enc : α → List D} {pre : α → Prop} {f : α → D} (hinj : ∀ a b, pre a → pre b → enc a = enc b → a = b) (a : α) (hp : pre a) : spOf enc pre f (enc a) = some (f a) := by
  have hx : ∃ b, enc b = enc a ∧ pre b := ⟨a, rfl, hp⟩
  unfold spOf
  rw [dif_pos hx]
  rw [hinj _ _ hx.choose_spec.2 hp hx.choose_spec.1]
def tstD (t : Tst) : D := .agg [.int .i64 t.a, .int .i64 t.lo, .int .i64 t.hi]
theorem tstD_iff {a b : Tst} : tstD a = tstD b ↔ a = b := by
  obtain ⟨a1, a2, a3⟩ := a
  obtain ⟨b1, b2, b3⟩ := b
  simp [tstD]
theorem tstD_inj {a b : Tst} (h : tstD a = tstD b) : a = b := tstD_iff.1 h
theorem tsts_iff {a b : List Tst} : a.map tstD = b.map tstD ↔ a = b := ⟨map_inj fun _ _ => tstD_inj, fun h => by rw [h]⟩
structure Cls where
  nm : List UInt8
  wh : List Tst
  op : Int
  n : Int
  u0 : Int
  u1 : Int
  u2 : Int
  u3 : Int
  l : List D
instance : Inhabited Cls := ⟨⟨[], [], 0, 0, 0, 0, 0, 0, []⟩⟩
def clsC (c : Cls) : List D := [.str c.nm, .slc (nz 3 (c.wh.map tstD)) (c.wh.map tstD) false, .int .i64 c.op, .int .i64 c.n, .int .i64 c.u0, .int .i64 c.u1, .int .i64 c.u2, .int .i64 c.u3, .slc (nz 7 c.l) c.l false]
def clsD (c : Cls) : D := .agg (clsC c)
theorem clsD_iff {a b : Cls} : clsD a = clsD b ↔ a = b := by
  obtain ⟨a1, a2, a3, a4, a5, a6, a7, a8, a9⟩ := a
  obtain ⟨b1, b2, b3, b4, b5, b6, b7, b8, b9⟩ := b
  simp only [clsD, clsC, D.agg.injEq, List.cons.injEq, D.str.injEq, D.slc.injEq, D.int.injEq, tsts_iff, Cls.mk.injEq, and_true, true_and]
  constructor
  · rintro ⟨rfl, ⟨_, rfl⟩, rfl, rfl, rfl, rfl, rfl, rfl, _, rfl⟩
    exact ⟨rfl, rfl, rfl, rfl, rfl, rfl, rfl, rfl, rfl⟩
  · rintro ⟨rfl, rfl, rfl, rfl, rfl, rfl, rfl, rfl, rfl⟩
    exact ⟨rfl, ⟨rfl, rfl⟩, rfl, rfl, rfl, rfl, rfl, rfl, rfl, rfl⟩
theorem clss_iff {a b : List Cls} : a.map clsD = b.map clsD ↔ a = b := ⟨map_inj fun _ _ => clsD_iff.1, fun h => by rw [h]⟩
theorem clsC_solid (c : Cls) : (clsC c).all solid1 = true := by
  simp [clsC, solid1, nz_nz]
theorem clsC_cell (c : Cls) : (clsC c).all D.isCell = true := by simp [clsC, D.isCell]
structure Tar where
  nm : List UInt8
  for_ : Int
  cl : List Cls
def tarC (t : Tar) : List D := [.str t.nm, .int .i64 t.for_, .slc (nz 9 (t.cl.map clsD)) (t.cl.map clsD) false]
def tarD (t : Tar) : D := .agg (tarC t)
theorem tarD_iff {a b : Tar} : tarD a = tarD b ↔ a = b := by
  obtain ⟨a1, a2, a3⟩ := a
  obtain ⟨b1, b2, b3⟩ := b
  simp only [tarD, tarC, D.agg.injEq, List.cons.injEq, D.str.injEq, D.slc.injEq, D.int.injEq, clss_iff, Tar.mk.injEq, and_true, true_and]
  constructor
  · rintro ⟨rfl, rfl, _, rfl⟩; exact ⟨rfl, rfl, rfl⟩
  · rintro ⟨rfl, rfl, rfl⟩; exact ⟨rfl, rfl, rfl, rfl⟩
theorem tarC_solid (t : Tar) : (tarC t).all solid1 = true := by simp [tarC, solid1, nz_nz]
theorem tarC_cell (t : Tar) : (tarC t).all D.isCell = true := by simp [tarC, D.isCell]
theorem bxC_solid (b : Bx) : (bxC b).all solid1 = true := ints_solid _
theorem bxC_cell (b : Bx) : (bxC b).all D.isCell = true := ints_cell _
theorem zero_bx : D.agg [.int .i64 0, .int .i64 0, .int .i64 0, .int .i64 0, .int .i64 0, .int .i64 0, .int .i64 0, .int .i64 0, .int .i64 0, .int .i64 0, .int .i64 0, .int .i64 0, .int .i64 0, .int .i64 0, .int .i64 0, .int .i64 0, .int .i64 0, .int .i64 0, .int .i64 0, .int .i64 0, .int .i64 0, .int .i64 0, .int .i64 0, .int .i64 0, .int .i64 0, .int .i64 0, .int .i64 0, .int .i64 0, .int .i64 0, .int .i64 0, .int .i64 0, .int .i64 0] = bxD zBx := (rfl)
def z16 : List Int := List.replicate 16 0
theorem zero_pt : D.agg [.int .i64 0, .int .i64 0, .int .i64 0, .int .i64 0, .int .i64 0, .int .i64 0, .int .i64 0, .int .i64 0, .int .i64 0, .int .i64 0, .int .i64 0, .int .i64 0, .int .i64 0, .int .i64 0, .int .i64 0, .int .i64 0] = ptD z16 := (rfl)
def envC (h : Int) (v : List Int) : List D := (h :: v).map nI
def envD (h : Int) (v : List Int) : D := .agg (envC h v)
theorem zero_env : D.agg [.int .i64 0, .int .i64 0, .int .i64 0, .int .i64 0, .int .i64 0, .int .i64 0, .int .i64 0, .int .i64 0, .int .i64 0, .int .i64 0, .int .i64 0, .int .i64 0, .int .i64 0, .int .i64 0, .int .i64 0, .int .i64 0, .int .i64 0] = envD 0 z16 := (rfl)
theorem z16_length : z16.length = 16 := rfl
section
variable (st : St) (n : Nat) (σ : List Nat)
theorem box_bx (b : Bx) : boxD (bxD b) = some (bxC b) := by
  simp only [boxD, bxD, D.cells, bxC_cell, if_true]
theorem imm_bx (b : Bx) : imm st (bxD b) = some (bxD b) := solid_imm st (bxC_solid b)
theorem keys_bx (b : Bx) : keys (bxD b) = [] := solid_keys (bxC_solid b)
theorem hk_bx (b : Bx) : hk (bxD b) = [] := solid_hk (bxC_solid b)
theorem ren_bx (b : Bx) : ren n σ (bxD b) = bxD b := solid_ren n σ (bxC_solid b)
theorem hkB_bx (b : Bx) : (bxC b).flatMap hk = [] := hkB_solid (bxC_solid b)
theorem renB_bx (b : Bx) : (bxC b).map (ren n σ) = bxC b := renB_solid n σ (bxC_solid b)
theorem box_pt (b : List Int) : boxD (ptD b) = some (b.map nI) := by
  simp only [boxD, ptD, D.cells, ints_cell, if_true]
theorem imm_pt (b : List Int) : imm st (ptD b) = some (ptD b) := solid_imm st (ints_solid b)
theorem keys_pt (b : List Int) : keys (ptD b) = [] := solid_keys (ints_solid b)
theorem hk_pt (b : List Int) : hk (ptD b) = [] := solid_hk (ints_solid b)
theorem ren_pt (b : List Int) : ren n σ (ptD b) = ptD b := solid_ren n σ (ints_solid b)
theorem hkB_pt (b : List Int) : (b.map nI).flatMap hk = [] := hkB_solid (ints_solid b)
theorem renB_pt (b : List Int) : (b.map nI).map (ren n σ) = b.map nI := renB_solid n σ (ints_solid b)
theorem box_env (h : Int) (v : List Int) : boxD (envD h v) = some (envC h v) := box_pt _
theorem imm_env (h : Int) (v : List Int) : imm st (envD h v) = some (envD h v) := imm_pt st _
theorem keys_env (h : Int) (v : List Int) : keys (envD h v) = [] := keys_pt _
theorem hk_env (h : Int) (v : List Int) : hk (envD h v) = [] := hk_pt _
theorem ren_env (h : Int) (v : List Int) : ren n σ (envD h v) = envD h v := ren_pt n σ _
theorem hkB_env (h : Int) (v : List Int) : (envC h v).flatMap hk = [] := hkB_pt _
theorem renB_env (h : Int) (v : List Int) : (envC h v).map (ren n σ) = envC h v := renB_pt n σ _
theorem box_cls (c : Cls) : boxD (clsD c) = some (clsC c) := by simp only [boxD, clsD, D.cells, clsC_cell, if_true]
theorem imm_cls (c : Cls) : imm st (clsD c) = some (clsD c) := solid_imm st (clsC_solid c)
theorem keys_cls (c : Cls) : keys (clsD c) = [] := solid_keys (clsC_solid c)
theorem hk_cls (c : Cls) : hk (clsD c) = [] := solid_hk (clsC_solid c)
theorem ren_cls (c : Cls) : ren n σ (clsD c) = clsD c := solid_ren n σ (clsC_solid c)
theorem hkB_cls (c : Cls) : (clsC c).flatMap hk = [] := hkB_solid (clsC_solid c)
theorem renB_cls (c : Cls) : (clsC c).map (ren n σ) = clsC c := renB_solid n σ (clsC_solid c)
theorem box_tar (c : Tar) : boxD (tarD c) = some (tarC c) := by simp only [boxD, tarD, D.cells, tarC_cell, if_true]
theorem imm_tar (c : Tar) : imm st (tarD c) = some (tarD c) := solid_imm st (tarC_solid c)
theorem keys_tar (c : Tar) : keys (tarD c) = [] := solid_keys (tarC_solid c)
theorem hk_tar (c : Tar) : hk (tarD c) = [] := solid_hk (tarC_solid c)
theorem ren_tar (c : Tar) : ren n σ (tarD c) = tarD c := solid_ren n σ (tarC_solid c)
theorem hkB_tar (c : Tar) : (tarC c).flatMap hk = [] := hkB_solid (tarC_solid c)
theorem renB_tar (c : Tar) : (tarC c).map (ren n σ) = tarC c := renB_solid n σ (tarC_solid c)
theorem imm_tst (t : Tst) : imm st (tstD t) = some (tstD t) := solid_imm st rfl
theorem keys_tst (t : Tst) : keys (tstD t) = [] := (rfl)
theorem hk_tst (t : Tst) : hk (tstD t) = [] := (rfl)
theorem ren_tst (t : Tst) : ren n σ (tstD t) = tstD t := (rfl)
theorem box_tst (t : Tst) : boxD (tstD t) = some [.int .i64 t.a, .int .i64 t.lo, .int .i64 t.hi] := (rfl)
end
section
variable (sz : Nat) (lent : Bool)
theorem at_low (b : Bx) (i : Nat) (h : i < b.lo.length) : (bxL b).getD i default = at' b.lo i := by
  simp only [bxL, at', List.getD_eq_getElem?_getD, List.getElem?_append_left h]
theorem at_high {b : Bx} (hb : b.ok) (i : Nat) : (bxL b).getD (16 + i) default = at' b.hi i := by
  have := hb.1
  simp only [bxL, at', List.getD_eq_getElem?_getD]
  rw [List.getElem?_append_right (by omega)]
  congr 2
  omega
theorem ldB_lo {b : Bx} (hb : b.ok) (i : Nat) (h : i < 16) : ldO (some ⟨false, sz, bxC b, lent⟩) 1 false i = some (.int .i64 (at' b.lo i)) := by
  have := ldO_map sz lent nI (bxL b) i (by rw [bxL_length hb]; omega)
  rw [at_low b i (by rw [hb.1]; exact h)] at this
  exact this
theorem ldB_hi {b : Bx} (hb : b.ok) (i : Nat) (h : i < 16) : ldO (some ⟨false, sz, bxC b, lent⟩) 1 false (16 + i) = some (.int .i64 (at' b.hi i)) := by
  have := ldO_map sz lent nI (bxL b) (16 + i) (by rw [bxL_length hb]; omega)
  rw [at_high hb i] at this
  exact this
theorem stB_lo {b : Bx} (hb : b.ok) (i : Nat) (v : Int) (h : i < 16) : stO (some ⟨false, sz, bxC b, false⟩) 1 i (.int .i64 v) = some ⟨false, sz, bxC ⟨b.lo.set i v, b.hi⟩, false⟩ := by
  have := stO_set sz nI (fun _ => rfl) (bxL b) i v (by rw [bxL_length hb]; omega)
  rw [show (bxL b).set i v = bxL ⟨b.lo.set i v, b.hi⟩ by simp only [bxL]; rw [List.set_append, if_pos (by rw [hb.1]; exact h)]] at this
  exact this
theorem stB_hi {b : Bx} (hb : b.ok) (i : Nat) (v : Int) (h : i < 16) : stO (some ⟨false, sz, bxC b, false⟩) 1 (16 + i) (.int .i64 v) = some ⟨false, sz, bxC ⟨b.lo, b.hi.set i v⟩, false⟩ := by
  have := stO_set sz nI (fun _ => rfl) (bxL b) (16 + i) v (by rw [bxL_length hb]; omega)
  have h1 := hb.1
  rw [show (bxL b).set (16 + i) v = bxL ⟨b.lo, b.hi.set i v⟩ by simp only [bxL]; rw [List.set_append, if_neg (by omega), h1]; congr 2; omega] at this
  exact this
theorem ldB {b : Bx} (hb : b.ok) : ldO (some ⟨false, sz, bxC b, lent⟩) 32 true 0 = some (bxD b) := ldO_all sz lent _ 32 (bxC_length hb)
theorem stB {b c : Bx} (hb : b.ok) (hc : c.ok) : stO (some ⟨false, sz, bxC b, false⟩) 32 0 (bxD c) = some ⟨false, sz, bxC c, false⟩ := stO_all sz _ _ 32 (bxC_length hb) (bxC_length hc) (bxC_cell c)
theorem ldB_l {b : Bx} (hb : b.ok) : ldO (some ⟨false, sz, bxC b, lent⟩) 16 true 0 = some (ptD b.lo) := by
  simp [ldO, bxC, bxL, hb.1, hb.2, D.mk, ptD]
theorem ldB_h {b : Bx} (hb : b.ok) : ldO (some ⟨false, sz, bxC b, lent⟩) 16 true 16 = some (ptD b.hi) := by
  have h1 := hb.1
  have h2 := hb.2
  have e : ((bxC b).drop 16).take 16 = b.hi.map nI := by
    simp only [bxC, bxL, List.map_append]
    rw [List.drop_append_of_le_length (by simp [h1]), List.drop_of_length_le (by simp [h1]), List.nil_append, List.take_of_length_le (by simp [h2])]
  simp only [ldO, Option.bind_some, e, Bool.not_true, Bool.false_and, Bool.false_eq_true, if_false, Bool.not_false, Bool.true_and]
  rw [if_pos (by simp [bxC_length hb])]
  rfl
theorem ldP {p : List Int} (hp : p.length = 16) : ldO (some ⟨false, sz, p.map nI, lent⟩) 16 true 0 = some (ptD p) := ldO_all sz lent _ 16 (by simp [hp])
theorem stP {p q : List Int} (hp : p.length = 16) (hq : q.length = 16) : stO (some ⟨false, sz, p.map nI, false⟩) 16 0 (ptD q) = some ⟨false, sz, q.map nI, false⟩ := stO_all sz _ _ 16 (by simp [hp]) (by simp [hq]) (ints_cell q)
theorem ldE {h : Int} {p : List Int} (hp : p.length = 16) : ldO (some ⟨false, sz, envC h p, lent⟩) 17 true 0 = some (envD h p) := ldO_all sz lent _ 17 (by simp [envC, hp])
theorem stE {h k : Int} {p q : List Int} (hp : p.length = 16) (hq : q.length = 16) : stO (some ⟨false, sz, envC h p, false⟩) 17 0 (envD k q) = some ⟨false, sz, envC k q, false⟩ := stO_all sz _ _ 17 (by simp [envC, hp]) (by simp [envC, hq]) (ints_cell _)
theorem ldC (c : Cls) : ldO (some ⟨false, sz, clsC c, lent⟩) 9 true 0 = some (clsD c) := ldO_all sz lent _ 9 rfl
theorem ldC_w (c : Cls) : ldO (some ⟨false, sz, clsC c, lent⟩) 1 false 1 = some (.slc (nz 3 (c.wh.map tstD)) (c.wh.map tstD) false) := (rfl)
theorem stC (c d : Cls) : stO (some ⟨false, sz, clsC c, false⟩) 9 0 (clsD d) = some ⟨false, sz, clsC d, false⟩ := stO_all sz _ _ 9 rfl rfl (clsC_cell d)
theorem ldT_c (t : Tar) : ldO (some ⟨false, sz, tarC t, lent⟩) 1 false 2 = some (.slc (nz 9 (t.cl.map clsD)) (t.cl.map clsD) false) := (rfl)
theorem ldT (t : Tar) : ldO (some ⟨false, sz, tarC t, lent⟩) 3 true 0 = some (tarD t) := ldO_all sz lent _ 3 rfl
end
theorem pld_tst (st : St) (t : Tst) : pload st 3 true (.eptr (tstD t) 0) = some (tstD t) := (rfl)
theorem pld_tst0 (st : St) (t : Tst) : pload st 1 false (.eptr (tstD t) 0) = some (.int .i64 t.a) := (rfl)
theorem pld_tst1 (st : St) (t : Tst) : pload st 1 false (.eptr (tstD t) 1) = some (.int .i64 t.lo) := (rfl)
theorem pld_tst2 (st : St) (t : Tst) : pload st 1 false (.eptr (tstD t) 2) = some (.int .i64 t.hi) := (rfl)
theorem pld_cls (st : St) (c : Cls) : pload st 9 true (.eptr (clsD c) 0) = some (clsD c) := (rfl)
theorem pld_clsw (st : St) (c : Cls) : pload st 1 false (.eptr (clsD c) 1) = some (.slc (nz 3 (c.wh.map tstD)) (c.wh.map tstD) false) := (rfl)
theorem ld_tst (sz : Nat) (lent : Bool) (a b c : D) : ldO (some ⟨false, sz, [a, b, c], lent⟩) 3 true 0 = some (.agg [a, b, c]) := (rfl)
theorem st_tst (sz : Nat) (x y z : D) (t : Tst) : stO (some ⟨false, sz, [x, y, z], false⟩) 3 0 (tstD t) = some ⟨false, sz, [.int .i64 t.a, .int .i64 t.lo, .int .i64 t.hi], false⟩ := stO_all sz _ _ 3 rfl rfl rfl
theorem tst_eq (t : Tst) : D.agg [.int .i64 t.a, .int .i64 t.lo, .int .i64 t.hi] = tstD t := (rfl)
theorem box_3 (a b c : Int) : boxD (.agg [.int .i64 a, .int .i64 b, .int .i64 c]) = some [.int .i64 a, .int .i64 b, .int .i64 c] := (rfl)
theorem fill_bx : fillD [D.int .i64 0, .int .i64 0, .int .i64 0, .int .i64 0, .int .i64 0, .int .i64 0, .int .i64 0, .int .i64 0, .int .i64 0, .int .i64 0, .int .i64 0, .int .i64 0, .int .i64 0, .int .i64 0, .int .i64 0, .int .i64 0, .int .i64 0, .int .i64 0, .int .i64 0, .int .i64 0, .int .i64 0, .int .i64 0, .int .i64 0, .int .i64 0, .int .i64 0, .int .i64 0, .int .i64 0, .int .i64 0, .int .i64 0, .int .i64 0, .int .i64 0, .int .i64 0] [] = some (bxC zBx) := (rfl)
theorem bxD_eq (b : Bx) : D.agg (bxC b) = bxD b := (rfl)
theorem ptD_eq (p : List Int) : D.agg (p.map nI) = ptD p := (rfl)
theorem envD_eq (h : Int) (p : List Int) : D.agg (envC h p) = envD h p := (rfl)
theorem fill_env (h : Int) {p : List Int} (hp : p.length = 16) : fillD [D.int .i64 0, .int .i64 0, .int .i64 0, .int .i64 0, .int .i64 0, .int .i64 0, .int .i64 0, .int .i64 0, .int .i64 0, .int .i64 0, .int .i64 0, .int .i64 0, .int .i64 0, .int .i64 0, .int .i64 0, .int .i64 0, .int .i64 0] [(0, 1, .int .i64 h), (1, 16, ptD p)] = some (envC h p) := by
  have e1 : (envC h z16) = [.int .i64 h] ++ (z16.map nI ++ []) := by simp [envC, nI]
  have s1 : fillD [D.int .i64 0, .int .i64 0, .int .i64 0, .int .i64 0, .int .i64 0, .int .i64 0, .int .i64 0, .int .i64 0, .int .i64 0, .int .i64 0, .int .i64 0, .int .i64 0, .int .i64 0, .int .i64 0, .int .i64 0, .int .i64 0, .int .i64 0] [(0, 1, .int .i64 h), (1, 16, ptD p)] = fillD (envC h z16) [(1, 16, ptD p)] := (rfl)
  rw [s1]
  simp only [fillD, ptD, D.cells, ints_cell]
  rw [if_pos (by simp [envC, hp, z16_length])]
  have : splice (envC h z16) 1 (p.map nI) = envC h p := by
    rw [splice]
    simp [envC, hp, z16_length]
  rw [this]
theorem nc_bx (b : Bx) : (bxD b).noRef = true := by
  have : (bxC b).all D.noRef1 = true := by
    unfold bxC
    simp only [List.all_eq_true, List.mem_map]
    rintro x ⟨a, _, rfl⟩
    rfl
  exact this
attribute [push_cast] zero_bx zero_pt zero_env box_bx imm_bx keys_bx hk_bx ren_bx hkB_bx renB_bx box_pt imm_pt keys_pt hk_pt ren_pt hkB_pt renB_pt box_env imm_env keys_env hk_env ren_env hkB_env renB_env box_cls imm_cls keys_cls hk_cls ren_cls hkB_cls renB_cls box_tar imm_tar keys_tar hk_tar ren_tar hkB_tar renB_tar imm_tst keys_tst hk_tst ren_tst box_tst ldC ldC_w stC ldT_c ldT pld_tst pld_tst0 pld_tst1 pld_tst2 pld_cls pld_clsw ld_tst st_tst tst_eq box_3 fill_bx bxD_eq ptD_eq envD_eq nc_bx z16_length
end Go.Proofs.Ytgppecaeegaooaa.PI
namespace Go.Proofs.Ytgppecaeegaooaa.PI
open Go
set_option linter.unusedSimpArgs false
set_option linter.unusedVariables false
def hiB (i : Nat) : Bx := ⟨List.replicate 16 0, List.replicate i 9007199254740992 ++ List.replicate (16 - i) 0⟩
theorem hiB_ok {i : Nat} (h : i ≤ 16) : (hiB i).ok := ⟨rfl, by simp [hiB]; omega⟩
theorem hiB_all : hiB 16 = allB := rfl
theorem hiB_next (i : Nat) (h : i < 16) : (⟨(hiB i).lo, (hiB i).hi.set i 9007199254740992⟩ : Bx) = hiB (i + 1) := by
  unfold hiB
  simp only [Bx.mk.injEq, true_and]
  rw [List.set_append, if_neg (by simp), List.length_replicate, Nat.sub_self, show 16 - i = (16 - (i + 1)) + 1 by omega, List.replicate_succ, List.set_cons_zero, List.replicate_succ', List.append_assoc]
  rfl
noncomputable def sp_pall : List D → Option D := spOf (α := Unit) (fun _ => []) (fun _ => True) (fun _ => bxD allB)
theorem call_pall : sp_pall [] = some (bxD allB) :=
  spOf_enc (fun _ _ _ => rfl) () trivial
set_option maxHeartbeats 4000000 in
set_option maxRecDepth 20000 in
theorem w_pall : @wW GG (tb [] []) F_tbox_all.code (argF []) [] ⟨retQ F_tbox_all.res (bxD allB)⟩ := by
  unfold F_tbox_all
  simp (disch := first | omega | decide) only [push_cast, ↓wF_free, ↓reduceIte, Nat.reduceEqDiff, Nat.reduceLT, Nat.reduceLeDiff, Nat.reduceAdd, Nat.reduceSub, Nat.reduceMul, Nat.reduceBEq, Int.reduceLT, Int.reduceLE, Int.reduceToNat, Int.reduceNeg, Int.reducePow, Int.reduceAdd, Int.reduceMul, Int.reduceSub, ↓Int.reduceNatCast']
  refine W_while (fun i : Nat => [(0, .ptr 0 0), (2, .int .i64 (i : Int))]) (fun i => [⟨false, 1, bxC (hiB i), false⟩]) (fun i => i ≤ 16) (fun i => 16 - i) 0 (by simp only [push_cast, ↓wF_free, ↓reduceIte, Nat.reduceEqDiff, Nat.reduceLT, Nat.reduceLeDiff, Nat.reduceAdd, Nat.reduceSub, Nat.reduceMul, Nat.reduceBEq, Int.reduceLT, Int.reduceLE, Int.reduceToNat, Int.reduceNeg, Int.reducePow, Int.reduceAdd, Int.reduceMul, Int.reduceSub, ↓Int.reduceNatCast'] <;> rfl) (Nat.zero_le _) ?_
  intro i hi
  unfold F_tbox_all_L0
  simp (disch := first | omega | decide) only [push_cast, ↓wF_free, ↓reduceIte, Nat.reduceEqDiff, Nat.reduceLT, Nat.reduceLeDiff, Nat.reduceAdd, Nat.reduceSub, Nat.reduceMul, Nat.reduceBEq, Int.reduceLT, Int.reduceLE, Int.reduceToNat, Int.reduceNeg, Int.reducePow, Int.reduceAdd, Int.reduceMul, Int.reduceSub, ↓Int.reduceNatCast']
  refine ifD_split (fun h2 => ?_) (fun h2 => ?_)
  · have hlt : i < 16 := by omega
    have hs := stB_hi 1 (hiB_ok hi) i 9007199254740992 hlt
    rw [hiB_next i hlt] at hs
    simp (disch := first | omega | decide) only [push_cast, ↓wF_free, ↓reduceIte, Nat.reduceEqDiff, Nat.reduceLT, Nat.reduceLeDiff, Nat.reduceAdd, Nat.reduceSub, Nat.reduceMul, Nat.reduceBEq, Int.reduceLT, Int.reduceLE, Int.reduceToNat, Int.reduceNeg, Int.reducePow, Int.reduceAdd, Int.reduceMul, Int.reduceSub, ↓Int.reduceNatCast', idxA_ptr, hs, add_i]
    refine next_head (i + 1) (by omega) (by omega) ?_
    simp only [push_cast, ↓wF_free, ↓reduceIte, Nat.reduceEqDiff, Nat.reduceLT, Nat.reduceLeDiff, Nat.reduceAdd, Nat.reduceSub, Nat.reduceMul, Nat.reduceBEq, Int.reduceLT, Int.reduceLE, Int.reduceToNat, Int.reduceNeg, Int.reducePow, Int.reduceAdd, Int.reduceMul, Int.reduceSub, ↓Int.reduceNatCast'] <;> rfl
  · obtain rfl : i = 16 := by omega
    simp (disch := first | omega | decide) only [push_cast, ↓wF_free, ↓reduceIte, Nat.reduceEqDiff, Nat.reduceLT, Nat.reduceLeDiff, Nat.reduceAdd, Nat.reduceSub, Nat.reduceMul, Nat.reduceBEq, Int.reduceLT, Int.reduceLE, Int.reduceToNat, Int.reduceNeg, Int.reducePow, Int.reduceAdd, Int.reduceMul, Int.reduceSub, ↓Int.reduceNatCast', hiB_all, ldB _ _ allB_ok, stB _ allB_ok allB_ok]
theorem c_pall : Contract Try.prog GG 54 sp_pall :=
  contract_of tr_tbox_all (tb_ok all_nil all_nil) (fun a h => w_pall )
noncomputable def sp_pcut : List D → Option D := spOf (α := Bx × Tst) (fun a => [bxD a.1, tstD a.2]) (fun a => a.1.ok ∧ okA a.2) (fun a => bxD (cutB a.1 a.2))
theorem call_pcut (b : Bx) (t : Tst) (h : b.ok ∧ okA t) : sp_pcut [bxD b, tstD t] = some (bxD (cutB b t)) :=
  spOf_encP (fun ⟨a0, a1⟩ ⟨b0, b1⟩ p q h => by dsimp only at p q h; simp only [List.cons.injEq, D.slc.injEq, D.int.injEq, D.bool.injEq, D.str.injEq, D.agg.injEq, digs_iff, dig_iff, digC_iff, bytes_iff, byte_iff, words_iff, word_iff, bsl_iff, true_and, and_true, ints_iff, nI_iff, tsts_iff, clss_iff, clsD_iff, tarD_iff, tstD_iff, ptD_iff, Int.ofNat_inj, bxD_cond, boxs_cond, p, q] at h; simp [h, Prod.ext_iff]) (b, t) h
set_option maxHeartbeats 4000000 in
set_option maxRecDepth 20000 in
theorem w_pcut (b : Bx) (t : Tst) (h : b.ok ∧ okA t) : @wW GG (tb [] []) F_tbox_box_cut.code (argF [bxD b, tstD t]) [] ⟨retQ F_tbox_box_cut.res (bxD (cutB b t))⟩ := by
  obtain ⟨hb, ht⟩ := h
  have ht' := ht
  obtain ⟨h1, h2⟩ := ht'
  have hl := ldB_lo 1 false hb t.a.toNat (by omega)
  have hs := stB_lo 1 hb t.a.toNat (max (at' b.lo t.a.toNat) t.lo) (by omega)
  have hb2 : (⟨b.lo.set t.a.toNat (max (at' b.lo t.a.toNat) t.lo), b.hi⟩ : Bx).ok := ⟨by simp [hb.1], hb.2⟩
  have hl2 := ldB_hi 1 false hb2 t.a.toNat (by omega)
  have hs2 := stB_hi 1 hb2 t.a.toNat (min (at' b.hi t.a.toNat) t.hi) (by omega)
  have hc := cutB_ok hb t
  have e : (⟨b.lo.set t.a.toNat (max (at' b.lo t.a.toNat) t.lo), b.hi.set t.a.toNat (min (at' b.hi t.a.toNat) t.hi)⟩ : Bx) = cutB b t := rfl
  rw [e] at hs2
  unfold F_tbox_box_cut
  simp (disch := first | omega | decide) only [push_cast, ↓wF_free, ↓reduceIte, Nat.reduceEqDiff, Nat.reduceLT, Nat.reduceLeDiff, Nat.reduceAdd, Nat.reduceSub, Nat.reduceMul, Nat.reduceBEq, Int.reduceLT, Int.reduceLE, Int.reduceToNat, Int.reduceNeg, Int.reducePow, Int.reduceAdd, Int.reduceMul, Int.reduceSub, ↓Int.reduceNatCast', idxA_ptr, hl, hs, hl2, hs2, ldB _ _ hc, stB _ zBx_ok hc]
theorem c_pcut : Contract Try.prog GG 55 sp_pcut :=
  contract_of tr_tbox_box_cut (tb_ok all_nil all_nil) (fun a h => w_pcut a.1 a.2 h)
def meetI (b c : Bx) (i : Nat) : Bx := ⟨(meetB b c).lo.take i ++ b.lo.drop i, (meetB b c).hi.take i ++ b.hi.drop i⟩
theorem meetI_ok {b c : Bx} (hb : b.ok) (hc : c.ok) (i : Nat) : (meetI b c i).ok := by
  have hm := meetB_ok hb hc
  exact ⟨by simp [meetI, hm.1, hb.1]; omega, by simp [meetI, hm.2, hb.2]; omega⟩
theorem meetI_zero {b c : Bx} : meetI b c 0 = b := by simp [meetI]
theorem meetI_all {b c : Bx} (hb : b.ok) (hc : c.ok) : meetI b c 16 = meetB b c := by
  have hm := meetB_ok hb hc
  have h1 := hm.1
  have h2 := hm.2
  unfold meetI
  rw [List.take_of_length_le (by omega), List.take_of_length_le (by omega), List.drop_of_length_le (by rw [hb.1]; omega), List.drop_of_length_le (by rw [hb.2]; omega), List.append_nil, List.append_nil]
theorem at_meetI {b c : Bx} (hb : b.ok) (hc : c.ok) {i : Nat} (hi : i ≤ 16) (j : Nat) : at' (meetI b c i).lo j = (if j < i then at' (meetB b c).lo j else at' b.lo j) ∧ at' (meetI b c i).hi j = if j < i then at' (meetB b c).hi j else at' b.hi j := by
  have hm := meetB_ok hb hc
  have h1 := hm.1
  have h2 := hm.2
  exact ⟨at_app _ _ i (by omega) j, at_app _ _ i (by omega) j⟩
theorem meetI_next {b c : Bx} (hb : b.ok) (hc : c.ok) (i : Nat) (h : i < 16) : (⟨(meetI b c i).lo.set i (max (at' b.lo i) (at' c.lo i)), (meetI b c i).hi.set i (min (at' b.hi i) (at' c.hi i))⟩ : Bx) = meetI b c (i + 1) := by
  have hk := meetI_ok hb hc i
  have k1 := hk.1
  have k2 := hk.2
  refine Bx_ext ⟨by simp [k1], by simp [k2]⟩ (meetI_ok hb hc _) (fun j hj => ?_) (fun j hj => ?_)
  · simp only
    rw [at_set _ _ _ _ (by omega), (at_meetI hb hc (by omega) j).1, (at_meetI hb hc (by omega) j).1]
    by_cases e : i = j
    · subst e
      rw [if_pos rfl, if_pos (by omega), meetB_lo hb hc _ h]
    · rw [if_neg e]
      by_cases e2 : j < i
      · rw [if_pos e2, if_pos (by omega)]
      · rw [if_neg e2, if_neg (by omega)]
  · simp only
    rw [at_set _ _ _ _ (by omega), (at_meetI hb hc (by omega) j).2, (at_meetI hb hc (by omega) j).2]
    by_cases e : i = j
    · subst e
      rw [if_pos rfl, if_pos (by omega), meetB_hi hb hc _ h]
    · rw [if_neg e]
      by_cases e2 : j < i
      · rw [if_pos e2, if_pos (by omega)]
      · rw [if_neg e2, if_neg (by omega)]
theorem meet_steps {b c : Bx} (hb : b.ok) (hc : c.ok) {i : Nat} (h : i < 16) :
    ldO (some ⟨false, 1, bxC (meetI b c i), false⟩) 1 false i = some (.int .i64 (at' b.lo i)) ∧
    stO (some ⟨false, 1, bxC (meetI b c i), false⟩) 1 i (.int .i64 (max (at' b.lo i) (at' c.lo i))) = some ⟨false, 1, bxC ⟨(meetI b c i).lo.set i (max (at' b.lo i) (at' c.lo i)), (meetI b c i).hi⟩, false⟩ ∧
    ldO (some ⟨false, 1, bxC ⟨(meetI b c i).lo.set i (max (at' b.lo i) (at' c.lo i)), (meetI b c i).hi⟩, false⟩) 1 false (16 + i) = some (.int .i64 (at' b.hi i)) ∧
    stO (some ⟨false, 1, bxC ⟨(meetI b c i).lo.set i (max (at' b.lo i) (at' c.lo i)), (meetI b c i).hi⟩, false⟩) 1 (16 + i) (.int .i64 (min (at' b.hi i) (at' c.hi i))) = some ⟨false, 1, bxC (meetI b c (i + 1)), false⟩ ∧
    ldO (some ⟨false, 1, bxC (meetI b c (i + 1)), false⟩) 1 false i = some (.int .i64 (at' (meetB b c).lo i)) ∧
    ldO (some ⟨false, 1, bxC (meetI b c (i + 1)), false⟩) 1 false (16 + i) = some (.int .i64 (at' (meetB b c).hi i)) := by
  have hk := meetI_ok hb hc i
  have hk1 := meetI_ok hb hc (i + 1)
  have k1 := hk.1
  have hk2 : (⟨(meetI b c i).lo.set i (max (at' b.lo i) (at' c.lo i)), (meetI b c i).hi⟩ : Bx).ok := ⟨by simp [k1], hk.2⟩
  have a1 := ldB_lo 1 false hk i h
  rw [(at_meetI hb hc (by omega) i).1, if_neg (by omega)] at a1
  have a2 := stB_lo 1 hk i (max (at' b.lo i) (at' c.lo i)) h
  have a3 := ldB_hi 1 false hk2 i h
  simp only at a3
  rw [(at_meetI hb hc (by omega) i).2, if_neg (by omega)] at a3
  have a4 := stB_hi 1 hk2 i (min (at' b.hi i) (at' c.hi i)) h
  simp only at a4
  rw [meetI_next hb hc i h] at a4
  have a5 := ldB_lo 1 false hk1 i h
  rw [(at_meetI hb hc (by omega) i).1, if_pos (by omega)] at a5
  have a6 := ldB_hi 1 false hk1 i h
  rw [(at_meetI hb hc (by omega) i).2, if_pos (by omega)] at a6
  exact ⟨a1, a2, a3, a4, a5, a6⟩
noncomputable def sp_pmeet : List D → Option D := spOf (α := Bx × Bx) (fun a => [bxD a.1, bxD a.2]) (fun a => a.1.ok ∧ a.2.ok) (fun a => .tup [bxD (meetB a.1 a.2), .bool (someB (meetB a.1 a.2))])
theorem call_pmeet (b : Bx) (c : Bx) (h : b.ok ∧ c.ok) : sp_pmeet [bxD b, bxD c] = some (.tup [bxD (meetB b c), .bool (someB (meetB b c))]) :=
  spOf_encP (fun ⟨a0, a1⟩ ⟨b0, b1⟩ p q h => by dsimp only at p q h; simp only [List.cons.injEq, D.slc.injEq, D.int.injEq, D.bool.injEq, D.str.injEq, D.agg.injEq, digs_iff, dig_iff, digC_iff, bytes_iff, byte_iff, words_iff, word_iff, bsl_iff, true_and, and_true, ints_iff, nI_iff, tsts_iff, clss_iff, clsD_iff, tarD_iff, tstD_iff, ptD_iff, Int.ofNat_inj, bxD_cond, boxs_cond, p, q] at h; simp [h, Prod.ext_iff]) (b, c) h
set_option maxHeartbeats 4000000 in
set_option maxRecDepth 20000 in
theorem w_pmeet (b : Bx) (c : Bx) (h : b.ok ∧ c.ok) : @wW GG (tb [] []) F_tbox_box_meet.code (argF [bxD b, bxD c]) [] ⟨retQ F_tbox_box_meet.res (.tup [bxD (meetB b c), .bool (someB (meetB b c))])⟩ := by
  obtain ⟨hb, hc⟩ := h
  unfold F_tbox_box_meet
  simp (disch := first | omega | decide) only [push_cast, ↓wF_free, ↓reduceIte, Nat.reduceEqDiff, Nat.reduceLT, Nat.reduceLeDiff, Nat.reduceAdd, Nat.reduceSub, Nat.reduceMul, Nat.reduceBEq, Int.reduceLT, Int.reduceLE, Int.reduceToNat, Int.reduceNeg, Int.reducePow, Int.reduceAdd, Int.reduceMul, Int.reduceSub, ↓Int.reduceNatCast']
  refine W_while (fun i : Nat => [(2, .ptr 0 0), (3, .ptr 1 0), (4, .ptr 2 0), (6, .bool (someF (meetB b c) i)), (8, .int .i64 (i : Int))]) (fun i => [⟨false, 1, bxC (meetI b c i), false⟩, ⟨false, 1, bxC c, false⟩, ⟨false, 1, bxC zBx, false⟩]) (fun i => i ≤ 16) (fun i => 16 - i) 0 (by simp only [push_cast, ↓wF_free, ↓reduceIte, Nat.reduceEqDiff, Nat.reduceLT, Nat.reduceLeDiff, Nat.reduceAdd, Nat.reduceSub, Nat.reduceMul, Nat.reduceBEq, Int.reduceLT, Int.reduceLE, Int.reduceToNat, Int.reduceNeg, Int.reducePow, Int.reduceAdd, Int.reduceMul, Int.reduceSub, ↓Int.reduceNatCast', meetI_zero] <;> rfl) (Nat.zero_le _) ?_
  intro i hi
  unfold F_tbox_box_meet_L0
  simp (disch := first | omega | decide) only [push_cast, ↓wF_free, ↓reduceIte, Nat.reduceEqDiff, Nat.reduceLT, Nat.reduceLeDiff, Nat.reduceAdd, Nat.reduceSub, Nat.reduceMul, Nat.reduceBEq, Int.reduceLT, Int.reduceLE, Int.reduceToNat, Int.reduceNeg, Int.reducePow, Int.reduceAdd, Int.reduceMul, Int.reduceSub, ↓Int.reduceNatCast']
  refine ifD_split (fun h2 => ?_) (fun h2 => ?_)
  · have hlt : i < 16 := by omega
    obtain ⟨a1, a2, a3, a4, a5, a6⟩ := meet_steps hb hc hlt
    have c1 := ldB_lo 1 false hc i hlt
    have c2 := ldB_hi 1 false hc i hlt
    have hn : someF (meetB b c) (i + 1) = (someF (meetB b c) i && decide (at' (meetB b c).lo i ≤ at' (meetB b c).hi i)) := rfl
    by_cases h3 : someF (meetB b c) i = true
    · rw [h3] at hn
      simp (disch := first | omega | decide) only [push_cast, ↓wF_free, ↓reduceIte, Nat.reduceEqDiff, Nat.reduceLT, Nat.reduceLeDiff, Nat.reduceAdd, Nat.reduceSub, Nat.reduceMul, Nat.reduceBEq, Int.reduceLT, Int.reduceLE, Int.reduceToNat, Int.reduceNeg, Int.reducePow, Int.reduceAdd, Int.reduceMul, Int.reduceSub, ↓Int.reduceNatCast', idxA_ptr, a1, a2, a3, a4, a5, a6, c1, c2, h3, add_i]
      refine next_head (i + 1) (by omega) (by omega) ?_
      rw [hn]
      simp only [push_cast, ↓wF_free, ↓reduceIte, Nat.reduceEqDiff, Nat.reduceLT, Nat.reduceLeDiff, Nat.reduceAdd, Nat.reduceSub, Nat.reduceMul, Nat.reduceBEq, Int.reduceLT, Int.reduceLE, Int.reduceToNat, Int.reduceNeg, Int.reducePow, Int.reduceAdd, Int.reduceMul, Int.reduceSub, ↓Int.reduceNatCast'] <;> rfl
    · rw [Bool.not_eq_true] at h3
      rw [h3] at hn
      simp (disch := first | omega | decide) only [push_cast, ↓wF_free, ↓reduceIte, Nat.reduceEqDiff, Nat.reduceLT, Nat.reduceLeDiff, Nat.reduceAdd, Nat.reduceSub, Nat.reduceMul, Nat.reduceBEq, Int.reduceLT, Int.reduceLE, Int.reduceToNat, Int.reduceNeg, Int.reducePow, Int.reduceAdd, Int.reduceMul, Int.reduceSub, ↓Int.reduceNatCast', idxA_ptr, a1, a2, a3, a4, a5, a6, c1, c2, h3, add_i]
      refine next_head (i + 1) (by omega) (by omega) ?_
      rw [hn]
      simp only [push_cast, ↓wF_free, ↓reduceIte, Nat.reduceEqDiff, Nat.reduceLT, Nat.reduceLeDiff, Nat.reduceAdd, Nat.reduceSub, Nat.reduceMul, Nat.reduceBEq, Int.reduceLT, Int.reduceLE, Int.reduceToNat, Int.reduceNeg, Int.reducePow, Int.reduceAdd, Int.reduceMul, Int.reduceSub, ↓Int.reduceNatCast'] <;> rfl
  · obtain rfl : i = 16 := by omega
    have hm := meetB_ok hb hc
    simp (disch := first | omega | decide) only [push_cast, ↓wF_free, ↓reduceIte, Nat.reduceEqDiff, Nat.reduceLT, Nat.reduceLeDiff, Nat.reduceAdd, Nat.reduceSub, Nat.reduceMul, Nat.reduceBEq, Int.reduceLT, Int.reduceLE, Int.reduceToNat, Int.reduceNeg, Int.reducePow, Int.reduceAdd, Int.reduceMul, Int.reduceSub, ↓Int.reduceNatCast', meetI_all hb hc, ldB _ _ hm, stB _ zBx_ok hm]
    rfl
theorem c_pmeet : Contract Try.prog GG 39 sp_pmeet :=
  contract_of tr_tbox_box_meet (tb_ok all_nil all_nil) (fun a h => w_pmeet a.1 a.2 h)
end Go.Proofs.Ytgppecaeegaooaa.PI
namespace Go.Proofs.Ytgppecaeegaooaa.PI
open Go
set_option linter.unusedSimpArgs false
set_option linter.unusedVariables false
def stRW (o : Option Obj) (n tot i : Nat) (x : D) : Option Obj := o.bind fun o => if o.row && !o.lent && o.els.length == tot then (o.els[i]?).bind fun el => (setEl el 0 x.cells).bind fun el' => if x.cells.length = n then some { o with els := o.els.set i el' } else none else none
theorem pstor_rw (st : St) (n key tot i : Nat) (x : D) (h : solid x = true) : pstor st n (.rptr key tot i 0) x = (stRW st[key]? n tot i x).map fun o => st.set key o := by
  simp only [pstor, stRW, solid_imm st h, solid_keys h, List.isEmpty_nil, Bool.and_true]
  cases st[key]? with
  | none => rfl
  | some o =>
    simp only [Option.bind_some]
    split
    · cases o.els[i]? with
      | none => rfl
      | some el =>
        simp only [Option.bind_some]
        cases setEl el 0 x.cells with
        | none => rfl
        | some y =>
          simp only [Option.bind_some]
          split <;> rfl
    · rfl
theorem pstor_rbx (st : St) (key tot i : Nat) (b : Bx) : pstor st 32 (.rptr key tot i 0) (bxD b) = (stRW st[key]? 32 tot i (bxD b)).map fun o => st.set key o := pstor_rw st 32 key tot i _ (bxC_solid b)
theorem pstor_rb (st : St) (key tot i : Nat) (b : Bool) : pstor st 1 (.rptr key tot i 0) (.bool b) = (stRW st[key]? 1 tot i (.bool b)).map fun o => st.set key o := pstor_rw st 1 key tot i _ rfl
theorem stRW_bx (A : List Bx) (tot i : Nat) (b : Bx) (hA : okL A) (hb : b.ok) (ht : A.length = tot) (h : i < tot) : stRW (some ⟨true, 32, A.map bxD, false⟩) 32 tot i (bxD b) = some ⟨true, 32, (A.set i b).map bxD, false⟩ := by
  subst ht
  have h1 : setEl (bxD A[i]) 0 (bxC b) = some (bxD b) := by
    have hl := bxC_length (hA _ (List.getElem_mem h))
    have hl2 := bxC_length hb
    simp only [setEl, bxD]
    rw [if_pos (by omega), splice_all _ _ (by omega)]
  have h2 : (bxD b).cells = bxC b := rfl
  simp [stRW, h, h2, h1, List.map_set, bxC_length hb]
theorem stRW_b (A : List Bool) (tot i : Nat) (b : Bool) (ht : A.length = tot) (h : i < tot) : stRW (some ⟨true, 1, A.map D.bool, false⟩) 1 tot i (.bool b) = some ⟨true, 1, (A.set i b).map D.bool, false⟩ := by
  subst ht
  simp [stRW, h, D.cells, List.map_set, setEl]
theorem ixR_map {α : Type} (f : α → D) (sz : Nat) (A : List α) (lent : Bool) (key tot : Nat) (j : Int) (ht : A.length = tot) (h0 : 0 ≤ j) (h1 : j < (tot : Int)) : ixR (some ⟨true, sz, A.map f, lent⟩) sz key tot 0 tot j = some (.rptr key tot j.toNat 0) := by
  subst ht
  have := ixR_row f sz A lent key 0 A.length j h0 h1
  rwa [Nat.zero_add] at this
theorem liR_map {α : Type} (f : α → D) (sz : Nat) (A : List α) (lent : Bool) (tot : Nat) (ht : A.length = tot) : liR (some ⟨true, sz, A.map f, lent⟩) tot = true := by
  subst ht; exact liR_row f sz A lent
theorem ldR_bx (A : List Bx) (lent : Bool) (tot i : Nat) (hA : okL A) (ht : A.length = tot) (h : i < tot) : ldR (some ⟨true, 32, A.map bxD, lent⟩) 32 true tot i 0 = some (bxD (A.getD i default)) := by
  subst ht
  have hl := bxC_length (hA _ (List.getElem_mem h))
  have : (bxD A[i]).cells = bxC A[i] := rfl
  simp [ldR, h, this, hl, D.mk, List.getD_eq_getElem?_getD]
  rw [List.take_of_length_le (by omega)]
  rfl
theorem ldR_b (A : List Bool) (lent : Bool) (tot i : Nat) (ht : A.length = tot) (h : i < tot) : ldR (some ⟨true, 1, A.map D.bool, lent⟩) 1 false tot i 0 = some (.bool (A.getD i default)) := by
  subst ht; exact ldR_cell D.bool (fun _ => rfl) 1 A lent i h
def cls0 : List D := [.str [], .slc 0 [] true, .int .i64 0, .int .i64 0, .int .i64 0, .int .i64 0, .int .i64 0, .int .i64 0, .slc 0 [] true]
theorem zero_cls : boxD (.agg [.str [], .slc 0 [] true, .int .i64 0, .int .i64 0, .int .i64 0, .int .i64 0, .int .i64 0, .int .i64 0, .slc 0 [] true]) = some cls0 := (rfl)
theorem st_cls0 (sz : Nat) (c : Cls) : stO (some ⟨false, sz, cls0, false⟩) 9 0 (clsD c) = some ⟨false, sz, clsC c, false⟩ := stO_all sz _ _ 9 rfl rfl (clsC_cell c)
theorem st_tst0 (sz : Nat) (t : Tst) (x y z : D) : stO (some ⟨false, sz, [x, y, z], false⟩) 3 0 (tstD t) = some ⟨false, sz, [.int .i64 t.a, .int .i64 t.lo, .int .i64 t.hi], false⟩ := st_tst sz x y z t
theorem extD_3 (a b c d : D) : extD (.tup [a, b, c, d]) 3 = some d := (rfl)
attribute [push_cast] pstor_rbx pstor_rb zero_cls st_cls0 extD_3
theorem run_drop (b : Bx) (l : List Tst) (i : Nat) (h : i < l.length) : runT b (l.drop i) = if okA (l.getD i default) then runT (cutB b (l.getD i default)) (l.drop (i + 1)) else none := by
  rw [drop_getD l i h, runT]
theorem ofB_none {l : List Tst} (h : runT allB l = none) : ofB l = (zBx, false) := by unfold ofB; rw [h]
theorem ofB_some {l : List Tst} {b : Bx} (h : runT allB l = some b) : ofB l = if someB b then (b, true) else (zBx, false) := by unfold ofB; rw [h]
noncomputable def sp_pof : List D → Option D := spOf (α := Cls) (fun a => [clsD a]) (fun a => a.wh.length ≤ 9223372036854775807) (fun a => .tup [bxD (ofB a.wh).1, .bool (ofB a.wh).2])
theorem call_pof (c : Cls) (h : c.wh.length ≤ 9223372036854775807) : sp_pof [clsD c] = some (.tup [bxD (ofB c.wh).1, .bool (ofB c.wh).2]) :=
  spOf_enc (fun a b h => by simp only [List.cons.injEq, D.slc.injEq, D.int.injEq, D.bool.injEq, D.str.injEq, D.agg.injEq, digs_iff, dig_iff, digC_iff, bytes_iff, byte_iff, words_iff, word_iff, bsl_iff, true_and, and_true, ints_iff, nI_iff, tsts_iff, clss_iff, clsD_iff, tarD_iff, tstD_iff, ptD_iff, Int.ofNat_inj] at h; simp [h, Prod.ext_iff]) (c) h
set_option maxHeartbeats 4000000 in
set_option maxRecDepth 20000 in
theorem w_pof (c : Cls) (h : c.wh.length ≤ 9223372036854775807) : @wW GG (tb [(54, sp_pall), (55, sp_pcut), (39, sp_pmeet)] []) F_tbox_of.code (argF [clsD c]) [] ⟨retQ F_tbox_of.res (.tup [bxD (ofB c.wh).1, .bool (ofB c.wh).2])⟩ := by
  have ca := call_pall
  unfold F_tbox_of
  simp (disch := first | omega | decide) only [push_cast, ↓wF_free, ↓reduceIte, Nat.reduceEqDiff, Nat.reduceLT, Nat.reduceLeDiff, Nat.reduceAdd, Nat.reduceSub, Nat.reduceMul, Nat.reduceBEq, Int.reduceLT, Int.reduceLE, Int.reduceToNat, Int.reduceNeg, Int.reducePow, Int.reduceAdd, Int.reduceMul, Int.reduceSub, ↓Int.reduceNatCast', ca, stB _ zBx_ok allB_ok]
  generalize hl : c.wh = l at *
  refine W_while (fun i : Nat × Bx => [(2, .ptr 1 0), (4, .ptr 2 0), (11, .slc (nz 3 (l.map tstD)) (l.map tstD) false), (12, .int .i64 (l.length : Int)), (13, .int .i64 (i.1 : Int))]) (fun i => [⟨false, 1, clsC c, false⟩, ⟨false, 1, bxC zBx, false⟩, ⟨false, 1, bxC i.2, false⟩]) (fun i => i.1 ≤ l.length ∧ i.2.ok ∧ runT allB l = runT i.2 (l.drop i.1)) (fun i => l.length - i.1) (0, allB) (by simp only [push_cast, ↓wF_free, ↓reduceIte, Nat.reduceEqDiff, Nat.reduceLT, Nat.reduceLeDiff, Nat.reduceAdd, Nat.reduceSub, Nat.reduceMul, Nat.reduceBEq, Int.reduceLT, Int.reduceLE, Int.reduceToNat, Int.reduceNeg, Int.reducePow, Int.reduceAdd, Int.reduceMul, Int.reduceSub, ↓Int.reduceNatCast'] <;> rfl) ⟨Nat.zero_le _, allB_ok, rfl⟩ ?_
  rintro ⟨i, b⟩ ⟨hi, hb, hr⟩
  dsimp only at hi hb hr
  unfold F_tbox_of_L0
  simp (disch := first | omega | decide) only [push_cast, ↓wF_free, ↓reduceIte, Nat.reduceEqDiff, Nat.reduceLT, Nat.reduceLeDiff, Nat.reduceAdd, Nat.reduceSub, Nat.reduceMul, Nat.reduceBEq, Int.reduceLT, Int.reduceLE, Int.reduceToNat, Int.reduceNeg, Int.reducePow, Int.reduceAdd, Int.reduceMul, Int.reduceSub, ↓Int.reduceNatCast']
  refine ifD_split (fun h2 => ?_) (fun h2 => ?_)
  · have hlt : i < l.length := by omega
    rw [run_drop b l i hlt] at hr
    simp (disch := first | omega | decide) only [push_cast, ↓wF_free, ↓reduceIte, Nat.reduceEqDiff, Nat.reduceLT, Nat.reduceLeDiff, Nat.reduceAdd, Nat.reduceSub, Nat.reduceMul, Nat.reduceBEq, Int.reduceLT, Int.reduceLE, Int.reduceToNat, Int.reduceNeg, Int.reducePow, Int.reduceAdd, Int.reduceMul, Int.reduceSub, ↓Int.reduceNatCast', idxS_nz]
    generalize l.getD i default = t at *
    by_cases ht : okA t
    · have ht' := ht
      unfold okA at ht'
      rw [if_pos ht] at hr
      have a1 : ¬ t.a < 0 := by omega
      have a2 : ¬ (16 : Int) ≤ t.a := by omega
      have hc := cutB_ok hb t
      have cc := call_pcut b t ⟨hb, ht⟩
      simp (disch := first | omega | decide) only [push_cast, ↓wF_free, ↓reduceIte, Nat.reduceEqDiff, Nat.reduceLT, Nat.reduceLeDiff, Nat.reduceAdd, Nat.reduceSub, Nat.reduceMul, Nat.reduceBEq, Int.reduceLT, Int.reduceLE, Int.reduceToNat, Int.reduceNeg, Int.reducePow, Int.reduceAdd, Int.reduceMul, Int.reduceSub, ↓Int.reduceNatCast', a1, a2, ldB _ _ hb, cc, stB _ hb hc, add_i]
      refine next_head (i + 1, cutB b t) (by exact ⟨by omega, hc, hr⟩) (by dsimp only; omega) ?_
      simp only [push_cast, ↓wF_free, ↓reduceIte, Nat.reduceEqDiff, Nat.reduceLT, Nat.reduceLeDiff, Nat.reduceAdd, Nat.reduceSub, Nat.reduceMul, Nat.reduceBEq, Int.reduceLT, Int.reduceLE, Int.reduceToNat, Int.reduceNeg, Int.reducePow, Int.reduceAdd, Int.reduceMul, Int.reduceSub, ↓Int.reduceNatCast'] <;> rfl
    · have ht' := ht
      unfold okA at ht'
      rw [if_neg ht] at hr
      have e := ofB_none hr
      by_cases a1 : t.a < 0
      · simp (disch := first | omega | decide) only [push_cast, ↓wF_free, ↓reduceIte, Nat.reduceEqDiff, Nat.reduceLT, Nat.reduceLeDiff, Nat.reduceAdd, Nat.reduceSub, Nat.reduceMul, Nat.reduceBEq, Int.reduceLT, Int.reduceLE, Int.reduceToNat, Int.reduceNeg, Int.reducePow, Int.reduceAdd, Int.reduceMul, Int.reduceSub, ↓Int.reduceNatCast', a1, stB _ zBx_ok zBx_ok, ldB _ _ zBx_ok, e]
      · have a2 : (16 : Int) ≤ t.a := by omega
        simp (disch := first | omega | decide) only [push_cast, ↓wF_free, ↓reduceIte, Nat.reduceEqDiff, Nat.reduceLT, Nat.reduceLeDiff, Nat.reduceAdd, Nat.reduceSub, Nat.reduceMul, Nat.reduceBEq, Int.reduceLT, Int.reduceLE, Int.reduceToNat, Int.reduceNeg, Int.reducePow, Int.reduceAdd, Int.reduceMul, Int.reduceSub, ↓Int.reduceNatCast', a1, a2, stB _ zBx_ok zBx_ok, ldB _ _ zBx_ok, e]
  · obtain rfl : i = l.length := by omega
    rw [List.drop_length] at hr
    have e := ofB_some hr
    have cm := call_pmeet b b ⟨hb, hb⟩
    rw [meet_self hb] at cm
    by_cases h3 : someB b = true
    · rw [if_pos h3] at e
      rw [h3] at cm
      simp (disch := first | omega | decide) only [push_cast, ↓wF_free, ↓reduceIte, Nat.reduceEqDiff, Nat.reduceLT, Nat.reduceLeDiff, Nat.reduceAdd, Nat.reduceSub, Nat.reduceMul, Nat.reduceBEq, Int.reduceLT, Int.reduceLE, Int.reduceToNat, Int.reduceNeg, Int.reducePow, Int.reduceAdd, Int.reduceMul, Int.reduceSub, ↓Int.reduceNatCast', ldB _ _ hb, cm, stB _ zBx_ok hb, e]
    · rw [if_neg h3] at e
      rw [Bool.not_eq_true] at h3
      rw [h3] at cm
      simp (disch := first | omega | decide) only [push_cast, ↓wF_free, ↓reduceIte, Nat.reduceEqDiff, Nat.reduceLT, Nat.reduceLeDiff, Nat.reduceAdd, Nat.reduceSub, Nat.reduceMul, Nat.reduceBEq, Int.reduceLT, Int.reduceLE, Int.reduceToNat, Int.reduceNeg, Int.reducePow, Int.reduceAdd, Int.reduceMul, Int.reduceSub, ↓Int.reduceNatCast', ldB _ _ hb, cm, stB _ zBx_ok hb, stB _ zBx_ok zBx_ok, ldB _ _ zBx_ok, e]
theorem c_pof : Contract Try.prog GG 34 sp_pof :=
  contract_of tr_tbox_of (tb_ok (all_cons c_pall (all_cons c_pcut (all_cons c_pmeet all_nil))) all_nil) (fun a h => w_pof a h)
noncomputable def sp_pBox : List D → Option D := spOf (α := Cls) (fun a => [clsD a]) (fun a => a.wh.length ≤ 9223372036854775807) (fun a => .tup [ptD (ofB a.wh).1.lo, ptD (ofB a.wh).1.hi, .bool (ofB a.wh).2])
theorem call_pBox (c : Cls) (h : c.wh.length ≤ 9223372036854775807) : sp_pBox [clsD c] = some (.tup [ptD (ofB c.wh).1.lo, ptD (ofB c.wh).1.hi, .bool (ofB c.wh).2]) :=
  spOf_enc (fun a b h => by simp only [List.cons.injEq, D.slc.injEq, D.int.injEq, D.bool.injEq, D.str.injEq, D.agg.injEq, digs_iff, dig_iff, digC_iff, bytes_iff, byte_iff, words_iff, word_iff, bsl_iff, true_and, and_true, ints_iff, nI_iff, tsts_iff, clss_iff, clsD_iff, tarD_iff, tstD_iff, ptD_iff, Int.ofNat_inj] at h; simp [h, Prod.ext_iff]) (c) h
set_option maxHeartbeats 4000000 in
set_option maxRecDepth 20000 in
theorem w_pBox (c : Cls) (h : c.wh.length ≤ 9223372036854775807) : @wW GG (tb [(34, sp_pof)] []) F_tbox_Box.code (argF [clsD c]) [] ⟨retQ F_tbox_Box.res (.tup [ptD (ofB c.wh).1.lo, ptD (ofB c.wh).1.hi, .bool (ofB c.wh).2])⟩ := by
  have hb := ofB_ok c.wh
  have cc := call_pof c h
  unfold F_tbox_Box
  simp (disch := first | omega | decide) only [push_cast, ↓wF_free, ↓reduceIte, Nat.reduceEqDiff, Nat.reduceLT, Nat.reduceLeDiff, Nat.reduceAdd, Nat.reduceSub, Nat.reduceMul, Nat.reduceBEq, Int.reduceLT, Int.reduceLE, Int.reduceToNat, Int.reduceNeg, Int.reducePow, Int.reduceAdd, Int.reduceMul, Int.reduceSub, ↓Int.reduceNatCast', cc, stB _ zBx_ok hb, ldB_l _ _ hb, ldB_h _ _ hb, stP _ z16_length hb.1, stP _ z16_length hb.2, ldP _ _ hb.1, ldP _ _ hb.2]
theorem c_pBox : Contract Try.prog GG 13 sp_pBox :=
  contract_of tr_tbox_Box (tb_ok (all_cons c_pof all_nil) all_nil) (fun a h => w_pBox a h)
noncomputable def sp_penv : List D → Option D := spOf (α := List Int) (fun a => [ptD a]) (fun a => a.length = 16) (fun a => envD 65535 a)
theorem call_penv (p : List Int) (h : p.length = 16) : sp_penv [ptD p] = some (envD 65535 p) :=
  spOf_enc (fun a b h => by simp only [List.cons.injEq, D.slc.injEq, D.int.injEq, D.bool.injEq, D.str.injEq, D.agg.injEq, digs_iff, dig_iff, digC_iff, bytes_iff, byte_iff, words_iff, word_iff, bsl_iff, true_and, and_true, ints_iff, nI_iff, tsts_iff, clss_iff, clsD_iff, tarD_iff, tstD_iff, ptD_iff, Int.ofNat_inj] at h; simp [h, Prod.ext_iff]) (p) h
set_option maxHeartbeats 4000000 in
set_option maxRecDepth 20000 in
theorem w_penv (p : List Int) (h : p.length = 16) : @wW GG (tb [] []) F_tbox_env.code (argF [ptD p]) [] ⟨retQ F_tbox_env.res (envD 65535 p)⟩ := by
  unfold F_tbox_env
  simp (disch := first | omega | decide) only [push_cast, ↓wF_free, ↓reduceIte, Nat.reduceEqDiff, Nat.reduceLT, Nat.reduceLeDiff, Nat.reduceAdd, Nat.reduceSub, Nat.reduceMul, Nat.reduceBEq, Int.reduceLT, Int.reduceLE, Int.reduceToNat, Int.reduceNeg, Int.reducePow, Int.reduceAdd, Int.reduceMul, Int.reduceSub, ↓Int.reduceNatCast', ldP _ _ h, fill_env 65535 h, stE _ z16_length h, ldE _ _ h]
theorem c_penv : Contract Try.prog GG 37 sp_penv :=
  contract_of tr_tbox_env (tb_ok all_nil all_nil) (fun a h => w_penv a h)
noncomputable def sp_renv : List D → Option D := spOf (α := List Int) (fun a => [ptD a]) (fun a => a.length = 16) (fun a => envD 65535 a)
theorem call_renv (p : List Int) (h : p.length = 16) : sp_renv [ptD p] = some (envD 65535 p) :=
  spOf_enc (fun a b h => by simp only [List.cons.injEq, D.slc.injEq, D.int.injEq, D.bool.injEq, D.str.injEq, D.agg.injEq, digs_iff, dig_iff, digC_iff, bytes_iff, byte_iff, words_iff, word_iff, bsl_iff, true_and, and_true, ints_iff, nI_iff, tsts_iff, clss_iff, clsD_iff, tarD_iff, tstD_iff, ptD_iff, Int.ofNat_inj] at h; simp [h, Prod.ext_iff]) (p) h
set_option maxHeartbeats 4000000 in
set_option maxRecDepth 20000 in
theorem w_renv (p : List Int) (h : p.length = 16) : @wW GG (tb [] []) F_wagonpoolref19_Env.code (argF [ptD p]) [] ⟨retQ F_wagonpoolref19_Env.res (envD 65535 p)⟩ := by
  unfold F_wagonpoolref19_Env
  simp (disch := first | omega | decide) only [push_cast, ↓wF_free, ↓reduceIte, Nat.reduceEqDiff, Nat.reduceLT, Nat.reduceLeDiff, Nat.reduceAdd, Nat.reduceSub, Nat.reduceMul, Nat.reduceBEq, Int.reduceLT, Int.reduceLE, Int.reduceToNat, Int.reduceNeg, Int.reducePow, Int.reduceAdd, Int.reduceMul, Int.reduceSub, ↓Int.reduceNatCast', ldP _ _ h, fill_env 65535 h, stE _ z16_length h, ldE _ _ h]
theorem c_renv : Contract Try.prog GG 29 sp_renv :=
  contract_of tr_wagonpoolref19_Env (tb_ok all_nil all_nil) (fun a h => w_renv a h)
theorem envD_inj {a b : Int × List Int} (h : envD a.1 a.2 = envD b.1 b.2) : a = b := by
  simp only [envD, envC, List.map_cons, D.agg.injEq, List.cons.injEq, nI_iff, ints_iff] at h
  exact Prod.ext h.1 h.2
theorem env_iff {a b : Int} {x y : List Int} : envD a x = envD b y ↔ a = b ∧ x = y := by
  constructor
  · intro h
    have := envD_inj (a := (a, x)) (b := (b, y)) h
    simpa using this
  · rintro ⟨rfl, rfl⟩; rfl
theorem ldEv (sz : Nat) (lent : Bool) (k : Int) (v : List Int) (hv : v.length = 16) (i : Nat) (h : i < 16) : ldO (some ⟨false, sz, envC k v, lent⟩) 1 false (1 + i) = some (.int .i64 (at' v i)) := by
  have := ldO_map sz lent nI (k :: v) (1 + i) (by simp [hv]; omega)
  rw [show (k :: v).getD (1 + i) default = at' v i by rw [Nat.add_comm, List.getD_cons_succ]] at this
  exact this
end Go.Proofs.Ytgppecaeegaooaa.PI
namespace Go.Proofs.Ytgppecaeegaooaa.PI
open Go
set_option linter.unusedSimpArgs false
set_option linter.unusedVariables false
theorem fill_env0 : fillD [D.int .i64 0, .int .i64 0, .int .i64 0, .int .i64 0, .int .i64 0, .int .i64 0, .int .i64 0, .int .i64 0, .int .i64 0, .int .i64 0, .int .i64 0, .int .i64 0, .int .i64 0, .int .i64 0, .int .i64 0, .int .i64 0, .int .i64 0] [] = some (envC 0 z16) := (rfl)
theorem getD_memC {l : List Cls} {i : Nat} (h : i < l.length) : l.getD i default ∈ l := by
  rw [List.getD_eq_getElem?_getD, List.getElem?_eq_getElem h]
  exact List.getElem_mem h
theorem mk_bx (n : Nat) (h : n ≤ 65536) : mkslcD 32 256 (bxD zBx) (.int .i64 (n : Int)) (.int .i64 (n : Int)) = some (n, ⟨true, 32, (List.replicate n zBx).map bxD, false⟩) := by
  have h1 : ((bxD zBx).cells.all D.pure1) = true := by
    show (bxC zBx).all D.pure1 = true
    unfold bxC
    simp only [List.all_eq_true, List.mem_map]
    rintro x ⟨a, _, rfl⟩
    rfl
  have h2 : (bxD zBx).cells.length = 32 := bxC_length zBx_ok
  simp only [mkslcD, natOf_nat]
  rw [if_pos ⟨Nat.le_refl _, by omega, by omega, by omega, h2, h1⟩, List.map_replicate]
theorem mk_b (n : Nat) (h : n ≤ 65536) : mkslcD 1 1 (.bool false) (.int .i64 (n : Int)) (.int .i64 (n : Int)) = some (n, ⟨true, 1, (List.replicate n false).map D.bool, false⟩) := by
  simp only [mkslcD, natOf_nat]
  rw [if_pos ⟨Nat.le_refl _, by omega, by omega, by omega, rfl, rfl⟩, List.map_replicate]
theorem fillup_step {α : Type} [Inhabited α] (l : List α) (z : α) (k : Nat) (h : k < l.length) : (l.take k ++ List.replicate (l.length - k) z).set k (l.getD k default) = l.take (k + 1) ++ List.replicate (l.length - (k + 1)) z := by
  rw [List.set_append, if_neg (by simp; omega), List.length_take, Nat.min_eq_left (by omega), Nat.sub_self, show l.length - k = (l.length - (k + 1)) + 1 by omega, List.replicate_succ, List.set_cons_zero, take_getD l k h, List.append_assoc]
  rfl
theorem fillup_len {α : Type} (l : List α) (z : α) (k : Nat) (h : k ≤ l.length) : (l.take k ++ List.replicate (l.length - k) z).length = l.length := by
  simp; omega
def bxs (cl : List Cls) : List Bx := cl.map fun c => (ofB c.wh).1
def sms (cl : List Cls) : List Bool := cl.map fun c => (ofB c.wh).2
theorem bxs_length (cl : List Cls) : (bxs cl).length = cl.length := by simp [bxs]
theorem sms_length (cl : List Cls) : (sms cl).length = cl.length := by simp [sms]
theorem bxs_ok (cl : List Cls) : okL (bxs cl) := by
  intro b hb
  simp only [bxs, List.mem_map] at hb
  obtain ⟨c, _, rfl⟩ := hb
  exact ofB_ok _
theorem bxs_at (cl : List Cls) (i : Nat) (h : i < cl.length) : (bxs cl).getD i default = (ofB (cl.getD i default).wh).1 := by
  simp [bxs, List.getD_eq_getElem?_getD, h]
theorem sms_at (cl : List Cls) (i : Nat) (h : i < cl.length) : (sms cl).getD i default = (ofB (cl.getD i default).wh).2 := by
  simp [sms, List.getD_eq_getElem?_getD, h]
theorem okL_fill {l : List Bx} (h : okL l) (k n : Nat) : okL (l.take k ++ List.replicate n zBx) := by
  intro b hb
  rcases List.mem_append.1 hb with hb | hb
  · exact h b (List.mem_of_mem_take hb)
  · rw [(List.mem_replicate.1 hb).2]; exact zBx_ok
def bxA (cl : List Cls) (i : Nat) : Bx := (bxs cl).getD i default
def smA (cl : List Cls) (i : Nat) : Bool := (sms cl).getD i default
theorem bxA_ok {cl : List Cls} {i : Nat} (h : i < cl.length) : (bxA cl i).ok := by
  unfold bxA; rw [bxs_at cl i h]; exact ofB_ok _
def hitB (cl : List Cls) (i j : Nat) : Bool := someB (meetB (bxA cl i) (bxA cl j)) && smA cl i && smA cl j
def ovJ (cl : List Cls) (i : Nat) : Nat → Nat → Option (Nat × Nat × List Int)
  | 0, _ => none
  | k + 1, j => if hitB cl i j then some (i, j, (meetB (bxA cl i) (bxA cl j)).lo) else ovJ cl i k (j + 1)
def ovI (cl : List Cls) : Nat → Nat → Option (Nat × Nat × List Int)
  | 0, _ => none
  | k + 1, i => match ovJ cl i (cl.length - (i + 1)) (i + 1) with
    | some r => some r
    | none => ovI cl k (i + 1)
def ovF (cl : List Cls) : Option (Nat × Nat × List Int) := ovI cl cl.length 0
def ovi : Option (Nat × Nat × List Int) → Int
  | some r => r.1
  | none => 0
def ovj : Option (Nat × Nat × List Int) → Int
  | some r => r.2.1
  | none => 0
def ovh : Option (Nat × Nat × List Int) → Int
  | some r => 65535
  | none => 0
def ovv : Option (Nat × Nat × List Int) → List Int
  | some r => r.2.2
  | none => z16
def ovb : Option (Nat × Nat × List Int) → Bool
  | some r => true
  | none => false
theorem ovJ_some {cl : List Cls} {i : Nat} : ∀ {k j : Nat} {r : Nat × Nat × List Int}, ovJ cl i k j = some r → r.1 = i ∧ j ≤ r.2.1 ∧ r.2.1 < j + k ∧ hitB cl i r.2.1 = true ∧ r.2.2 = (meetB (bxA cl i) (bxA cl r.2.1)).lo ∧ ∀ m, j ≤ m → m < r.2.1 → hitB cl i m = false
  | 0, j, r, h => by cases h
  | k + 1, j, r, h => by
    simp only [ovJ] at h
    split at h
    · rename_i hh
      simp only [Option.some.injEq] at h
      subst h
      exact ⟨rfl, Nat.le_refl _, by simp, hh, rfl, fun m h1 h2 => by simp only at h2; omega⟩
    · rename_i hh
      obtain ⟨h1, h2, h3, h4, h5, h6⟩ := ovJ_some h
      refine ⟨h1, by omega, by omega, h4, h5, fun m h7 h8 => ?_⟩
      rcases Nat.lt_or_ge j m with h9 | h9
      · exact h6 m h9 h8
      · obtain rfl : m = j := by omega
        simpa using hh
theorem ovJ_none {cl : List Cls} {i : Nat} : ∀ {k j : Nat}, ovJ cl i k j = none → ∀ m, j ≤ m → m < j + k → hitB cl i m = false
  | 0, j, h, m, h1, h2 => by omega
  | k + 1, j, h, m, h1, h2 => by
    simp only [ovJ] at h
    split at h
    · cases h
    · rename_i hh
      rcases Nat.lt_or_ge j m with h9 | h9
      · exact ovJ_none h m h9 (by omega)
      · obtain rfl : m = j := by omega
        simpa using hh
noncomputable def sp_pov : List D → Option D := spOf (α := Tar) (fun a => [tarD a]) (fun a => a.cl.length ≤ 65536 ∧ ∀ c ∈ a.cl, c.wh.length ≤ 9223372036854775807) (fun a => .tup [.int .i64 (ovi (ovF a.cl)), .int .i64 (ovj (ovF a.cl)), envD (ovh (ovF a.cl)) (ovv (ovF a.cl)), .bool (ovb (ovF a.cl))])
theorem call_pov (t : Tar) (h : t.cl.length ≤ 65536 ∧ ∀ c ∈ t.cl, c.wh.length ≤ 9223372036854775807) : sp_pov [tarD t] = some (.tup [.int .i64 (ovi (ovF t.cl)), .int .i64 (ovj (ovF t.cl)), envD (ovh (ovF t.cl)) (ovv (ovF t.cl)), .bool (ovb (ovF t.cl))]) :=
  spOf_enc (fun a b h => by simp only [List.cons.injEq, D.slc.injEq, D.int.injEq, D.bool.injEq, D.str.injEq, D.agg.injEq, digs_iff, dig_iff, digC_iff, bytes_iff, byte_iff, words_iff, word_iff, bsl_iff, true_and, and_true, ints_iff, nI_iff, tsts_iff, clss_iff, clsD_iff, tarD_iff, tstD_iff, ptD_iff, Int.ofNat_inj] at h; simp [h, Prod.ext_iff]) (t) h
set_option maxHeartbeats 4000000 in
set_option maxRecDepth 20000 in
theorem w_pov (t : Tar) (h : t.cl.length ≤ 65536 ∧ ∀ c ∈ t.cl, c.wh.length ≤ 9223372036854775807) : @wW GG (tb [(34, sp_pof), (39, sp_pmeet), (37, sp_penv)] []) F_tbox_Overlap.code (argF [tarD t]) [] ⟨retQ F_tbox_Overlap.res (.tup [.int .i64 (ovi (ovF t.cl)), .int .i64 (ovj (ovF t.cl)), envD (ovh (ovF t.cl)) (ovv (ovF t.cl)), .bool (ovb (ovF t.cl))])⟩ := by
  obtain ⟨hn, hw⟩ := h
  have m1 := mk_bx t.cl.length hn
  have m2 := mk_b t.cl.length hn
  unfold F_tbox_Overlap
  simp (disch := first | omega | decide) only [push_cast, ↓wF_free, ↓reduceIte, Nat.reduceEqDiff, Nat.reduceLT, Nat.reduceLeDiff, Nat.reduceAdd, Nat.reduceSub, Nat.reduceMul, Nat.reduceBEq, Int.reduceLT, Int.reduceLE, Int.reduceToNat, Int.reduceNeg, Int.reducePow, Int.reduceAdd, Int.reduceMul, Int.reduceSub, ↓Int.reduceNatCast', m1, m2]
  have hlb := fun k => fillup_len (bxs t.cl) zBx k
  have hls := fun k => fillup_len (sms t.cl) false k
  rw [bxs_length] at hlb
  rw [sms_length] at hls
  refine W_while (fun i : Nat => [(4, .ptr 1 0), (6, .row 2 t.cl.length 0 t.cl.length), (7, .row 3 t.cl.length 0 t.cl.length), (23, .slc (nz 9 (t.cl.map clsD)) (t.cl.map clsD) false), (24, .int .i64 (t.cl.length : Int)), (25, .int .i64 (i : Int))])
    (fun i => [⟨false, 1, tarC t, false⟩, ⟨false, 1, envC 0 z16, false⟩, ⟨true, 32, ((bxs t.cl).take i ++ List.replicate (t.cl.length - i) zBx).map bxD, false⟩, ⟨true, 1, ((sms t.cl).take i ++ List.replicate (t.cl.length - i) false).map D.bool, false⟩]) (fun i => i ≤ t.cl.length) (fun i => t.cl.length - i) 0 (by simp only [push_cast, ↓wF_free, ↓reduceIte, Nat.reduceEqDiff, Nat.reduceLT, Nat.reduceLeDiff, Nat.reduceAdd, Nat.reduceSub, Nat.reduceMul, Nat.reduceBEq, Int.reduceLT, Int.reduceLE, Int.reduceToNat, Int.reduceNeg, Int.reducePow, Int.reduceAdd, Int.reduceMul, Int.reduceSub, ↓Int.reduceNatCast'] <;> rfl) (Nat.zero_le _) ?_
  intro i hi
  unfold F_tbox_Overlap_L0
  simp (disch := first | omega | decide) only [push_cast, ↓wF_free, ↓reduceIte, Nat.reduceEqDiff, Nat.reduceLT, Nat.reduceLeDiff, Nat.reduceAdd, Nat.reduceSub, Nat.reduceMul, Nat.reduceBEq, Int.reduceLT, Int.reduceLE, Int.reduceToNat, Int.reduceNeg, Int.reducePow, Int.reduceAdd, Int.reduceMul, Int.reduceSub, ↓Int.reduceNatCast']
  refine ifD_split (fun h2 => ?_) (fun h2 => ?_)
  · have hlt : i < t.cl.length := by omega
    have hix := fun st => idxS_nz st 9 clsD t.cl false .i64 (i : Int) (by omega) (by omega)
    rw [Int.toNat_natCast] at hix
    have cc := call_pof (t.cl.getD i default) (hw _ (getD_memC hlt))
    have i1 := ixR_map bxD 32 _ false 2 t.cl.length (i : Int) (hlb i hi) (by omega) (by omega)
    have i2 := ixR_map D.bool 1 _ false 3 t.cl.length (i : Int) (hls i hi) (by omega) (by omega)
    rw [Int.toNat_natCast] at i1 i2
    have s1 := stRW_bx _ t.cl.length i (ofB (t.cl.getD i default).wh).1 (okL_fill (bxs_ok t.cl) i (t.cl.length - i)) (ofB_ok _) (hlb i hi) hlt
    have s2 := stRW_b _ t.cl.length i (ofB (t.cl.getD i default).wh).2 (hls i hi) hlt
    have f1 := fillup_step (bxs t.cl) zBx i (by rw [bxs_length]; exact hlt)
    have f2 := fillup_step (sms t.cl) false i (by rw [sms_length]; exact hlt)
    rw [bxs_at _ _ hlt, bxs_length] at f1
    rw [sms_at _ _ hlt, sms_length] at f2
    rw [f1] at s1
    rw [f2] at s2
    simp (disch := first | omega | decide) only [push_cast, ↓wF_free, ↓reduceIte, Nat.reduceEqDiff, Nat.reduceLT, Nat.reduceLeDiff, Nat.reduceAdd, Nat.reduceSub, Nat.reduceMul, Nat.reduceBEq, Int.reduceLT, Int.reduceLE, Int.reduceToNat, Int.reduceNeg, Int.reducePow, Int.reduceAdd, Int.reduceMul, Int.reduceSub, ↓Int.reduceNatCast', hix, cc, i1, i2, s1, s2, add_i]
    refine next_head (i + 1) (by omega) (by omega) ?_
    simp only [push_cast, ↓wF_free, ↓reduceIte, Nat.reduceEqDiff, Nat.reduceLT, Nat.reduceLeDiff, Nat.reduceAdd, Nat.reduceSub, Nat.reduceMul, Nat.reduceBEq, Int.reduceLT, Int.reduceLE, Int.reduceToNat, Int.reduceNeg, Int.reducePow, Int.reduceAdd, Int.reduceMul, Int.reduceSub, ↓Int.reduceNatCast'] <;> rfl
  · obtain rfl : i = t.cl.length := by omega
    rw [Nat.sub_self, List.replicate_zero, List.append_nil, List.replicate_zero, List.append_nil, List.take_of_length_le (by rw [bxs_length]; exact Nat.le_refl _), List.take_of_length_le (by rw [sms_length]; exact Nat.le_refl _)]
    have hlb2 := bxs_length t.cl
    have hls2 := sms_length t.cl
    have l1 := liR_map bxD 32 (bxs t.cl) false t.cl.length hlb2
    simp (disch := first | omega | decide) only [push_cast, ↓wF_free, ↓reduceIte, Nat.reduceEqDiff, Nat.reduceLT, Nat.reduceLeDiff, Nat.reduceAdd, Nat.reduceSub, Nat.reduceMul, Nat.reduceBEq, Int.reduceLT, Int.reduceLE, Int.reduceToNat, Int.reduceNeg, Int.reducePow, Int.reduceAdd, Int.reduceMul, Int.reduceSub, ↓Int.reduceNatCast', l1]
    refine W_while (fun i : Nat => [(4, .ptr 1 0), (6, .row 2 t.cl.length 0 t.cl.length), (7, .row 3 t.cl.length 0 t.cl.length), (43, .int .i64 (t.cl.length : Int)), (44, .int .i64 (i : Int))])
      (fun i => [⟨false, 1, tarC t, false⟩, ⟨false, 1, envC 0 z16, false⟩, ⟨true, 32, (bxs t.cl).map bxD, false⟩, ⟨true, 1, (sms t.cl).map D.bool, false⟩]) (fun i => i ≤ t.cl.length ∧ ovF t.cl = ovI t.cl (t.cl.length - i) i) (fun i => t.cl.length - i) 0 (by simp only [push_cast, ↓wF_free, ↓reduceIte, Nat.reduceEqDiff, Nat.reduceLT, Nat.reduceLeDiff, Nat.reduceAdd, Nat.reduceSub, Nat.reduceMul, Nat.reduceBEq, Int.reduceLT, Int.reduceLE, Int.reduceToNat, Int.reduceNeg, Int.reducePow, Int.reduceAdd, Int.reduceMul, Int.reduceSub, ↓Int.reduceNatCast'] <;> rfl) ⟨Nat.zero_le _, rfl⟩ ?_
    rintro i ⟨hi, hov⟩
    unfold F_tbox_Overlap_L2
    simp (disch := first | omega | decide) only [push_cast, ↓wF_free, ↓reduceIte, Nat.reduceEqDiff, Nat.reduceLT, Nat.reduceLeDiff, Nat.reduceAdd, Nat.reduceSub, Nat.reduceMul, Nat.reduceBEq, Int.reduceLT, Int.reduceLE, Int.reduceToNat, Int.reduceNeg, Int.reducePow, Int.reduceAdd, Int.reduceMul, Int.reduceSub, ↓Int.reduceNatCast']
    refine ifD_split (fun h3 => ?_) (fun h3 => ?_)
    · have hlt : i < t.cl.length := by omega
      rw [show t.cl.length - i = (t.cl.length - (i + 1)) + 1 by omega, ovI] at hov
      simp (disch := first | omega | decide) only [push_cast, ↓wF_free, ↓reduceIte, Nat.reduceEqDiff, Nat.reduceLT, Nat.reduceLeDiff, Nat.reduceAdd, Nat.reduceSub, Nat.reduceMul, Nat.reduceBEq, Int.reduceLT, Int.reduceLE, Int.reduceToNat, Int.reduceNeg, Int.reducePow, Int.reduceAdd, Int.reduceMul, Int.reduceSub, ↓Int.reduceNatCast', add_i]
      refine W_while (fun j : Nat => [(4, .ptr 1 0), (6, .row 2 t.cl.length 0 t.cl.length), (7, .row 3 t.cl.length 0 t.cl.length), (10, .int .i64 (i : Int)), (11, .int .i64 (j : Int)), (43, .int .i64 (t.cl.length : Int)), (44, .int .i64 (i : Int))])
        (fun j => [⟨false, 1, tarC t, false⟩, ⟨false, 1, envC 0 z16, false⟩, ⟨true, 32, (bxs t.cl).map bxD, false⟩, ⟨true, 1, (sms t.cl).map D.bool, false⟩]) (fun j => j ≤ t.cl.length ∧ i < j ∧ ovJ t.cl i (t.cl.length - (i + 1)) (i + 1) = ovJ t.cl i (t.cl.length - j) j) (fun j => t.cl.length - j) (i + 1) (by simp only [push_cast, ↓wF_free, ↓reduceIte, Nat.reduceEqDiff, Nat.reduceLT, Nat.reduceLeDiff, Nat.reduceAdd, Nat.reduceSub, Nat.reduceMul, Nat.reduceBEq, Int.reduceLT, Int.reduceLE, Int.reduceToNat, Int.reduceNeg, Int.reducePow, Int.reduceAdd, Int.reduceMul, Int.reduceSub, ↓Int.reduceNatCast'] <;> rfl) ⟨by omega, by omega, rfl⟩ ?_
      rintro j ⟨hj, hij, hoj⟩
      unfold F_tbox_Overlap_L1
      simp (disch := first | omega | decide) only [push_cast, ↓wF_free, ↓reduceIte, Nat.reduceEqDiff, Nat.reduceLT, Nat.reduceLeDiff, Nat.reduceAdd, Nat.reduceSub, Nat.reduceMul, Nat.reduceBEq, Int.reduceLT, Int.reduceLE, Int.reduceToNat, Int.reduceNeg, Int.reducePow, Int.reduceAdd, Int.reduceMul, Int.reduceSub, ↓Int.reduceNatCast', l1]
      refine ifD_split (fun h4 => ?_) (fun h4 => ?_)
      · have hjl : j < t.cl.length := by omega
        rw [show t.cl.length - j = (t.cl.length - (j + 1)) + 1 by omega, ovJ] at hoj
        have bi := bxA_ok hlt
        have bj := bxA_ok hjl
        have i1 := ixR_map bxD 32 (bxs t.cl) false 2 t.cl.length (i : Int) hlb2 (by omega) (by omega)
        have i2 := ixR_map bxD 32 (bxs t.cl) false 2 t.cl.length (j : Int) hlb2 (by omega) (by omega)
        have i3 := ixR_map D.bool 1 (sms t.cl) false 3 t.cl.length (i : Int) hls2 (by omega) (by omega)
        have i4 := ixR_map D.bool 1 (sms t.cl) false 3 t.cl.length (j : Int) hls2 (by omega) (by omega)
        rw [Int.toNat_natCast] at i1 i2 i3 i4
        have g1 : ldR (some ⟨true, 32, (bxs t.cl).map bxD, false⟩) 32 true t.cl.length i 0 = some (bxD (bxA t.cl i)) := ldR_bx (bxs t.cl) false t.cl.length i (bxs_ok _) hlb2 hlt
        have g2 : ldR (some ⟨true, 32, (bxs t.cl).map bxD, false⟩) 32 true t.cl.length j 0 = some (bxD (bxA t.cl j)) := ldR_bx (bxs t.cl) false t.cl.length j (bxs_ok _) hlb2 hjl
        have g3 : ldR (some ⟨true, 1, (sms t.cl).map D.bool, false⟩) 1 false t.cl.length i 0 = some (.bool (smA t.cl i)) := ldR_b (sms t.cl) false t.cl.length i hls2 hlt
        have g4 : ldR (some ⟨true, 1, (sms t.cl).map D.bool, false⟩) 1 false t.cl.length j 0 = some (.bool (smA t.cl j)) := ldR_b (sms t.cl) false t.cl.length j hls2 hjl
        have cm := call_pmeet _ _ ⟨bi, bj⟩
        have hm := meetB_ok bi bj
        have ce := call_penv _ hm.1
        unfold hitB at hoj
        have nxt : (someB (meetB (bxA t.cl i) (bxA t.cl j)) && smA t.cl i && smA t.cl j) = false → ovJ t.cl i (t.cl.length - (i + 1)) (i + 1) = ovJ t.cl i (t.cl.length - (j + 1)) (j + 1) := fun e => by rw [hoj, e]; rfl
        simp (disch := first | omega | decide) only [push_cast, ↓wF_free, ↓reduceIte, Nat.reduceEqDiff, Nat.reduceLT, Nat.reduceLeDiff, Nat.reduceAdd, Nat.reduceSub, Nat.reduceMul, Nat.reduceBEq, Int.reduceLT, Int.reduceLE, Int.reduceToNat, Int.reduceNeg, Int.reducePow, Int.reduceAdd, Int.reduceMul, Int.reduceSub, ↓Int.reduceNatCast', i1, i2, g1, g2, cm, stB _ zBx_ok hm]
        cases k1 : someB (meetB (bxA t.cl i) (bxA t.cl j)) with
        | false =>
          have hx := nxt (by rw [k1]; rfl)
          simp (disch := first | omega | decide) only [push_cast, ↓wF_free, ↓reduceIte, Nat.reduceEqDiff, Nat.reduceLT, Nat.reduceLeDiff, Nat.reduceAdd, Nat.reduceSub, Nat.reduceMul, Nat.reduceBEq, Int.reduceLT, Int.reduceLE, Int.reduceToNat, Int.reduceNeg, Int.reducePow, Int.reduceAdd, Int.reduceMul, Int.reduceSub, ↓Int.reduceNatCast', add_i]
          refine next_head (j + 1) (by exact ⟨by omega, by omega, hx⟩) (by omega) ?_
          simp only [push_cast, ↓wF_free, ↓reduceIte, Nat.reduceEqDiff, Nat.reduceLT, Nat.reduceLeDiff, Nat.reduceAdd, Nat.reduceSub, Nat.reduceMul, Nat.reduceBEq, Int.reduceLT, Int.reduceLE, Int.reduceToNat, Int.reduceNeg, Int.reducePow, Int.reduceAdd, Int.reduceMul, Int.reduceSub, ↓Int.reduceNatCast'] <;> rfl
        | true =>
          cases k2 : smA t.cl i with
          | false =>
            have hx := nxt (by rw [k2]; simp)
            rw [k2] at g3
            simp (disch := first | omega | decide) only [push_cast, ↓wF_free, ↓reduceIte, Nat.reduceEqDiff, Nat.reduceLT, Nat.reduceLeDiff, Nat.reduceAdd, Nat.reduceSub, Nat.reduceMul, Nat.reduceBEq, Int.reduceLT, Int.reduceLE, Int.reduceToNat, Int.reduceNeg, Int.reducePow, Int.reduceAdd, Int.reduceMul, Int.reduceSub, ↓Int.reduceNatCast', i3, i4, g3, g4, add_i]
            refine next_head (j + 1) (by exact ⟨by omega, by omega, hx⟩) (by omega) ?_
            simp only [push_cast, ↓wF_free, ↓reduceIte, Nat.reduceEqDiff, Nat.reduceLT, Nat.reduceLeDiff, Nat.reduceAdd, Nat.reduceSub, Nat.reduceMul, Nat.reduceBEq, Int.reduceLT, Int.reduceLE, Int.reduceToNat, Int.reduceNeg, Int.reducePow, Int.reduceAdd, Int.reduceMul, Int.reduceSub, ↓Int.reduceNatCast'] <;> rfl
          | true =>
            rw [k2] at g3
            cases k3 : smA t.cl j with
            | false =>
              have hx := nxt (by rw [k3]; simp)
              rw [k3] at g4
              simp (disch := first | omega | decide) only [push_cast, ↓wF_free, ↓reduceIte, Nat.reduceEqDiff, Nat.reduceLT, Nat.reduceLeDiff, Nat.reduceAdd, Nat.reduceSub, Nat.reduceMul, Nat.reduceBEq, Int.reduceLT, Int.reduceLE, Int.reduceToNat, Int.reduceNeg, Int.reducePow, Int.reduceAdd, Int.reduceMul, Int.reduceSub, ↓Int.reduceNatCast', i3, i4, g3, g4, add_i]
              refine next_head (j + 1) (by exact ⟨by omega, by omega, hx⟩) (by omega) ?_
              simp only [push_cast, ↓wF_free, ↓reduceIte, Nat.reduceEqDiff, Nat.reduceLT, Nat.reduceLeDiff, Nat.reduceAdd, Nat.reduceSub, Nat.reduceMul, Nat.reduceBEq, Int.reduceLT, Int.reduceLE, Int.reduceToNat, Int.reduceNeg, Int.reducePow, Int.reduceAdd, Int.reduceMul, Int.reduceSub, ↓Int.reduceNatCast'] <;> rfl
            | true =>
              rw [k3] at g4
              rw [k1, k2, k3] at hoj
              rw [hoj] at hov
              have e : ovF t.cl = some (i, j, (meetB (bxA t.cl i) (bxA t.cl j)).lo) := hov
              simp (disch := first | omega | decide) only [push_cast, ↓wF_free, ↓reduceIte, Nat.reduceEqDiff, Nat.reduceLT, Nat.reduceLeDiff, Nat.reduceAdd, Nat.reduceSub, Nat.reduceMul, Nat.reduceBEq, Int.reduceLT, Int.reduceLE, Int.reduceToNat, Int.reduceNeg, Int.reducePow, Int.reduceAdd, Int.reduceMul, Int.reduceSub, ↓Int.reduceNatCast', i3, i4, g3, g4, ldB_l _ _ hm, ce, stE _ z16_length hm.1, ldE _ _ hm.1, e, ovi, ovj, ovh, ovv, ovb]
      · obtain rfl : j = t.cl.length := by omega
        rw [Nat.sub_self, ovJ] at hoj
        rw [hoj] at hov
        simp (disch := first | omega | decide) only [push_cast, ↓wF_free, ↓reduceIte, Nat.reduceEqDiff, Nat.reduceLT, Nat.reduceLeDiff, Nat.reduceAdd, Nat.reduceSub, Nat.reduceMul, Nat.reduceBEq, Int.reduceLT, Int.reduceLE, Int.reduceToNat, Int.reduceNeg, Int.reducePow, Int.reduceAdd, Int.reduceMul, Int.reduceSub, ↓Int.reduceNatCast', add_i]
        refine next_head (i + 1) (by exact ⟨by omega, hov⟩) (by omega) ?_
        simp only [push_cast, ↓wF_free, ↓reduceIte, Nat.reduceEqDiff, Nat.reduceLT, Nat.reduceLeDiff, Nat.reduceAdd, Nat.reduceSub, Nat.reduceMul, Nat.reduceBEq, Int.reduceLT, Int.reduceLE, Int.reduceToNat, Int.reduceNeg, Int.reducePow, Int.reduceAdd, Int.reduceMul, Int.reduceSub, ↓Int.reduceNatCast'] <;> rfl
    · obtain rfl : i = t.cl.length := by omega
      rw [Nat.sub_self, ovI] at hov
      simp (disch := first | omega | decide) only [push_cast, ↓wF_free, ↓reduceIte, Nat.reduceEqDiff, Nat.reduceLT, Nat.reduceLeDiff, Nat.reduceAdd, Nat.reduceSub, Nat.reduceMul, Nat.reduceBEq, Int.reduceLT, Int.reduceLE, Int.reduceToNat, Int.reduceNeg, Int.reducePow, Int.reduceAdd, Int.reduceMul, Int.reduceSub, ↓Int.reduceNatCast', fill_env0, stE _ z16_length z16_length, ldE _ _ z16_length, hov, ovi, ovj, ovh, ovv, ovb]
theorem c_pov : Contract Try.prog GG 21 sp_pov :=
  contract_of tr_tbox_Overlap (tb_ok (all_cons c_pof (all_cons c_pmeet (all_cons c_penv all_nil))) all_nil) (fun a h => w_pov a h)
theorem ovI_some {cl : List Cls} : ∀ {k i : Nat} {r : Nat × Nat × List Int}, k + i = cl.length → ovI cl k i = some r → i ≤ r.1 ∧ r.1 < r.2.1 ∧ r.2.1 < cl.length ∧ hitB cl r.1 r.2.1 = true ∧ r.2.2 = (meetB (bxA cl r.1) (bxA cl r.2.1)).lo ∧
      (∀ m, r.1 < m → m < r.2.1 → hitB cl r.1 m = false) ∧ ∀ a b, i ≤ a → a < r.1 → a < b → b < cl.length → hitB cl a b = false
  | 0, i, r, _, h => by cases h
  | k + 1, i, r, hk, h => by
    simp only [ovI] at h
    split at h
    · rename_i r' hr
      simp only [Option.some.injEq] at h
      subst h
      obtain ⟨h1, h2, h3, h4, h5, h6⟩ := ovJ_some hr
      subst h1
      exact ⟨Nat.le_refl _, by omega, by omega, h4, h5, fun m h7 h8 => h6 m (by omega) h8, fun a b h7 h8 => by omega⟩
    · rename_i hr
      obtain ⟨h1, h2, h3, h4, h5, h6, h7⟩ := ovI_some (by omega) h
      refine ⟨by omega, h2, h3, h4, h5, h6, fun a b h8 h9 h10 h11 => ?_⟩
      rcases Nat.lt_or_ge i a with h12 | h12
      · exact h7 a b h12 h9 h10 h11
      · obtain rfl : a = i := by omega
        exact ovJ_none hr b (by omega) (by omega)
theorem ovI_none {cl : List Cls} : ∀ {k i : Nat}, k + i = cl.length → ovI cl k i = none → ∀ a b, i ≤ a → a < b → b < cl.length → hitB cl a b = false
  | 0, i, hk, h, a, b, h1, h2, h3 => by omega
  | k + 1, i, hk, h, a, b, h1, h2, h3 => by
    simp only [ovI] at h
    split at h
    · cases h
    · rename_i hr
      rcases Nat.lt_or_ge i a with h12 | h12
      · exact ovI_none (by omega) h a b h12 h2 h3
      · obtain rfl : a = i := by omega
        exact ovJ_none hr b (by omega) (by omega)
theorem ovv_length (cl : List Cls) : (ovv (ovF cl)).length = 16 := by
  cases h : ovF cl with
  | none => rfl
  | some r =>
    obtain ⟨h1, h2, h3, h4, h5, _⟩ := ovI_some (by omega) h
    show r.2.2.length = 16
    rw [h5]
    exact (meetB_ok (bxA_ok (by omega)) (bxA_ok h3)).1
def chkO (cl : List Cls) : Int := if (sms cl).all id then (if ovb (ovF cl) then 190 else 0) else 190
theorem chk_bad {cl : List Cls} {i : Nat} (h : i < cl.length) (hb : (ofB (cl.getD i default).wh).2 = false) : chkO cl = 190 := by
  unfold chkO
  rw [if_neg]
  intro h2
  rw [List.all_eq_true] at h2
  have := h2 ((sms cl).getD i default) (by
    rw [List.getD_eq_getElem?_getD, List.getElem?_eq_getElem (by rw [sms_length]; exact h)]
    exact List.getElem_mem _)
  rw [sms_at cl i h, hb] at this
  cases this
theorem chk_good {cl : List Cls} (h : ∀ j, j < cl.length → (ofB (cl.getD j default).wh).2 = true) : chkO cl = if ovb (ovF cl) then 190 else 0 := by
  unfold chkO
  rw [if_pos]
  rw [List.all_eq_true]
  intro x hx
  obtain ⟨j, hj, rfl⟩ := List.getElem_of_mem hx
  have hj2 : j < cl.length := by rw [sms_length] at hj; exact hj
  have := sms_at cl j hj2
  rw [h j hj2, List.getD_eq_getElem?_getD, List.getElem?_eq_getElem hj] at this
  exact this
noncomputable def sp_pchk : List D → Option D := spOf (α := Tar) (fun a => [tarD a]) (fun a => a.cl.length ≤ 65536 ∧ ∀ c ∈ a.cl, c.wh.length ≤ 9223372036854775807) (fun a => .int .i64 (chkO a.cl))
theorem call_pchk (t : Tar) (h : t.cl.length ≤ 65536 ∧ ∀ c ∈ t.cl, c.wh.length ≤ 9223372036854775807) : sp_pchk [tarD t] = some (.int .i64 (chkO t.cl)) :=
  spOf_enc (fun a b h => by simp only [List.cons.injEq, D.slc.injEq, D.int.injEq, D.bool.injEq, D.str.injEq, D.agg.injEq, digs_iff, dig_iff, digC_iff, bytes_iff, byte_iff, words_iff, word_iff, bsl_iff, true_and, and_true, ints_iff, nI_iff, tsts_iff, clss_iff, clsD_iff, tarD_iff, tstD_iff, ptD_iff, Int.ofNat_inj] at h; simp [h, Prod.ext_iff]) (t) h
set_option maxHeartbeats 4000000 in
set_option maxRecDepth 20000 in
theorem w_pchk (t : Tar) (h : t.cl.length ≤ 65536 ∧ ∀ c ∈ t.cl, c.wh.length ≤ 9223372036854775807) : @wW GG (tb [(34, sp_pof), (21, sp_pov)] []) F_tbox_Check.code (argF [tarD t]) [] ⟨retQ F_tbox_Check.res (.int .i64 (chkO t.cl))⟩ := by
  have co := call_pov t h
  obtain ⟨hn, hw⟩ := h
  unfold F_tbox_Check
  simp (disch := first | omega | decide) only [push_cast, ↓wF_free, ↓reduceIte, Nat.reduceEqDiff, Nat.reduceLT, Nat.reduceLeDiff, Nat.reduceAdd, Nat.reduceSub, Nat.reduceMul, Nat.reduceBEq, Int.reduceLT, Int.reduceLE, Int.reduceToNat, Int.reduceNeg, Int.reducePow, Int.reduceAdd, Int.reduceMul, Int.reduceSub, ↓Int.reduceNatCast']
  refine W_while (fun i : Nat => [(1, .ptr 0 0), (12, .slc (nz 9 (t.cl.map clsD)) (t.cl.map clsD) false), (13, .int .i64 (t.cl.length : Int)), (14, .int .i64 (i : Int))])
    (fun i => [⟨false, 1, tarC t, false⟩]) (fun i => i ≤ t.cl.length ∧ ∀ j, j < i → (ofB (t.cl.getD j default).wh).2 = true) (fun i => t.cl.length - i) 0 (by simp only [push_cast, ↓wF_free, ↓reduceIte, Nat.reduceEqDiff, Nat.reduceLT, Nat.reduceLeDiff, Nat.reduceAdd, Nat.reduceSub, Nat.reduceMul, Nat.reduceBEq, Int.reduceLT, Int.reduceLE, Int.reduceToNat, Int.reduceNeg, Int.reducePow, Int.reduceAdd, Int.reduceMul, Int.reduceSub, ↓Int.reduceNatCast'] <;> rfl) ⟨Nat.zero_le _, fun j hj => by omega⟩ ?_
  rintro i ⟨hi, hp⟩
  unfold F_tbox_Check_L0
  simp (disch := first | omega | decide) only [push_cast, ↓wF_free, ↓reduceIte, Nat.reduceEqDiff, Nat.reduceLT, Nat.reduceLeDiff, Nat.reduceAdd, Nat.reduceSub, Nat.reduceMul, Nat.reduceBEq, Int.reduceLT, Int.reduceLE, Int.reduceToNat, Int.reduceNeg, Int.reducePow, Int.reduceAdd, Int.reduceMul, Int.reduceSub, ↓Int.reduceNatCast']
  refine ifD_split (fun h2 => ?_) (fun h2 => ?_)
  · have hlt : i < t.cl.length := by omega
    have hix := fun st => idxS_nz st 9 clsD t.cl false .i64 (i : Int) (by omega) (by omega)
    rw [Int.toNat_natCast] at hix
    have cc := call_pof (t.cl.getD i default) (hw _ (getD_memC hlt))
    have hb := ofB_ok (t.cl.getD i default).wh
    cases k : (ofB (t.cl.getD i default).wh).2 with
    | false =>
      rw [k] at cc
      have e := chk_bad hlt k
      simp (disch := first | omega | decide) only [push_cast, ↓wF_free, ↓reduceIte, Nat.reduceEqDiff, Nat.reduceLT, Nat.reduceLeDiff, Nat.reduceAdd, Nat.reduceSub, Nat.reduceMul, Nat.reduceBEq, Int.reduceLT, Int.reduceLE, Int.reduceToNat, Int.reduceNeg, Int.reducePow, Int.reduceAdd, Int.reduceMul, Int.reduceSub, ↓Int.reduceNatCast', hix, cc, stB _ zBx_ok hb, e]
    | true =>
      rw [k] at cc
      simp (disch := first | omega | decide) only [push_cast, ↓wF_free, ↓reduceIte, Nat.reduceEqDiff, Nat.reduceLT, Nat.reduceLeDiff, Nat.reduceAdd, Nat.reduceSub, Nat.reduceMul, Nat.reduceBEq, Int.reduceLT, Int.reduceLE, Int.reduceToNat, Int.reduceNeg, Int.reducePow, Int.reduceAdd, Int.reduceMul, Int.reduceSub, ↓Int.reduceNatCast', hix, cc, stB _ zBx_ok hb, add_i]
      refine next_head (i + 1) (by exact ⟨by omega, fun j hj => by
        rcases Nat.lt_or_ge j i with h4 | h4
        · exact hp j h4
        · obtain rfl : j = i := by omega
          exact k⟩) (by omega) ?_
      simp only [push_cast, ↓wF_free, ↓reduceIte, Nat.reduceEqDiff, Nat.reduceLT, Nat.reduceLeDiff, Nat.reduceAdd, Nat.reduceSub, Nat.reduceMul, Nat.reduceBEq, Int.reduceLT, Int.reduceLE, Int.reduceToNat, Int.reduceNeg, Int.reducePow, Int.reduceAdd, Int.reduceMul, Int.reduceSub, ↓Int.reduceNatCast'] <;> rfl
  · obtain rfl : i = t.cl.length := by omega
    have e := chk_good hp
    have hv : (ovv (ovF t.cl)).length = 16 := ovv_length t.cl
    cases k : ovb (ovF t.cl) with
    | false =>
      rw [k] at co e
      simp (disch := first | omega | decide) only [push_cast, ↓wF_free, ↓reduceIte, Nat.reduceEqDiff, Nat.reduceLT, Nat.reduceLeDiff, Nat.reduceAdd, Nat.reduceSub, Nat.reduceMul, Nat.reduceBEq, Int.reduceLT, Int.reduceLE, Int.reduceToNat, Int.reduceNeg, Int.reducePow, Int.reduceAdd, Int.reduceMul, Int.reduceSub, ↓Int.reduceNatCast', co, stE _ z16_length hv, e]
    | true =>
      rw [k] at co e
      simp (disch := first | omega | decide) only [push_cast, ↓wF_free, ↓reduceIte, Nat.reduceEqDiff, Nat.reduceLT, Nat.reduceLeDiff, Nat.reduceAdd, Nat.reduceSub, Nat.reduceMul, Nat.reduceBEq, Int.reduceLT, Int.reduceLE, Int.reduceToNat, Int.reduceNeg, Int.reducePow, Int.reduceAdd, Int.reduceMul, Int.reduceSub, ↓Int.reduceNatCast', co, stE _ z16_length hv, e]
theorem c_pchk : Contract Try.prog GG 23 sp_pchk :=
  contract_of tr_tbox_Check (tb_ok (all_cons c_pof (all_cons c_pov all_nil)) all_nil) (fun a h => w_pchk a h)
end Go.Proofs.Ytgppecaeegaooaa.PI
namespace Go.Proofs.Ytgppecaeegaooaa.PI
open Go
set_option linter.unusedSimpArgs false
set_option linter.unusedVariables false
def okD (t : Tst) : Prop := okA t ∧ 0 ≤ t.lo ∧ t.lo ≤ t.hi ∧ t.hi ≤ 9007199254740992
instance (t : Tst) : Decidable (okD t) := by unfold okD; infer_instance
def seenB : List Tst → Nat → Int → Bool
  | _, 0, _ => false
  | l, i + 1, x => seenB l i x || decide ((l.getD i default).a = x)
def regF (l : List Tst) : Nat → Nat → Bx → Option Bx
  | 0, _, b => some b
  | k + 1, i, b => if okD (l.getD i default) then (if seenB l i (l.getD i default).a then none else regF l k (i + 1) (cutB b (l.getD i default))) else none
def domF (l : List Tst) : Option Bx := regF l l.length 0 allB
structure DomI (l : List Tst) (i : Nat) (b : Bx) : Prop where
  ok : b.ok
  rg : ∀ j : Nat, j < 16 → 0 ≤ at' b.lo j ∧ at' b.lo j ≤ at' b.hi j ∧ at' b.hi j ≤ 9007199254740992
  ns : ∀ j : Nat, j < 16 → seenB l i (j : Int) = false → at' b.lo j = 0 ∧ at' b.hi j = 9007199254740992
theorem domI_start (l : List Tst) : DomI l 0 allB := by
  have h : ∀ j, j < 16 → at' allB.lo j = 0 ∧ at' allB.hi j = 9007199254740992 := fun j hj => ⟨at_rep _ _ _ hj, at_rep _ _ _ hj⟩
  exact ⟨allB_ok, fun j hj => by obtain ⟨a, b⟩ := h j hj; omega, fun j hj _ => h j hj⟩
theorem domI_next {l : List Tst} {i : Nat} {b : Bx} (h : DomI l i b) (ho : okD (l.getD i default)) (hs : seenB l i (l.getD i default).a = false) : DomI l (i + 1) (cutB b (l.getD i default)) := by
  obtain ⟨ha, h1, h2, h3⟩ := ho
  have ha' := ha
  obtain ⟨a1, a2⟩ := ha'
  have hn := h.ns (l.getD i default).a.toNat (by omega) (by rw [Int.toNat_of_nonneg a1]; exact hs)
  refine ⟨cutB_ok h.ok _, fun j hj => ?_, fun j hj hsj => ?_⟩
  · rw [cutB_lo h.ok ha, cutB_hi h.ok ha]
    have := h.rg j hj
    split
    · rename_i e; subst e; omega
    · exact this
  · simp only [seenB, Bool.or_eq_false_iff, decide_eq_false_iff_not] at hsj
    rw [cutB_lo h.ok ha, cutB_hi h.ok ha, if_neg (by omega), if_neg (by omega)]
    exact h.ns j hj hsj.1
theorem reg_dom (l : List Tst) : ∀ (k i : Nat) (b c : Bx), k + i = l.length → DomI l i b → regF l k i b = some c → Dom c
  | 0, i, b, c, hk, hI, h => by
    simp only [regF, Option.some.injEq] at h
    subst h
    exact ⟨hI.ok, fun j hj => (hI.rg j hj).2.1, fun j hj => (hI.rg j hj).2.2⟩
  | k + 1, i, b, c, hk, hI, h => by
    simp only [regF] at h
    split at h
    · rename_i ho
      split at h
      · cases h
      · rename_i hs
        exact reg_dom l k (i + 1) _ c (by omega) (domI_next hI ho (by simpa using hs)) h
    · cases h
theorem dom_ok {l : List Tst} {d : Bx} (h : domF l = some d) : Dom d := reg_dom l l.length 0 allB d rfl (domI_start l) h
def domD (l : List Tst) : Bx := match domF l with
  | some d => d
  | none => zBx
def domB (l : List Tst) : Bool := (domF l).isSome
theorem domD_ok (l : List Tst) : (domD l).ok := by
  unfold domD
  split
  · rename_i d h; exact (dom_ok h).ok
  · exact zBx_ok
theorem dom_none {l : List Tst} (h : domF l = none) : domD l = zBx ∧ domB l = false := by unfold domD domB; rw [h]; exact ⟨rfl, rfl⟩
theorem dom_some {l : List Tst} {d : Bx} (h : domF l = some d) : domD l = d ∧ domB l = true := by unfold domD domB; rw [h]; exact ⟨rfl, rfl⟩
def snL (l : List Tst) (i : Nat) : List Bool := (List.range 16).map fun (x : Nat) => seenB l i (x : Int)
theorem snL_zero (l : List Tst) : [D.bool false, .bool false, .bool false, .bool false, .bool false, .bool false, .bool false, .bool false, .bool false, .bool false, .bool false, .bool false, .bool false, .bool false, .bool false, .bool false] = (snL l 0).map D.bool := (rfl)
theorem snL_length (l : List Tst) (i : Nat) : (snL l i).length = 16 := by simp [snL]
theorem snL_at (l : List Tst) (i j : Nat) (h : j < 16) : (snL l i).getD j default = seenB l i (j : Int) := by simp [snL, List.getD_eq_getElem?_getD, h]
theorem snL_set (l : List Tst) (i : Nat) (h0 : 0 ≤ (l.getD i default).a) (h1 : (l.getD i default).a < 16) : (snL l i).set (l.getD i default).a.toNat true = snL l (i + 1) := by
  apply List.ext_getElem (by simp [snL])
  intro j h2 h3
  rw [List.getElem_set]
  simp only [snL, List.getElem_map, List.getElem_range, seenB]
  by_cases e : (l.getD i default).a = (j : Int)
  · rw [if_pos (by omega)]; simp only [e, decide_true, Bool.or_true]
  · rw [if_neg (by omega)]; simp only [e, decide_false, Bool.or_false]
theorem box_bools (l : List Bool) : boxD (.agg (l.map D.bool)) = some (l.map D.bool) := by
  simp only [boxD, D.cells, map_cells D.bool (fun _ => rfl), if_true]
theorem hkB_bools (l : List Bool) : (l.map D.bool).flatMap hk = [] := hkB_solid (map_solid D.bool (fun _ => rfl) l)
theorem renB_bools (n : Nat) (σ : List Nat) (l : List Bool) : (l.map D.bool).map (ren n σ) = l.map D.bool := renB_solid n σ (map_solid D.bool (fun _ => rfl) l)
attribute [push_cast] box_bools hkB_bools renB_bools
noncomputable def sp_preg : List D → Option D := spOf (α := List Tst) (fun a => [.slc (nz 3 (a.map tstD)) (a.map tstD) false]) (fun a => a.length ≤ 9223372036854775807) (fun a => .tup [bxD (domD a), .bool (domB a)])
theorem call_preg (l : List Tst) (h : l.length ≤ 9223372036854775807) : sp_preg [.slc (nz 3 (l.map tstD)) (l.map tstD) false] = some (.tup [bxD (domD l), .bool (domB l)]) :=
  spOf_enc (fun a b h => by simp only [List.cons.injEq, D.slc.injEq, D.int.injEq, D.bool.injEq, D.str.injEq, D.agg.injEq, digs_iff, dig_iff, digC_iff, bytes_iff, byte_iff, words_iff, word_iff, bsl_iff, true_and, and_true, ints_iff, nI_iff, tsts_iff, clss_iff, clsD_iff, tarD_iff, tstD_iff, ptD_iff, Int.ofNat_inj] at h; simp [h, Prod.ext_iff]) (l) h
set_option maxHeartbeats 4000000 in
set_option maxRecDepth 20000 in
theorem w_preg (l : List Tst) (h : l.length ≤ 9223372036854775807) : @wW GG (tb [(54, sp_pall), (55, sp_pcut)] []) F_tbox_region.code (argF [.slc (nz 3 (l.map tstD)) (l.map tstD) false]) [] ⟨retQ F_tbox_region.res (.tup [bxD (domD l), .bool (domB l)])⟩ := by
  have ca := call_pall
  unfold F_tbox_region
  simp (disch := first | omega | decide) only [push_cast, ↓wF_free, ↓reduceIte, Nat.reduceEqDiff, Nat.reduceLT, Nat.reduceLeDiff, Nat.reduceAdd, Nat.reduceSub, Nat.reduceMul, Nat.reduceBEq, Int.reduceLT, Int.reduceLE, Int.reduceToNat, Int.reduceNeg, Int.reducePow, Int.reduceAdd, Int.reduceMul, Int.reduceSub, ↓Int.reduceNatCast', ca, stB _ zBx_ok allB_ok, snL_zero l]
  refine W_while (fun i : Nat × Bx => [(2, .ptr 0 0), (4, .ptr 1 0), (5, .ptr 2 0), (9, .slc (nz 3 (l.map tstD)) (l.map tstD) false), (10, .int .i64 (l.length : Int)), (11, .int .i64 (i.1 : Int))]) (fun i => [⟨false, 1, bxC zBx, false⟩, ⟨false, 1, bxC i.2, false⟩, ⟨false, 1, (snL l i.1).map D.bool, false⟩]) (fun i => i.1 ≤ l.length ∧ i.2.ok ∧ domF l = regF l (l.length - i.1) i.1 i.2) (fun i => l.length - i.1) (0, allB) (by simp only [push_cast, ↓wF_free, ↓reduceIte, Nat.reduceEqDiff, Nat.reduceLT, Nat.reduceLeDiff, Nat.reduceAdd, Nat.reduceSub, Nat.reduceMul, Nat.reduceBEq, Int.reduceLT, Int.reduceLE, Int.reduceToNat, Int.reduceNeg, Int.reducePow, Int.reduceAdd, Int.reduceMul, Int.reduceSub, ↓Int.reduceNatCast', snL_zero l] <;> rfl) ⟨Nat.zero_le _, allB_ok, rfl⟩ ?_
  rintro ⟨i, b⟩ ⟨hi, hb, hr⟩
  dsimp only at hi hb hr
  unfold F_tbox_region_L0
  simp (disch := first | omega | decide) only [push_cast, ↓wF_free, ↓reduceIte, Nat.reduceEqDiff, Nat.reduceLT, Nat.reduceLeDiff, Nat.reduceAdd, Nat.reduceSub, Nat.reduceMul, Nat.reduceBEq, Int.reduceLT, Int.reduceLE, Int.reduceToNat, Int.reduceNeg, Int.reducePow, Int.reduceAdd, Int.reduceMul, Int.reduceSub, ↓Int.reduceNatCast']
  refine ifD_split (fun h2 => ?_) (fun h2 => ?_)
  · have hlt : i < l.length := by omega
    rw [show l.length - i = (l.length - (i + 1)) + 1 by omega, regF] at hr
    have hset := snL_set l i
    simp (disch := first | omega | decide) only [push_cast, ↓wF_free, ↓reduceIte, Nat.reduceEqDiff, Nat.reduceLT, Nat.reduceLeDiff, Nat.reduceAdd, Nat.reduceSub, Nat.reduceMul, Nat.reduceBEq, Int.reduceLT, Int.reduceLE, Int.reduceToNat, Int.reduceNeg, Int.reducePow, Int.reduceAdd, Int.reduceMul, Int.reduceSub, ↓Int.reduceNatCast', idxS_nz]
    generalize l.getD i default = t at *
    by_cases ht : okD t
    · obtain ⟨hta, b1, b2, b3⟩ := ht
      have ht' := hta
      obtain ⟨a1', a2'⟩ := ht'
      have hset' := hset a1' a2'
      rw [if_pos ⟨hta, b1, b2, b3⟩] at hr
      have a1 : ¬ t.a < 0 := by omega
      have a2 : ¬ (16 : Int) ≤ t.a := by omega
      have a3 : ¬ t.lo < 0 := by omega
      have a4 : ¬ t.hi < t.lo := by omega
      have a5 : ¬ 9007199254740992 < t.hi := by omega
      have hl := ldO_map 1 false D.bool (snL l i) t.a.toNat (by rw [snL_length]; omega)
      rw [snL_at l i _ (by omega), Int.toNat_of_nonneg a1'] at hl
      have hs := stO_set 1 D.bool (fun _ => rfl) (snL l i) t.a.toNat true (by rw [snL_length]; omega)
      rw [hset'] at hs
      cases k : seenB l i t.a with
      | true =>
        rw [k] at hl hr
        have e := dom_none hr
        simp (disch := first | omega | decide) only [push_cast, ↓wF_free, ↓reduceIte, Nat.reduceEqDiff, Nat.reduceLT, Nat.reduceLeDiff, Nat.reduceAdd, Nat.reduceSub, Nat.reduceMul, Nat.reduceBEq, Int.reduceLT, Int.reduceLE, Int.reduceToNat, Int.reduceNeg, Int.reducePow, Int.reduceAdd, Int.reduceMul, Int.reduceSub, ↓Int.reduceNatCast', a1, a2, idxA_ptr, hl, stB _ zBx_ok zBx_ok, ldB _ _ zBx_ok, e.1, e.2]
      | false =>
        rw [k] at hl hr
        have hc := cutB_ok hb t
        have cc := call_pcut b t ⟨hb, hta⟩
        simp (disch := first | omega | decide) only [push_cast, ↓wF_free, ↓reduceIte, Nat.reduceEqDiff, Nat.reduceLT, Nat.reduceLeDiff, Nat.reduceAdd, Nat.reduceSub, Nat.reduceMul, Nat.reduceBEq, Int.reduceLT, Int.reduceLE, Int.reduceToNat, Int.reduceNeg, Int.reducePow, Int.reduceAdd, Int.reduceMul, Int.reduceSub, ↓Int.reduceNatCast', a1, a2, a3, a4, a5, idxA_ptr, hl, hs, ldB _ _ hb, cc, stB _ hb hc, add_i]
        refine next_head (i + 1, cutB b t) (by exact ⟨by omega, hc, hr⟩) (by dsimp only; omega) ?_
        simp only [push_cast, ↓wF_free, ↓reduceIte, Nat.reduceEqDiff, Nat.reduceLT, Nat.reduceLeDiff, Nat.reduceAdd, Nat.reduceSub, Nat.reduceMul, Nat.reduceBEq, Int.reduceLT, Int.reduceLE, Int.reduceToNat, Int.reduceNeg, Int.reducePow, Int.reduceAdd, Int.reduceMul, Int.reduceSub, ↓Int.reduceNatCast'] <;> rfl
    · have ht' := ht
      unfold okD okA at ht'
      rw [if_neg ht] at hr
      have e := dom_none hr
      by_cases a1 : t.a < 0
      · simp (disch := first | omega | decide) only [push_cast, ↓wF_free, ↓reduceIte, Nat.reduceEqDiff, Nat.reduceLT, Nat.reduceLeDiff, Nat.reduceAdd, Nat.reduceSub, Nat.reduceMul, Nat.reduceBEq, Int.reduceLT, Int.reduceLE, Int.reduceToNat, Int.reduceNeg, Int.reducePow, Int.reduceAdd, Int.reduceMul, Int.reduceSub, ↓Int.reduceNatCast', a1, stB _ zBx_ok zBx_ok, ldB _ _ zBx_ok, e.1, e.2]
      · by_cases a2 : (16 : Int) ≤ t.a
        · simp (disch := first | omega | decide) only [push_cast, ↓wF_free, ↓reduceIte, Nat.reduceEqDiff, Nat.reduceLT, Nat.reduceLeDiff, Nat.reduceAdd, Nat.reduceSub, Nat.reduceMul, Nat.reduceBEq, Int.reduceLT, Int.reduceLE, Int.reduceToNat, Int.reduceNeg, Int.reducePow, Int.reduceAdd, Int.reduceMul, Int.reduceSub, ↓Int.reduceNatCast', a1, a2, stB _ zBx_ok zBx_ok, ldB _ _ zBx_ok, e.1, e.2]
        · have hl := ldO_map 1 false D.bool (snL l i) t.a.toNat (by rw [snL_length]; omega)
          cases k : (snL l i).getD t.a.toNat default with
          | true =>
            rw [k] at hl
            simp (disch := first | omega | decide) only [push_cast, ↓wF_free, ↓reduceIte, Nat.reduceEqDiff, Nat.reduceLT, Nat.reduceLeDiff, Nat.reduceAdd, Nat.reduceSub, Nat.reduceMul, Nat.reduceBEq, Int.reduceLT, Int.reduceLE, Int.reduceToNat, Int.reduceNeg, Int.reducePow, Int.reduceAdd, Int.reduceMul, Int.reduceSub, ↓Int.reduceNatCast', a1, a2, idxA_ptr, hl, stB _ zBx_ok zBx_ok, ldB _ _ zBx_ok, e.1, e.2]
          | false =>
            rw [k] at hl
            by_cases a3 : t.lo < 0
            · simp (disch := first | omega | decide) only [push_cast, ↓wF_free, ↓reduceIte, Nat.reduceEqDiff, Nat.reduceLT, Nat.reduceLeDiff, Nat.reduceAdd, Nat.reduceSub, Nat.reduceMul, Nat.reduceBEq, Int.reduceLT, Int.reduceLE, Int.reduceToNat, Int.reduceNeg, Int.reducePow, Int.reduceAdd, Int.reduceMul, Int.reduceSub, ↓Int.reduceNatCast', a1, a2, a3, idxA_ptr, hl, stB _ zBx_ok zBx_ok, ldB _ _ zBx_ok, e.1, e.2]
            · by_cases a4 : t.hi < t.lo
              · simp (disch := first | omega | decide) only [push_cast, ↓wF_free, ↓reduceIte, Nat.reduceEqDiff, Nat.reduceLT, Nat.reduceLeDiff, Nat.reduceAdd, Nat.reduceSub, Nat.reduceMul, Nat.reduceBEq, Int.reduceLT, Int.reduceLE, Int.reduceToNat, Int.reduceNeg, Int.reducePow, Int.reduceAdd, Int.reduceMul, Int.reduceSub, ↓Int.reduceNatCast', a1, a2, a3, a4, idxA_ptr, hl, stB _ zBx_ok zBx_ok, ldB _ _ zBx_ok, e.1, e.2]
              · have a5 : 9007199254740992 < t.hi := by omega
                simp (disch := first | omega | decide) only [push_cast, ↓wF_free, ↓reduceIte, Nat.reduceEqDiff, Nat.reduceLT, Nat.reduceLeDiff, Nat.reduceAdd, Nat.reduceSub, Nat.reduceMul, Nat.reduceBEq, Int.reduceLT, Int.reduceLE, Int.reduceToNat, Int.reduceNeg, Int.reducePow, Int.reduceAdd, Int.reduceMul, Int.reduceSub, ↓Int.reduceNatCast', a1, a2, a3, a4, a5, idxA_ptr, hl, stB _ zBx_ok zBx_ok, ldB _ _ zBx_ok, e.1, e.2]
  · obtain rfl : i = l.length := by omega
    rw [Nat.sub_self, regF] at hr
    have e := dom_some hr
    simp (disch := first | omega | decide) only [push_cast, ↓wF_free, ↓reduceIte, Nat.reduceEqDiff, Nat.reduceLT, Nat.reduceLeDiff, Nat.reduceAdd, Nat.reduceSub, Nat.reduceMul, Nat.reduceBEq, Int.reduceLT, Int.reduceLE, Int.reduceToNat, Int.reduceNeg, Int.reducePow, Int.reduceAdd, Int.reduceMul, Int.reduceSub, ↓Int.reduceNatCast', ldB _ _ hb, stB _ zBx_ok hb, e.1, e.2]
theorem c_preg : Contract Try.prog GG 35 sp_preg :=
  contract_of tr_tbox_region (tb_ok (all_cons c_pall (all_cons c_pcut all_nil)) all_nil) (fun a h => w_preg a h)
theorem okL_at {l : List Bx} (h : okL l) (i : Nat) (hi : i < l.length) : (l.getD i default).ok := by
  rw [List.getD_eq_getElem?_getD, List.getElem?_eq_getElem hi]
  exact h _ (List.getElem_mem hi)
theorem litD_bx {b : Bx} (hb : b.ok) : litD 32 [bxD b] = some (.slc 32 [bxD b] true) := by
  have : (bxD b).cells.length = 32 := bxC_length hb
  simp [litD, this]
theorem afterL_take (a : Nat) (n : Int) : ∀ (l : List Bx) (b : Bx) (x : Int), afterL (l ++ [b]) a n x = if n ≤ at' b.hi a then min (afterL l a n x) (at' b.hi a + 1) else afterL l a n x
  | [], b, x => rfl
  | c :: l, b, x => by
    simp only [List.cons_append, afterL]
    exact afterL_take a n l b _
def hiL (l : List Bx) : Prop := ∀ b ∈ l, ∀ i, i < 16 → at' b.hi i ≤ 9007199254740992
theorem hiL_at {l : List Bx} (h : hiL l) (i : Nat) (hi : i < l.length) : ∀ j, j < 16 → at' (l.getD i default).hi j ≤ 9007199254740992 := by
  rw [List.getD_eq_getElem?_getD, List.getElem?_eq_getElem hi]
  exact h _ (List.getElem_mem hi)
end Go.Proofs.Ytgppecaeegaooaa.PI
namespace Go.Proofs.Ytgppecaeegaooaa.PI
open Go
set_option linter.unusedSimpArgs false
set_option linter.unusedVariables false
theorem stPt (sz : Nat) {p : List Int} (hp : p.length = 16) (i : Nat) (v : Int) (h : i < 16) : stO (some ⟨false, sz, p.map nI, false⟩) 1 i (.int .i64 v) = some ⟨false, sz, (p.set i v).map nI, false⟩ := stO_set sz nI (fun _ => rfl) p i v (by omega)
theorem srch_len {d : Bx} (hd : Dom d) (m : Nat) (hm : m ≤ 16) (l : List Bx) (v : List Int) (hv : v.length = 16) : (srch d m l v).1.length = 16 := (srch_spec hd m hm l v hv).1
end Go.Proofs.Ytgppecaeegaooaa.PI
namespace Go.Proofs.Ytgppecaeegaooaa.PI
open Go
set_option linter.unusedSimpArgs false
set_option linter.unusedVariables false
def mgO (o : Option Obj) (sz : Nat) (ks : List Nat) (ok : Bool) (zero k : D) : Option D := match o with
  | some o => if o.isMap && o.sz == sz && (keyEq sz ks k k).isSome then match mfind sz ks k o.els 0 with
      | some (some i) => match o.els[i]? with
        | some el => some (if ok then .tup [entV sz el, .bool true] else entV sz el)
        | none => none
      | some none => some (if ok then .tup [zero, .bool false] else zero)
      | none => none
    else none
  | none => none
theorem pmapget_v (st : St) (sz : Nat) (ks : List Nat) (ok : Bool) (zero k : D) (key : Nat) : pmapget st sz ks ok zero (.mapv key) k = mgO st[key]? sz ks ok zero k := (rfl)
def muO (o : Option Obj) (sz : Nat) (ks : List Nat) (k v : D) : Option Obj := match o with
  | some o => if o.isMap && o.sz == sz && !o.lent && v.isCell && k.cells.length + 1 == sz && k.cells.all D.isCell && keyEq sz ks k k == some true then match mfind sz ks k o.els 0 with
      | some (some i) => some { o with els := o.els.set i (.agg (k.cells ++ [v])) }
      | some none => some { o with els := o.els ++ [.agg (k.cells ++ [v])] }
      | none => none
    else none
  | none => none
theorem pmapup_v (st : St) (sz : Nat) (ks : List Nat) (k v : D) (key : Nat) : pmapup st sz ks (.mapv key) k v = (muO st[key]? sz ks k v).map fun o => st.set key o := by
  simp only [pmapup, muO]
  cases st[key]? with
  | none => rfl
  | some o =>
    simp only
    split
    · cases mfind sz ks k o.els 0 with
      | none => rfl
      | some r => cases r <;> rfl
    · rfl
def entD (p : Nat × Nat) : D := .agg [.int .i64 (p.1 : Int), .int .i64 (p.2 : Int), .bool true]
def memD (F : Mem) : List D := F.map entD
def keyD (a s : Nat) : D := .agg [.int .i64 (a : Int), .int .i64 (s : Int)]
theorem mfind_mem (a s : Nat) : ∀ (F : Mem) (i : Nat), (F.contains (a, s) = false ∧ mfind 3 [0, 0] (keyD a s) (memD F) i = some none) ∨ (F.contains (a, s) = true ∧ ∃ j, mfind 3 [0, 0] (keyD a s) (memD F) i = some (some (i + j)) ∧ F[j]? = some (a, s))
  | [], i => .inl ⟨rfl, rfl⟩
  | (b, t) :: F, i => by
    have hk : keyEq 3 [0, 0] (keyD a s) (entK 3 (entD (b, t))) = some ((a : Int) == (b : Int) && ((s : Int) == (t : Int) && true)) := (rfl)
    by_cases h : a = b ∧ s = t
    · obtain ⟨rfl, rfl⟩ := h
      refine .inr ⟨by simp, 0, ?_, rfl⟩
      simp only [memD, List.map_cons, mfind, hk, beq_self_eq_true, Bool.and_self, Nat.add_zero]
    · have hf : ((a : Int) == (b : Int) && ((s : Int) == (t : Int) && true)) = false := by
        rw [Bool.eq_false_iff]
        intro h2
        simp only [Bool.and_eq_true, beq_iff_eq, and_true] at h2
        exact h ⟨by omega, by omega⟩
      have hc : ((b, t) :: F).contains (a, s) = F.contains (a, s) := by
        rw [List.contains_cons]
        have : ((a, s) == (b, t)) = false := by
          rw [Bool.eq_false_iff]
          intro h2
          simp only [beq_iff_eq, Prod.mk.injEq] at h2
          exact h h2
        rw [this, Bool.false_or]
      have e : mfind 3 [0, 0] (keyD a s) (memD ((b, t) :: F)) i = mfind 3 [0, 0] (keyD a s) (memD F) (i + 1) := by
        simp only [memD, List.map_cons, mfind, hk, hf]
      rw [e, hc]
      rcases mfind_mem a s F (i + 1) with ⟨h1, h2⟩ | ⟨h1, j, h2, h3⟩
      · exact .inl ⟨h1, h2⟩
      · exact .inr ⟨h1, j + 1, by rw [h2]; congr 2; omega, h3⟩
theorem key_self (a s : Nat) : keyEq 3 [0, 0] (keyD a s) (keyD a s) = some true := by
  have : keyEq 3 [0, 0] (keyD a s) (keyD a s) = some ((a : Int) == (a : Int) && ((s : Int) == (s : Int) && true)) := (rfl)
  rw [this]; simp
theorem mg_mem (F : Mem) (a s : Nat) (lent : Bool) : mgO (some ⟨false, 3, memD F, lent⟩) 3 [0, 0] false (.bool false) (.agg [.int .i64 (a : Int), .int .i64 (s : Int)]) = some (.bool (F.contains (a, s))) := by
  have h0 : ((⟨false, 3, memD F, lent⟩ : Obj).isMap && (3 : Nat) == 3 && (keyEq 3 [0, 0] (keyD a s) (keyD a s)).isSome) = true := by rw [key_self]; rfl
  show mgO (some ⟨false, 3, memD F, lent⟩) 3 [0, 0] false (.bool false) (keyD a s) = _
  simp only [mgO]
  rw [if_pos h0]
  rcases mfind_mem a s F 0 with ⟨h1, h2⟩ | ⟨h1, j, h2, h3⟩
  · rw [h2, h1]; rfl
  · rw [h2, h1]
    simp only [Nat.zero_add, memD, List.getElem?_map, h3, Option.map_some]
    rfl
theorem mu_mem (F : Mem) (a s : Nat) : muO (some ⟨false, 3, memD F, false⟩) 3 [0, 0] (.agg [.int .i64 (a : Int), .int .i64 (s : Int)]) (.bool true) = some ⟨false, 3, memD (insM F (a, s)), false⟩ := by
  have h0 : ((⟨false, 3, memD F, false⟩ : Obj).isMap && (3 : Nat) == 3 && !false && (D.bool true).isCell && (keyD a s).cells.length + 1 == 3 && (keyD a s).cells.all D.isCell && keyEq 3 [0, 0] (keyD a s) (keyD a s) == some true) = true := by rw [key_self]; rfl
  show muO (some ⟨false, 3, memD F, false⟩) 3 [0, 0] (keyD a s) (.bool true) = _
  simp only [muO]
  rw [if_pos h0]
  rcases mfind_mem a s F 0 with ⟨h1, h2⟩ | ⟨h1, j, h2, h3⟩
  · rw [h2]
    simp only [insM, h1, Bool.false_eq_true, if_false, memD, List.map_append, List.map_cons, List.map_nil]
    rfl
  · rw [h2]
    simp only [insM, h1, if_true, Nat.zero_add]
    congr 2
    have : (memD F)[j]? = some (entD (a, s)) := by simp [memD, h3]
    rw [List.getElem?_eq_some_iff] at this
    obtain ⟨hj, he⟩ := this
    have e2 : D.agg ((keyD a s).cells ++ [.bool true]) = (memD F)[j] := by rw [he]; rfl
    rw [e2, List.set_getElem_self]
theorem bld_key (a s : Int) : fillD [.int .i64 0, .int .i64 0] [(0, 1, .int .i64 a), (1, 1, .int .i64 s)] = some [.int .i64 a, .int .i64 s] := (rfl)
theorem hkB_mem (F : Mem) : (memD F).flatMap hk = [] := by
  unfold memD
  induction F with
  | nil => rfl
  | cons p F ih => rw [List.map_cons, List.flatMap_cons, ih]; rfl
theorem renB_mem (n : Nat) (σ : List Nat) (F : Mem) : (memD F).map (ren n σ) = memD F := by
  unfold memD
  induction F with
  | nil => rfl
  | cons p F ih => rw [List.map_cons, List.map_cons, ih]; rfl
theorem lowB_mem (n : Nat) (F : Mem) : (memD F).map (low n) = memD F := by
  unfold memD
  induction F with
  | nil => rfl
  | cons p F ih => rw [List.map_cons, List.map_cons, ih]; rfl
theorem low_solid1 (n : Nat) {d : D} (h : solid1 d = true) : low n d = d := by
  cases d with
  | clo f l => cases l <;> simp_all [solid1, low, low1]
  | _ => simp_all [solid1, low, low1, low0]
theorem lowB_solid (n : Nat) : ∀ {l : List D}, l.all solid1 = true → l.map (low n) = l
  | [], _ => rfl
  | d :: l, h => by
    simp only [List.all_cons, Bool.and_eq_true] at h
    simp only [List.map_cons, low_solid1 n h.1, lowB_solid n h.2]
theorem lowB_bx (n : Nat) (b : Bx) : (bxC b).map (low n) = bxC b := lowB_solid n (bxC_solid b)
theorem lowB_pt (n : Nat) (p : List Int) : (p.map nI).map (low n) = p.map nI := lowB_solid n (ints_solid p)
theorem lowB_env (n : Nat) (h : Int) (p : List Int) : (envC h p).map (low n) = envC h p := lowB_pt n _
theorem lowB_tar (n : Nat) (t : Tar) : (tarC t).map (low n) = tarC t := lowB_solid n (tarC_solid t)
theorem low_clo (n f : Nat) (l : List D) : low n (.clo f l) = .clo f (l.map (low0 n)) := (rfl)
theorem low0_ptr (n key off : Nat) : low0 n (.ptr key off) = if key < n then .ptr key off else .junk := (rfl)
theorem lowR_bool (n : Nat) (b : Bool) : lowR n (.bool b) = .bool b := (rfl)
theorem nilc_ptr (st : St) (key off : Nat) : nilcD st (.ptr key off) = some (.ptr key off) := (rfl)
theorem box_nilm : boxD .nilm = some [.nilm] := (rfl)
theorem box_nilf : boxD .nilf = some [.nilf] := (rfl)
theorem box_ptr (key off : Nat) : boxD (.ptr key off) = some [.ptr key off] := (rfl)
theorem box_row (key tot off len : Nat) : boxD (.row key tot off len) = some [.row key tot off len] := (rfl)
theorem st_map (sz : Nat) (x : D) (key : Nat) : stO (some ⟨false, sz, [x], false⟩) 1 0 (.mapv key) = some ⟨false, sz, [.mapv key], false⟩ := stO_one sz _ _ _ rfl
theorem st_clo (sz : Nat) (x : D) (f : Nat) (l : List D) : stO (some ⟨false, sz, [x], false⟩) 1 0 (.clo f l) = some ⟨false, sz, [.clo f l], false⟩ := stO_one sz _ _ _ rfl
attribute [push_cast] pmapget_v pmapup_v mg_mem mu_mem bld_key hkB_mem renB_mem lowB_mem lowB_bx lowB_pt lowB_env lowB_tar low_clo low0_ptr lowR_bool nilc_ptr box_nilm box_nilf box_ptr box_row st_map st_clo
def cpO (o o2 : Option Obj) (sz off n off2 : Nat) : Option Obj := match o, o2 with
  | some o, some o2 => if !o.row && !o.lent && !o2.row && decide (off + n * sz ≤ o.els.length) && decide (off2 + n * sz ≤ o2.els.length) && ((o2.els.drop off2).take (n * sz)).all D.isCell then
      some { o with els := splice o.els off ((o2.els.drop off2).take (n * sz)) } else none
  | _, _ => none
theorem pcpy_bsl (st : St) (key off n key2 off2 sz : Nat) (ag ag2 : Bool) (hn : 0 < n) (hs : 0 < sz) : pcpy st sz (.bsl key off n sz ag) (.bsl key2 off2 n sz ag2) = (cpO st[key]? st[key2]? sz off n off2).map fun o => (.int .i64 (n : Nat), st.set key o) := by
  simp only [pcpy, cpO]
  rw [if_neg (by omega), Nat.min_self]
  cases st[key]? with
  | none => rfl
  | some o => cases st[key2]? with
    | none => rfl
    | some o2 =>
      simp only
      split <;> rfl
theorem pcpy_nil (st : St) (sz a b : Nat) (t u : Bool) : pcpy st sz (.slc a [] t) (.slc b [] u) = some (.int .i64 0, st) := (rfl)
theorem cp_pt {p : List Int} {d : Bx} (hp : p.length = 16) (hd : d.ok) (a : Nat) (ha : a < 16) : cpO (some ⟨false, 1, p.map nI, false⟩) (some ⟨false, 1, bxC d, false⟩) 1 a (16 - a) a = some ⟨false, 1, (p.take a ++ d.lo.drop a).map nI, false⟩ := by
  have h1 := hd.1
  have h2 := hd.2
  have e : ((bxC d).drop a).take ((16 - a) * 1) = (d.lo.drop a).map nI := by
    simp only [bxC, bxL, List.map_append, Nat.mul_one]
    rw [List.drop_append_of_le_length (by simp [h1]; omega), List.take_append_of_le_length (by simp [h1]), List.take_of_length_le (by simp [h1]), List.map_drop]
  simp only [cpO, e, ints_cell]
  rw [if_pos (by simp [hp, bxC_length hd]; omega)]
  have : splice (p.map nI) a ((d.lo.drop a).map nI) = (p.take a ++ d.lo.drop a).map nI := by
    have e3 : (p.map nI).drop (a + ((d.lo.drop a).map nI).length) = [] := List.drop_of_length_le (by simp [hp, h1]; omega)
    rw [splice, e3, List.append_nil, List.map_append, List.map_take]
  rw [this]
theorem sliceA_from (key off : Nat) (k : IntKind) (a : Nat) (h : a < 16) : psliceA 16 1 false (.ptr key off) (some (.int k (a : Int))) none = some (.bsl key (off + a * 1) (16 - a) 1 false) := by
  have h1 : ¬ a = 16 := by omega
  have h2 : a ≤ 16 := by omega
  simp [psliceA, bnd, natOf_nat, h1, h2]
theorem sliceA_end (key off : Nat) (k : IntKind) : psliceA 16 1 false (.ptr key off) (some (.int k 16)) none = some (.slc 1 [] false) := by
  have : natOf (.int k 16) = some 16 := rfl
  simp [psliceA, bnd, this]
theorem or_pow {r k : Nat} (h : r < 2 ^ k) (hk : k ≤ 30) : pbin .or (.int .i64 (r : Int)) (.int .i64 ((2 ^ k : Nat) : Int)) = some (.int .i64 ((r + 2 ^ k : Nat) : Int)) := by
  have hp : (2 : Nat) ^ k ≤ 2 ^ 30 := Nat.pow_le_pow_right (by decide) hk
  have h30 : (2 : Nat) ^ 30 = 1073741824 := rfl
  have h1 : (BitVec.ofInt 64 (r : Int) ||| BitVec.ofInt 64 ((2 ^ k : Nat) : Int)).toNat = r + 2 ^ k := by
    rw [BitVec.toNat_or, toNat_ofInt (by omega) (by omega), toNat_ofInt (by omega) (by omega), Int.toNat_natCast, Int.toNat_natCast, Nat.or_comm, Nat.add_comm]
    have := Nat.two_pow_add_eq_or_of_lt h 1
    rw [Nat.mul_one] at this
    exact this.symm
  show some (D.int .i64 (IntKind.wrap .i64 (((BitVec.ofInt 64 (r : Int) ||| BitVec.ofInt 64 ((2 ^ k : Nat) : Int)).toNat : Nat) : Int))) = _
  rw [h1]
  congr 2
  show (if (true && decide (((r + 2 ^ k : Nat) : Int) % (2 ^ 64 : Int) ≥ (2 ^ (64 - 1) : Int))) = true then ((r + 2 ^ k : Nat) : Int) % (2 ^ 64 : Int) - (2 ^ 64 : Int) else ((r + 2 ^ k : Nat) : Int) % (2 ^ 64 : Int)) = _
  simp only [Bool.true_and, decide_eq_true_eq]
  rw [if_neg (by omega)]
  omega
theorem shl_pow {k : Nat} (hk : k ≤ 30) (k' : IntKind) : pbin .shl (.int .i64 1) (.int k' (k : Int)) = some (.int .i64 ((2 ^ k : Nat) : Int)) := by
  rw [shl_one (by omega) (by omega), Int.toNat_natCast]
  simp
theorem shr_nat {s k : Nat} (hk : k ≤ 30) (k' : IntKind) : pbin .shr (.int .i64 (s : Int)) (.int k' (k : Int)) = some (.int .i64 ((s / 2 ^ k : Nat) : Int)) := by
  rw [shr_i (.inl rfl) (by omega) (by omega), Int.toNat_natCast]
  rfl
theorem and_bit {x : Nat} (hx : x < 1073741824) : pbin .and (.int .i64 (x : Int)) (.int .i64 1) = some (.int .i64 ((x % 2 : Nat) : Int)) := by
  rw [and_one (by omega) (by omega)]
  simp
theorem rest_snoc (a : Nat) (n : Int) : ∀ (l : List Bx) (b : Bx) (s : Nat), restS (l ++ [b]) a s n = restS l a s n + (if s / 2 ^ l.length % 2 = 1 ∧ at' b.lo a ≤ n ∧ n ≤ at' b.hi a then 2 ^ l.length else 0)
  | [], b, s => by
    simp only [List.nil_append, restS, List.length_nil, Nat.pow_zero, Nat.div_one, Nat.mul_zero, Nat.add_zero, Nat.zero_add]
  | c :: l, b, s => by
    have ih := rest_snoc a n l b (s / 2)
    have e : s / 2 / 2 ^ l.length = s / 2 ^ (l.length + 1) := by rw [Nat.div_div_eq_div_mul, Nat.pow_succ, Nat.mul_comm]
    rw [e] at ih
    simp only [List.cons_append, restS, ih, List.length_cons]
    by_cases h : s / 2 ^ (l.length + 1) % 2 = 1 ∧ at' b.lo a ≤ n ∧ n ≤ at' b.hi a
    · rw [if_pos h, if_pos h, Nat.pow_succ]; omega
    · rw [if_neg h, if_neg h]; omega
theorem sel_snoc : ∀ (l : List Bx) (b : Bx) (s : Nat), selL (l ++ [b]) s = selL l s ++ (if s / 2 ^ l.length % 2 = 1 then [b] else [])
  | [], b, s => by
    simp only [List.nil_append, selL, List.length_nil, Nat.pow_zero, Nat.div_one]
  | c :: l, b, s => by
    have ih := sel_snoc l b (s / 2)
    have e : s / 2 / 2 ^ l.length = s / 2 ^ (l.length + 1) := by rw [Nat.div_div_eq_div_mul, Nat.pow_succ, Nat.mul_comm]
    rw [e] at ih
    simp only [List.cons_append, selL, ih, List.length_cons]
    split <;> rfl
def rsP (bs : List Bx) (a s : Nat) (n : Int) (k : Nat) : Nat := restS (bs.take k) a s n
def nxP (bs : List Bx) (a s : Nat) (n : Int) (k : Nat) : Int := afterL (selL (bs.take k) s) a n maxA1
theorem rsP_lt (bs : List Bx) (a s : Nat) (n : Int) (k : Nat) (h : k ≤ bs.length) : rsP bs a s n k < 2 ^ k := by
  have := rest_lt a n (bs.take k) s
  rwa [List.length_take, Nat.min_eq_left h] at this
theorem P_skip {bs : List Bx} {a s : Nat} {n : Int} {k : Nat} (h : k < bs.length) (hs : ¬ s / 2 ^ k % 2 = 1 ∨ at' (bs.getD k default).hi a < n) : rsP bs a s n (k + 1) = rsP bs a s n k ∧ nxP bs a s n (k + 1) = nxP bs a s n k := by
  have hl : (bs.take k).length = k := by simp; omega
  unfold rsP nxP
  rw [take_getD bs k h, rest_snoc, sel_snoc, hl]
  constructor
  · rw [if_neg (fun h2 => by rcases hs with hs | hs <;> omega)]; rfl
  · by_cases h2 : s / 2 ^ k % 2 = 1
    · rw [if_pos h2, afterL_take, if_neg (by rcases hs with hs | hs <;> omega)]
    · rw [if_neg h2, List.append_nil]
theorem P_take {bs : List Bx} {a s : Nat} {n : Int} {k : Nat} (h : k < bs.length) (hs : s / 2 ^ k % 2 = 1) (hh : n ≤ at' (bs.getD k default).hi a) :
    rsP bs a s n (k + 1) = (if at' (bs.getD k default).lo a ≤ n then rsP bs a s n k + 2 ^ k else rsP bs a s n k) ∧ nxP bs a s n (k + 1) = min (nxP bs a s n k) (at' (bs.getD k default).hi a + 1) := by
  have hl : (bs.take k).length = k := by simp; omega
  unfold rsP nxP
  rw [take_getD bs k h, rest_snoc, sel_snoc, hl, if_pos hs, afterL_take, if_pos hh]
  refine ⟨?_, rfl⟩
  by_cases h2 : at' (bs.getD k default).lo a ≤ n
  · rw [if_pos h2, if_pos ⟨hs, h2, hh⟩]
  · rw [if_neg h2, if_neg (fun h3 => h2 h3.2.1)]; rfl
theorem P_all (bs : List Bx) (a s : Nat) (n : Int) : rsP bs a s n bs.length = restS bs a s n ∧ nxP bs a s n bs.length = afterL (selL bs s) a n maxA1 := by
  unfold rsP nxP
  rw [List.take_length]
  exact ⟨rfl, rfl⟩
end Go.Proofs.Ytgppecaeegaooaa.PI
