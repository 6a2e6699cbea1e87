/-
  tbox: boxes, tests, and the least case that no box contains, as plain functions on lists.
  Conditions: none; these are lemmas.
-/
import Derived.Test.YtgppecaeegaooaaEngLaw
import Derived.Test.YtgppecaeegaooaaEngV2
import Derived.Test.YtgppecaeegaooaaEngC2
import Derived.Test.YtgppecaeegaooaaFns
namespace Go.Proofs.Ytgppecaeegaooaa.PI
open Go
set_option linter.unusedSimpArgs false
set_option linter.unusedVariables false
def GG : Glob := fun _ => none
abbrev at' (x : List Int) (i : Nat) : Int := x.getD i default
theorem at_set (x : List Int) (i j : Nat) (v : Int) (h : i < x.length) : at' (x.set i v) j = if i = j then v else at' x j := by
  unfold at'
  simp only [List.getD_eq_getElem?_getD, List.getElem?_set]
  by_cases e : i = j
  · subst e; simp [h]
  · simp [e]
theorem ext_at {x y : List Int} (hl : x.length = y.length) (h : ∀ i, i < x.length → at' x i = at' y i) : x = y := by
  apply List.ext_getElem hl
  intro i h1 h2
  have := h i h1
  unfold at' at this
  simpa [List.getD_eq_getElem?_getD, List.getElem?_eq_getElem h1, List.getElem?_eq_getElem h2] using this
theorem at_app (x y : List Int) (a : Nat) (ha : a ≤ x.length) (i : Nat) : at' (x.take a ++ y.drop a) i = if i < a then at' x i else at' y i := by
  unfold at'
  simp only [List.getD_eq_getElem?_getD]
  by_cases e : i < a
  · rw [List.getElem?_append_left (by simp; omega), List.getElem?_take]; simp [e]
  · rw [List.getElem?_append_right (by simp; omega), List.getElem?_drop, List.length_take]
    simp only [e, if_false]
    congr 2
    omega
theorem at_rep (n : Nat) (v : Int) (i : Nat) (h : i < n) : at' (List.replicate n v) i = v := by
  simp [at', List.getD_eq_getElem?_getD, h]
theorem at_zip (f : Int → Int → Int) (x y : List Int) (i : Nat) (h1 : i < x.length) (h2 : i < y.length) : at' (List.zipWith f x y) i = f (at' x i) (at' y i) := by
  simp [at', List.getD_eq_getElem?_getD, List.getElem?_zipWith, h1, h2]
structure Tst where
  a : Int
  lo : Int
  hi : Int
  deriving DecidableEq
instance : Inhabited Tst := ⟨⟨0, 0, 0⟩⟩
structure Bx where
  lo : List Int
  hi : List Int
  deriving DecidableEq
def zBx : Bx := ⟨List.replicate 16 0, List.replicate 16 0⟩
instance : Inhabited Bx := ⟨zBx⟩
def Bx.ok (b : Bx) : Prop := b.lo.length = 16 ∧ b.hi.length = 16
theorem zBx_ok : zBx.ok := ⟨rfl, rfl⟩
def allB : Bx := ⟨List.replicate 16 0, List.replicate 16 9007199254740992⟩
theorem allB_ok : allB.ok := ⟨rfl, rfl⟩
def okA (t : Tst) : Prop := 0 ≤ t.a ∧ t.a < 16
instance (t : Tst) : Decidable (okA t) := by unfold okA; infer_instance
def cutB (b : Bx) (t : Tst) : Bx := ⟨b.lo.set t.a.toNat (max (at' b.lo t.a.toNat) t.lo), b.hi.set t.a.toNat (min (at' b.hi t.a.toNat) t.hi)⟩
def meetB (b c : Bx) : Bx := ⟨List.zipWith max b.lo c.lo, List.zipWith min b.hi c.hi⟩
def someF (b : Bx) : Nat → Bool
  | 0 => true
  | i + 1 => someF b i && decide (at' b.lo i ≤ at' b.hi i)
def someB (b : Bx) : Bool := someF b 16
theorem someF_iff (b : Bx) : ∀ n, someF b n = true ↔ ∀ i, i < n → at' b.lo i ≤ at' b.hi i
  | 0 => by simp [someF]
  | n + 1 => by
    simp only [someF, Bool.and_eq_true, someF_iff b n, decide_eq_true_eq]
    constructor
    · rintro ⟨h1, h2⟩ i hi
      rcases Nat.lt_or_ge i n with h | h
      · exact h1 i h
      · obtain rfl : i = n := by omega
        exact h2
    · exact fun h => ⟨fun i hi => h i (by omega), h n (by omega)⟩
def runT (b : Bx) : List Tst → Option Bx
  | [] => some b
  | t :: l => if okA t then runT (cutB b t) l else none
def ofB (l : List Tst) : Bx × Bool := match runT allB l with
  | some b => if someB b then (b, true) else (zBx, false)
  | none => (zBx, false)
theorem cutB_ok {b : Bx} (h : b.ok) (t : Tst) : (cutB b t).ok := ⟨by simp [cutB, h.1], by simp [cutB, h.2]⟩
theorem meetB_ok {b c : Bx} (h : b.ok) (h2 : c.ok) : (meetB b c).ok := ⟨by simp [meetB, h.1, h2.1], by simp [meetB, h.2, h2.2]⟩
theorem runT_ok : ∀ {l : List Tst} {b c : Bx}, b.ok → runT b l = some c → c.ok
  | [], b, c, h, e => by simp only [runT, Option.some.injEq] at e; exact e ▸ h
  | t :: l, b, c, h, e => by
    simp only [runT] at e
    split at e
    · exact runT_ok (cutB_ok h t) e
    · cases e
theorem ofB_ok (l : List Tst) : (ofB l).1.ok := by
  unfold ofB
  split
  · rename_i b hb
    split
    · exact runT_ok allB_ok hb
    · exact zBx_ok
  · exact zBx_ok
theorem Bx_ext {b c : Bx} (hb : b.ok) (hc : c.ok) (h1 : ∀ i, i < 16 → at' b.lo i = at' c.lo i) (h2 : ∀ i, i < 16 → at' b.hi i = at' c.hi i) : b = c := by
  obtain ⟨bl, bh⟩ := b
  obtain ⟨cl, ch⟩ := c
  have e1 : bl = cl := ext_at (hb.1.trans hc.1.symm) (fun i hi => h1 i (by have := hb.1; simp only at this; omega))
  have e2 : bh = ch := ext_at (hb.2.trans hc.2.symm) (fun i hi => h2 i (by have := hb.2; simp only at this; omega))
  rw [e1, e2]
theorem meetB_lo {b c : Bx} (hb : b.ok) (hc : c.ok) (i : Nat) (h : i < 16) : at' (meetB b c).lo i = max (at' b.lo i) (at' c.lo i) := at_zip _ _ _ _ (by rw [hb.1]; exact h) (by rw [hc.1]; exact h)
theorem meetB_hi {b c : Bx} (hb : b.ok) (hc : c.ok) (i : Nat) (h : i < 16) : at' (meetB b c).hi i = min (at' b.hi i) (at' c.hi i) := at_zip _ _ _ _ (by rw [hb.2]; exact h) (by rw [hc.2]; exact h)
theorem cutB_lo {b : Bx} {t : Tst} (hb : b.ok) (ht : okA t) (i : Nat) : at' (cutB b t).lo i = if t.a.toNat = i then max (at' b.lo i) t.lo else at' b.lo i := by
  obtain ⟨h1, h2⟩ := ht
  unfold cutB
  simp only
  rw [at_set _ _ _ _ (by rw [hb.1]; omega)]
  split
  · rename_i e; rw [e]
  · rfl
theorem cutB_hi {b : Bx} {t : Tst} (hb : b.ok) (ht : okA t) (i : Nat) : at' (cutB b t).hi i = if t.a.toNat = i then min (at' b.hi i) t.hi else at' b.hi i := by
  obtain ⟨h1, h2⟩ := ht
  unfold cutB
  simp only
  rw [at_set _ _ _ _ (by rw [hb.2]; omega)]
  split
  · rename_i e; rw [e]
  · rfl
def inAll (b : Bx) : Prop := ∀ i, i < 16 → 0 ≤ at' b.lo i ∧ at' b.hi i ≤ 9007199254740992
theorem inAll_all : inAll allB := fun i hi => by
  unfold allB
  simp only
  rw [at_rep _ _ _ hi, at_rep _ _ _ hi]
  omega
theorem inAll_run : ∀ (l : List Tst) {b c : Bx}, b.ok → inAll b → runT b l = some c → inAll c
  | [], b, c, h, ha, e => by simp only [runT, Option.some.injEq] at e; exact e ▸ ha
  | t :: l, b, c, h, ha, e => by
    simp only [runT] at e
    split at e
    · rename_i ht
      refine inAll_run l (cutB_ok h t) (fun i hi => ?_) e
      have := ha i hi
      rw [cutB_lo h ht, cutB_hi h ht]
      split <;> omega
    · cases e
theorem meet_self {b : Bx} (hb : b.ok) : meetB b b = b := by
  refine Bx_ext (meetB_ok hb hb) hb (fun i hi => ?_) (fun i hi => ?_)
  · rw [meetB_lo hb hb i hi]; omega
  · rw [meetB_hi hb hb i hi]; omega
end Go.Proofs.Ytgppecaeegaooaa.PI
