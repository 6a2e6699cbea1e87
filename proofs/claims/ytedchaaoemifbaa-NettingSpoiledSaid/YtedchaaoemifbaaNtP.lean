/-
  netting: balances and payments as plain lists.
  Conditions: none; these are lemmas.
-/
import Derived.Test.YtedchaaoemifbaaEngLaw
import Derived.Test.YtedchaaoemifbaaEngV2
import Derived.Test.YtedchaaoemifbaaEngC2
import Derived.Test.YtedchaaoemifbaaFns
namespace Go.Proofs.Ytedchaaoemifbaa.PI
open Go
set_option linter.unusedSimpArgs false
set_option linter.unusedVariables false

/-! ### Functions carried out over a store that keep what they make -/
theorem fun_specK {P : Program} {G : Glob} {T : Tbl} {il : List Nat} {f : Nat} {hints : List (List Nat)} {F : PF} (hT : TblOK P G T) (ht : trF P il f hints = some F) {sp : List D → St → Option (D × St)}
    (h : ∀ ds st r, sp ds st = some r → ∃ fuel, F.runI G T fuel ds st = some r) (hy : T.y = fun _ _ _ => none := by rfl) : IContract P G f sp := by
  refine ⟨(fun_simI hT hy ht 0).1, ?_⟩
  intro base w g st st' ds vs d hsp hS hG hlen hrep
  obtain ⟨fuel, hf⟩ := h ds st _ hsp
  exact (fun_simI hT hy ht fuel).2 base w g st st' ds vs d hf hS hG hlen hrep
theorem icontract_keep {P : Program} {G : Glob} {T : Tbl} {il : List Nat} {f : Nat} {hints : List (List Nat)} {F : PF} (ht : trF P il f hints = some F) (hT : TblOK P G T) {α : Type} {enc : α → List D × St} {pre : α → Prop} {r : α → D × St}
    (h : ∀ a, pre a → @wW G T F.code (argF (enc a).1) (enc a).2 ⟨@retI F.res ⟨fun d st' => (d, st') = r a⟩⟩) (hy : T.y = fun _ _ _ => none := by rfl) : IContract P G f (siOf enc pre r) := by
  refine fun_specK hT ht (fun ds st x hx => ?_) hy
  obtain ⟨a, ha, hp, rfl⟩ := siOf_inv hx
  obtain ⟨fuel, d, st', h1, h2⟩ := runI_of_W (W_of (h a hp))
  rw [ha] at h1
  exact ⟨fuel, by rw [h1 fuel (Nat.le_refl _)]; exact congrArg some h2⟩

def GG : Glob := fun _ => none
structure Pay where
  f : Int
  t : Int
  n : Int
  deriving DecidableEq
instance : Inhabited Pay := ⟨⟨0, 0, 0⟩⟩
def inR (x : Int) : Prop := -9007199254740992 ≤ x ∧ x ≤ 9007199254740992
instance (x : Int) : Decidable (inR x) := by unfold inR; infer_instance
abbrev at' (x : List Int) (i : Nat) : Int := x.getD i default

theorem at_set (x : List Int) (i j : Nat) (v : Int) (h : i < x.length) : at' (x.set i v) j = if i = j then v else at' x j := by
  unfold at'
  simp only [List.getD_eq_getElem?_getD, List.getElem?_set]
  by_cases e : i = j
  · subst e; simp [h]
  · simp [e]
theorem at_mem {x : List Int} {i : Nat} (h : i < x.length) : at' x i ∈ x := by
  unfold at'
  rw [List.getD_eq_getElem?_getD, List.getElem?_eq_getElem h]
  exact List.getElem_mem h
theorem mem_at {x : List Int} {v : Int} (h : v ∈ x) : ∃ i, i < x.length ∧ at' x i = v := by
  obtain ⟨i, hi, e⟩ := List.getElem_of_mem h
  exact ⟨i, hi, by unfold at'; rw [List.getD_eq_getElem?_getD, List.getElem?_eq_getElem hi]; exact e⟩
theorem ext_at {x y : List Int} (hl : x.length = y.length) (h : ∀ i, i < x.length → at' x i = at' y i) : x = y := by
  apply List.ext_getElem hl
  intro i h1 h2
  have := h i h1
  unfold at' at this
  simpa [List.getD_eq_getElem?_getD, List.getElem?_eq_getElem h1, List.getElem?_eq_getElem h2] using this

def sumI : List Int → Int
  | [] => 0
  | x :: l => x + sumI l
theorem sum_set : ∀ (x : List Int) (i : Nat) (v : Int), i < x.length → sumI (x.set i v) = sumI x - at' x i + v
  | [], _, _, h => by simp at h
  | a :: l, 0, v, _ => by simp [sumI, at']; omega
  | a :: l, i + 1, v, h => by
    have := sum_set l i v (by simpa using h)
    simp only [List.set_cons_succ, sumI, this]
    have e : at' (a :: l) (i + 1) = at' l i := by simp [at']
    rw [e]; omega
theorem sum_nonneg : ∀ (x : List Int), (∀ v ∈ x, 0 ≤ v) → 0 ≤ sumI x ∧ (sumI x = 0 → ∀ v ∈ x, v = 0)
  | [], _ => ⟨Int.le_refl _, fun _ v h => by cases h⟩
  | a :: l, h => by
    obtain ⟨h1, h2⟩ := sum_nonneg l (fun v hv => h v (by simp [hv]))
    have h3 := h a (by simp)
    simp only [sumI]
    refine ⟨by omega, fun e v hv => ?_⟩
    rcases List.mem_cons.1 hv with rfl | hv
    · omega
    · exact h2 (by omega) v hv
theorem sum_nonpos : ∀ (x : List Int), (∀ v ∈ x, v ≤ 0) → sumI x ≤ 0 ∧ (sumI x = 0 → ∀ v ∈ x, v = 0)
  | [], _ => ⟨Int.le_refl _, fun _ v h => by cases h⟩
  | a :: l, h => by
    obtain ⟨h1, h2⟩ := sum_nonpos l (fun v hv => h v (by simp [hv]))
    have h3 := h a (by simp)
    simp only [sumI]
    refine ⟨by omega, fun e v hv => ?_⟩
    rcases List.mem_cons.1 hv with rfl | hv
    · omega
    · exact h2 (by omega) v hv

/-! ### Settling -/
def badAcc (len : Nat) (p : Pay) : Prop := p.f < 0 ∨ (len : Int) ≤ p.f ∨ p.t < 0 ∨ (len : Int) ≤ p.t ∨ p.f = p.t
instance (len : Nat) (p : Pay) : Decidable (badAcc len p) := by unfold badAcc; infer_instance
def badAmt (p : Pay) : Prop := p.n < 1 ∨ 9007199254740992 < p.n
instance (p : Pay) : Decidable (badAmt p) := by unfold badAmt; infer_instance
def moreA (x : List Int) (p : Pay) : Int := at' x p.f.toNat + p.n
def lessA (x : List Int) (p : Pay) : Int := at' x p.t.toNat - p.n
def movP (x : List Int) (p : Pay) : List Int := (x.set p.f.toNat (moreA x p)).set p.t.toNat (lessA x p)
def settleF : List Int → List Pay → List Int × Int
  | x, [] => (x, 0)
  | x, p :: l => if badAcc x.length p then ([], 310) else if badAmt p then ([], 1) else if ¬ inR (moreA x p) ∨ ¬ inR (lessA x p) then ([], 3) else settleF (movP x p) l
def chkE (b : List Int) : Int := if 336 < b.length then 2 else if b.any (fun x => decide ¬ inR x) then 3 else 0
def settleL (b : List Int) (l : List Pay) : List Int × Int := if chkE b ≠ 0 then ([], chkE b) else settleF b l
def wrongP (b : List Int) (p : Pay) : Bool := decide (0 ≤ at' b p.f.toNat) || decide (at' b p.t.toNat ≤ 0)
def checkL (b : List Int) (l : List Pay) : Int := if (settleL b l).2 ≠ 0 then (settleL b l).2 else if l.any (wrongP b) || (settleL b l).1.any (fun x => decide (x ≠ 0)) then 340 else 0
theorem movP_length (x : List Int) (p : Pay) : (movP x p).length = x.length := by simp [movP]
theorem chkE_ok {b : List Int} (h : chkE b = 0) : b.length ≤ 336 ∧ ∀ x ∈ b, inR x := by
  unfold chkE at h
  split at h
  · cases h
  · split at h
    · cases h
    · rename_i h1 h2
      refine ⟨by omega, fun x hx => ?_⟩
      rw [List.any_eq_true] at h2
      exact Classical.byContradiction fun h3 => h2 ⟨x, hx, by simpa using h3⟩
theorem chkE_of {b : List Int} (h1 : b.length ≤ 336) (h2 : ∀ x ∈ b, inR x) : chkE b = 0 := by
  unfold chkE
  rw [if_neg (by omega), if_neg]
  rw [List.any_eq_true]
  rintro ⟨x, hx, h3⟩
  simp at h3
  exact h3 (h2 x hx)
/-- what each account pays, what it receives -/
def paid (a : Int) : List Pay → Int
  | [] => 0
  | p :: l => (if p.f = a then p.n else 0) + paid a l
def got (a : Int) : List Pay → Int
  | [] => 0
  | p :: l => (if p.t = a then p.n else 0) + got a l
theorem movP_at {x : List Int} {p : Pay} (h : ¬ badAcc x.length p) (i : Nat) : at' (movP x p) i = at' x i + (if p.f = (i : Int) then p.n else 0) - (if p.t = (i : Int) then p.n else 0) := by
  unfold badAcc at h
  unfold movP
  rw [at_set _ _ _ _ (by rw [List.length_set]; omega), at_set _ _ _ _ (by omega)]
  unfold moreA lessA
  by_cases h1 : p.t.toNat = i
  · rw [if_pos h1, h1, if_neg (show ¬ p.f = (i : Int) by omega), if_pos (show p.t = (i : Int) by omega)]; omega
  · rw [if_neg h1, if_neg (show ¬ p.t = (i : Int) by omega)]
    by_cases h2 : p.f.toNat = i
    · rw [if_pos h2, h2, if_pos (show p.f = (i : Int) by omega)]; omega
    · rw [if_neg h2, if_neg (show ¬ p.f = (i : Int) by omega)]; omega
theorem movP_sum {x : List Int} {p : Pay} (h : ¬ badAcc x.length p) : sumI (movP x p) = sumI x := by
  unfold badAcc at h
  unfold movP
  rw [sum_set _ _ _ (by rw [List.length_set]; omega), at_set _ _ _ _ (by omega), if_neg (by omega), sum_set _ _ _ (by omega)]
  unfold moreA lessA
  omega
/-- one step -/
theorem settle_step {x : List Int} {p : Pay} {l : List Pay} {y : List Int} (h : settleF x (p :: l) = (y, 0)) : ¬ badAcc x.length p ∧ ¬ badAmt p ∧ inR (moreA x p) ∧ inR (lessA x p) ∧ settleF (movP x p) l = (y, 0) := by
  unfold settleF at h
  split at h
  · simp at h
  split at h
  · simp at h
  split at h
  · simp at h
  · rename_i h1 h2 h3
    have h4 : inR (moreA x p) := Classical.byContradiction fun e => h3 (.inl e)
    have h5 : inR (lessA x p) := Classical.byContradiction fun e => h3 (.inr e)
    exact ⟨h1, h2, h4, h5, h⟩
theorem settle_ok {x : List Int} {p : Pay} {l : List Pay} (h1 : ¬ badAcc x.length p) (h2 : ¬ badAmt p) (h3 : inR (moreA x p)) (h4 : inR (lessA x p)) : settleF x (p :: l) = settleF (movP x p) l := by
  rw [settleF, if_neg h1, if_neg h2, if_neg (by intro h; rcases h with h | h; exact h h3; exact h h4)]
theorem settle_val : ∀ (l : List Pay) (x y : List Int), settleF x l = (y, 0) → y.length = x.length ∧ sumI y = sumI x ∧ (∀ i : Nat, at' y i = at' x i + paid (i : Int) l - got (i : Int) l) ∧ (∀ p ∈ l, ¬ badAcc x.length p ∧ ¬ badAmt p)
  | [], x, y, h => by
    simp [settleF] at h; subst h
    exact ⟨rfl, rfl, fun i => by simp [paid, got], fun p hp => by cases hp⟩
  | p :: l, x, y, h => by
    obtain ⟨h1, h2, _, _, h5⟩ := settle_step h
    obtain ⟨a1, a2, a3, a4⟩ := settle_val l _ y h5
    rw [movP_length] at a1 a4
    refine ⟨a1, a2.trans (movP_sum h1), fun i => ?_, fun q hq => ?_⟩
    · rw [a3 i, movP_at h1, paid, got]; omega
    · rcases List.mem_cons.1 hq with rfl | hq
      · exact ⟨h1, h2⟩
      · exact a4 q hq
theorem settle_inR : ∀ (l : List Pay) (x y : List Int), (∀ v ∈ x, inR v) → settleF x l = (y, 0) → ∀ v ∈ y, inR v
  | [], x, y, hx, h => by simp [settleF] at h; subst h; exact hx
  | p :: l, x, y, hx, h => by
    obtain ⟨h1, h2, h3, h4, h5⟩ := settle_step h
    refine settle_inR l _ y (fun v hv => ?_) h5
    unfold movP at hv
    rcases List.mem_or_eq_of_mem_set hv with hv | rfl
    · rcases List.mem_or_eq_of_mem_set hv with hv | rfl
      · exact hx v hv
      · exact h3
    · exact h4
theorem settle_append : ∀ (l m : List Pay) (x : List Int), settleF x (l ++ m) = if (settleF x l).2 = 0 then settleF (settleF x l).1 m else settleF x l
  | [], m, x => by simp [settleF]
  | p :: l, m, x => by
    rw [List.cons_append]
    by_cases h1 : badAcc x.length p
    · simp [settleF, h1]
    by_cases h2 : badAmt p
    · simp [settleF, h1, h2]
    by_cases h3 : ¬ inR (moreA x p) ∨ ¬ inR (lessA x p)
    · have e1 : ∀ q, settleF x (p :: q) = ([], 3) := fun q => by rw [settleF, if_neg h1, if_neg h2, if_pos h3]
      rw [e1, e1]; simp
    have e1 : ∀ q, settleF x (p :: q) = settleF (movP x p) q := fun q => by rw [settleF, if_neg h1, if_neg h2, if_neg h3]
    rw [e1, e1]
    exact settle_append l m _
theorem settle_nil_of : ∀ (l : List Pay) (x : List Int), (settleF x l).2 ≠ 0 → (settleF x l).1 = []
  | [], x, h => by simp [settleF] at h
  | p :: l, x, h => by
    unfold settleF at h ⊢
    split at h <;> rename_i h1
    · rw [if_pos h1]
    rw [if_neg h1]
    split at h <;> rename_i h2
    · rw [if_pos h2]
    rw [if_neg h2]
    split at h <;> rename_i h3
    · rw [if_pos h3]
    rw [if_neg h3]
    exact settle_nil_of l _ h

/-! ### Netting -/
def nx (p : Int → Bool) (x : List Int) (i : Nat) : Nat := i + (x.drop i).findIdx p
theorem nx_ge (p : Int → Bool) (x : List Int) (i : Nat) : i ≤ nx p x i := Nat.le_add_right _ _
theorem nx_le (p : Int → Bool) (x : List Int) (i : Nat) (h : i ≤ x.length) : nx p x i ≤ x.length := by
  unfold nx
  have := List.findIdx_le_length (p := p) (xs := x.drop i)
  rw [List.length_drop] at this
  omega
theorem nx_end (p : Int → Bool) (x : List Int) (i : Nat) (h : x.length ≤ i) : nx p x i = i := by
  unfold nx
  rw [List.drop_eq_nil_of_le h]; rfl
theorem nx_yes (p : Int → Bool) (x : List Int) (i : Nat) (h : i < x.length) (hp : p (at' x i) = true) : nx p x i = i := by
  unfold nx
  rw [drop_getD x i h]
  have : (at' x i :: x.drop (i + 1)).findIdx p = 0 := by rw [List.findIdx_cons, hp]; rfl
  rw [this]; rfl
theorem nx_no (p : Int → Bool) (x : List Int) (i : Nat) (h : i < x.length) (hp : p (at' x i) = false) : nx p x i = nx p x (i + 1) := by
  unfold nx
  rw [drop_getD x i h]
  have : (at' x i :: x.drop (i + 1)).findIdx p = (x.drop (i + 1)).findIdx p + 1 := by rw [List.findIdx_cons, hp]; rfl
  rw [this]; omega
theorem nx_at (p : Int → Bool) (x : List Int) : ∀ (k i : Nat), x.length - i = k → nx p x i < x.length → p (at' x (nx p x i)) = true
  | 0, i, hk, h => by
    have := nx_ge p x i
    omega
  | k + 1, i, hk, h => by
    cases hp : p (at' x i) with
    | true => rw [nx_yes p x i (by omega) hp]; exact hp
    | false =>
      rw [nx_no p x i (by omega) hp] at h ⊢
      exact nx_at p x k (i + 1) (by omega) h
theorem nx_before (p : Int → Bool) (x : List Int) : ∀ (k i : Nat), x.length - i = k → ∀ j, i ≤ j → j < nx p x i → j < x.length → p (at' x j) = false
  | 0, i, hk, j, h1, h2, h3 => by omega
  | k + 1, i, hk, j, h1, h2, h3 => by
    cases hp : p (at' x i) with
    | true => rw [nx_yes p x i (by omega) hp] at h2; omega
    | false =>
      rw [nx_no p x i (by omega) hp] at h2
      rcases Nat.eq_or_lt_of_le h1 with rfl | h4
      · exact hp
      · exact nx_before p x k (i + 1) (by omega) j h4 h2 h3
def neg' (v : Int) : Bool := decide (v < 0)
def pos' (v : Int) : Bool := decide (0 < v)
def payF (x : List Int) (f t : Nat) : Pay := ⟨(f : Int), (t : Int), min (-(at' x f)) (at' x t)⟩
/-- the payments, each with the balances behind it -/
def netF : Nat → List Int → Nat → Nat → List (Pay × List Int)
  | 0, _, _, _ => []
  | k + 1, x, f, t => if nx neg' x f < x.length ∧ nx pos' x t < x.length then
      (payF x (nx neg' x f) (nx pos' x t), movP x (payF x (nx neg' x f) (nx pos' x t))) :: netF k (movP x (payF x (nx neg' x f) (nx pos' x t))) (nx neg' x f) (nx pos' x t)
    else []
def netEnd : List (Pay × List Int) → List Int → List Int
  | [], x => x
  | p :: l, _ => netEnd l p.2
def cnt (x : List Int) : Nat := x.countP fun v => decide (v ≠ 0)
theorem cnt_set : ∀ (x : List Int) (i : Nat) (v : Int), i < x.length → cnt (x.set i v) + (if at' x i ≠ 0 then 1 else 0) = cnt x + (if v ≠ 0 then 1 else 0)
  | [], _, _, h => by simp at h
  | a :: l, 0, v, _ => by
    simp only [cnt, List.set_cons_zero, List.countP_cons, at']
    by_cases h1 : a = 0 <;> by_cases h2 : v = 0 <;> simp [h1, h2]
  | a :: l, i + 1, v, h => by
    have := cnt_set l i v (by simpa using h)
    have e : at' (a :: l) (i + 1) = at' l i := by simp [at']
    rw [e]
    simp only [cnt, List.set_cons_succ, List.countP_cons] at this ⊢
    omega
structure NetI (x : List Int) (f t : Nat) : Prop where
  ff : f ≤ x.length
  tt : t ≤ x.length
  fb : ∀ i, i < f → 0 ≤ at' x i
  tb : ∀ i, i < t → at' x i ≤ 0
/-- what one payment is -/
structure PayI (x : List Int) (f t : Nat) : Prop where
  a1 : f < x.length
  a2 : t < x.length
  v1 : at' x f < 0
  v2 : 0 < at' x t
theorem PayI.acc {x : List Int} {f t : Nat} (h : PayI x f t) : ¬ badAcc x.length (payF x f t) := by
  have := h.a1; have := h.a2; have := h.v1; have := h.v2
  have hne : f ≠ t := by rintro rfl; omega
  unfold badAcc payF
  dsimp only
  omega
theorem PayI.at {x : List Int} {f t : Nat} (h : PayI x f t) (i : Nat) : at' (movP x (payF x f t)) i = if i = f then at' x f + (payF x f t).n else if i = t then at' x t - (payF x f t).n else at' x i := by
  have := h.a1; have := h.a2; have := h.v1; have := h.v2
  have hne : f ≠ t := by rintro rfl; omega
  rw [movP_at h.acc]
  unfold payF
  dsimp only
  by_cases e1 : i = f
  · subst e1
    rw [if_pos rfl, if_pos rfl, if_neg (by omega)]; omega
  · rw [if_neg e1, if_neg (by omega)]
    by_cases e2 : i = t
    · subst e2
      rw [if_pos rfl, if_pos rfl]; omega
    · rw [if_neg e2, if_neg (by omega)]; omega
theorem PayI.n {x : List Int} {f t : Nat} (h : PayI x f t) : 1 ≤ (payF x f t).n ∧ (payF x f t).n ≤ -(at' x f) ∧ (payF x f t).n ≤ at' x t ∧ ((payF x f t).n = -(at' x f) ∨ (payF x f t).n = at' x t) := by
  have := h.v1; have := h.v2
  unfold payF
  dsimp only
  omega
theorem net_pay {x : List Int} {f t : Nat} (h : NetI x f t) (hf : nx neg' x f < x.length) (ht : nx pos' x t < x.length) : PayI x (nx neg' x f) (nx pos' x t) :=
  ⟨hf, ht, by simpa [neg'] using nx_at neg' x _ f rfl hf, by simpa [pos'] using nx_at pos' x _ t rfl ht⟩
theorem net_next {x : List Int} {f t : Nat} (h : NetI x f t) (hf : nx neg' x f < x.length) (ht : nx pos' x t < x.length) : NetI (movP x (payF x (nx neg' x f) (nx pos' x t))) (nx neg' x f) (nx pos' x t) := by
  have hp := net_pay h hf ht
  obtain ⟨n1, n2, n3, n4⟩ := hp.n
  have b1 : ∀ i, i < nx neg' x f → 0 ≤ at' x i := fun i hi => by
    rcases Nat.lt_or_ge i f with h1 | h1
    · exact h.fb i h1
    · have := nx_before neg' x _ f rfl i h1 hi (by omega)
      simpa [neg'] using this
  have b2 : ∀ i, i < nx pos' x t → at' x i ≤ 0 := fun i hi => by
    rcases Nat.lt_or_ge i t with h1 | h1
    · exact h.tb i h1
    · have := nx_before pos' x _ t rfl i h1 hi (by omega)
      simpa [pos'] using this
  refine ⟨by rw [movP_length]; omega, by rw [movP_length]; omega, fun i hi => ?_, fun i hi => ?_⟩
  · rw [hp.at, if_neg (by omega)]
    by_cases e : i = nx pos' x t
    · rw [if_pos e]; omega
    · rw [if_neg e]; exact b1 i hi
  · rw [hp.at]
    by_cases e : i = nx neg' x f
    · rw [if_pos e]; omega
    · rw [if_neg e, if_neg (by omega)]; exact b2 i hi
theorem net_cnt {x : List Int} {f t : Nat} (h : PayI x f t) : cnt (movP x (payF x f t)) + 1 ≤ cnt x ∧ (at' (movP x (payF x f t)) f = 0 ∨ at' (movP x (payF x f t)) t = 0) ∧ 2 ≤ cnt x := by
  have := h.a1; have := h.a2; have hv1 := h.v1; have hv2 := h.v2
  have hne : f ≠ t := by rintro rfl; omega
  obtain ⟨n1, n2, n3, n4⟩ := h.n
  have e1 : (payF x f t).f.toNat = f := by unfold payF; dsimp only; omega
  have e2 : (payF x f t).t.toNat = t := by unfold payF; dsimp only; omega
  have c1 := cnt_set x f (moreA x (payF x f t)) h.a1
  have c2 := cnt_set (x.set f (moreA x (payF x f t))) t (lessA x (payF x f t)) (by rw [List.length_set]; exact h.a2)
  rw [at_set _ _ _ _ h.a1, if_neg hne] at c2
  have m1 : moreA x (payF x f t) = at' x f + (payF x f t).n := by unfold moreA; rw [e1]
  have m2 : lessA x (payF x f t) = at' x t - (payF x f t).n := by unfold lessA; rw [e2]
  have hm : movP x (payF x f t) = (x.set f (moreA x (payF x f t))).set t (lessA x (payF x f t)) := by unfold movP; rw [e1, e2]
  rw [hm]
  have z1 := cnt_set x f 0 h.a1
  have z2 := cnt_set (x.set f 0) t 0 (by rw [List.length_set]; exact h.a2)
  rw [at_set _ _ _ _ h.a1, if_neg hne] at z2
  rw [if_pos (by omega)] at c1 c2 z1 z2
  simp only [ne_eq, not_true_eq_false, if_false] at z1 z2
  rw [← hm, h.at, h.at, if_pos rfl, if_neg (Ne.symm hne), if_pos rfl]
  rw [m1] at c1 c2
  rw [m2] at c2
  rw [hm, m1, m2]
  rcases n4 with e | e
  · rw [if_neg (by omega)] at c1
    refine ⟨?_, .inl (by omega), by omega⟩
    split at c2 <;> omega
  · rw [if_neg (by omega)] at c2
    refine ⟨?_, .inr (by omega), by omega⟩
    split at c1 <;> omega
theorem netF_stop {k : Nat} {x : List Int} {f t : Nat} (h : ¬ (nx neg' x f < x.length ∧ nx pos' x t < x.length)) : netF k x f t = [] := by
  cases k with
  | zero => rfl
  | succ k => rw [netF, if_neg h]
theorem netF_go {k : Nat} {x : List Int} {f t : Nat} (h : nx neg' x f < x.length ∧ nx pos' x t < x.length) : netF (k + 1) x f t =
    (payF x (nx neg' x f) (nx pos' x t), movP x (payF x (nx neg' x f) (nx pos' x t))) :: netF k (movP x (payF x (nx neg' x f) (nx pos' x t))) (nx neg' x f) (nx pos' x t) := by
  rw [netF, if_pos h]
theorem netF_fuel : ∀ (k m : Nat) (x : List Int) (f t : Nat), NetI x f t → cnt x ≤ k → cnt x ≤ m → netF k x f t = netF m x f t := by
  intro k
  induction k with
  | zero =>
    intro m x f t h h1 h2
    by_cases hs : nx neg' x f < x.length ∧ nx pos' x t < x.length
    · have := net_cnt (net_pay h hs.1 hs.2); omega
    · rw [netF_stop hs, netF_stop hs]
  | succ k ih =>
    intro m x f t h h1 h2
    by_cases hs : nx neg' x f < x.length ∧ nx pos' x t < x.length
    · have hc := net_cnt (net_pay h hs.1 hs.2)
      cases m with
      | zero => omega
      | succ m => rw [netF_go hs, netF_go hs, ih m _ _ _ (net_next h hs.1 hs.2) (by omega) (by omega)]
    · rw [netF_stop hs, netF_stop hs]

/-- what the payments come to -/
theorem net_all : ∀ (k : Nat) (x : List Int) (f t : Nat), NetI x f t → (∀ v ∈ x, inR v) → cnt x ≤ k →
    settleF x ((netF k x f t).map (·.1)) = (netEnd (netF k x f t) x, 0) ∧ sumI (netEnd (netF k x f t) x) = sumI x ∧ (netEnd (netF k x f t) x).length = x.length ∧
    (∀ p ∈ netF k x f t, 0 ≤ p.1.f ∧ p.1.f < x.length ∧ 0 ≤ p.1.t ∧ p.1.t < x.length ∧ 1 ≤ p.1.n ∧ p.1.n ≤ 9007199254740992 ∧ at' x p.1.f.toNat < 0 ∧ 0 < at' x p.1.t.toNat ∧ (f : Int) ≤ p.1.f ∧ (t : Int) ≤ p.1.t) ∧
    (sumI x = 0 → ∀ v ∈ netEnd (netF k x f t) x, v = 0) ∧ (netF k x f t).length ≤ cnt x := by
  intro k
  induction k with
  | zero =>
    intro x f t h hx hc
    have hs : ¬ (nx neg' x f < x.length ∧ nx pos' x t < x.length) := fun hs => by have := net_cnt (net_pay h hs.1 hs.2); omega
    refine ⟨by simp [netF, settleF, netEnd], rfl, rfl, fun p hp => by simp [netF] at hp, fun _ v hv => ?_, Nat.zero_le _⟩
    have : cnt x = 0 := by omega
    unfold cnt at this
    rw [List.countP_eq_zero] at this
    have := this v (by simpa [netF, netEnd] using hv)
    simpa using this
  | succ k ih =>
    intro x f t h hx hc
    by_cases hs : nx neg' x f < x.length ∧ nx pos' x t < x.length
    · have hp := net_pay h hs.1 hs.2
      have hn := net_next h hs.1 hs.2
      obtain ⟨c1, _, _⟩ := net_cnt hp
      obtain ⟨n1, n2, n3, n4⟩ := hp.n
      have hat := hp.at
      have hacc := hp.acc
      have hf0 := nx_ge neg' x f
      have ht0 := nx_ge pos' x t
      have hv1 := hp.v1
      have hv2 := hp.v2
      rw [netF_go hs]
      generalize hF : nx neg' x f = F at *
      generalize hT : nx pos' x t = T' at *
      have e1 : (payF x F T').f = (F : Int) := rfl
      have e2 : (payF x F T').t = (T' : Int) := rfl
      have hne : F ≠ T' := by rintro rfl; omega
      have r1 := hx _ (at_mem hp.a1)
      have r2 := hx _ (at_mem hp.a2)
      have m1 : moreA x (payF x F T') = at' x F + (payF x F T').n := by unfold moreA; rw [e1]; rfl
      have m2 : lessA x (payF x F T') = at' x T' - (payF x F T').n := by unfold lessA; rw [e2]; rfl
      unfold inR at r1 r2
      have q1 : inR (moreA x (payF x F T')) := by rw [m1]; unfold inR; omega
      have q2 : inR (lessA x (payF x F T')) := by rw [m2]; unfold inR; omega
      have hx' : ∀ v ∈ movP x (payF x F T'), inR v := fun v hv => by
        unfold movP at hv
        rcases List.mem_or_eq_of_mem_set hv with hv | rfl
        · rcases List.mem_or_eq_of_mem_set hv with hv | rfl
          · exact hx v hv
          · exact q1
        · exact q2
      have hs1 := movP_sum hacc
      have hl1 := movP_length x (payF x F T')
      obtain ⟨i1, i2, i3, i4, i5, i6⟩ := ih _ F T' hn hx' (by omega)
      have hbad : ¬ badAmt (payF x F T') := by unfold badAmt; omega
      have hstep : settleF x (payF x F T' :: (netF k (movP x (payF x F T')) F T').map (·.1)) = settleF (movP x (payF x F T')) ((netF k (movP x (payF x F T')) F T').map (·.1)) := settle_ok hacc hbad q1 q2
      generalize hpp : payF x F T' = pp at *
      generalize hxx : movP x pp = x2 at *
      refine ⟨?_, i2.trans hs1, i3.trans hl1, ?_, fun h0 => i5 (hs1.trans h0), ?_⟩
      · rw [List.map_cons, hstep]
        exact i1
      · intro q hq
        rcases List.mem_cons.1 hq with rfl | hq
        · have h1 := hp.a1
          have h2 := hp.a2
          dsimp only
          rw [e1, e2, Int.toNat_natCast, Int.toNat_natCast]
          exact ⟨by omega, by omega, by omega, by omega, n1, by omega, hv1, hv2, by omega, by omega⟩
        · obtain ⟨j1, j2, j3, j4, j5, j6, j7, j8, j9, j10⟩ := i4 q hq
          rw [hl1] at j2 j4
          refine ⟨j1, j2, j3, j4, j5, j6, ?_, ?_, by omega, by omega⟩
          · rw [hat] at j7
            by_cases w1 : q.1.f.toNat = F
            · rw [w1]; exact hv1
            · rw [if_neg w1] at j7
              by_cases w2 : q.1.f.toNat = T'
              · rw [if_pos w2] at j7; omega
              · rw [if_neg w2] at j7; exact j7
          · rw [hat] at j8
            by_cases w1 : q.1.t.toNat = F
            · rw [if_pos w1] at j8; omega
            · rw [if_neg w1] at j8
              by_cases w2 : q.1.t.toNat = T'
              · rw [w2]; exact hv2
              · rw [if_neg w2] at j8; exact j8
      · rw [List.length_cons]; omega
    · rw [netF_stop hs]
      refine ⟨by simp [settleF, netEnd], rfl, rfl, fun p hp => by simp at hp, fun h0 v hv => ?_, Nat.zero_le _⟩
      have hv : v ∈ x := by simpa [netEnd] using hv
      have h1 := nx_le neg' x f h.ff
      have h2 := nx_le pos' x t h.tt
      rcases Nat.lt_or_ge (nx neg' x f) x.length with h3 | h3
      · have h4 : nx pos' x t = x.length := by omega
        have hall : ∀ v ∈ x, v ≤ 0 := fun v hv => by
          obtain ⟨i, hi, rfl⟩ := mem_at hv
          rcases Nat.lt_or_ge i t with h5 | h5
          · exact h.tb i h5
          · have := nx_before pos' x _ t rfl i h5 (by omega) hi
            simpa [pos'] using this
        exact (sum_nonpos x hall).2 h0 v hv
      · have h4 : nx neg' x f = x.length := by omega
        have hall : ∀ v ∈ x, 0 ≤ v := fun v hv => by
          obtain ⟨i, hi, rfl⟩ := mem_at hv
          rcases Nat.lt_or_ge i f with h5 | h5
          · exact h.fb i h5
          · have := nx_before neg' x _ f rfl i h5 (by omega) hi
            simpa [neg'] using this
        exact (sum_nonneg x hall).2 h0 v hv
end Go.Proofs.Ytedchaaoemifbaa.PI
