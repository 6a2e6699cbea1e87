/-
  Merkle trees over lists of digests, in plain Lean: the laws.
  Conditions: none; these are lemmas.
-/
import Derived.Test.YtokhnpjchpmndaaDoorMkE
namespace Go.Proofs.YtokhnpjchpmndaaDoor.PI
open Go

theorem node_zero (l : List Dig) (k : Int) : nodeL l 0 k = atL l k padL := rfl
theorem node_succ (l : List Dig) (n : Nat) (k : Int) (hk : 0 ≤ k) : nodeL l (n + 1) k = parentL (nodeL l n (2 * k)) (nodeL l n (2 * k + 1)) := by
  unfold nodeL
  show atL (upL (padN n) (rowN l n)) k (padN (n + 1)) = _
  have hl := upL_length (padN n) (rowN l n)
  unfold atL
  by_cases h : k < ((upL (padN n) (rowN l n)).length : Int)
  · rw [if_pos h, upL_get (padN n) (rowN l n) k.toNat (by omega), if_pos (show 2 * k < ((rowN l n).length : Int) by omega)]
    unfold atL
    rw [show (2 * k).toNat = 2 * k.toNat by omega, show 2 * (k.toNat : Int) + 1 = 2 * k + 1 by omega]
  · rw [if_neg h, if_neg (show ¬ 2 * k < ((rowN l n).length : Int) by omega), if_neg (show ¬ 2 * k + 1 < ((rowN l n).length : Int) by omega)]
    rfl
theorem div_succ (j : Int) (n : Nat) : j / 2 ^ (n + 1) = j / 2 ^ n / 2 := by
  have := pow_pos2 n
  rw [Int.ediv_ediv_of_nonneg (by omega), Int.pow_succ]
/-- a node depends on the leaves below it alone -/
theorem node_congr (a b : List Dig) : ∀ (n : Nat) (k : Int), 0 ≤ k → (∀ j : Int, 0 ≤ j → j / 2 ^ n = k → atL a j padL = atL b j padL) → nodeL a n k = nodeL b n k
  | 0, k, hk, h => h k hk (by simp)
  | n + 1, k, hk, h => by
    rw [node_succ a n k hk, node_succ b n k hk, node_congr a b n (2 * k) (by omega), node_congr a b n (2 * k + 1) (by omega)]
    · intro j hj e
      exact h j hj (by rw [div_succ, e]; omega)
    · intro j hj e
      exact h j hj (by rw [div_succ, e]; omega)
theorem climb_append (p q : List Dig) : ∀ (i : Nat) (x : Dig), climbL i x (p ++ q) = climbL (i / 2 ^ p.length) (climbL i x p) q := by
  induction p with
  | nil => intro i x; simp [climbL]
  | cons a r ih =>
    intro i x
    show climbL (i / 2) _ (r ++ q) = _
    rw [ih, List.length_cons, Nat.pow_succ, Nat.mul_comm, ← Nat.div_div_eq_div_mul]
    rfl
theorem toNat_div (i : Int) (hi : 0 ≤ i) (n : Nat) : ((i.toNat / 2 ^ n : Nat) : Int) = i / 2 ^ n := by
  obtain ⟨m, rfl⟩ := Int.eq_ofNat_of_zero_le hi
  simp
theorem climb_path (l : List Dig) (i : Int) (hi : 0 ≤ i) : ∀ n : Nat, climbL i.toNat (nodeL l 0 i) (pathL l i n) = nodeL l n (i / 2 ^ n)
  | 0 => by simp [pathL, climbL]
  | n + 1 => by
    have hp := pow_pos2 n
    have h0 : 0 ≤ i / 2 ^ n := Int.ediv_nonneg hi (by omega)
    have h1 := toNat_div i hi n
    show climbL i.toNat (nodeL l 0 i) (pathL l i n ++ [nodeL l n (sibL (i / 2 ^ n))]) = _
    rw [climb_append, climb_path l i hi n, pathL_length]
    show (if i.toNat / 2 ^ n % 2 = 0 then parentL (nodeL l n (i / 2 ^ n)) (nodeL l n (sibL (i / 2 ^ n))) else parentL (nodeL l n (sibL (i / 2 ^ n))) (nodeL l n (i / 2 ^ n))) = _
    rw [node_succ l n (i / 2 ^ (n + 1)) (by rw [div_succ]; omega), div_succ]
    generalize i / 2 ^ n = m at *
    unfold sibL
    by_cases h : m % 2 = 0
    · rw [if_pos (by omega), if_pos h, show 2 * (m / 2) = m by omega]
    · rw [if_neg (by omega), if_neg h, show 2 * (m / 2) = m - 1 by omega, show m - 1 + 1 = m by omega]
theorem at_end (l : List Dig) (k : Int) (pad : Dig) (h : (l.length : Int) ≤ k) : atL l k pad = pad := by
  unfold atL; rw [if_neg (by omega)]
theorem firstF_spec (a b : List Dig) : ∀ n i : Nat, (firstF a b n i = -1 ∧ ∀ j : Nat, i ≤ j → j < i + n → atL a j padL = atL b j padL) ∨ ∃ j : Nat, firstF a b n i = j ∧ i ≤ j ∧ j < i + n ∧ atL a j padL ≠ atL b j padL ∧ ∀ k : Nat, i ≤ k → k < j → atL a k padL = atL b k padL
  | 0, i => .inl ⟨rfl, fun j h1 h2 => by omega⟩
  | n + 1, i => by
    by_cases h : atL a i padL = atL b i padL
    · rw [firstF_eq h]
      rcases firstF_spec a b n (i + 1) with ⟨e, h1⟩ | ⟨j, e, h1, h2, h3, h4⟩
      · refine .inl ⟨e, fun j h2 h3 => ?_⟩
        rcases Nat.eq_or_lt_of_le h2 with rfl | h4
        · exact h
        · exact h1 j h4 (by omega)
      · refine .inr ⟨j, e, by omega, by omega, h3, fun k h5 h6 => ?_⟩
        rcases Nat.eq_or_lt_of_le h5 with rfl | h7
        · exact h
        · exact h4 k h7 h6
    · rw [firstF_ne h]
      exact .inr ⟨i, rfl, Nat.le_refl _, by omega, h, fun k h5 h6 => by omega⟩
theorem firstL_spec (a b : List Dig) : (firstL a b = -1 ∧ ∀ j : Int, 0 ≤ j → atL a j padL = atL b j padL) ∨ (0 ≤ firstL a b ∧ firstL a b < max a.length b.length ∧ atL a (firstL a b) padL ≠ atL b (firstL a b) padL ∧ ∀ k : Int, 0 ≤ k → k < firstL a b → atL a k padL = atL b k padL) := by
  rcases firstF_spec a b (max a.length b.length) 0 with ⟨e, h1⟩ | ⟨j, e, h1, h2, h3, h4⟩
  · refine .inl ⟨e, fun j hj => ?_⟩
    obtain ⟨m, rfl⟩ := Int.eq_ofNat_of_zero_le hj
    rcases Nat.lt_or_ge m (max a.length b.length) with h | h
    · exact h1 m (by omega) (by omega)
    · rw [at_end a _ _ (by omega), at_end b _ _ (by omega)]
  · have e' : firstL a b = j := e
    rw [e']
    refine .inr ⟨by omega, by omega, h3, fun k h5 h6 => ?_⟩
    obtain ⟨m, rfl⟩ := Int.eq_ofNat_of_zero_le h5
    exact h4 m (by omega) (by omega)
theorem first_same (a b : List Dig) (h : ∀ j : Int, 0 ≤ j → atL a j padL = atL b j padL) : firstL a b = -1 := by
  rcases firstL_spec a b with ⟨e, _⟩ | ⟨h0, _, h2, _⟩
  · exact e
  · exact absurd (h _ h0) h2
theorem at_with (l : List Dig) (i : Int) (d : Dig) (hi : 0 ≤ i) (hl : i < (l.length : Int)) (j : Int) (hj : 0 ≤ j) : atL (withL l i d) j padL = if j = i then d else atL l j padL := by
  unfold atL
  rw [with_length]
  unfold withL
  rw [if_pos hi]
  by_cases h : j = i
  · subst h
    rw [if_pos hl, if_pos rfl]
    simp [List.getD_eq_getElem?_getD, show j.toNat < l.length by omega]
  · rw [if_neg h]
    have : i.toNat ≠ j.toNat := by omega
    simp [List.getD_eq_getElem?_getD, List.getElem?_set_ne this]
theorem first_with (l : List Dig) (i : Int) (d : Dig) (hi : 0 ≤ i) (hl : i < (l.length : Int)) : firstL l (withL l i d) = i ↔ l.getD i.toNat default ≠ d := by
  have e : atL l i padL = l.getD i.toNat default := by unfold atL; rw [if_pos hl]
  have aw := at_with l i d hi hl
  rcases firstL_spec l (withL l i d) with ⟨h0, h1⟩ | ⟨h0, h1, h2, h3⟩
  · have := h1 i hi
    rw [aw i hi, if_pos rfl, e] at this
    constructor
    · intro h; omega
    · intro h; exact absurd this h
  · have h4 : firstL l (withL l i d) = i := by
      rw [aw _ h0] at h2
      by_cases h5 : firstL l (withL l i d) = i
      · exact h5
      · rw [if_neg h5] at h2; exact absurd rfl h2
    rw [h4, aw i hi, if_pos rfl, e] at h2
    exact ⟨fun _ => h2, fun _ => h4⟩
theorem sib_ne (k : Int) : sibL k ≠ k := by unfold sibL; split <;> omega
theorem sib_nonneg (k : Int) (h : 0 ≤ k) : 0 ≤ sibL k := by unfold sibL; split <;> omega
theorem path_with (l : List Dig) (i : Int) (d : Dig) (hi : 0 ≤ i) (hl : i < (l.length : Int)) : ∀ n : Nat, pathL (withL l i d) i n = pathL l i n
  | 0 => rfl
  | n + 1 => by
    show pathL (withL l i d) i n ++ _ = pathL l i n ++ _
    have hp := pow_pos2 n
    have h0 : 0 ≤ i / 2 ^ n := Int.ediv_nonneg hi (by omega)
    rw [path_with l i d hi hl n, node_congr (withL l i d) l n (sibL (i / 2 ^ n)) (sib_nonneg _ h0)]
    intro j hj e
    rw [at_with l i d hi hl j hj, if_neg]
    intro h
    subst h
    exact sib_ne _ e.symm
theorem element_node (l : List Dig) (i : Int) (hi : 0 ≤ i) : (if 0 ≤ i ∧ i < (l.length : Int) then l.getD i.toNat default else padL) = nodeL l 0 i := by
  rw [node_zero]
  unfold atL
  by_cases h : i < (l.length : Int)
  · rw [if_pos ⟨hi, h⟩, if_pos h]
  · rw [if_neg (fun x => h x.2), if_neg h]
theorem includes_path (l : List Dig) (i : Int) (hl : (l.length : Int) ≤ 65536) (hi : 0 ≤ i) (h : i < 2 ^ (depthL l.length).toNat) : includesL (rootL l) i (nodeL l 0 i) (pathOf l i) = true := by
  obtain ⟨d1, d2, d3⟩ := depthL_ok (n := l.length) (by omega) (by omega)
  have e1 : rootL l = ((l.length : Int), nodeL l (depthL l.length).toNat 0) := by unfold rootL; rw [if_pos hl]
  have e2 : pathOf l i = pathL l i (depthL l.length).toNat := by unfold pathOf; rw [if_pos ⟨hl, hi, h⟩]
  unfold includesL
  rw [e1, e2, climb_path l i hi, pathL_length, Int.ediv_eq_zero_of_lt hi h]
  simp
  omega
theorem pathOf_len (l : List Dig) (i : Int) : (pathOf l i).length ≤ 16 := by
  unfold pathOf
  split
  · rename_i h
    rw [pathL_length]
    have := depthL_ok (n := l.length) (by omega) h.1
    omega
  · simp
theorem at_pads (l : List Dig) (m : Nat) (j : Int) (hj : 0 ≤ j) : atL (l ++ List.replicate m padL) j padL = atL l j padL := by
  unfold atL
  rw [List.length_append, List.length_replicate]
  obtain ⟨n, rfl⟩ := Int.eq_ofNat_of_zero_le hj
  by_cases h : (n : Int) < (l.length : Int)
  · rw [if_pos (by omega), if_pos h]
    simp [List.getD_eq_getElem?_getD, List.getElem?_append, show n < l.length by omega]
  · rw [if_neg h]
    split
    · simp [List.getD_eq_getElem?_getD, List.getElem?_append, show ¬ n < l.length by omega, show n - l.length < m by omega]
    · rfl
theorem nodeR_pads (l : List Dig) (m : Nat) (level k : Int) (h1 : (l.length : Int) ≤ 65536) (h2 : (l.length : Int) + m ≤ 65536) : nodeOk (l ++ List.replicate m padL) level k = nodeOk l level k ∧ nodeR (l ++ List.replicate m padL) level k = nodeR l level k := by
  have e : nodeOk (l ++ List.replicate m padL) level k = nodeOk l level k := by
    unfold nodeOk
    congr 1
    simp only [List.length_append, List.length_replicate, eq_iff_iff]
    constructor
    · rintro ⟨_, h⟩; exact ⟨by omega, h⟩
    · rintro ⟨_, h⟩; exact ⟨by omega, h⟩
  refine ⟨e, ?_⟩
  unfold nodeR
  rw [e]
  split
  · rename_i h
    have h0 : 0 ≤ k := by
      unfold nodeOk at h
      simp at h
      omega
    exact node_congr _ _ _ _ h0 fun j hj _ => at_pads l m j hj
  · rfl

/-- somewhere below a node two different pairs have the same parent -/
def collidesL (a b : List Dig) : Nat → Int → Bool
  | 0, _ => false
  | n + 1, k => (decide (nodeL a (n + 1) k = nodeL b (n + 1) k) && (!decide (nodeL a n (2 * k) = nodeL b n (2 * k)) || !decide (nodeL a n (2 * k + 1) = nodeL b n (2 * k + 1)))) || (collidesL a b n (2 * k) || collidesL a b n (2 * k + 1))
theorem collides_of (a b : List Dig) : ∀ (n : Nat) (k : Int), 0 ≤ k → nodeL a n k = nodeL b n k → (∃ j : Int, 0 ≤ j ∧ j / 2 ^ n = k ∧ atL a j padL ≠ atL b j padL) → collidesL a b n k = true
  | 0, k, hk, e, ⟨j, hj, h1, h2⟩ => by
    simp at h1
    subst h1
    exact absurd e h2
  | n + 1, k, hk, e, ⟨j, hj, h1, h2⟩ => by
    unfold collidesL
    rw [decide_eq_true e]
    by_cases e1 : nodeL a n (2 * k) = nodeL b n (2 * k)
    · by_cases e2 : nodeL a n (2 * k + 1) = nodeL b n (2 * k + 1)
      · rw [div_succ] at h1
        by_cases h3 : j / 2 ^ n = 2 * k
        · rw [collides_of a b n (2 * k) (by omega) e1 ⟨j, hj, h3, h2⟩]; simp
        · rw [collides_of a b n (2 * k + 1) (by omega) e2 ⟨j, hj, by omega, h2⟩]; simp
      · rw [decide_eq_false e2]; simp
    · rw [decide_eq_false e1]; simp
theorem collides_up (a b : List Dig) (n : Nat) (k : Int) (h : collidesL a b n k = true) : collidesL a b (n + 1) (k / 2) = true := by
  unfold collidesL
  rcases (show k = 2 * (k / 2) ∨ k = 2 * (k / 2) + 1 by omega) with e | e
  · rw [← e, h]; simp
  · rw [← e, h]; simp
theorem collides_top (a b : List Dig) : ∀ (m n : Nat) (k : Int), collidesL a b n k = true → collidesL a b (n + m) (k / 2 ^ m) = true
  | 0, n, k, h => by simpa using h
  | m + 1, n, k, h => by
    rw [div_succ, ← Nat.add_assoc]
    exact collides_up a b (n + m) _ (collides_top a b m n k h)

end Go.Proofs.YtokhnpjchpmndaaDoor.PI
