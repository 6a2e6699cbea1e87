/-
  Merkle trees over lists of digests, in plain Lean.
  Conditions: none; these are definitions and lemmas.
-/
import Derived.Test.YtokhnpjchpmndaaDoorSha
namespace Go.Proofs.YtokhnpjchpmndaaDoor.PI
open Go

def padL : Dig := taggedL [112, 97, 100] []
def parentL (a b : Dig) : Dig := taggedL [110, 111, 100, 101] (a.bs ++ b.bs)
def atL (l : List Dig) (k : Int) (pad : Dig) : Dig := if k < (l.length : Int) then l.getD k.toNat default else pad
/-- the nodes of the next level -/
def upL (pad : Dig) : List Dig → List Dig
  | [] => []
  | [a] => [parentL a pad]
  | a :: b :: r => parentL a b :: upL pad r
def padN : Nat → Dig
  | 0 => padL
  | n + 1 => parentL (padN n) (padN n)
def rowN (l : List Dig) : Nat → List Dig
  | 0 => l
  | n + 1 => upL (padN n) (rowN l n)
def nodeL (l : List Dig) (level : Nat) (k : Int) : Dig := atL (rowN l level) k (padN level)

def bitlen (n : Nat) : Nat := if n = 0 then 0 else n.log2 + 1
def depthL (n : Int) : Int := if n < 0 ∨ 65536 < n then -1 else (bitlen ((max n 1).toNat - 1) : Nat)

theorem upL_length (pad : Dig) : ∀ l : List Dig, (upL pad l).length = (l.length + 1) / 2
  | [] => rfl
  | [a] => by simp [upL]
  | a :: b :: r => by
    simp only [upL, List.length_cons, upL_length pad r]
    omega

theorem bitlen_lt {n k : Nat} (h : n < 2 ^ k) : bitlen n ≤ k := by
  unfold bitlen
  split
  · omega
  · rename_i h0
    have : n.log2 < k := (Nat.log2_lt h0).2 h
    omega
theorem bitlen_spec {n : Nat} : n < 2 ^ bitlen n := by
  unfold bitlen
  split
  · rename_i h; subst h; decide
  · rename_i h0
    exact (Nat.log2_lt h0).1 (Nat.lt_succ_self _)
theorem bitlen_ge {n k : Nat} (h : 2 ^ k ≤ n) : k + 1 ≤ bitlen n := by
  have h0 : n ≠ 0 := by
    have := Nat.two_pow_pos k
    omega
  have := (Nat.le_log2 h0).2 h
  unfold bitlen
  rw [if_neg h0]
  omega
theorem bitlen_div (n k : Nat) (h : 2 ^ k ≤ n) : bitlen n = k + bitlen (n / 2 ^ k) := by
  have h1 := bitlen_spec (n := n / 2 ^ k)
  have h2 : bitlen n ≤ k + bitlen (n / 2 ^ k) := by
    apply bitlen_lt
    rw [Nat.pow_add]
    exact (Nat.div_lt_iff_lt_mul (Nat.two_pow_pos k)).1 h1 |> fun x => by rwa [Nat.mul_comm]
  have h3 : 1 ≤ n / 2 ^ k := (Nat.one_le_div_iff (Nat.two_pow_pos k)).2 h
  have h4 : k + bitlen (n / 2 ^ k) ≤ bitlen n := by
    obtain ⟨j, hj⟩ : ∃ j, bitlen (n / 2 ^ k) = j + 1 := by
      have := bitlen_ge (n := n / 2 ^ k) (k := 0) (by omega)
      exact ⟨bitlen (n / 2 ^ k) - 1, by omega⟩
    have h5 : 2 ^ j ≤ n / 2 ^ k := by
      rcases Nat.lt_or_ge (n / 2 ^ k) (2 ^ j) with h6 | h6
      · have := bitlen_lt h6
        omega
      · exact h6
    have h6 : 2 ^ (k + j) ≤ n := by
      rw [Nat.pow_add]
      calc 2 ^ k * 2 ^ j ≤ 2 ^ k * (n / 2 ^ k) := Nat.mul_le_mul_left _ h5
        _ ≤ n := Nat.mul_div_le n (2 ^ k)
    have := bitlen_ge h6
    omega
  omega
def emptyC : Int × Dig := (0, zeroDig)
def sibL (k : Int) : Int := if k % 2 = 0 then k + 1 else k - 1
def climbL (i : Nat) (x : Dig) : List Dig → Dig
  | [] => x
  | q :: r => climbL (i / 2) (if i % 2 = 0 then parentL x q else parentL q x) r
def includesL (c : Int × Dig) (i : Int) (leaf : Dig) (p : List Dig) : Bool :=
  decide (0 ≤ depthL c.1 ∧ 0 ≤ i ∧ i < 2 ^ (depthL c.1).toNat ∧ (p.length : Int) = depthL c.1 ∧ climbL i.toNat leaf p = c.2)
def pathL (l : List Dig) (i : Int) : Nat → List Dig
  | 0 => []
  | n + 1 => pathL l i n ++ [nodeL l n (sibL (i / 2 ^ n))]
def withL (l : List Dig) (i : Int) (d : Dig) : List Dig := if 0 ≤ i then l.set i.toNat d else l
def firstF (a b : List Dig) : Nat → Nat → Int
  | 0, _ => -1
  | n + 1, i => if atL a i padL ≠ atL b i padL then i else firstF a b n (i + 1)
def firstL (a b : List Dig) : Int := firstF a b (max a.length b.length) 0

theorem depthL_ok {n : Int} (h0 : 0 ≤ n) (h1 : n ≤ 65536) : depthL n = (bitlen ((max n 1).toNat - 1) : Nat) ∧ 0 ≤ depthL n ∧ depthL n ≤ 16 := by
  have e : depthL n = (bitlen ((max n 1).toNat - 1) : Nat) := by unfold depthL; rw [if_neg (by omega)]
  have : bitlen ((max n 1).toNat - 1) ≤ 16 := bitlen_lt (by omega)
  refine ⟨e, ?_, ?_⟩ <;> rw [e] <;> omega
theorem depthL_bad {n : Int} (h : n < 0 ∨ 65536 < n) : depthL n = -1 := by unfold depthL; rw [if_pos h]
theorem depthL_le {n : Int} (h0 : 0 ≤ n) (h1 : n ≤ 65536) : n ≤ 2 ^ (depthL n).toNat := by
  obtain ⟨e, _, _⟩ := depthL_ok h0 h1
  rw [e, Int.toNat_natCast]
  have h2 := bitlen_spec (n := (max n 1).toNat - 1)
  have h3 : ((2 ^ bitlen ((max n 1).toNat - 1) : Nat) : Int) = 2 ^ bitlen ((max n 1).toNat - 1) := by simp
  rw [← h3]
  omega
theorem depthL_least {n : Int} (h0 : 0 ≤ n) (h1 : n ≤ 65536) (d : Nat) (h : (d : Int) < depthL n) : (2 : Int) ^ d < n := by
  obtain ⟨e, _, _⟩ := depthL_ok h0 h1
  rw [e] at h
  have h4 : 2 ^ d ≤ (max n 1).toNat - 1 := by
    rcases Nat.lt_or_ge ((max n 1).toNat - 1) (2 ^ d) with h5 | h5
    · have := bitlen_lt h5; omega
    · exact h5
  have h3 : ((2 ^ d : Nat) : Int) = 2 ^ d := by simp
  rw [← h3]
  have := Nat.two_pow_pos d
  omega
theorem pow_mono {a b : Nat} (h : a ≤ b) : (2 : Int) ^ a ≤ 2 ^ b := by
  have h6 : (2 : Nat) ^ a ≤ 2 ^ b := Nat.pow_le_pow_right (by decide) h
  have h7 : ∀ k : Nat, (2 : Int) ^ k = ((2 ^ k : Nat) : Int) := by simp
  rw [h7, h7]; omega
theorem pow_pos2 (a : Nat) : (1 : Int) ≤ 2 ^ a := pow_mono (a := 0) (by omega)

theorem upL_get (pad : Dig) : ∀ (row : List Dig) (j : Nat), 2 * j < row.length → (upL pad row).getD j default = parentL (row.getD (2 * j) default) (atL row (2 * (j : Int) + 1) pad)
  | [], j, h => by simp at h
  | [a], j, h => by
    obtain rfl : j = 0 := by simp at h; omega
    rfl
  | a :: b :: r, 0, _ => by
    have : atL (a :: b :: r) (2 * ((0 : Nat) : Int) + 1) pad = b := by
      unfold atL
      rw [if_pos (by simp only [List.length_cons]; omega)]
      rfl
    rw [this]
    rfl
  | a :: b :: r, j + 1, h => by
    have ih := upL_get pad r j (by simp at h; omega)
    have e1 : (a :: b :: r).getD (2 * (j + 1)) default = r.getD (2 * j) default := by
      rw [show 2 * (j + 1) = 2 * j + 1 + 1 by omega]; rfl
    have e2 : atL (a :: b :: r) (2 * ((j + 1 : Nat) : Int) + 1) pad = atL r (2 * (j : Int) + 1) pad := by
      unfold atL
      simp only [List.length_cons]
      have e3 : (2 * ((j + 1 : Nat) : Int) + 1).toNat = (2 * (j : Int) + 1).toNat + 1 + 1 := by omega
      rw [e3]
      by_cases h2 : 2 * (j : Int) + 1 < (r.length : Int)
      · rw [if_pos h2, if_pos (by omega)]; rfl
      · rw [if_neg h2, if_neg (by omega)]
    rw [e1, e2, ← ih]
    rfl
theorem upL_take (pad : Dig) (row : List Dig) (j : Nat) (h : 2 * j < row.length) : (upL pad row).take (j + 1) = (upL pad row).take j ++ [parentL (row.getD (2 * j) default) (atL row (2 * (j : Int) + 1) pad)] := by
  rw [take_getD _ j (by rw [upL_length]; omega), upL_get pad row j h]
theorem rowN_length (l : List Dig) : ∀ n, (rowN l n).length ≤ l.length
  | 0 => Nat.le_refl _
  | n + 1 => by
    rw [rowN, upL_length]
    have := rowN_length l n
    omega
theorem firstF_end (a b : List Dig) (i : Nat) : firstF a b 0 i = -1 := rfl
theorem firstF_ne {a b : List Dig} {n i : Nat} (h : atL a i padL ≠ atL b i padL) : firstF a b (n + 1) i = i := by simp [firstF, h]
theorem firstF_eq {a b : List Dig} {n i : Nat} (h : atL a i padL = atL b i padL) : firstF a b (n + 1) i = firstF a b n (i + 1) := by simp [firstF, h]
theorem with_take (l : List Dig) (i : Int) (d : Dig) (k : Nat) (h : k < l.length) : (withL l i d).take (k + 1) = (withL l i d).take k ++ [if (k : Int) = i then d else l.getD k default] := by
  have hl : (withL l i d).length = l.length := by unfold withL; split <;> simp
  rw [take_getD _ k (by omega)]
  congr 2
  unfold withL
  by_cases h0 : 0 ≤ i
  · rw [if_pos h0]
    by_cases h1 : (k : Int) = i
    · have : i.toNat = k := by omega
      rw [if_pos h1, this]
      simp [List.getD_eq_getElem?_getD, h]
    · have : i.toNat ≠ k := by omega
      rw [if_neg h1]
      simp [List.getD_eq_getElem?_getD, List.getElem?_set_ne this]
  · rw [if_neg h0, if_neg (by omega)]
theorem with_length (l : List Dig) (i : Int) (d : Dig) : (withL l i d).length = l.length := by unfold withL; split <;> simp

end Go.Proofs.YtokhnpjchpmndaaDoor.PI
