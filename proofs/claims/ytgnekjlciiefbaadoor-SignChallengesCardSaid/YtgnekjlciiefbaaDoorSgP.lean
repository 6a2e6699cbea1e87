/-
  Numbers for the signatures, in plain Lean: Knuth's division, powers modulo P, the primes, Fermat's law.
  Conditions: none; these are definitions and lemmas.
-/
import Derived.Test.YtgnekjlciiefbaaDoorEngLaw
namespace Go.Proofs.YtgnekjlciiefbaaDoor.PI
open Go

def Pr (p : Nat) : Prop := 2 ≤ p ∧ ∀ d, d ∣ p → d = 1 ∨ d = p
theorem pr_factor : ∀ (n : Nat), 2 ≤ n → ∃ p, Pr p ∧ p ∣ n := by
  intro n
  induction n using Nat.strongRecOn with
  | ind n ih =>
    intro h
    by_cases hp : Pr n
    · exact ⟨n, hp, Nat.dvd_refl n⟩
    · have : ∃ d, d ∣ n ∧ d ≠ 1 ∧ d ≠ n := by
        apply Classical.byContradiction
        intro hc
        refine hp ⟨h, fun d hd => ?_⟩
        by_cases h1 : d = 1
        · exact .inl h1
        · by_cases h2 : d = n
          · exact .inr h2
          · exact absurd ⟨d, hd, h1, h2⟩ hc
      obtain ⟨d, hd, h1, h2⟩ := this
      have h3 : d ≤ n := Nat.le_of_dvd (by omega) hd
      have h4 : d ≠ 0 := fun e => by subst e; have := Nat.eq_zero_of_zero_dvd hd; omega
      obtain ⟨p, hp, hpd⟩ := ih d (by omega) (by omega)
      exact ⟨p, hp, Nat.dvd_trans hpd hd⟩
theorem pr_small {n : Nat} (h : 2 ≤ n) (hn : ¬ Pr n) : ∃ p, Pr p ∧ p ∣ n ∧ p * p ≤ n := by
  have : ∃ d, d ∣ n ∧ d ≠ 1 ∧ d ≠ n := by
    apply Classical.byContradiction
    intro hc
    refine hn ⟨h, fun d hd => ?_⟩
    by_cases h1 : d = 1
    · exact .inl h1
    · by_cases h2 : d = n
      · exact .inr h2
      · exact absurd ⟨d, hd, h1, h2⟩ hc
  obtain ⟨d, ⟨e, he⟩, h1, h2⟩ := this
  have hd0 : d ≠ 0 := fun h0 => by subst h0; omega
  have he0 : e ≠ 0 := fun h0 => by subst h0; omega
  have he1 : e ≠ 1 := fun h0 => by subst h0; omega
  rcases Nat.le_total d e with hle | hle
  · obtain ⟨p, hp, hpd⟩ := pr_factor d (by omega)
    have hpl : p ≤ d := Nat.le_of_dvd (by omega) hpd
    refine ⟨p, hp, he ▸ Nat.dvd_trans hpd (Nat.dvd_mul_right d e), ?_⟩
    rw [he]; exact Nat.mul_le_mul hpl (by omega)
  · obtain ⟨p, hp, hpd⟩ := pr_factor e (by omega)
    have hpl : p ≤ e := Nat.le_of_dvd (by omega) hpd
    refine ⟨p, hp, he ▸ Nat.dvd_trans hpd (Nat.dvd_mul_left e d), ?_⟩
    rw [he]; exact Nat.mul_le_mul (by omega) hpl
theorem pr_cop {p a : Nat} (hp : Pr p) (h : ¬ p ∣ a) : Nat.Coprime p a := by
  rcases hp.2 (Nat.gcd p a) (Nat.gcd_dvd_left p a) with e | e
  · exact e
  · exact absurd (e ▸ Nat.gcd_dvd_right p a) h
theorem pr_euclid {p a b : Nat} (hp : Pr p) (h : p ∣ a * b) : p ∣ a ∨ p ∣ b := by
  by_cases ha : p ∣ a
  · exact .inl ha
  · exact .inr ((pr_cop hp ha).dvd_of_dvd_mul_left h)

/-- a list without doubles within another of no greater length is a permutation of it -/
theorem perm_of_sub : ∀ (l m : List Nat), l.Nodup → (∀ x ∈ l, x ∈ m) → m.length ≤ l.length → l.Perm m
  | [], m, _, _, h => by
    have : m = [] := List.length_eq_zero_iff.1 (by simpa using h)
    rw [this]
  | a :: l, m, hn, hs, h => by
    have ha : a ∈ m := hs a (by simp)
    have hp := List.perm_cons_erase ha
    have hn2 := List.nodup_cons.1 hn
    have ih := perm_of_sub l (m.erase a) hn2.2 (fun x hx => by
      have hxm : x ∈ a :: m.erase a := hp.mem_iff.1 (hs x (by simp [hx]))
      rcases List.mem_cons.1 hxm with e | e
      · exact absurd (e ▸ hx) hn2.1
      · exact e) (by
      have := hp.length_eq
      simp at this h
      omega)
    exact (List.Perm.cons a ih).trans hp.symm
def prodL : List Nat → Nat
  | [] => 1
  | a :: l => a * prodL l
theorem prodL_perm {l m : List Nat} (h : l.Perm m) : prodL l = prodL m := by
  induction h with
  | nil => rfl
  | cons a _ ih => simp [prodL, ih]
  | swap a b l => simp only [prodL]; rw [← Nat.mul_assoc, ← Nat.mul_assoc, Nat.mul_comm a b]
  | trans _ _ h1 h2 => exact h1.trans h2
theorem prodL_map (a p : Nat) : ∀ l : List Nat, prodL (l.map fun i => a * i % p) % p = a ^ l.length * prodL l % p
  | [] => by simp [prodL]
  | i :: l => by
    have ih := prodL_map a p l
    simp only [List.map_cons, prodL, List.length_cons]
    rw [Nat.mul_mod, Nat.mod_mod, ih, ← Nat.mul_mod, Nat.pow_succ]
    congr 1
    rw [Nat.mul_assoc, Nat.mul_assoc, Nat.mul_left_comm i]
    rw [← Nat.mul_assoc a, Nat.mul_comm a, Nat.mul_assoc]
theorem prodL_cop {p : Nat} (hp : Pr p) : ∀ l : List Nat, (∀ i ∈ l, ¬ p ∣ i) → ¬ p ∣ prodL l
  | [], _ => by
    intro h
    have := Nat.dvd_one.1 h
    have := hp.1
    omega
  | i :: l, h => by
    intro hd
    rcases pr_euclid hp hd with h1 | h1
    · exact h i (by simp) h1
    · exact prodL_cop hp l (fun j hj => h j (by simp [hj])) h1
theorem no_eq {p a i j : Nat} (hp : Pr p) (ha : ¬ p ∣ a) (h : i < j) (hj : j < p) (he : a * j % p = a * i % p) : False := by
  have h1 := Nat.sub_mod_eq_zero_of_mod_eq he
  rw [← Nat.mul_sub] at h1
  rcases pr_euclid hp (Nat.dvd_of_mod_eq_zero h1) with h2 | h2
  · exact ha h2
  · have := Nat.le_of_dvd (by omega) h2
    omega
theorem fermat {p a : Nat} (hp : Pr p) (ha : ¬ p ∣ a) : a ^ (p - 1) % p = 1 := by
  have h2 := hp.1
  let l := List.range' 1 (p - 1)
  have hl : l.length = p - 1 := List.length_range'
  have hm : ∀ i, i ∈ l ↔ 1 ≤ i ∧ i < p := fun i => by
    simp only [l, List.mem_range'_1]; omega
  have hc : ∀ i ∈ l, ¬ p ∣ i := fun i hi hd => by
    have := Nat.le_of_dvd (by have := (hm i).1 hi; omega) hd
    have := (hm i).1 hi
    omega
  have hperm : (l.map fun i => a * i % p).Perm l := by
    apply perm_of_sub
    · rw [List.nodup_iff_pairwise_ne, List.pairwise_map]
      have hn : l.Nodup := List.nodup_range'
      rw [List.nodup_iff_pairwise_ne] at hn
      refine List.Pairwise.imp_of_mem (fun {i j} hi hj hne he => ?_) hn
      have hi' := (hm i).1 hi
      have hj' := (hm j).1 hj
      rcases Nat.lt_or_gt_of_ne hne with h | h
      · exact no_eq hp ha h hj'.2 he.symm
      · exact no_eq hp ha h hi'.2 he
    · intro x hx
      obtain ⟨i, hi, rfl⟩ := List.mem_map.1 hx
      rw [hm]
      refine ⟨?_, Nat.mod_lt _ (by omega)⟩
      rcases Nat.eq_zero_or_pos (a * i % p) with h0 | h0
      · rcases pr_euclid hp (Nat.dvd_of_mod_eq_zero h0) with h1 | h1
        · exact absurd h1 ha
        · exact absurd h1 (hc i hi)
      · exact h0
    · simp
  have h3 := prodL_map a p l
  rw [prodL_perm hperm, hl] at h3
  have h4 := prodL_cop hp l hc
  have h5 : p ∣ (a ^ (p - 1) - 1) * prodL l := by
    rw [Nat.sub_mul, Nat.one_mul]
    exact Nat.dvd_of_mod_eq_zero (Nat.sub_mod_eq_zero_of_mod_eq h3.symm)
  rcases pr_euclid hp h5 with ⟨k, hk⟩ | h6
  · have ha0 : 0 < a := Nat.pos_of_ne_zero fun h0 => ha (h0 ▸ Nat.dvd_zero p)
    have h7 : 0 < a ^ (p - 1) := Nat.pow_pos ha0
    have h8 : a ^ (p - 1) = 1 + p * k := by omega
    rw [h8, Nat.add_mul_mod_self_left, Nat.mod_eq_of_lt (by omega)]
  · exact absurd h6 h4

theorem pow_gcd (b p : Nat) (hp : 2 ≤ p) : ∀ m n : Nat, b ^ m % p = 1 → b ^ n % p = 1 → b ^ (Nat.gcd m n) % p = 1 := by
  intro m n
  induction m, n using Nat.gcd.induction with
  | H0 n => intro _ h; rwa [Nat.gcd_zero_left]
  | H1 m n hm ih =>
    intro h1 h2
    rw [Nat.gcd_rec]
    refine ih ?_ h1
    have h3 := Nat.div_add_mod n m
    have h4 : b ^ n % p = b ^ (n % m) % p := by
      conv => lhs; rw [← h3]
      rw [Nat.pow_add, Nat.pow_mul, Nat.mul_mod, Nat.pow_mod, h1, Nat.one_pow, Nat.mod_eq_of_lt (show 1 < p by omega), Nat.one_mul, Nat.mod_mod]
    rw [← h4]; exact h2
/-- Pocklington, with one great prime -/
theorem pock {N q R a : Nat} (hN : N = q * R + 1) (hq : Pr q) (h2 : 2 ≤ N) (hs : N ≤ q * q) (h1 : a ^ (N - 1) % N = 1) (hg : Nat.gcd (a ^ R % N + (N - 1)) N = 1) : Pr N := by
  apply Classical.byContradiction
  intro hn
  obtain ⟨p, hp, ⟨k, hk⟩, hpp⟩ := pr_small h2 hn
  have hp2 := hp.1
  have hpN : p ∣ N := ⟨k, hk⟩
  have e1 : a ^ (N - 1) % p = 1 := by
    have := Nat.mod_mod_of_dvd (a ^ (N - 1)) hpN
    rw [h1, Nat.mod_eq_of_lt (by omega)] at this
    exact this.symm
  have hb : (a ^ R) ^ q % p = 1 := by
    rw [← Nat.pow_mul, Nat.mul_comm R q, ← show N - 1 = q * R by omega]; exact e1
  have hna : ¬ p ∣ a ^ R := by
    intro hd
    have : (a ^ R) ^ q % p = 0 := by
      apply Nat.mod_eq_zero_of_dvd
      have hq2 := hq.1
      rw [show q = (q - 1) + 1 by omega, Nat.pow_succ]
      exact Nat.dvd_trans hd (Nat.dvd_mul_left _ _)
    omega
  have hf := fermat hp hna
  have hgcd := pow_gcd (a ^ R) p hp2 q (p - 1) hb hf
  rcases hq.2 _ (Nat.gcd_dvd_left q (p - 1)) with h3 | h3
  · rw [h3, Nat.pow_one] at hgcd
    have h4 : p ∣ a ^ R % N + (N - 1) := by
      apply Nat.dvd_of_mod_eq_zero
      rw [Nat.add_mod, Nat.mod_mod_of_dvd _ hpN, hgcd]
      have h5 : (1 + (N - 1) % p) % p = N % p := by
        rw [Nat.add_mod_mod]; congr 1; omega
      rw [h5, hk, Nat.mul_mod_right]
    have h5 := Nat.dvd_gcd h4 hpN
    rw [hg] at h5
    have := Nat.le_of_dvd (by omega) h5
    omega
  · have h4 : q ∣ p - 1 := h3 ▸ Nat.gcd_dvd_right q (p - 1)
    have h5 := Nat.le_of_dvd (by omega) h4
    have h6 : (q + 1) * (q + 1) ≤ p * p := Nat.mul_le_mul (by omega) (by omega)
    rw [Nat.add_mul, Nat.mul_add] at h6
    omega
/-- powers by squaring -/
def fastP (m : Nat) : Nat → Nat → Nat → Nat → Nat
  | 0, _, _, o => o
  | f + 1, b, k, o => fastP m f (b * b % m) (k / 2) (if k % 2 = 1 then o * b % m else o)
theorem fastP_spec (m : Nat) : ∀ (f b k o : Nat), k < 2 ^ f → fastP m f b k o % m = o * b ^ k % m
  | 0, b, k, o, h => by
    have : k = 0 := by simpa using h
    subst this
    simp [fastP]
  | f + 1, b, k, o, h => by
    have hk : k / 2 < 2 ^ f := by rw [Nat.pow_succ] at h; omega
    show fastP m f (b * b % m) (k / 2) (if k % 2 = 1 then o * b % m else o) % m = _
    rw [fastP_spec m f _ _ _ hk, Nat.mul_mod, ← Nat.pow_mod (b * b), ← Nat.pow_two, ← Nat.pow_mul]
    split
    · rename_i h1
      rw [Nat.mod_mod, ← Nat.mul_mod, Nat.mul_assoc, Nat.mul_comm b, ← Nat.pow_succ, show (2 * (k / 2)).succ = k by omega]
    · rw [← Nat.mul_mod, show 2 * (k / 2) = k by omega]
theorem fast {m f b k r : Nat} (hk : k < 2 ^ f) (h : fastP m f b k 1 % m = r) : b ^ k % m = r := by
  rw [← h, fastP_spec m f b k 1 hk, Nat.one_mul]
def noDiv (n : Nat) : Nat → Nat → Bool
  | 0, _ => true
  | f + 1, d => n % d != 0 && noDiv n f (d + 1)
theorem noDiv_spec (n : Nat) : ∀ f d : Nat, noDiv n f d = true → ∀ e, d ≤ e → e < d + f → ¬ e ∣ n
  | 0, d, _, e, h1, h2 => by omega
  | f + 1, d, h, e, h1, h2 => by
    simp only [noDiv, Bool.and_eq_true, bne_iff_ne] at h
    rcases Nat.eq_or_lt_of_le h1 with rfl | h3
    · intro hd; exact h.1 (Nat.mod_eq_zero_of_dvd hd)
    · exact noDiv_spec n f (d + 1) h.2 e h3 (by omega)
theorem pr_trial {n f : Nat} (h2 : 2 ≤ n) (hf : n < (f + 2) * (f + 2)) (h : noDiv n f 2 = true) : Pr n := by
  apply Classical.byContradiction
  intro hn
  obtain ⟨p, hp, hd, hpp⟩ := pr_small h2 hn
  have hp2 := hp.1
  refine noDiv_spec n f 2 h p hp2 ?_ hd
  rcases Nat.lt_or_ge p (2 + f) with h3 | h3
  · exact h3
  · have : (f + 2) * (f + 2) ≤ p * p := Nat.mul_le_mul (by omega) (by omega)
    omega
theorem pock' {N M q R a v : Nat} (hN : N = M + 1) (hM : M = q * R) (hq : Pr q) (h2 : 2 ≤ N) (hs : N ≤ q * q) (h1 : a ^ M % N = 1) (h3 : a ^ R % N = v) (hg : Nat.gcd (v + M) N = 1) : Pr N := by
  have e : N - 1 = M := by omega
  exact pock (R := R) (a := a) (by omega) hq h2 hs (by rw [e]; exact h1) (by rw [h3, e]; exact hg)
theorem fast' {m f b k r : Nat} (hf : 2 ^ f = 18446744073709551616) (hk : k < 18446744073709551616) (h : fastP m f b k 1 % m = r) : b ^ k % m = r := fast (by rw [hf]; exact hk) h
theorem fermat' {p a M : Nat} (hp : Pr p) (hM : p = M + 1) (ha : ¬ p ∣ a) : a ^ M % p = 1 := by
  have := fermat hp ha
  rwa [show p - 1 = M by omega] at this
def m1 : Nat := 4886285448
def r1 : Nat := 264
def r2 : Nat := 235950502
def m2 : Nat := 1152921504606845398
def m3 : Nat := 2305843009213690798
theorem pr0 : Pr 18508657 := pr_trial (f := 4301) (by decide) (by decide) (by decide +kernel)
theorem pr1 : Pr 4886285449 := pock' (M := m1) (q := 18508657) (R := r1) (a := 2) (v := 908698948) (by decide) (by decide) pr0 (by decide) (by decide) (fast' (f := 64) (by decide) (by decide) (by decide +kernel)) (fast' (f := 64) (by decide) (by decide) (by decide +kernel)) (by decide +kernel)
theorem pr2 : Pr 1152921504606845399 := pock' (M := m2) (q := 4886285449) (R := r2) (a := 2) (v := 647794900559384321) (by decide) (by decide) pr1 (by decide) (by decide) (fast' (f := 64) (by decide) (by decide) (by decide +kernel)) (fast' (f := 64) (by decide) (by decide) (by decide +kernel)) (by decide +kernel)
theorem pr3 : Pr 2305843009213690799 := pock' (M := m3) (q := 1152921504606845399) (R := 2) (a := 2) (v := 4) (by decide) (by decide) pr2 (by decide) (by decide) (fast' (f := 64) (by decide) (by decide) (by decide +kernel)) (fast' (f := 64) (by decide) (by decide) (by decide +kernel)) (by decide +kernel)
theorem kn_lt {u d y1 y0 : Int} (hy : 0 < y1 * 4294967296 + y0) (hd : d < 4294967296) (hu : u < y1 * 4294967296 + y0) : (u * 4294967296 + d) / (y1 * 4294967296 + y0) < 4294967296 := by
  rw [Int.ediv_lt_iff_lt_mul hy]
  have : (u + 1) * 4294967296 ≤ (y1 * 4294967296 + y0) * 4294967296 := Int.mul_le_mul_of_nonneg_right hu (by decide)
  rw [Int.mul_comm 4294967296 (y1 * 4294967296 + y0)]
  omega
theorem kn_expand (q y1 y0 rhat u : Int) (hq : q * y1 + rhat = u) : q * (y1 * 4294967296 + y0) + rhat * 4294967296 = u * 4294967296 + q * y0 := by
  subst hq
  rw [Int.mul_add, Int.add_mul, Int.mul_assoc]
  omega
theorem kn_test {u d y1 y0 q rhat : Int} (hy : 0 < y1 * 4294967296 + y0) (hd : d < 4294967296) (hu : u < y1 * 4294967296 + y0) (hq : q * y1 + rhat = u) :
    (4294967296 ≤ q → (u * 4294967296 + d) / (y1 * 4294967296 + y0) < q) ∧ (4294967296 * rhat + d < q * y0 ↔ (u * 4294967296 + d) / (y1 * 4294967296 + y0) < q) := by
  have h1 := kn_lt hy hd hu
  have h2 := kn_expand q y1 y0 rhat u hq
  refine ⟨fun h => by omega, fun h => ?_, fun h => ?_⟩
  · rw [Int.ediv_lt_iff_lt_mul hy]; omega
  · rw [Int.ediv_lt_iff_lt_mul hy] at h; omega
theorem kn_bound {u y1 y0 q rhat : Int} (h1 : 2147483648 ≤ y1) (h0 : y0 < 4294967296) (hr : 0 ≤ rhat) (hu : u < y1 * 4294967296 + y0) (hq : q * y1 + rhat = u) : q ≤ 4294967298 := by
  rcases Int.lt_or_le 4294967298 q with h | h
  · have : 4294967299 * y1 ≤ q * y1 := Int.mul_le_mul_of_nonneg_right h (by omega)
    omega
  · exact h
theorem kn_stop {u d y1 y0 q rhat : Int} (hy : 0 < y1 * 4294967296 + y0) (h0 : y0 < 4294967296) (hp : 0 ≤ y0) (hd : 0 ≤ d) (hq : q * y1 + rhat = u) (hb : q ≤ 4294967297) (hr : 4294967296 ≤ rhat) : q ≤ (u * 4294967296 + d) / (y1 * 4294967296 + y0) := by
  rw [Int.le_ediv_iff_mul_le hy]
  have h2 := kn_expand q y1 y0 rhat u hq
  have h3 : q * y0 ≤ 4294967297 * y0 := Int.mul_le_mul_of_nonneg_right hb hp
  omega
theorem kn_dec {u y1 q rhat : Int} (hq : q * y1 + rhat = u) : (q - 1) * y1 + (rhat + y1) = u := by
  rw [Int.sub_mul]; omega
theorem kn_start {u y1 y0 d : Int} (h1 : 2147483648 ≤ y1) (h0 : y0 < 4294967296) (hp : 0 ≤ y0) (hd : 0 ≤ d) (hd2 : d < 4294967296) (hu0 : 0 ≤ u) : (u * 4294967296 + d) / (y1 * 4294967296 + y0) ≤ u / y1 ∧ u / y1 * y1 + u % y1 = u ∧ 0 ≤ u % y1 ∧ u % y1 < y1 ∧ 0 ≤ u / y1 ∧ 0 ≤ (u * 4294967296 + d) / (y1 * 4294967296 + y0) := by
  have e : u / y1 * y1 + u % y1 = u := Int.ediv_mul_add_emod u y1
  have h3 : 0 ≤ u % y1 := Int.emod_nonneg _ (by omega)
  have h4 : u % y1 < y1 := Int.emod_lt_of_pos _ (by omega)
  have h5 : 0 ≤ u / y1 := Int.ediv_nonneg hu0 (by omega)
  refine ⟨?_, e, h3, h4, h5, Int.ediv_nonneg (by omega) (by omega)⟩
  have h6 : (u * 4294967296 + d) / (y1 * 4294967296 + y0) < u / y1 + 1 := by
    rw [Int.ediv_lt_iff_lt_mul (by omega)]
    have h7 := kn_expand (u / y1) y1 y0 (u % y1) u e
    have h8 : 0 ≤ u / y1 * y0 := Int.mul_nonneg h5 hp
    rw [Int.add_mul, Int.one_mul]
    omega
  omega
/-- both digits together -/
theorem kn_div (a d0 y : Int) (hy : 0 < y) :
    (a * 4294967296 + d0) / y = a / y * 4294967296 + (a % y * 4294967296 + d0) / y ∧
    (a * 4294967296 + d0) % y = (a % y * 4294967296 + d0) % y := by
  have e := Int.mul_ediv_add_emod a y
  have e2 : a * 4294967296 + d0 = (a % y * 4294967296 + d0) + y * (a / y * 4294967296) := by
    rw [← Int.mul_assoc]
    generalize a % y = r at *
    generalize y * (a / y) = s at *
    omega
  constructor
  · rw [e2, Int.add_mul_ediv_left _ _ (by omega), Int.add_comm]
  · rw [e2, Int.add_mul_emod_self_left]
theorem kn_norm (N y : Int) (s : Nat) : N * 2 ^ s / (y * 2 ^ s) = N / y ∧ N * 2 ^ s % (y * 2 ^ s) / 2 ^ s = N % y := by
  have h : (0 : Int) < 2 ^ s := Int.pow_pos (by decide)
  constructor
  · rw [Int.mul_ediv_mul_of_pos_left _ _ h]
  · rw [Int.mul_comm N, Int.mul_comm y, Int.mul_emod_mul_of_pos _ _ h, Int.mul_ediv_cancel_left _ (by omega)]
def sP : Int := 2305843009213690799
def sQ : Int := 1152921504606845399
def powI (b : Int) (k : Nat) : Int := b ^ k % 2305843009213690799
theorem powI_range (b : Int) (k : Nat) : 0 ≤ powI b k ∧ powI b k < 2305843009213690799 := by
  unfold powI
  exact ⟨Int.emod_nonneg _ (by decide), Int.emod_lt_of_pos _ (by decide)⟩
theorem powI_add (b : Int) (m n : Nat) : powI b (m + n) = powI b m * powI b n % 2305843009213690799 := by
  unfold powI
  rw [Int.pow_add, Int.mul_emod]
theorem powI_sq (b : Int) (k : Nat) : powI b (2 * k) = powI b k * powI b k % 2305843009213690799 := by
  rw [show 2 * k = k + k by omega, powI_add]
theorem powI_one (b : Int) (k : Nat) : powI b (k + 1) = powI b k * b % 2305843009213690799 := by
  unfold powI
  rw [Int.pow_succ, Int.mul_emod, Int.mul_emod (b ^ k % _) b, Int.emod_emod]
theorem emod_pow (b m : Int) : ∀ k : Nat, (b % m) ^ k % m = b ^ k % m
  | 0 => by rw [Int.pow_zero, Int.pow_zero]
  | k + 1 => by
    rw [Int.pow_succ, Int.mul_emod, emod_pow b m k, Int.emod_emod, ← Int.mul_emod, ← Int.pow_succ]
theorem powI_mod (b : Int) (k : Nat) : powI (b % 2305843009213690799) k = powI b k := emod_pow b _ k
theorem powI_mul (b : Int) (m n : Nat) : powI (powI b m) n = powI b (m * n) := by
  have h := emod_pow (b ^ m) 2305843009213690799 n
  rw [← Int.pow_mul] at h
  exact h
theorem powI_comm (b : Int) (m n : Nat) : powI (powI b m) n = powI (powI b n) m := by
  rw [powI_mul, powI_mul, Nat.mul_comm]
theorem powI_zero (b : Int) : powI b 0 = 1 := by
  unfold powI; rw [Int.pow_zero]; rfl
/-- one round of the doubling product -/
theorem times_round (o a b m : Int) : ((if b % 2 = 1 then (o + a) % m else o) + (a + a) % m * (b / 2)) % m = (o + a * b) % m := by
  have e : a * b = (a + a) * (b / 2) + a * (b % 2) := by
    have h := Int.mul_ediv_add_emod b 2
    rw [← Int.two_mul, Int.mul_comm 2 a, Int.mul_assoc, ← Int.mul_add, h]
  have e2 : ((a + a) % m * (b / 2)) % m = ((a + a) * (b / 2)) % m := by rw [Int.mul_emod, Int.emod_emod, ← Int.mul_emod]
  rw [e]
  by_cases h : b % 2 = 1
  · rw [if_pos h, h, Int.mul_one, Int.add_emod, Int.emod_emod, e2, ← Int.add_emod]
    congr 1; omega
  · rw [if_neg h, show b % 2 = 0 by omega, Int.mul_zero, Int.add_zero, Int.add_emod, e2, ← Int.add_emod]
/-- one round of the right-to-left power -/
theorem pow_round (o b : Int) (n : Nat) : ((if n % 2 = 1 then o * b % 2305843009213690799 else o) * (b * b % 2305843009213690799) ^ (n / 2)) % 2305843009213690799 = (o * b ^ n) % 2305843009213690799 := by
  have e2 : (b * b % 2305843009213690799) ^ (n / 2) % 2305843009213690799 = (b ^ (2 * (n / 2))) % 2305843009213690799 := by
    rw [emod_pow, Int.pow_mul, show b ^ 2 = b * b by rw [Int.pow_succ, Int.pow_succ, Int.pow_zero, Int.one_mul]]
  rw [Int.mul_emod, e2]
  by_cases h : n % 2 = 1
  · rw [if_pos h, Int.emod_emod, ← Int.mul_emod]
    have : (2 * (n / 2)).succ = n := by omega
    rw [Int.mul_assoc, Int.mul_comm b, ← Int.pow_succ, this]
  · rw [if_neg h, ← Int.mul_emod]
    have : n = 2 * (n / 2) := by omega
    rw [← this]
theorem powI_nat (x k : Nat) : powI (x : Int) k = ((x ^ k % 2305843009213690799 : Nat) : Int) := by
  unfold powI
  rw [Int.natCast_emod, Int.natCast_pow]
  rfl
theorem not_dvd {x : Nat} (h0 : 0 < x) (h1 : x < 2305843009213690799) : ¬ 2305843009213690799 ∣ x := fun h => by
  have := Nat.le_of_dvd h0 h
  omega
theorem powI_fermat {x : Int} (h0 : 0 < x) (h1 : x < 2305843009213690799) : powI x m3 = 1 := by
  obtain ⟨n, rfl⟩ := Int.eq_ofNat_of_zero_le (Int.le_of_lt h0)
  have := fermat' (M := m3) pr3 (by decide) (a := n) (not_dvd (by omega) (by omega))
  rw [powI_nat]
  exact congrArg Int.ofNat this
def mQ : Nat := 1152921504606845399
theorem powI_euler {x : Int} (h0 : 0 < x) (h1 : x < 2305843009213690799) : powI x mQ = 1 ∨ powI x mQ = 2305843009213690798 := by
  have h2 := powI_add x mQ mQ
  rw [show mQ + mQ = m3 by decide, powI_fermat h0 h1] at h2
  obtain ⟨h3, h4⟩ := powI_range x mQ
  generalize powI x mQ = y at *
  obtain ⟨n, rfl⟩ := Int.eq_ofNat_of_zero_le h3
  have h5 : (n * n) % 2305843009213690799 = 1 := by
    have : ((n * n % 2305843009213690799 : Nat) : Int) = 1 := by rw [Int.natCast_emod, Int.natCast_mul]; exact h2.symm
    omega
  have hn : 0 < n := by
    rcases Nat.eq_zero_or_pos n with h | h
    · subst h; simp at h5
    · exact h
  have h6 : 2305843009213690799 ∣ (n - 1) * (n + 1) := by
    have e : (n - 1) * (n + 1) = n * n - 1 := by
      obtain ⟨k, rfl⟩ : ∃ k, n = k + 1 := ⟨n - 1, by omega⟩
      simp only [Nat.add_sub_cancel]
      rw [Nat.mul_add, Nat.mul_one, Nat.add_mul, Nat.one_mul, Nat.mul_add, Nat.mul_one]
      omega
    rw [e]
    refine ⟨n * n / 2305843009213690799, ?_⟩
    have := Nat.div_add_mod (n * n) 2305843009213690799
    omega
  rcases pr_euclid pr3 h6 with h | h
  · left
    rcases Nat.eq_zero_or_pos (n - 1) with h7 | h7
    · omega
    · exact absurd h (not_dvd h7 (by omega))
  · right
    rcases Nat.lt_or_ge (n + 1) 2305843009213690799 with h7 | h7
    · exact absurd h (not_dvd (by omega) h7)
    · omega
theorem neg_odd (x : Int) (m : Nat) : (-x) ^ (2 * m + 1) = -(x ^ (2 * m + 1)) := by
  have h : (-x) ^ 2 = x ^ 2 := by
    rw [Int.pow_succ, Int.pow_succ, Int.pow_zero, Int.pow_succ, Int.pow_succ, Int.pow_zero, Int.one_mul, Int.one_mul, Int.neg_mul_neg]
  rw [Int.pow_succ, Int.pow_succ, Int.pow_mul, Int.pow_mul, h, Int.mul_neg]
theorem powI_neg (x : Int) : powI (2305843009213690799 - x) mQ = (2305843009213690799 - powI x mQ) % 2305843009213690799 := by
  rw [← powI_mod, show (2305843009213690799 - x) % 2305843009213690799 = (-x) % 2305843009213690799 by omega, powI_mod]
  unfold powI
  rw [show mQ = 2 * 576460752303422699 + 1 from rfl, neg_odd]
  generalize x ^ (2 * 576460752303422699 + 1) = y
  omega
theorem powI_g : powI 4 mQ = 1 := by
  have h : 4 ^ mQ % 2305843009213690799 = 1 := fast' (f := 64) (by decide) (by decide) (by decide +kernel)
  have := powI_nat 4 mQ
  rw [h] at this
  exact this
def powZ (b n : Int) : Int := powI b n.toNat
theorem powZ_range (b n : Int) : 0 ≤ powZ b n ∧ powZ b n < 2305843009213690799 := powI_range b n.toNat
theorem powZ_add (b : Int) {m n : Int} (hm : 0 ≤ m) (hn : 0 ≤ n) : powZ b (m + n) = powZ b m * powZ b n % 2305843009213690799 := by
  unfold powZ
  rw [show (m + n).toNat = m.toNat + n.toNat by omega, powI_add]
theorem powZ_comm (b m n : Int) : powZ (powZ b m) n = powZ (powZ b n) m := powI_comm b m.toNat n.toNat
theorem powZ_mul (b : Int) {m n : Int} (hm : 0 ≤ m) (hn : 0 ≤ n) : powZ (powZ b m) n = powZ b (m * n) := by
  unfold powZ
  rw [powI_mul]
  congr 1
  obtain ⟨x, rfl⟩ := Int.eq_ofNat_of_zero_le hm
  obtain ⟨y, rfl⟩ := Int.eq_ofNat_of_zero_le hn
  rw [← Int.natCast_mul]
  rfl
theorem powZ_Q (b : Int) : powZ b 1152921504606845399 = powI b mQ := rfl
theorem powZ_g : powZ 4 1152921504606845399 = 1 := powI_g
theorem powZ_fermat {x : Int} (h0 : 0 < x) (h1 : x < 2305843009213690799) : powZ x 2305843009213690798 = 1 := powI_fermat h0 h1
theorem powZ_euler {x : Int} (h0 : 0 < x) (h1 : x < 2305843009213690799) : powZ x 1152921504606845399 = 1 ∨ powZ x 1152921504606845399 = 2305843009213690798 := powI_euler h0 h1
theorem powZ_neg (x : Int) : powZ (2305843009213690799 - x) 1152921504606845399 = (2305843009213690799 - powZ x 1152921504606845399) % 2305843009213690799 := powI_neg x
theorem powZ_one (n : Int) : powZ 1 n = 1 := by
  unfold powZ powI
  rw [Int.one_pow]
  rfl
/-- with an exponent taken modulo Q, for a base of order Q -/
theorem powZ_red {b : Int} (hb : powZ b 1152921504606845399 = 1) (n : Int) (hn : 0 ≤ n) : powZ b (n % 1152921504606845399) = powZ b n := by
  have e : n = n % 1152921504606845399 + 1152921504606845399 * (n / 1152921504606845399) := (Int.emod_add_mul_ediv n 1152921504606845399).symm
  have h0 : 0 ≤ n % 1152921504606845399 := Int.emod_nonneg _ (by decide)
  have h1 : 0 ≤ n / 1152921504606845399 := Int.ediv_nonneg hn (by decide)
  have hr := powZ_range b (n % 1152921504606845399)
  conv => rhs; rw [e]
  rw [powZ_add b h0 (by omega), ← powZ_mul b (by decide) h1, hb, powZ_one, Int.mul_one]
  omega
def validL (x : Int) : Bool := decide (2 ≤ x ∧ x < 2305843009213690799 ∧ powZ x 1152921504606845399 = 1)
theorem valid_edge {x : Int} (h0 : 0 ≤ x) (h1 : x < 2305843009213690799) (h : x < 2 ∨ 2305843009213690797 < x) : validL x = false := by
  unfold validL
  apply decide_eq_false
  rintro ⟨h2, h3, h4⟩
  have h5 := powZ_neg (2305843009213690799 - x)
  rw [show 2305843009213690799 - (2305843009213690799 - x) = x by omega, h4, show 2305843009213690799 - x = 1 by omega, powZ_one] at h5
  omega
theorem valid_half {x : Int} (h0 : 2 ≤ x) (h1 : x ≤ 2305843009213690797) : validL (2305843009213690799 - x) = !validL x := by
  have h2 := powZ_neg x
  have e1 : validL x = decide (powZ x 1152921504606845399 = 1) := by
    unfold validL
    congr 1
    exact propext ⟨fun h => h.2.2, fun h => ⟨h0, by omega, h⟩⟩
  have e2 : validL (2305843009213690799 - x) = decide (powZ (2305843009213690799 - x) 1152921504606845399 = 1) := by
    unfold validL
    congr 1
    exact propext ⟨fun h => h.2.2, fun h => ⟨by omega, by omega, h⟩⟩
  rw [e1, e2, h2]
  rcases powZ_euler (x := x) (by omega) (by omega) with h | h <;> rw [h] <;> decide
theorem keys_sum {a b : Int} (ha : 0 ≤ a) (hb : 0 ≤ b) : powZ 4 ((a + b) % 1152921504606845399) = powZ 4 a * powZ 4 b % 2305843009213690799 := by
  rw [powZ_red powZ_g _ (by omega), powZ_add 4 ha hb]

end Go.Proofs.YtgnekjlciiefbaaDoor.PI
