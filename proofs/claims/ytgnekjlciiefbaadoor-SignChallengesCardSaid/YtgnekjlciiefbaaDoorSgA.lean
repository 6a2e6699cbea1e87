/-
  Numbers of 64 bits: what the pure operations do.
  Conditions: none; these are lemmas.
-/
import Derived.Test.YtgnekjlciiefbaaDoorSgP
namespace Go.Proofs.YtgnekjlciiefbaaDoor.PI
open Go
set_option linter.unusedSimpArgs false
set_option linter.unusedVariables false

theorem wrapU (n : Int) : IntKind.wrap .u64 n = n % 18446744073709551616 := rfl
theorem wrapU_id {n : Int} (h0 : 0 ≤ n) (h1 : n < 18446744073709551616) : IntKind.wrap .u64 n = n := by rw [wrapU]; omega
theorem add_u {a b : Int} (h0 : 0 ≤ a + b) (h1 : a + b < 18446744073709551616) : pbin .add (.int .u64 a) (.int .u64 b) = some (.int .u64 (a + b)) := by
  simp only [pbin, if_true, iarith, Option.map_some, wrapU_id h0 h1]
theorem sub_u {a b : Int} (h0 : 0 ≤ a - b) (h1 : a - b < 18446744073709551616) : pbin .sub (.int .u64 a) (.int .u64 b) = some (.int .u64 (a - b)) := by
  simp only [pbin, if_true, iarith, Option.map_some, wrapU_id h0 h1]
theorem mul_u {a b : Int} (h0 : 0 ≤ a * b) (h1 : a * b < 18446744073709551616) : pbin .mul (.int .u64 a) (.int .u64 b) = some (.int .u64 (a * b)) := by
  simp only [pbin, if_true, iarith, Option.map_some, wrapU_id h0 h1]
theorem add_uw (a b : Int) : pbin .add (.int .u64 a) (.int .u64 b) = some (.int .u64 ((a + b) % 18446744073709551616)) := by
  simp only [pbin, if_true, iarith, Option.map_some, wrapU]
theorem sub_uw (a b : Int) : pbin .sub (.int .u64 a) (.int .u64 b) = some (.int .u64 ((a - b) % 18446744073709551616)) := by
  simp only [pbin, if_true, iarith, Option.map_some, wrapU]
theorem mul_uw (a b : Int) : pbin .mul (.int .u64 a) (.int .u64 b) = some (.int .u64 ((a * b) % 18446744073709551616)) := by
  simp only [pbin, if_true, iarith, Option.map_some, wrapU]
theorem quo_u {a b : Int} (hb : 0 < b) (ha : 0 ≤ a) (h2 : a < 18446744073709551616) : pbin .quo (.int .u64 a) (.int .u64 b) = some (.int .u64 (a / b)) := by
  have h3 : a.tdiv b = a / b := Int.tdiv_eq_ediv_of_nonneg ha
  have h4 : a / b ≤ a := Int.ediv_le_self b ha
  have h5 : 0 ≤ a / b := Int.ediv_nonneg ha (by omega)
  simp only [pbin, if_true, iarith, show ¬ b = 0 by omega, if_false, Option.map_some, h3, wrapU_id h5 (show a / b < 18446744073709551616 by omega)]
theorem rem_u {a b : Int} (hb : 0 < b) (ha : 0 ≤ a) : pbin .rem (.int .u64 a) (.int .u64 b) = some (.int .u64 (a % b)) := by
  have h3 : a.tmod b = a % b := Int.tmod_eq_emod_of_nonneg ha
  simp only [pbin, if_true, iarith, show ¬ b = 0 by omega, if_false, Option.map_some, h3]
theorem toNat_ofIntU {a : Int} (h0 : 0 ≤ a) (h1 : a < 18446744073709551616) : (BitVec.ofInt 64 a).toNat = a.toNat := by
  rw [BitVec.toNat_ofInt]
  omega
theorem and_mask {a : Int} (h0 : 0 ≤ a) (h1 : a < 18446744073709551616) : pbin .and (.int .u64 a) (.int .u64 4294967295) = some (.int .u64 (a % 4294967296)) := by
  have h : (BitVec.ofInt (IntKind.bits .u64) a &&& BitVec.ofInt (IntKind.bits .u64) 4294967295).toNat = (a % 4294967296).toNat := by
    show (BitVec.ofInt 64 a &&& BitVec.ofInt 64 4294967295).toNat = _
    rw [BitVec.toNat_and, toNat_ofIntU h0 h1, show (BitVec.ofInt 64 4294967295).toNat = 2 ^ 32 - 1 from rfl, Nat.and_two_pow_sub_one_eq_mod]
    omega
  simp only [pbin, if_true, ibits, Option.map_some, h]
  rw [wrapU_id (by omega) (by omega)]
  congr 2
  omega
theorem and_oneU {a : Int} (h0 : 0 ≤ a) (h1 : a < 18446744073709551616) : pbin .and (.int .u64 a) (.int .u64 1) = some (.int .u64 (a % 2)) := by
  have h : (BitVec.ofInt (IntKind.bits .u64) a &&& BitVec.ofInt (IntKind.bits .u64) 1).toNat = (a % 2).toNat := by
    show (BitVec.ofInt 64 a &&& BitVec.ofInt 64 1).toNat = _
    rw [BitVec.toNat_and, toNat_ofIntU h0 h1, show (BitVec.ofInt 64 1).toNat = 2 ^ 1 - 1 from rfl, Nat.and_two_pow_sub_one_eq_mod]
    omega
  simp only [pbin, if_true, ibits, Option.map_some, h]
  rw [wrapU_id (by omega) (by omega)]
  congr 2
  omega
/-- bits that do not overlap -/
theorem or_disj {a b : Int} (s : Nat) (h0 : 0 ≤ a) (h1 : a * 2 ^ s < 18446744073709551616) (h2 : 0 ≤ b) (h3 : b < 2 ^ s) (h4 : a * 2 ^ s + b < 18446744073709551616) : pbin .or (.int .u64 (a * 2 ^ s)) (.int .u64 b) = some (.int .u64 (a * 2 ^ s + b)) := by
  have hp : (0 : Int) < 2 ^ s := Int.pow_pos (by decide)
  have hm : 0 ≤ a * 2 ^ s := Int.mul_nonneg h0 (by omega)
  have h : (BitVec.ofInt (IntKind.bits .u64) (a * 2 ^ s) ||| BitVec.ofInt (IntKind.bits .u64) b).toNat = (a * 2 ^ s + b).toNat := by
    show (BitVec.ofInt 64 (a * 2 ^ s) ||| BitVec.ofInt 64 b).toNat = _
    rw [BitVec.toNat_or, toNat_ofIntU hm h1, toNat_ofIntU h2 (by omega)]
    obtain ⟨x, rfl⟩ := Int.eq_ofNat_of_zero_le h0
    obtain ⟨y, rfl⟩ := Int.eq_ofNat_of_zero_le h2
    have e : ((x : Int) * 2 ^ s) = ((2 ^ s * x : Nat) : Int) := by rw [Int.natCast_mul, Int.natCast_pow, Int.mul_comm]; rfl
    have hy : y < 2 ^ s := by
      have : ((2 ^ s : Nat) : Int) = 2 ^ s := by rw [Int.natCast_pow]; rfl
      omega
    rw [e, Int.toNat_natCast, Int.toNat_natCast, ← Nat.two_pow_add_eq_or_of_lt hy]
    omega
  simp only [pbin, if_true, ibits, Option.map_some, h]
  rw [wrapU_id (by omega) (by omega)]
  congr 2
  omega
theorem shl_u {k' : IntKind} {x n : Int} (h0 : 0 ≤ n) (h1 : n ≤ 64) : pbin .shl (.int .u64 x) (.int k' n) = some (.int .u64 ((x * 2 ^ n.toNat) % 18446744073709551616)) := by
  simp only [pbin, ishift, show ¬ n < 0 by omega, if_false, Option.map_some, show IntKind.bits .u64 = 64 from rfl, min_bits h1, wrapU]
theorem has_u64 {d : D} (h : Has (.int .u64) d) : ∃ n : Int, d = .int .u64 n ∧ 0 ≤ n ∧ n < 18446744073709551616 := by
  cases h with
  | int k n hw =>
    refine ⟨n, rfl, ?_⟩
    simp [Lit.wf, IntKind.min, IntKind.max, IntKind.signed, IntKind.bits] at hw
    omega
theorem has_sig {d : D} (h : Has (.agg [.int .u64, .int .u64]) d) : ∃ c : Int × Int, d = .agg [.int .u64 c.1, .int .u64 c.2] ∧ 0 ≤ c.1 ∧ c.1 < 18446744073709551616 ∧ 0 ≤ c.2 ∧ c.2 < 18446744073709551616 := by
  obtain ⟨x, y, rfl, h1, h2⟩ := has_agg2 h
  obtain ⟨n, rfl, a1, a2⟩ := has_u64 h1
  obtain ⟨m, rfl, b1, b2⟩ := has_u64 h2
  exact ⟨(n, m), rfl, a1, a2, b1, b2⟩
end Go.Proofs.YtgnekjlciiefbaaDoor.PI
