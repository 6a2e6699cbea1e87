/-
  Words: what the pure operations do on machine words.
  Conditions: none; these are definitions and lemmas.
-/
import Derived.Test.YtgppecaeegaooaaEngR
namespace Go.Proofs.Ytgppecaeegaooaa.PI
open Go
def wD (x : UInt32) : D := .int .u32 (x.toNat : Int)
theorem wrap_u64 (n : Nat) : IntKind.wrap .u64 (n : Int) = ((n % 2 ^ 64 : Nat) : Int) := by
  simp [IntKind.wrap, IntKind.signed, IntKind.bits]
theorem wrap_i64 {n : Int} (h1 : -9223372036854775808 ≤ n) (h2 : n < 9223372036854775808) : IntKind.wrap .i64 n = n := by
  show (if (true && decide (n % (2 ^ 64 : Int) ≥ (2 ^ (64 - 1) : Int))) = true then n % (2 ^ 64 : Int) - (2 ^ 64 : Int) else n % (2 ^ 64 : Int)) = n
  by_cases h : n % (2 ^ 64 : Int) ≥ (2 ^ (64 - 1) : Int)
  · rw [if_pos (by simpa using h)]; omega
  · rw [if_neg (by simpa using h)]; omega
theorem add_i {a b : Int} (h1 : -9223372036854775808 ≤ a + b) (h2 : a + b < 9223372036854775808) : pbin .add (.int .i64 a) (.int .i64 b) = some (.int .i64 (a + b)) := by
  simp only [pbin, if_true, iarith, Option.map_some, wrap_i64 h1 h2]
theorem sub_i {a b : Int} (h1 : -9223372036854775808 ≤ a - b) (h2 : a - b < 9223372036854775808) : pbin .sub (.int .i64 a) (.int .i64 b) = some (.int .i64 (a - b)) := by
  simp only [pbin, if_true, iarith, Option.map_some, wrap_i64 h1 h2]
theorem mul_i {a b : Int} (h1 : -9223372036854775808 ≤ a * b) (h2 : a * b < 9223372036854775808) : pbin .mul (.int .i64 a) (.int .i64 b) = some (.int .i64 (a * b)) := by
  simp only [pbin, if_true, iarith, Option.map_some, wrap_i64 h1 h2]
end Go.Proofs.Ytgppecaeegaooaa.PI
