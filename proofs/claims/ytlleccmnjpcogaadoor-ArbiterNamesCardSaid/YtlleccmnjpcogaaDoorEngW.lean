/-
  Words: what the pure operations do on machine words.
  Conditions: none; these are definitions and lemmas.
-/
import Derived.Test.YtlleccmnjpcogaaDoorEngR
set_option linter.unusedVariables false
set_option linter.unusedSimpArgs false
namespace Go.Proofs.YtlleccmnjpcogaaDoor.PI
open Go
def wD (x:UInt32):D := .int .u32 (x.toNat:Int)
def qD (x:UInt64):D := .int .u64 (x.toNat:Int)
theorem ofInt_nat {n:Nat} (m:Nat):BitVec.ofInt n (m:Int) = BitVec.ofNat n m := BitVec.ofInt_natCast ..
theorem wrap_u32 (n:Nat):IntKind.wrap .u32 (n:Int) = ((n % 2 ^ 32:Nat):Int) := by
 simp [IntKind.wrap,IntKind.signed,IntKind.bits]
theorem wrap_u64 (n:Nat):IntKind.wrap .u64 (n:Int) = ((n % 2 ^ 64:Nat):Int) := by
 simp [IntKind.wrap,IntKind.signed,IntKind.bits]
theorem wrap_u8 (n:Nat):IntKind.wrap .u8 (n:Int) = ((n % 2 ^ 8:Nat):Int) := by
 simp [IntKind.wrap,IntKind.signed,IntKind.bits]
theorem add_w (x y:UInt32):pbin .add (wD x) (wD y) = some (wD (x + y)) := by
 simp only [pbin,wD,if_true,iarith,Option.map_some]
 rw [← Int.natCast_add,wrap_u32]
 simp [UInt32.toNat_add]
theorem bv_w (x:UInt32):BitVec.ofInt 32 (x.toNat:Int) = x.toBitVec := by
 rw [ofInt_nat]; simp
theorem bv_b (x:UInt8):BitVec.ofInt 8 (x.toNat:Int) = x.toBitVec := by
 rw [ofInt_nat]; simp
theorem mod_w (x:UInt32):x.toNat % 2 ^ 32 = x.toNat := Nat.mod_eq_of_lt x.toNat_lt
theorem and_w (x y:UInt32):pbin .and (wD x) (wD y) = some (wD (x &&& y)) := by
 have h:(BitVec.ofInt (IntKind.bits .u32) (x.toNat:Int) &&& BitVec.ofInt (IntKind.bits .u32) (y.toNat:Int)).toNat = (x &&& y).toNat := by
  show (BitVec.ofInt 32 (x.toNat:Int) &&& BitVec.ofInt 32 (y.toNat:Int)).toNat = _
  rw [bv_w,bv_w]; rfl
 simp only [pbin,wD,if_true,ibits,Option.map_some,h,wrap_u32,mod_w]
theorem or_w (x y:UInt32):pbin .or (wD x) (wD y) = some (wD (x ||| y)) := by
 have h:(BitVec.ofInt (IntKind.bits .u32) (x.toNat:Int) ||| BitVec.ofInt (IntKind.bits .u32) (y.toNat:Int)).toNat = (x ||| y).toNat := by
  show (BitVec.ofInt 32 (x.toNat:Int) ||| BitVec.ofInt 32 (y.toNat:Int)).toNat = _
  rw [bv_w,bv_w]; rfl
 simp only [pbin,wD,if_true,ibits,Option.map_some,h,wrap_u32,mod_w]
theorem xor_w (x y:UInt32):pbin .xor (wD x) (wD y) = some (wD (x ^^^ y)) := by
 have h:(BitVec.ofInt (IntKind.bits .u32) (x.toNat:Int) ^^^ BitVec.ofInt (IntKind.bits .u32) (y.toNat:Int)).toNat = (x ^^^ y).toNat := by
  show (BitVec.ofInt 32 (x.toNat:Int) ^^^ BitVec.ofInt 32 (y.toNat:Int)).toNat = _
  rw [bv_w,bv_w]; rfl
 simp only [pbin,wD,if_true,ibits,Option.map_some,h,wrap_u32,mod_w]
theorem not_w (x:UInt32):pun .xor (wD x) = some (wD (~~~x)) := by
 have h1:(IntKind.max .u32) = ((4294967295:UInt32).toNat:Int) := by decide
 have h:(BitVec.ofInt (IntKind.bits .u32) ((4294967295:UInt32).toNat:Int) ^^^ BitVec.ofInt (IntKind.bits .u32) (x.toNat:Int)).toNat = (~~~x).toNat := by
  show (BitVec.ofInt 32 ((4294967295:UInt32).toNat:Int) ^^^ BitVec.ofInt 32 (x.toNat:Int)).toNat = _
  rw [bv_w,bv_w,show (4294967295:UInt32).toBitVec = BitVec.allOnes 32 from rfl,BitVec.allOnes_xor]
  rfl
 simp only [pun,wD,ibits,Option.map_some,show IntKind.signed .u32 = false from rfl,Bool.false_eq_true,if_false,h1,h,wrap_u32,mod_w]
theorem conv_bw (st:St) (b:UInt8):pconv st (.int .u32) (byteD b) = some (wD b.toUInt32) := by
 simp only [pconv,byteD,wD,wrap_u32,UInt8.toNat_toUInt32]
 have := b.toNat_lt
 rw [Nat.mod_eq_of_lt (by omega)]
theorem conv_wb (st:St) (x:UInt32):pconv st (.int .u8) (wD x) = some (byteD x.toUInt8) := by
 simp only [pconv,byteD,wD,wrap_u8,UInt32.toNat_toUInt8]
theorem conv_qb (st:St) (x:UInt64):pconv st (.int .u8) (qD x) = some (byteD x.toUInt8) := by
 simp only [pconv,byteD,qD,wrap_u8,UInt64.toNat_toUInt8]
theorem shl_w (x:UInt32) (k:IntKind) (n:Nat) (h:n < 32):pbin .shl (wD x) (.int k (n:Int)) = some (wD (x <<< (UInt32.ofNat n))) := by
 have e:(x <<< (UInt32.ofNat n)).toNat = x.toNat * 2 ^ n % 2 ^ 32 := by
  rw [UInt32.toNat_shiftLeft,Nat.shiftLeft_eq,UInt32.toNat_ofNat',Nat.mod_eq_of_lt (show n < 2 ^ 32 by omega),Nat.mod_eq_of_lt h]
 have e2:((x.toNat:Int) * 2 ^ n) = ((x.toNat * 2 ^ n:Nat):Int) := by push_cast; rfl
 simp only [pbin,wD,ishift,show ¬ ((n:Int) < 0) by omega,if_false,Option.map_some,Int.toNat_natCast,show IntKind.bits .u32 = 32 from rfl,Nat.min_eq_left (Nat.le_of_lt h),e2,wrap_u32,e]
theorem shr_w (x:UInt32) (k:IntKind) (n:Nat) (h:n < 32):pbin .shr (wD x) (.int k (n:Int)) = some (wD (x >>> (UInt32.ofNat n))) := by
 have e:(x >>> (UInt32.ofNat n)).toNat = x.toNat / 2 ^ n := by
  rw [UInt32.toNat_shiftRight,Nat.shiftRight_eq_div_pow,UInt32.toNat_ofNat',Nat.mod_eq_of_lt (show n < 2 ^ 32 by omega),Nat.mod_eq_of_lt h]
 have e2:(x.toNat:Int).fdiv (2 ^ n) = ((x.toNat / 2 ^ n:Nat):Int) := by
  have:(2 ^ n:Int) = ((2 ^ n:Nat):Int) := by push_cast; rfl
  rw [this,Int.fdiv_eq_ediv_of_nonneg _ (Int.natCast_nonneg _)]; rfl
 simp only [pbin,wD,ishift,show ¬ ((n:Int) < 0) by omega,if_false,Option.map_some,Int.toNat_natCast,show IntKind.bits .u32 = 32 from rfl,Nat.min_eq_left (Nat.le_of_lt h),e2,e]
theorem shr_q (x:UInt64) (k:IntKind) (n:Nat) (h:n < 64):pbin .shr (qD x) (.int k (n:Int)) = some (qD (x >>> (UInt64.ofNat n))) := by
 have e:(x >>> (UInt64.ofNat n)).toNat = x.toNat / 2 ^ n := by
  rw [UInt64.toNat_shiftRight,Nat.shiftRight_eq_div_pow,UInt64.toNat_ofNat',Nat.mod_eq_of_lt (show n < 2 ^ 64 by omega),Nat.mod_eq_of_lt h]
 have e2:(x.toNat:Int).fdiv (2 ^ n) = ((x.toNat / 2 ^ n:Nat):Int) := by
  have:(2 ^ n:Int) = ((2 ^ n:Nat):Int) := by push_cast; rfl
  rw [this,Int.fdiv_eq_ediv_of_nonneg _ (Int.natCast_nonneg _)]; rfl
 simp only [pbin,qD,ishift,show ¬ ((n:Int) < 0) by omega,if_false,Option.map_some,Int.toNat_natCast,show IntKind.bits .u64 = 64 from rfl,Nat.min_eq_left (Nat.le_of_lt h),e2,e]
theorem wrap_i64 {n:Int} (h1:-9223372036854775808 ≤ n) (h2:n < 9223372036854775808):IntKind.wrap .i64 n = n := by
 show (if (true && decide (n % (2 ^ 64:Int) ≥ (2 ^ (64 - 1):Int))) = true then n % (2 ^ 64:Int) - (2 ^ 64:Int) else n % (2 ^ 64:Int)) = n
 by_cases h:n % (2 ^ 64:Int) ≥ (2 ^ (64 - 1):Int)
 ·rw [if_pos (by simpa using h)]; omega
 ·rw [if_neg (by simpa using h)]; omega
theorem add_i {a b:Int} (h1:-9223372036854775808 ≤ a + b) (h2:a + b < 9223372036854775808):pbin .add (.int .i64 a) (.int .i64 b) = some (.int .i64 (a + b)) := by
 simp only [pbin,if_true,iarith,Option.map_some,wrap_i64 h1 h2]
theorem sub_i {a b:Int} (h1:-9223372036854775808 ≤ a - b) (h2:a - b < 9223372036854775808):pbin .sub (.int .i64 a) (.int .i64 b) = some (.int .i64 (a - b)) := by
 simp only [pbin,if_true,iarith,Option.map_some,wrap_i64 h1 h2]
theorem mul_i {a b:Int} (h1:-9223372036854775808 ≤ a * b) (h2:a * b < 9223372036854775808):pbin .mul (.int .i64 a) (.int .i64 b) = some (.int .i64 (a * b)) := by
 simp only [pbin,if_true,iarith,Option.map_some,wrap_i64 h1 h2]
end Go.Proofs.YtlleccmnjpcogaaDoor.PI
