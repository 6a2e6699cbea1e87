/-
  The bytes of numbers.
  Conditions: none; these are lemmas.
-/
import Derived.Test.YteacnlikmagfcaaDoorDgC
import Derived.Test.YteacnlikmagfcaaDoorEngLaw
import Derived.Test.YteacnlikmagfcaaDoorEngV2
namespace Go.Proofs.YteacnlikmagfcaaDoor.PI
open Go
set_option linter.unusedSimpArgs false
set_option linter.unusedVariables false

/-- the first k of the size bytes of a number, most significant first -/
def beN (n : Int) (size k : Nat) : List UInt8 := (List.range k).map fun i => UInt8.ofNat (n / 2 ^ (8 * (size - 1 - i))).toNat
def be (n : Int) (size : Nat) : List UInt8 := beN n size size
theorem beN_succ (n : Int) (size k : Nat) : beN n size (k + 1) = beN n size k ++ [UInt8.ofNat (n / 2 ^ (8 * (size - 1 - k))).toNat] := by
  unfold beN; rw [List.range_succ, List.map_append]; rfl
theorem beN_length (n : Int) (size k : Nat) : (beN n size k).length = k := by unfold beN; simp
theorem be_length (n : Int) (size : Nat) : (be n size).length = size := beN_length n size size
theorem be_ne (n : Int) (size : Nat) (h : 0 < size) : (be n size).map byteD ≠ [] := by
  intro e
  have := congrArg List.length e
  simp [be_length] at this
  omega
/-- the name of the checksum's digest -/
def unitN : List UInt8 := [117, 110, 105, 116]
/-- the checksum of a record at an offset -/
def sumL (n : Int) (r : List UInt8) : List UInt8 := (taggedL unitN (be n 8 ++ r)).bs.take 8
theorem sumL_length (n : Int) (r : List UInt8) : (sumL n r).length = 8 := by
  unfold sumL; simp [(taggedL unitN (be n 8 ++ r)).len]
/-- the unit of a record at an offset -/
def unitL (n : Int) (r : List UInt8) : List UInt8 := be (r.length : Int) 4 ++ (sumL n r ++ r)
theorem unitL_length (n : Int) (r : List UInt8) : (unitL n r).length = 12 + r.length := by
  simp [unitL, be_length, sumL_length]; omega
end Go.Proofs.YteacnlikmagfcaaDoor.PI
