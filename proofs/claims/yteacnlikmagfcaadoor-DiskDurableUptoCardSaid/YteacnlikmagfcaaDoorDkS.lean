/-
  Strings of byte sequences; structures of two cells.
  Conditions: none; these are lemmas.
-/
import Derived.Test.YteacnlikmagfcaaDoorDkP
namespace Go.Proofs.YteacnlikmagfcaaDoor.PI
open Go
set_option linter.unusedSimpArgs false
set_option linter.unusedVariables false

theorem conv_sb (st : St) (A : List UInt8) (sz : Nat) (t : Bool) (h : sz = 1 ∨ A = []) : pconv st .str (.slc sz (A.map byteD) t) = some (.str A) := by
  have e : (sz == 1 || (A.map byteD).isEmpty) = true := by rcases h with h | h <;> simp [h]
  simp only [pconv, e, if_true, bytesOf_map, Option.map_some]
theorem conv_sn (st : St) (A : List UInt8) (t : Bool) : pconv st .str (.slc (nz 1 (A.map byteD)) (A.map byteD) t) = some (.str A) :=
  conv_sb st A _ t (by rcases nz_or 1 (A.map byteD) with h | h <;> simp_all)
def cvR (x : Option (Nat × List D)) : Option D := match x with
  | some (sz, els) => if sz == 1 then (bytesOf els).map .str else none
  | none => none
theorem conv_srow (st : St) (key tot off len : Nat) : pconv st .str (.row key tot off len) = cvR (rowEls st key tot off len) := (rfl)
theorem cvR_map (A : List UInt8) : cvR (some (1, A.map byteD)) = some (.str A) := by
  simp [cvR, bytesOf_map]
theorem str_eql (a b : List UInt8) : pbin .eql (.str a) (.str b) = some (.bool (decide (a = b))) := by
  by_cases h : a = b <;> simp [pbin, strop, h]
theorem str_neq (a b : List UInt8) : pbin .neq (.str a) (.str b) = some (.bool (!decide (a = b))) := by
  by_cases h : a = b <;> simp [pbin, strop, h]
/-- structures of two cells: a slice and a number -/
theorem box_si (z : Nat) (els : List D) (t : Bool) (k : IntKind) (n : Int) : boxD (.agg [.slc z els t, .int k n]) = some [.slc z els t, .int k n] := (rfl)
theorem box_is (z : Nat) (els : List D) (t : Bool) (k : IntKind) (n : Int) : boxD (.agg [.int k n, .slc z els t]) = some [.int k n, .slc z els t] := (rfl)
theorem ld2 (sz : Nat) (x y : D) (lent : Bool) : ldO (some ⟨false, sz, [x, y], lent⟩) 2 true 0 = some (.agg [x, y]) := (rfl)
theorem st2 (sz : Nat) (x y u v : D) (hu : u.isCell = true) (hv : v.isCell = true) : stO (some ⟨false, sz, [x, y], false⟩) 2 0 (.agg [u, v]) = some ⟨false, sz, [u, v], false⟩ :=
  stO_all sz _ _ 2 rfl rfl (by simp [hu, hv])
theorem st2_si (sz : Nat) (x y : D) (z : Nat) (els : List D) (t : Bool) (k : IntKind) (n : Int) : stO (some ⟨false, sz, [x, y], false⟩) 2 0 (.agg [.slc z els t, .int k n]) = some ⟨false, sz, [.slc z els t, .int k n], false⟩ := st2 sz x y _ _ rfl rfl
theorem fill_0 (x y : D) (z : Nat) (els : List D) (t : Bool) : fillD [x, y] [(0, 1, .slc z els t)] = some [.slc z els t, y] := (rfl)
theorem fill_0r (x y : D) (key tot off len : Nat) : fillD [x, y] [(0, 1, .row key tot off len)] = some [.row key tot off len, y] := (rfl)
theorem fill_0i (x y : D) (k : IntKind) (n : Int) : fillD [x, y] [(0, 1, .int k n)] = some [.int k n, y] := (rfl)
theorem fill_1i (x y : D) (k : IntKind) (n : Int) : fillD [x, y] [(1, 1, .int k n)] = some [x, .int k n] := (rfl)
theorem fill_01 (x y : D) (z : Nat) (els : List D) (t : Bool) (k : IntKind) (n : Int) : fillD [x, y] [(0, 1, .slc z els t), (1, 1, .int k n)] = some [.slc z els t, .int k n] := (rfl)
theorem imm_si (st : St) (z : Nat) (els : List D) (t : Bool) (k : IntKind) (n : Int) : imm st (.agg [.slc z els t, .int k n]) = some (.agg [.slc (nz z els) els false, .int k n]) := (rfl)
theorem imm_is (st : St) (z : Nat) (els : List D) (t : Bool) (k : IntKind) (n : Int) : imm st (.agg [.int k n, .slc z els t]) = some (.agg [.int k n, .slc (nz z els) els false]) := (rfl)
theorem noRef_si (z : Nat) (els : List D) (t : Bool) (k : IntKind) (n : Int) : (D.agg [.slc z els t, .int k n]).noRef = false := (rfl)
theorem keys_si (z : Nat) (els : List D) (t : Bool) (k : IntKind) (n : Int) : keys (.agg [.slc z els t, .int k n]) = [] := (rfl)
theorem noRef_is (z : Nat) (els : List D) (t : Bool) (k : IntKind) (n : Int) : (D.agg [.int k n, .slc z els t]).noRef = false := (rfl)
theorem keys_is (z : Nat) (els : List D) (t : Bool) (k : IntKind) (n : Int) : keys (.agg [.int k n, .slc z els t]) = [] := (rfl)
theorem noRef_tsi (z : Nat) (els : List D) (t : Bool) (k k' : IntKind) (n n' : Int) : (D.tup [.agg [.slc z els t, .int k n], .int k' n']).noRef = false := (rfl)
theorem bsD_inj' {a b : List UInt8} : bsD a = bsD b ↔ a = b := ⟨bsD_inj, fun h => by rw [h]⟩
theorem slc_bs (A : List UInt8) (t : Bool) (lo hi : Int) (st : St) (h0 : 0 ≤ lo) (h1 : lo ≤ hi) (h2 : hi ≤ (A.length : Int)) : pslice st 1 (.slc (nz 1 (A.map byteD)) (A.map byteD) t) (some (.int .i64 lo)) (some (.int .i64 hi)) (some (.int .i64 hi)) = some (.slc (nz 1 (A.map byteD)) (((A.take hi.toNat).drop lo.toNat).map byteD) true) := by
  have hs : ((nz 1 (A.map byteD) == 1 || (A.map byteD).isEmpty) && 1 != 0) = true := by
    rcases nz_or 1 (A.map byteD) with h | h <;> simp [h]
  have e1 : lo.toNat ≤ hi.toNat ∧ hi.toNat ≤ A.length := by omega
  simp only [pslice, hs, if_true, bnd, natOf_int .i64 lo h0, natOf_int .i64 hi (by omega)]
  simp [e1, List.map_drop, List.map_take]
/-- a disk, a tear -/
def dkD (d : List UInt8 × Int) : D := .agg [bsD d.1, .int .i64 d.2]
def trD (t : Int × List UInt8) : D := .agg [.int .i64 t.1, bsD t.2]
theorem dkD_iff {a b : List UInt8 × Int} : dkD a = dkD b ↔ a = b := by
  constructor
  · intro h
    simp only [dkD, D.agg.injEq, List.cons.injEq, D.int.injEq, true_and, and_true, bsD_inj'] at h
    exact Prod.ext h.1 h.2
  · intro h; rw [h]
theorem trD_iff {a b : Int × List UInt8} : trD a = trD b ↔ a = b := by
  constructor
  · intro h
    simp only [trD, D.agg.injEq, List.cons.injEq, D.int.injEq, true_and, and_true, bsD_inj'] at h
    exact Prod.ext h.1 h.2
  · intro h; rw [h]
attribute [push_cast] noRef_si keys_si noRef_is keys_is noRef_tsi conv_sn conv_srow cvR_map str_eql str_neq box_si box_is ld2 st2_si fill_0 fill_0r fill_0i fill_1i fill_01 imm_si imm_is
end Go.Proofs.YteacnlikmagfcaaDoor.PI
