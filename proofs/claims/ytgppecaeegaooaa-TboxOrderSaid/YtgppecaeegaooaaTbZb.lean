/-
  tbox: the order of the clauses does not matter where none overlap.
  Conditions: none.
-/
import Derived.Test.YtgppecaeegaooaaTbR
import Derived.Test.YtgppecaeegaooaaFnsE
namespace Go.Proofs.Ytgppecaeegaooaa.PI
open Go
set_option linter.unusedSimpArgs false
set_option linter.unusedVariables false
theorem wrapU (n : Int) : IntKind.wrap .u64 n = n % 18446744073709551616 := rfl
theorem wrapU_id {n : Int} (h0 : 0 ≤ n) (h1 : n < 18446744073709551616) : IntKind.wrap .u64 n = n := by rw [wrapU]; omega
theorem add_u {a b : Int} (h0 : 0 ≤ a + b) (h1 : a + b < 18446744073709551616) : pbin .add (.int .u64 a) (.int .u64 b) = some (.int .u64 (a + b)) := by
  simp only [pbin, if_true, iarith, Option.map_some, wrapU_id h0 h1]
theorem mul_u {a b : Int} (h0 : 0 ≤ a * b) (h1 : a * b < 18446744073709551616) : pbin .mul (.int .u64 a) (.int .u64 b) = some (.int .u64 (a * b)) := by
  simp only [pbin, if_true, iarith, Option.map_some, wrapU_id h0 h1]
theorem mul_uw (a b : Int) : pbin .mul (.int .u64 a) (.int .u64 b) = some (.int .u64 ((a * b) % 18446744073709551616)) := by
  simp only [pbin, if_true, iarith, Option.map_some, wrapU]
theorem toNat_ofIntU {a : Int} (h0 : 0 ≤ a) (h1 : a < 18446744073709551616) : (BitVec.ofInt 64 a).toNat = a.toNat := by
  rw [BitVec.toNat_ofInt]
  omega
theorem and_mask {a : Int} (h0 : 0 ≤ a) (h1 : a < 18446744073709551616) : pbin .and (.int .u64 a) (.int .u64 4294967295) = some (.int .u64 (a % 4294967296)) := by
  have h : (BitVec.ofInt (IntKind.bits .u64) a &&& BitVec.ofInt (IntKind.bits .u64) 4294967295).toNat = (a % 4294967296).toNat := by
    show (BitVec.ofInt 64 a &&& BitVec.ofInt 64 4294967295).toNat = _
    rw [BitVec.toNat_and, toNat_ofIntU h0 h1, show (BitVec.ofInt 64 4294967295).toNat = 2 ^ 32 - 1 from rfl, Nat.and_two_pow_sub_one_eq_mod]
    omega
  simp only [pbin, if_true, ibits, Option.map_some, h]
  rw [wrapU_id (by omega) (by omega)]
  congr 2
  omega
theorem half_mul {a b : Int} (ha : 0 ≤ a) (hb : 0 ≤ b) (ha2 : a ≤ 4294967295) (hb2 : b ≤ 4294967295) : 0 ≤ a * b ∧ a * b ≤ 18446744065119617025 := by
  refine ⟨Int.mul_nonneg ha hb, ?_⟩
  have h1 : a * b ≤ 4294967295 * b := Int.mul_le_mul_of_nonneg_right ha2 hb
  omega
theorem mul4 (a b c d : Int) : a * b * (c * d) = a * c * (b * d) := by rw [Int.mul_assoc, Int.mul_left_comm b, ← Int.mul_assoc]
theorem mul_split (x y : Int) : x * y = (x / 4294967296) * (y / 4294967296) * 18446744073709551616 + ((x / 4294967296) * (y % 4294967296) + (x % 4294967296) * (y / 4294967296)) * 4294967296 + (x % 4294967296) * (y % 4294967296) := by
  have e1 : x = (x / 4294967296) * 4294967296 + x % 4294967296 := (Int.ediv_mul_add_emod x 4294967296).symm
  have e2 : y = (y / 4294967296) * 4294967296 + y % 4294967296 := (Int.ediv_mul_add_emod y 4294967296).symm
  conv => lhs; rw [e1, e2]
  rw [Int.add_mul, Int.mul_add, Int.mul_add, mul4, Int.mul_right_comm (x / 4294967296) 4294967296, ← Int.mul_assoc (x % 4294967296), Int.add_mul]
  omega
noncomputable def sp_bMul : List D → Option D := spOf (α := Int × Int) (fun a => [.int .u64 a.1, .int .u64 a.2]) (fun a => 0 ≤ a.1 ∧ a.1 < 18446744073709551616 ∧ 0 ≤ a.2 ∧ a.2 < 18446744073709551616) (fun a => .tup [.int .u64 (a.1 * a.2 / 18446744073709551616), .int .u64 (a.1 * a.2 % 18446744073709551616)])
theorem call_bMul (x : Int) (y : Int) (h : 0 ≤ x ∧ x < 18446744073709551616 ∧ 0 ≤ y ∧ y < 18446744073709551616) : sp_bMul [.int .u64 x, .int .u64 y] = some (.tup [.int .u64 (x * y / 18446744073709551616), .int .u64 (x * y % 18446744073709551616)]) :=
  spOf_enc (fun ⟨a0, a1⟩ ⟨b0, b1⟩ h => by simp only [List.cons.injEq, D.slc.injEq, D.int.injEq, D.bool.injEq, D.str.injEq, D.agg.injEq, digs_iff, dig_iff, digC_iff, bytes_iff, byte_iff, words_iff, word_iff, bsl_iff, true_and, and_true, ints_iff, nI_iff, tsts_iff, clss_iff, clsD_iff, tarD_iff, tstD_iff, ptD_iff, Int.ofNat_inj] at h; simp [h, Prod.ext_iff]) (x, y) h
set_option maxHeartbeats 4000000 in
set_option maxRecDepth 20000 in
theorem w_bMul (x : Int) (y : Int) (h : 0 ≤ x ∧ x < 18446744073709551616 ∧ 0 ≤ y ∧ y < 18446744073709551616) : @wW GG (tb [] []) F_math_bits_Mul64.code (argF [.int .u64 x, .int .u64 y]) [] ⟨retQ F_math_bits_Mul64.res (.tup [.int .u64 (x * y / 18446744073709551616), .int .u64 (x * y % 18446744073709551616)])⟩ := by
  obtain ⟨hx0, hx1, hy0, hy1⟩ := h
  have e := mul_split x y
  have ha := half_mul (a := x / 4294967296) (b := y / 4294967296) (by omega) (by omega) (by omega) (by omega)
  have hb := half_mul (a := x / 4294967296) (b := y % 4294967296) (by omega) (by omega) (by omega) (by omega)
  have hc := half_mul (a := x % 4294967296) (b := y / 4294967296) (by omega) (by omega) (by omega) (by omega)
  have hd := half_mul (a := x % 4294967296) (b := y % 4294967296) (by omega) (by omega) (by omega) (by omega)
  unfold F_math_bits_Mul64
  simp (disch := omega) only [push_cast, ↓wF_free, ↓reduceIte, Nat.reduceEqDiff, Nat.reduceLT, Nat.reduceLeDiff, Nat.reduceAdd, Nat.reduceSub, Nat.reduceMul, Nat.reduceBEq, Int.reduceLT, Int.reduceLE, Int.reduceToNat, Int.reduceNeg, Int.reducePow, Int.reduceAdd, Int.reduceMul, Int.reduceSub, ↓Int.reduceNatCast', and_mask, shr_u, mul_u, add_u, mul_uw x y]
  rw [e]
  generalize (x / 4294967296) * (y / 4294967296) = a at *
  generalize (x / 4294967296) * (y % 4294967296) = b at *
  generalize (x % 4294967296) * (y / 4294967296) = c at *
  generalize (x % 4294967296) * (y % 4294967296) = d at *
  have e9 : a + (b + d / 4294967296) / 4294967296 + ((b + d / 4294967296) % 4294967296 + c) / 4294967296 = (a * 18446744073709551616 + (b + c) * 4294967296 + d) / 18446744073709551616 := by omega
  rw [e9]
theorem c_bMul : Contract Try.prog GG 72 sp_bMul :=
  contract_of tr_math_bits_Mul64 (tb_ok all_nil all_nil) (fun a h => w_bMul a.1 a.2 h)
def inI (x : Int) : Bool := decide (-9007199254740992 ≤ x) && decide (x ≤ 9007199254740992)
theorem inI_iff {x : Int} : inI x = true ↔ -9007199254740992 ≤ x ∧ x ≤ 9007199254740992 := by simp [inI]
theorem inI_not {x : Int} : inI x = false ↔ x < -9007199254740992 ∨ 9007199254740992 < x := by
  rw [← Bool.not_eq_true, inI_iff]; omega
theorem drop_all {l : List Int} {i : Nat} (h : i < l.length) : (l.drop i).all inI = (inI (l.getD i default) && (l.drop (i + 1)).all inI) := by
  rw [List.drop_eq_getElem_cons h, List.all_cons]
  simp [List.getD_eq_getElem?_getD, h]
noncomputable def sp_mnIn : List D → Option D := spOf (α := List Int) (fun a => [.slc (nz 1 (a.map nI)) (a.map nI) false]) (fun a => a.length ≤ 65536) (fun a => .bool (a.all inI))
theorem call_mnIn (l : List Int) (h : l.length ≤ 65536) : sp_mnIn [.slc (nz 1 (l.map nI)) (l.map nI) false] = some (.bool (l.all inI)) :=
  spOf_enc (fun a b h => by simp only [List.cons.injEq, D.slc.injEq, D.int.injEq, D.bool.injEq, D.str.injEq, D.agg.injEq, digs_iff, dig_iff, digC_iff, bytes_iff, byte_iff, words_iff, word_iff, bsl_iff, true_and, and_true, ints_iff, nI_iff, tsts_iff, clss_iff, clsD_iff, tarD_iff, tstD_iff, ptD_iff, Int.ofNat_inj] at h; simp [h, Prod.ext_iff]) (l) h
set_option maxHeartbeats 4000000 in
set_option maxRecDepth 20000 in
theorem w_mnIn (l : List Int) (h : l.length ≤ 65536) : @wW GG (tb [] []) F_money_in.code (argF [.slc (nz 1 (l.map nI)) (l.map nI) false]) [] ⟨retQ F_money_in.res (.bool (l.all inI))⟩ := by
  unfold F_money_in
  simp (disch := first | omega | decide) only [push_cast, ↓wF_free, ↓reduceIte, Nat.reduceEqDiff, Nat.reduceLT, Nat.reduceLeDiff, Nat.reduceAdd, Nat.reduceSub, Nat.reduceMul, Nat.reduceBEq, Int.reduceLT, Int.reduceLE, Int.reduceToNat, Int.reduceNeg, Int.reducePow, Int.reduceAdd, Int.reduceMul, Int.reduceSub, ↓Int.reduceNatCast']
  refine W_while (fun i : Nat => [(5, .slc (nz 1 (l.map nI)) (l.map nI) false), (6, .int .i64 (l.length : Int)), (7, .int .i64 (i : Int))]) (fun _ => []) (fun i => i ≤ l.length ∧ l.all inI = (l.drop i).all inI) (fun i => l.length - i) 0 (by simp only [push_cast, ↓wF_free, ↓reduceIte, Nat.reduceEqDiff, Nat.reduceLT, Nat.reduceLeDiff, Nat.reduceAdd, Nat.reduceSub, Nat.reduceMul, Nat.reduceBEq, Int.reduceLT, Int.reduceLE, Int.reduceToNat, Int.reduceNeg, Int.reducePow, Int.reduceAdd, Int.reduceMul, Int.reduceSub, ↓Int.reduceNatCast'] <;> rfl) ⟨Nat.zero_le _, rfl⟩ ?_
  rintro i ⟨hi, hh⟩
  unfold F_money_in_L0
  simp (disch := first | omega | decide) only [push_cast, ↓wF_free, ↓reduceIte, Nat.reduceEqDiff, Nat.reduceLT, Nat.reduceLeDiff, Nat.reduceAdd, Nat.reduceSub, Nat.reduceMul, Nat.reduceBEq, Int.reduceLT, Int.reduceLE, Int.reduceToNat, Int.reduceNeg, Int.reducePow, Int.reduceAdd, Int.reduceMul, Int.reduceSub, ↓Int.reduceNatCast']
  refine ifD_split (fun h2 => ?_) (fun h2 => ?_)
  · have hlt : i < l.length := by omega
    rw [drop_all hlt] at hh
    have hix : ∀ st : St, pidxS st 1 (.slc (nz 1 (l.map nI)) (l.map nI) false) (.int .i64 (i : Int)) = some (.eptr (nI (l.getD i default)) 0) := fun st => by
      have := idxS_nz st 1 nI l false .i64 (i : Int) (by omega) (by omega)
      rwa [Int.toNat_natCast] at this
    generalize l.getD i default = x at *
    cases hx : inI x with
    | true =>
      obtain ⟨h5, h6⟩ := inI_iff.1 hx
      rw [hx, Bool.true_and] at hh
      have h7 : ¬ (x < -9007199254740992) := by omega
      have h8 : ¬ (9007199254740992 < x) := by omega
      simp (disch := first | omega | decide) only [push_cast, ↓wF_free, ↓reduceIte, Nat.reduceEqDiff, Nat.reduceLT, Nat.reduceLeDiff, Nat.reduceAdd, Nat.reduceSub, Nat.reduceMul, Nat.reduceBEq, Int.reduceLT, Int.reduceLE, Int.reduceToNat, Int.reduceNeg, Int.reducePow, Int.reduceAdd, Int.reduceMul, Int.reduceSub, ↓Int.reduceNatCast', hix, nI, h7, h8, add_i]
      refine next_head (i + 1) (by exact ⟨by omega, hh⟩) (by omega) ?_
      simp only [push_cast, ↓wF_free, ↓reduceIte, Nat.reduceEqDiff, Nat.reduceLT, Nat.reduceLeDiff, Nat.reduceAdd, Nat.reduceSub, Nat.reduceMul, Nat.reduceBEq, Int.reduceLT, Int.reduceLE, Int.reduceToNat, Int.reduceNeg, Int.reducePow, Int.reduceAdd, Int.reduceMul, Int.reduceSub, ↓Int.reduceNatCast'] <;> rfl
    | false =>
      rw [hx, Bool.false_and] at hh
      by_cases h7 : x < -9007199254740992
      · simp (disch := first | omega | decide) only [push_cast, ↓wF_free, ↓reduceIte, Nat.reduceEqDiff, Nat.reduceLT, Nat.reduceLeDiff, Nat.reduceAdd, Nat.reduceSub, Nat.reduceMul, Nat.reduceBEq, Int.reduceLT, Int.reduceLE, Int.reduceToNat, Int.reduceNeg, Int.reducePow, Int.reduceAdd, Int.reduceMul, Int.reduceSub, ↓Int.reduceNatCast', hix, nI, h7, hh]
      · have h8 : 9007199254740992 < x := by have := inI_not.1 hx; omega
        simp (disch := first | omega | decide) only [push_cast, ↓wF_free, ↓reduceIte, Nat.reduceEqDiff, Nat.reduceLT, Nat.reduceLeDiff, Nat.reduceAdd, Nat.reduceSub, Nat.reduceMul, Nat.reduceBEq, Int.reduceLT, Int.reduceLE, Int.reduceToNat, Int.reduceNeg, Int.reducePow, Int.reduceAdd, Int.reduceMul, Int.reduceSub, ↓Int.reduceNatCast', hix, nI, h7, h8, hh]
  · obtain rfl : i = l.length := by omega
    rw [List.drop_length] at hh
    simp (disch := first | omega | decide) only [push_cast, ↓wF_free, ↓reduceIte, Nat.reduceEqDiff, Nat.reduceLT, Nat.reduceLeDiff, Nat.reduceAdd, Nat.reduceSub, Nat.reduceMul, Nat.reduceBEq, Int.reduceLT, Int.reduceLE, Int.reduceToNat, Int.reduceNeg, Int.reducePow, Int.reduceAdd, Int.reduceMul, Int.reduceSub, ↓Int.reduceNatCast', hh, List.all_nil]
theorem c_mnIn : Contract Try.prog GG 70 sp_mnIn :=
  contract_of tr_money_in (tb_ok all_nil all_nil) (fun a h => w_mnIn a h)
def rgF (c : Int) : Int × Int := if inI c then (c, 0) else (0, 3)
theorem lit1 (a : Int) : litD 1 [.int .i64 a] = some (.slc 1 [.int .i64 a] true) := (rfl)
theorem lit2 (a b : Int) : litD 1 [.int .i64 a, .int .i64 b] = some (.slc 1 [.int .i64 a, .int .i64 b] true) := (rfl)
theorem e98 : ((9 : Int) = 8) = False := by decide
theorem e108 : ((10 : Int) = 8) = False := by decide
theorem e109 : ((10 : Int) = 9) = False := by decide
theorem e810 : ((8 : Int) = 10) = False := by decide
theorem e910 : ((9 : Int) = 10) = False := by decide
theorem e89 : ((8 : Int) = 9) = False := by decide
theorem call_in1 (a : Int) : sp_mnIn [.slc 1 [.int .i64 a] false] = some (.bool (inI a)) := by
  have := call_mnIn [a] (by simp)
  simpa [nI, nz] using this
theorem call_in2 (a b : Int) : sp_mnIn [.slc 1 [.int .i64 a, .int .i64 b] false] = some (.bool (inI a && inI b)) := by
  have := call_mnIn [a, b] (by simp)
  simpa [nI, nz] using this
noncomputable def sp_mnRg : List D → Option D := spOf (α := Int) (fun a => [.int .i64 a]) (fun a => True) (fun a => .tup [.int .i64 (rgF a).1, .int .i64 (rgF a).2])
theorem call_mnRg (c : Int) : sp_mnRg [.int .i64 c] = some (.tup [.int .i64 (rgF c).1, .int .i64 (rgF c).2]) :=
  spOf_enc (fun a b h => by simp only [List.cons.injEq, D.slc.injEq, D.int.injEq, D.bool.injEq, D.str.injEq, D.agg.injEq, digs_iff, dig_iff, digC_iff, bytes_iff, byte_iff, words_iff, word_iff, bsl_iff, true_and, and_true, ints_iff, nI_iff, tsts_iff, clss_iff, clsD_iff, tarD_iff, tstD_iff, ptD_iff, Int.ofNat_inj] at h; simp [h, Prod.ext_iff]) (c) trivial
set_option maxHeartbeats 4000000 in
set_option maxRecDepth 20000 in
theorem w_mnRg (c : Int) : @wW GG (tb [(70, sp_mnIn)] []) F_money_ranged.code (argF [.int .i64 c]) [] ⟨retQ F_money_ranged.res (.tup [.int .i64 (rgF c).1, .int .i64 (rgF c).2])⟩ := by
  unfold F_money_ranged rgF
  have := call_in1 c
  cases hc : inI c <;> rw [hc] at this <;> simp (disch := first | omega | decide) only [push_cast, ↓wF_free, ↓reduceIte, Nat.reduceEqDiff, Nat.reduceLT, Nat.reduceLeDiff, Nat.reduceAdd, Nat.reduceSub, Nat.reduceMul, Nat.reduceBEq, Int.reduceLT, Int.reduceLE, Int.reduceToNat, Int.reduceNeg, Int.reducePow, Int.reduceAdd, Int.reduceMul, Int.reduceSub, ↓Int.reduceNatCast', lit1, this]
theorem c_mnRg : Contract Try.prog GG 71 sp_mnRg :=
  contract_of tr_money_ranged (tb_ok (all_cons c_mnIn all_nil) all_nil) (fun a h => w_mnRg a)
def addF (a b : Int) : Int × Int := if inI a && inI b then rgF (a + b) else (0, 3)
def subF (a b : Int) : Int × Int := if inI a && inI b then rgF (a - b) else (0, 3)
noncomputable def sp_mnAdd : List D → Option D := spOf (α := Int × Int) (fun a => [.int .i64 a.1, .int .i64 a.2]) (fun a => True) (fun a => .tup [.int .i64 (addF a.1 a.2).1, .int .i64 (addF a.1 a.2).2])
theorem call_mnAdd (a : Int) (b : Int) : sp_mnAdd [.int .i64 a, .int .i64 b] = some (.tup [.int .i64 (addF a b).1, .int .i64 (addF a b).2]) :=
  spOf_enc (fun ⟨a0, a1⟩ ⟨b0, b1⟩ h => by simp only [List.cons.injEq, D.slc.injEq, D.int.injEq, D.bool.injEq, D.str.injEq, D.agg.injEq, digs_iff, dig_iff, digC_iff, bytes_iff, byte_iff, words_iff, word_iff, bsl_iff, true_and, and_true, ints_iff, nI_iff, tsts_iff, clss_iff, clsD_iff, tarD_iff, tstD_iff, ptD_iff, Int.ofNat_inj] at h; simp [h, Prod.ext_iff]) (a, b) trivial
set_option maxHeartbeats 4000000 in
set_option maxRecDepth 20000 in
theorem w_mnAdd (a : Int) (b : Int) : @wW GG (tb [(70, sp_mnIn), (71, sp_mnRg)] []) F_money_Add.code (argF [.int .i64 a, .int .i64 b]) [] ⟨retQ F_money_Add.res (.tup [.int .i64 (addF a b).1, .int .i64 (addF a b).2])⟩ := by
  unfold F_money_Add addF
  have h2 := call_in2 a b
  have h3 := call_mnRg (a + b)
  cases hc : inI a && inI b with
  | false => rw [hc] at h2; simp (disch := first | omega | decide) only [push_cast, ↓wF_free, ↓reduceIte, Nat.reduceEqDiff, Nat.reduceLT, Nat.reduceLeDiff, Nat.reduceAdd, Nat.reduceSub, Nat.reduceMul, Nat.reduceBEq, Int.reduceLT, Int.reduceLE, Int.reduceToNat, Int.reduceNeg, Int.reducePow, Int.reduceAdd, Int.reduceMul, Int.reduceSub, ↓Int.reduceNatCast', lit2, lit1, e98, e108, e109, e810, e910, e89, h2]
  | true =>
    rw [hc] at h2
    simp only [Bool.and_eq_true, inI_iff] at hc
    simp (disch := first | omega | decide) only [push_cast, ↓wF_free, ↓reduceIte, Nat.reduceEqDiff, Nat.reduceLT, Nat.reduceLeDiff, Nat.reduceAdd, Nat.reduceSub, Nat.reduceMul, Nat.reduceBEq, Int.reduceLT, Int.reduceLE, Int.reduceToNat, Int.reduceNeg, Int.reducePow, Int.reduceAdd, Int.reduceMul, Int.reduceSub, ↓Int.reduceNatCast', lit2, lit1, e98, e108, e109, e810, e910, e89, h2, h3, add_i]
theorem c_mnAdd : Contract Try.prog GG 64 sp_mnAdd :=
  contract_of tr_money_Add (tb_ok (all_cons c_mnIn (all_cons c_mnRg all_nil)) all_nil) (fun a h => w_mnAdd a.1 a.2)
noncomputable def sp_mnSub : List D → Option D := spOf (α := Int × Int) (fun a => [.int .i64 a.1, .int .i64 a.2]) (fun a => True) (fun a => .tup [.int .i64 (subF a.1 a.2).1, .int .i64 (subF a.1 a.2).2])
theorem call_mnSub (a : Int) (b : Int) : sp_mnSub [.int .i64 a, .int .i64 b] = some (.tup [.int .i64 (subF a b).1, .int .i64 (subF a b).2]) :=
  spOf_enc (fun ⟨a0, a1⟩ ⟨b0, b1⟩ h => by simp only [List.cons.injEq, D.slc.injEq, D.int.injEq, D.bool.injEq, D.str.injEq, D.agg.injEq, digs_iff, dig_iff, digC_iff, bytes_iff, byte_iff, words_iff, word_iff, bsl_iff, true_and, and_true, ints_iff, nI_iff, tsts_iff, clss_iff, clsD_iff, tarD_iff, tstD_iff, ptD_iff, Int.ofNat_inj] at h; simp [h, Prod.ext_iff]) (a, b) trivial
set_option maxHeartbeats 4000000 in
set_option maxRecDepth 20000 in
theorem w_mnSub (a : Int) (b : Int) : @wW GG (tb [(70, sp_mnIn), (71, sp_mnRg)] []) F_money_Sub.code (argF [.int .i64 a, .int .i64 b]) [] ⟨retQ F_money_Sub.res (.tup [.int .i64 (subF a b).1, .int .i64 (subF a b).2])⟩ := by
  unfold F_money_Sub subF
  have h2 := call_in2 a b
  have h3 := call_mnRg (a - b)
  cases hc : inI a && inI b with
  | false => rw [hc] at h2; simp (disch := first | omega | decide) only [push_cast, ↓wF_free, ↓reduceIte, Nat.reduceEqDiff, Nat.reduceLT, Nat.reduceLeDiff, Nat.reduceAdd, Nat.reduceSub, Nat.reduceMul, Nat.reduceBEq, Int.reduceLT, Int.reduceLE, Int.reduceToNat, Int.reduceNeg, Int.reducePow, Int.reduceAdd, Int.reduceMul, Int.reduceSub, ↓Int.reduceNatCast', lit2, lit1, e98, e108, e109, e810, e910, e89, h2]
  | true =>
    rw [hc] at h2
    simp only [Bool.and_eq_true, inI_iff] at hc
    simp (disch := first | omega | decide) only [push_cast, ↓wF_free, ↓reduceIte, Nat.reduceEqDiff, Nat.reduceLT, Nat.reduceLeDiff, Nat.reduceAdd, Nat.reduceSub, Nat.reduceMul, Nat.reduceBEq, Int.reduceLT, Int.reduceLE, Int.reduceToNat, Int.reduceNeg, Int.reducePow, Int.reduceAdd, Int.reduceMul, Int.reduceSub, ↓Int.reduceNatCast', lit2, lit1, e98, e108, e109, e810, e910, e89, h2, h3, sub_i]
theorem c_mnSub : Contract Try.prog GG 66 sp_mnSub :=
  contract_of tr_money_Sub (tb_ok (all_cons c_mnIn (all_cons c_mnRg all_nil)) all_nil) (fun a h => w_mnSub a.1 a.2)
theorem neg_u {a : Int} (h0 : 0 < a) (h1 : a < 18446744073709551616) : pun .neg (.int .u64 a) = some (.int .u64 (18446744073709551616 - a)) := by
  have e : (0 - a) % 18446744073709551616 = 18446744073709551616 - a := by omega
  simp only [pun, wrapU, e]
theorem conv_iuw (st : St) {a : Int} : pconv st (.int .u64) (.int .i64 a) = some (.int .u64 (a % 18446744073709551616)) := by
  simp only [pconv, wrapU]
noncomputable def sp_mnAbs : List D → Option D := spOf (α := Int) (fun a => [.int .i64 a]) (fun a => inI a = true) (fun a => .int .u64 (if a < 0 then -a else a))
theorem call_mnAbs (a : Int) (h : inI a = true) : sp_mnAbs [.int .i64 a] = some (.int .u64 (if a < 0 then -a else a)) :=
  spOf_enc (fun a b h => by simp only [List.cons.injEq, D.slc.injEq, D.int.injEq, D.bool.injEq, D.str.injEq, D.agg.injEq, digs_iff, dig_iff, digC_iff, bytes_iff, byte_iff, words_iff, word_iff, bsl_iff, true_and, and_true, ints_iff, nI_iff, tsts_iff, clss_iff, clsD_iff, tarD_iff, tstD_iff, ptD_iff, Int.ofNat_inj] at h; simp [h, Prod.ext_iff]) (a) h
set_option maxHeartbeats 4000000 in
set_option maxRecDepth 20000 in
theorem w_mnAbs (a : Int) (h : inI a = true) : @wW GG (tb [] []) F_money_abs.code (argF [.int .i64 a]) [] ⟨retQ F_money_abs.res (.int .u64 (if a < 0 then -a else a))⟩ := by
  obtain ⟨h1, h2⟩ := inI_iff.1 h
  unfold F_money_abs
  by_cases h0 : a < 0
  · have e1 : (a % 18446744073709551616) = 18446744073709551616 + a := by omega
    have e2 : 18446744073709551616 - (18446744073709551616 + a) = -a := by omega
    simp (disch := first | omega | decide) only [push_cast, ↓wF_free, ↓reduceIte, Nat.reduceEqDiff, Nat.reduceLT, Nat.reduceLeDiff, Nat.reduceAdd, Nat.reduceSub, Nat.reduceMul, Nat.reduceBEq, Int.reduceLT, Int.reduceLE, Int.reduceToNat, Int.reduceNeg, Int.reducePow, Int.reduceAdd, Int.reduceMul, Int.reduceSub, ↓Int.reduceNatCast', h0, conv_iuw, e1, neg_u, e2]
  · simp (disch := first | omega | decide) only [push_cast, ↓wF_free, ↓reduceIte, Nat.reduceEqDiff, Nat.reduceLT, Nat.reduceLeDiff, Nat.reduceAdd, Nat.reduceSub, Nat.reduceMul, Nat.reduceBEq, Int.reduceLT, Int.reduceLE, Int.reduceToNat, Int.reduceNeg, Int.reducePow, Int.reduceAdd, Int.reduceMul, Int.reduceSub, ↓Int.reduceNatCast', h0, conv_iu]
theorem c_mnAbs : Contract Try.prog GG 73 sp_mnAbs :=
  contract_of tr_money_abs (tb_ok all_nil all_nil) (fun a h => w_mnAbs a h)
def abI (a : Int) : Int := if a < 0 then -a else a
def mulF (a b : Int) : Int × Int := if inI a && inI b then rgF (a * b) else (0, 3)
theorem ab_mul (a b : Int) : abI a * abI b = abI (a * b) := by
  unfold abI
  rcases Int.lt_or_le a 0 with h1 | h1 <;> rcases Int.lt_or_le b 0 with h2 | h2
  · have := Int.mul_pos_of_neg_of_neg h1 h2
    rw [if_pos h1, if_pos h2, if_neg (by omega), Int.neg_mul_neg]
  · have := Int.mul_nonpos_of_nonpos_of_nonneg (Int.le_of_lt h1) h2
    rw [if_pos h1, if_neg (by omega), Int.neg_mul]
    split <;> omega
  · have := Int.mul_nonpos_of_nonneg_of_nonpos h1 (Int.le_of_lt h2)
    rw [if_neg (by omega), if_pos h2, Int.mul_neg]
    split <;> omega
  · have := Int.mul_nonneg h1 h2
    rw [if_neg (by omega), if_neg (by omega), if_neg (by omega)]
theorem ab_le {a : Int} (h : inI a = true) : 0 ≤ abI a ∧ abI a ≤ 9007199254740992 := by
  have := inI_iff.1 h
  unfold abI; split <;> omega
theorem ab_in (a : Int) : inI a = decide (abI a ≤ 9007199254740992) := by
  cases h : inI a with
  | true => simp [(ab_le h).2]
  | false =>
    have := inI_not.1 h
    symm
    rw [decide_eq_false_iff_not]
    unfold abI; split <;> omega
noncomputable def sp_mnMul : List D → Option D := spOf (α := Int × Int) (fun a => [.int .i64 a.1, .int .i64 a.2]) (fun a => True) (fun a => .tup [.int .i64 (mulF a.1 a.2).1, .int .i64 (mulF a.1 a.2).2])
theorem call_mnMul (a : Int) (b : Int) : sp_mnMul [.int .i64 a, .int .i64 b] = some (.tup [.int .i64 (mulF a b).1, .int .i64 (mulF a b).2]) :=
  spOf_enc (fun ⟨a0, a1⟩ ⟨b0, b1⟩ h => by simp only [List.cons.injEq, D.slc.injEq, D.int.injEq, D.bool.injEq, D.str.injEq, D.agg.injEq, digs_iff, dig_iff, digC_iff, bytes_iff, byte_iff, words_iff, word_iff, bsl_iff, true_and, and_true, ints_iff, nI_iff, tsts_iff, clss_iff, clsD_iff, tarD_iff, tstD_iff, ptD_iff, Int.ofNat_inj] at h; simp [h, Prod.ext_iff]) (a, b) trivial
set_option maxHeartbeats 4000000 in
set_option maxRecDepth 20000 in
theorem w_mnMul (a : Int) (b : Int) : @wW GG (tb [(70, sp_mnIn), (73, sp_mnAbs), (72, sp_bMul)] []) F_money_Mul.code (argF [.int .i64 a, .int .i64 b]) [] ⟨retQ F_money_Mul.res (.tup [.int .i64 (mulF a b).1, .int .i64 (mulF a b).2])⟩ := by
  unfold F_money_Mul mulF
  have h2 := call_in2 a b
  cases hc : inI a && inI b with
  | false => rw [hc] at h2; simp (disch := first | omega | decide) only [push_cast, ↓wF_free, ↓reduceIte, Nat.reduceEqDiff, Nat.reduceLT, Nat.reduceLeDiff, Nat.reduceAdd, Nat.reduceSub, Nat.reduceMul, Nat.reduceBEq, Int.reduceLT, Int.reduceLE, Int.reduceToNat, Int.reduceNeg, Int.reducePow, Int.reduceAdd, Int.reduceMul, Int.reduceSub, ↓Int.reduceNatCast', lit2, lit1, e98, e108, e109, e810, e910, e89, h2]
  | true =>
    rw [hc] at h2
    simp only [Bool.and_eq_true] at hc
    have c1 : sp_mnAbs [.int .i64 a] = some (.int .u64 (abI a)) := call_mnAbs a hc.1
    have c2 : sp_mnAbs [.int .i64 b] = some (.int .u64 (abI b)) := call_mnAbs b hc.2
    have l1 := ab_le hc.1
    have l2 := ab_le hc.2
    have c3 := call_bMul (abI a) (abI b) (by omega)
    have e := ab_mul a b
    have ei := ab_in (a * b)
    have hn : 0 ≤ abI a * abI b := Int.mul_nonneg l1.1 l2.1
    have hb : abI a * abI b ≤ 9007199254740992 * 9007199254740992 := Int.le_trans (Int.mul_le_mul_of_nonneg_right l1.2 l2.1) (by omega)
    rw [e] at c3 hn hb
    have hm : abI (a * b) ≤ 9007199254740992 → -9007199254740992 ≤ a * b ∧ a * b ≤ 9007199254740992 := fun h => by
      unfold abI at h; split at h <;> omega
    have hmul : -9007199254740992 ≤ a * b → a * b ≤ 9007199254740992 → pbin .mul (.int .i64 a) (.int .i64 b) = some (.int .i64 (a * b)) := fun h1 h2 => mul_i (by omega) (by omega)
    unfold rgF
    rw [ei]
    generalize a * b = m at *
    generalize abI m = z at *
    by_cases h0 : z / 18446744073709551616 = 0
    · have h9 : z % 18446744073709551616 = z := by omega
      rw [h0, h9] at c3
      by_cases h8 : 9007199254740992 < z
      · have h7 : ¬ z ≤ 9007199254740992 := by omega
        simp (disch := first | omega | decide) only [push_cast, ↓wF_free, ↓reduceIte, Nat.reduceEqDiff, Nat.reduceLT, Nat.reduceLeDiff, Nat.reduceAdd, Nat.reduceSub, Nat.reduceMul, Nat.reduceBEq, Int.reduceLT, Int.reduceLE, Int.reduceToNat, Int.reduceNeg, Int.reducePow, Int.reduceAdd, Int.reduceMul, Int.reduceSub, ↓Int.reduceNatCast', lit2, lit1, e98, e108, e109, e810, e910, e89, h2, c1, c2, c3, h8, h7]
      · have h7 : z ≤ 9007199254740992 := by omega
        have h6 := hm h7
        have c4 : pbin .mul (.int .i64 a) (.int .i64 b) = some (.int .i64 m) := hmul h6.1 h6.2
        simp (disch := first | omega | decide) only [push_cast, ↓wF_free, ↓reduceIte, Nat.reduceEqDiff, Nat.reduceLT, Nat.reduceLeDiff, Nat.reduceAdd, Nat.reduceSub, Nat.reduceMul, Nat.reduceBEq, Int.reduceLT, Int.reduceLE, Int.reduceToNat, Int.reduceNeg, Int.reducePow, Int.reduceAdd, Int.reduceMul, Int.reduceSub, ↓Int.reduceNatCast', lit2, lit1, e98, e108, e109, e810, e910, e89, h2, c1, c2, c3, h8, h7, c4]
    · have h7 : ¬ z ≤ 9007199254740992 := by omega
      simp (disch := first | omega | decide) only [push_cast, ↓wF_free, ↓reduceIte, Nat.reduceEqDiff, Nat.reduceLT, Nat.reduceLeDiff, Nat.reduceAdd, Nat.reduceSub, Nat.reduceMul, Nat.reduceBEq, Int.reduceLT, Int.reduceLE, Int.reduceToNat, Int.reduceNeg, Int.reducePow, Int.reduceAdd, Int.reduceMul, Int.reduceSub, ↓Int.reduceNatCast', lit2, lit1, e98, e108, e109, e810, e910, e89, h2, c1, c2, c3, h0, h7]
theorem c_mnMul : Contract Try.prog GG 67 sp_mnMul :=
  contract_of tr_money_Mul (tb_ok (all_cons c_mnIn (all_cons c_mnAbs (all_cons c_bMul all_nil))) all_nil) (fun a h => w_mnMul a.1 a.2)
theorem tdiv_le (a : Int) {b : Int} (hb : 0 < b) : -(abI a) ≤ a.tdiv b ∧ a.tdiv b ≤ abI a := by
  unfold abI
  rcases Int.lt_or_le a 0 with h | h
  · have e : a.tdiv b = -((-a) / b) := by
      rw [← Int.tdiv_eq_ediv_of_nonneg (by omega), Int.neg_tdiv, Int.neg_neg]
    have h1 := Int.ediv_le_self b (show 0 ≤ -a by omega)
    have h2 := Int.ediv_nonneg (show 0 ≤ -a by omega) (show 0 ≤ b by omega)
    rw [if_pos h, e]; omega
  · have e : a.tdiv b = a / b := Int.tdiv_eq_ediv_of_nonneg h
    have h1 := Int.ediv_le_self b h
    have h2 := Int.ediv_nonneg h (show 0 ≤ b by omega)
    rw [if_neg (by omega), e]; omega
theorem quo_t {a b : Int} (hb : 0 < b) (h1 : -9223372036854775808 < a) (h2 : a < 9223372036854775808) : pbin .quo (.int .i64 a) (.int .i64 b) = some (.int .i64 (a.tdiv b)) := by
  have h3 := tdiv_le a hb
  have h4 : abI a < 9223372036854775808 := by unfold abI; split <;> omega
  simp only [pbin, if_true, iarith, show ¬ b = 0 by omega, if_false, Option.map_some, wrap_i64 (show -9223372036854775808 ≤ a.tdiv b by omega) (show a.tdiv b < 9223372036854775808 by omega)]
theorem rem_t {a b : Int} (hb : 0 < b) : pbin .rem (.int .i64 a) (.int .i64 b) = some (.int .i64 (a.tmod b)) := by
  simp only [pbin, if_true, iarith, show ¬ b = 0 by omega, if_false, Option.map_some]
def dnF (a b : Int) : Int := (if a.tmod b < 0 then a - b else a).tdiv b
def upF (a b : Int) : Int := (if 0 < a.tmod b then a + b else a).tdiv b
def divF (a b m : Int) : Int × Int := if inI a && inI b then (if b ≤ 0 then (0, 70) else (if m = 10 then dnF (2 * a + b) (2 * b) else if m = 8 then dnF a b else upF a b, 0)) else (0, 3)
noncomputable def sp_mnDiv : List D → Option D := spOf (α := Int × Int × Int) (fun a => [.int .i64 a.1, .int .i64 a.2.1, .int .i64 a.2.2]) (fun a => a.2.2 = 8 ∨ a.2.2 = 9 ∨ a.2.2 = 10) (fun a => .tup [.int .i64 (divF a.1 a.2.1 a.2.2).1, .int .i64 (divF a.1 a.2.1 a.2.2).2])
theorem call_mnDiv (a : Int) (b : Int) (m : Int) (h : m = 8 ∨ m = 9 ∨ m = 10) : sp_mnDiv [.int .i64 a, .int .i64 b, .int .i64 m] = some (.tup [.int .i64 (divF a b m).1, .int .i64 (divF a b m).2]) :=
  spOf_enc (fun ⟨a0, a1, a2⟩ ⟨b0, b1, b2⟩ h => by simp only [List.cons.injEq, D.slc.injEq, D.int.injEq, D.bool.injEq, D.str.injEq, D.agg.injEq, digs_iff, dig_iff, digC_iff, bytes_iff, byte_iff, words_iff, word_iff, bsl_iff, true_and, and_true, ints_iff, nI_iff, tsts_iff, clss_iff, clsD_iff, tarD_iff, tstD_iff, ptD_iff, Int.ofNat_inj] at h; simp [h, Prod.ext_iff]) (a, b, m) h
set_option maxHeartbeats 4000000 in
set_option maxRecDepth 20000 in
theorem w_mnDiv (a : Int) (b : Int) (m : Int) (h : m = 8 ∨ m = 9 ∨ m = 10) : @wW GG (tb [(70, sp_mnIn)] []) F_money_Div.code (argF [.int .i64 a, .int .i64 b, .int .i64 m]) [] ⟨retQ F_money_Div.res (.tup [.int .i64 (divF a b m).1, .int .i64 (divF a b m).2])⟩ := by
  unfold F_money_Div divF
  have h2 := call_in2 a b
  cases hc : inI a && inI b with
  | false =>
    rw [hc] at h2
    rcases h with rfl | rfl | rfl <;> simp (disch := first | omega | decide) only [push_cast, ↓wF_free, ↓reduceIte, Nat.reduceEqDiff, Nat.reduceLT, Nat.reduceLeDiff, Nat.reduceAdd, Nat.reduceSub, Nat.reduceMul, Nat.reduceBEq, Int.reduceLT, Int.reduceLE, Int.reduceToNat, Int.reduceNeg, Int.reducePow, Int.reduceAdd, Int.reduceMul, Int.reduceSub, ↓Int.reduceNatCast', lit2, lit1, e98, e108, e109, e810, e910, e89, h2]
  | true =>
    rw [hc] at h2
    simp only [Bool.and_eq_true, inI_iff] at hc
    obtain ⟨⟨a1, a2⟩, b1, b2⟩ := hc
    by_cases hb : b ≤ 0
    · rcases h with rfl | rfl | rfl <;> simp (disch := first | omega | decide) only [push_cast, ↓wF_free, ↓reduceIte, Nat.reduceEqDiff, Nat.reduceLT, Nat.reduceLeDiff, Nat.reduceAdd, Nat.reduceSub, Nat.reduceMul, Nat.reduceBEq, Int.reduceLT, Int.reduceLE, Int.reduceToNat, Int.reduceNeg, Int.reducePow, Int.reduceAdd, Int.reduceMul, Int.reduceSub, ↓Int.reduceNatCast', lit2, lit1, e98, e108, e109, e810, e910, e89, h2, hb]
    · unfold dnF upF
      rcases h with rfl | rfl | rfl
      · by_cases hr : a.tmod b < 0
        · simp (disch := first | omega | decide) only [push_cast, ↓wF_free, ↓reduceIte, Nat.reduceEqDiff, Nat.reduceLT, Nat.reduceLeDiff, Nat.reduceAdd, Nat.reduceSub, Nat.reduceMul, Nat.reduceBEq, Int.reduceLT, Int.reduceLE, Int.reduceToNat, Int.reduceNeg, Int.reducePow, Int.reduceAdd, Int.reduceMul, Int.reduceSub, ↓Int.reduceNatCast', lit2, lit1, e98, e108, e109, e810, e910, e89, h2, hb, rem_t, hr, sub_i, quo_t]
        · simp (disch := first | omega | decide) only [push_cast, ↓wF_free, ↓reduceIte, Nat.reduceEqDiff, Nat.reduceLT, Nat.reduceLeDiff, Nat.reduceAdd, Nat.reduceSub, Nat.reduceMul, Nat.reduceBEq, Int.reduceLT, Int.reduceLE, Int.reduceToNat, Int.reduceNeg, Int.reducePow, Int.reduceAdd, Int.reduceMul, Int.reduceSub, ↓Int.reduceNatCast', lit2, lit1, e98, e108, e109, e810, e910, e89, h2, hb, rem_t, hr, quo_t]
      · by_cases hr : 0 < a.tmod b
        · simp (disch := first | omega | decide) only [push_cast, ↓wF_free, ↓reduceIte, Nat.reduceEqDiff, Nat.reduceLT, Nat.reduceLeDiff, Nat.reduceAdd, Nat.reduceSub, Nat.reduceMul, Nat.reduceBEq, Int.reduceLT, Int.reduceLE, Int.reduceToNat, Int.reduceNeg, Int.reducePow, Int.reduceAdd, Int.reduceMul, Int.reduceSub, ↓Int.reduceNatCast', lit2, lit1, e98, e108, e109, e810, e910, e89, h2, hb, rem_t, hr, add_i, quo_t]
        · simp (disch := first | omega | decide) only [push_cast, ↓wF_free, ↓reduceIte, Nat.reduceEqDiff, Nat.reduceLT, Nat.reduceLeDiff, Nat.reduceAdd, Nat.reduceSub, Nat.reduceMul, Nat.reduceBEq, Int.reduceLT, Int.reduceLE, Int.reduceToNat, Int.reduceNeg, Int.reducePow, Int.reduceAdd, Int.reduceMul, Int.reduceSub, ↓Int.reduceNatCast', lit2, lit1, e98, e108, e109, e810, e910, e89, h2, hb, rem_t, hr, quo_t]
      · by_cases hr : (2 * a + b).tmod (2 * b) < 0
        · simp (disch := first | omega | decide) only [push_cast, ↓wF_free, ↓reduceIte, Nat.reduceEqDiff, Nat.reduceLT, Nat.reduceLeDiff, Nat.reduceAdd, Nat.reduceSub, Nat.reduceMul, Nat.reduceBEq, Int.reduceLT, Int.reduceLE, Int.reduceToNat, Int.reduceNeg, Int.reducePow, Int.reduceAdd, Int.reduceMul, Int.reduceSub, ↓Int.reduceNatCast', lit2, lit1, e98, e108, e109, e810, e910, e89, h2, hb, mul_i, add_i, rem_t, hr, sub_i, quo_t]
        · simp (disch := first | omega | decide) only [push_cast, ↓wF_free, ↓reduceIte, Nat.reduceEqDiff, Nat.reduceLT, Nat.reduceLeDiff, Nat.reduceAdd, Nat.reduceSub, Nat.reduceMul, Nat.reduceBEq, Int.reduceLT, Int.reduceLE, Int.reduceToNat, Int.reduceNeg, Int.reducePow, Int.reduceAdd, Int.reduceMul, Int.reduceSub, ↓Int.reduceNatCast', lit2, lit1, e98, e108, e109, e810, e910, e89, h2, hb, mul_i, add_i, rem_t, hr, quo_t]
theorem c_mnDiv : Contract Try.prog GG 74 sp_mnDiv :=
  contract_of tr_money_Div (tb_ok (all_cons c_mnIn all_nil) all_nil) (fun a h => w_mnDiv a.1 a.2.1 a.2.2 h)
end Go.Proofs.Ytgppecaeegaooaa.PI
namespace Go.Proofs.Ytgppecaeegaooaa.PI
open Go
set_option linter.unusedSimpArgs false
set_option linter.unusedVariables false
noncomputable def relG (R : List D → St → D × Int × St → Prop) : List D → St → Option (D × Int × St) := fun ds st => @dite _ (∃ r, R ds st r) (Classical.propDecidable _) (fun h => some h.choose) (fun _ => none)
theorem relG_inv {R : List D → St → D × Int × St → Prop} {ds : List D} {st : St} {r : D × Int × St} (h : relG R ds st = some r) : R ds st r := by
  unfold relG at h
  split at h
  · rename_i hx
    simp only [Option.some.injEq] at h
    rw [← h]; exact hx.choose_spec
  · cases h
def Fnl (R : List D → St → D × Int × St → Prop) : Prop := ∀ ds st r r', R ds st r → R ds st r' → r = r'
theorem relG_eq {R : List D → St → D × Int × St → Prop} (hf : Fnl R) {ds : List D} {st : St} {r : D × Int × St} (h : R ds st r) : relG R ds st = some r := by
  have hx : ∃ r, R ds st r := ⟨r, h⟩
  unfold relG
  rw [dif_pos hx, hf _ _ _ _ hx.choose_spec h]
noncomputable def siG (R : List D → St → D × Int × St → Prop) : List D → St → Option (D × St) := fun ds st => match relG R ds st with
  | some (d, e, st') => if e = 0 then some (d, st') else none
  | none => none
noncomputable def sxG (R : List D → St → D × Int × St → Prop) : List D → St → Option (Nat × D × St) := fun ds st => match relG R ds st with
  | some (_, e, st') => if e = 0 then none else some (96, .agg [.int .i64 e], st')
  | none => none
theorem si_val {R : List D → St → D × Int × St → Prop} (hf : Fnl R) {ds : List D} {st st' : St} {d : D} (h : R ds st (d, 0, st')) : siG R ds st = some (d, st') := by
  simp only [siG, relG_eq hf h, if_true]
theorem si_bad {R : List D → St → D × Int × St → Prop} (hf : Fnl R) {ds : List D} {st st' : St} {d : D} {e : Int} (h : R ds st (d, e, st')) (he : e ≠ 0) : siG R ds st = none := by
  simp only [siG, relG_eq hf h, if_neg he]
theorem sx_bad {R : List D → St → D × Int × St → Prop} (hf : Fnl R) {ds : List D} {st st' : St} {d : D} {e : Int} (h : R ds st (d, e, st')) (he : e ≠ 0) : sxG R ds st = some (96, .agg [.int .i64 e], st') := by
  simp only [sxG, relG_eq hf h, if_neg he]
def retJ (res : List PRes) (d : D) (e : Int) (st' : St) (x : Ex) (fr : Frame) (st : St) : Prop := match x with
  | .exit _ => False
  | .panic t y => ¬ e = 0 ∧ t = 96 ∧ y = .agg [.int .i64 e] ∧ st = st'
  | _ => e = 0 ∧ @on _ (raws ⟨fr, st⟩ res) ⟨fun l => (pack l, st) = (d, st')⟩
theorem retJ_ret (res : List PRes) (d : D) (e : Int) (st' : St) (fr : Frame) (st : St) : retJ res d e st' .ret fr st = (e = 0 ∧ @on _ (raws ⟨fr, st⟩ res) ⟨fun l => (pack l, st) = (d, st')⟩) := (rfl)
theorem retJ_panic (res : List PRes) (d : D) (e : Int) (st' : St) (t : Nat) (y : D) (fr : Frame) (st : St) : retJ res d e st' (.panic t y) fr st = (¬ e = 0 ∧ t = 96 ∧ y = .agg [.int .i64 e] ∧ st = st') := (rfl)
theorem joint {T : Tbl} {il : List Nat} {f : Nat} {hints : List (List Nat)} {F : PF} {R : List D → St → D × Int × St → Prop} (ht : trF Try.prog il f hints = some F) (hT : TblOK Try.prog GG T)
    (h : ∀ ds st d e st', R ds st (d, e, st') → @wW GG T F.code (argF ds) st ⟨retJ F.res d e st'⟩) (hy : T.y = fun _ _ _ => none := by rfl) : IContract Try.prog GG f (siG R) ∧ XIContract Try.prog GG f (sxG R) := by
  constructor
  · refine icontract_keep' ht hT (fun ds st r hr => ?_) hy
    unfold siG at hr
    split at hr
    case h_2 => cases hr
    rename_i d e st' hg
    split at hr
    case isFalse => cases hr
    rename_i he
    simp only [Option.some.injEq] at hr
    subst hr; subst he
    refine wW_mk (W_mono _ _ _ _ _ (W_of (h _ _ _ _ _ (relG_inv hg))) fun x fr st hq => ?_)
    cases x with
    | exit i => exact hq.elim
    | panic t y => exact absurd rfl hq.1
    | next => unfold retI; exact hq.2
    | ret => unfold retI; exact hq.2
  · refine xcontract_of ht hT (fun ds st r hr => ?_) hy
    unfold sxG at hr
    split at hr
    case h_2 => cases hr
    rename_i d e st' hg
    split at hr
    case isTrue => cases hr
    rename_i he
    simp only [Option.some.injEq] at hr
    subst hr
    refine wW_mk (W_mono _ _ _ _ _ (W_of (h _ _ _ _ _ (relG_inv hg))) fun x fr st hq => ?_)
    cases x with
    | exit i => exact hq.elim
    | panic t y => obtain ⟨_, rfl, rfl, rfl⟩ := hq; unfold retX; rfl
    | next => exact absurd hq.1 he
    | ret => exact absurd hq.1 he
attribute [irreducible] retJ
attribute [push_cast] retJ_ret retJ_panic
def binF (op a b : Int) : Int × Int := if op = 3 then addF a b else if op = 4 then subF a b else if op = 5 then mulF a b else if op = 6 then (min a b, 0) else if op = 7 then (max a b, 0) else divF a b op
def bothR (ev : D → (Int × Int) × St) (els : List D) : (Int × Int × Int) × St :=
  if (ev (els.getD 0 default)).1.2 = 0 then (((ev (els.getD 0 default)).1.1, (ev (els.getD 1 default)).1.1, (ev (els.getD 1 default)).1.2), (ev (els.getD 0 default)).2 ++ (ev (els.getD 1 default)).2)
  else ((0, 0, (ev (els.getD 0 default)).1.2), (ev (els.getD 0 default)).2)
def opR (ev : D → (Int × Int) × St) (op : Int) (els : List D) : (Int × Int) × St :=
  if (bothR ev els).1.2.2 = 0 then
    if op = 11 then ((ev (els.getD (if (bothR ev els).1.1 < (bothR ev els).1.2.1 then 2 else 3) default)).1, (bothR ev els).2 ++ (ev (els.getD (if (bothR ev els).1.1 < (bothR ev els).1.2.1 then 2 else 3) default)).2)
    else (binF op (bothR ev els).1.1 (bothR ev els).1.2.1, (bothR ev els).2)
  else ((0, (bothR ev els).1.2.2), (bothR ev els).2)
def evF : Nat → List Int → D → (Int × Int) × St
  | 0, _, _ => ((0, 0), [])
  | n + 1, v, .agg [.int .i64 op, .int .i64 k, a, b, c, d, .slc z els t] =>
    if op = 1 then ((k, 0), [⟨false, 1, [.int .i64 op, .int .i64 k, a, b, c, d, .slc z els t], false⟩])
    else if op = 2 then ((at' v k.toNat, 0), [⟨false, 1, [.int .i64 op, .int .i64 k, a, b, c, d, .slc z els t], false⟩])
    else ((opR (evF n v) op els).1, ⟨false, 1, [.int .i64 op, .int .i64 k, a, b, c, d, .slc z els t], false⟩ :: (opR (evF n v) op els).2)
  | _ + 1, _, _ => ((0, 0), [])
theorem evF_ex (n : Nat) (v : List Int) (op k u0 u1 u2 u3 : Int) (els : List D) : evF (n + 1) v (exD op k u0 u1 u2 u3 els) =
    if op = 1 then ((k, 0), [⟨false, 1, exC op k u0 u1 u2 u3 els, false⟩]) else if op = 2 then ((at' v k.toNat, 0), [⟨false, 1, exC op k u0 u1 u2 u3 els, false⟩])
    else ((opR (evF n v) op els).1, ⟨false, 1, exC op k u0 u1 u2 u3 els, false⟩ :: (opR (evF n v) op els).2) := by
  simp only [exD, exC, evF]
structure EvAt (st : St) (k m : Nat) (v : List Int) : Prop where
  cs : caseV v
  ev : st[k]? = some ⟨false, 1, evC 65535 v (.mapv m), false⟩
  mp : st[m]? = some ⟨false, 2, evN k 9, false⟩
theorem EvAt.app {st : St} {k m : Nat} {v : List Int} (h : EvAt st k m v) (l : St) : EvAt (st ++ l) k m v := by
  have h1 := (List.getElem?_eq_some_iff.1 h.ev).1
  have h2 := (List.getElem?_eq_some_iff.1 h.mp).1
  exact ⟨h.cs, by rw [List.getElem?_append_left h1]; exact h.ev, by rw [List.getElem?_append_left h2]; exact h.mp⟩
theorem EvAt.same {st : St} {k m m' : Nat} {v v' : List Int} (h : EvAt st k m v) (h' : EvAt st k m' v') : v = v' := by
  have := h.ev.symm.trans h'.ev
  simp only [Option.some.injEq, Obj.mk.injEq, true_and, and_true] at this
  exact (evC_inj h.cs.1 h'.cs.1 this).2.1
def opsOK (N : Nat) (els : List D) : Prop := ∀ x ∈ els, ExP x ∧ formF N x = true
def evRel (N : Nat) (ds : List D) (st : St) (r : D × Int × St) : Prop := ∃ (k m : Nat) (v : List Int) (e : D), ds = [.ptr k 0, e] ∧ EvAt st k m v ∧ ExP e ∧ formF N e = true ∧ r = (.int .i64 (evF N v e).1.1, (evF N v e).1.2, st ++ (evF N v e).2)
def bothRel (N : Nat) (ds : List D) (st : St) (r : D × Int × St) : Prop := ∃ (k m : Nat) (v : List Int) (els : List D), ds = [.ptr k 0, .slc (nz 7 els) els false] ∧ EvAt st k m v ∧ opsOK N els ∧ 2 ≤ els.length ∧
  r = (.tup [.int .i64 (bothR (evF N v) els).1.1, .int .i64 (bothR (evF N v) els).1.2.1], (bothR (evF N v) els).1.2.2, st ++ (bothR (evF N v) els).2)
def opRel (N : Nat) (op : Int) (ds : List D) (st : St) (r : D × Int × St) : Prop := ∃ (k m : Nat) (v : List Int) (els : List D), ds = [.ptr k 0, .slc (nz 7 els) els false] ∧ EvAt st k m v ∧ opsOK N els ∧ (els.length : Int) = opsF op ∧
  r = (.int .i64 (opR (evF N v) op els).1.1, (opR (evF N v) op els).1.2, st ++ (opR (evF N v) op els).2)
def divRel (N : Nat) (ds : List D) (st : St) (r : D × Int × St) : Prop := ∃ (k m : Nat) (v : List Int) (els : List D) (op : Int), ds = [.ptr k 0, .slc (nz 7 els) els false, .int .i64 op] ∧ EvAt st k m v ∧ opsOK N els ∧ els.length = 2 ∧ (op = 8 ∨ op = 9 ∨ op = 10) ∧
  r = (.int .i64 (opR (evF N v) op els).1.1, (opR (evF N v) op els).1.2, st ++ (opR (evF N v) op els).2)
def mustRel (ds : List D) (st : St) (r : D × Int × St) : Prop := ∃ (n e : Int), ds = [.int .i64 n, .int .i64 e] ∧ r = (.int .i64 n, e, st)
theorem ev_fnl (N : Nat) : Fnl (evRel N) := by
  rintro ds st r r' ⟨k, m, v, e, rfl, h1, _, _, rfl⟩ ⟨k', m', v', e', h2, h3, _, _, rfl⟩
  simp only [List.cons.injEq, D.ptr.injEq, and_true] at h2
  obtain ⟨rfl, rfl⟩ := h2
  obtain rfl := h1.same h3
  rfl
theorem both_fnl (N : Nat) : Fnl (bothRel N) := by
  rintro ds st r r' ⟨k, m, v, e, rfl, h1, _, _, rfl⟩ ⟨k', m', v', e', h2, h3, _, _, rfl⟩
  simp only [List.cons.injEq, D.ptr.injEq, D.slc.injEq, and_true] at h2
  obtain ⟨rfl, _, rfl⟩ := h2
  obtain rfl := h1.same h3
  rfl
theorem op_fnl (N : Nat) (op : Int) : Fnl (opRel N op) := by
  rintro ds st r r' ⟨k, m, v, e, rfl, h1, _, _, rfl⟩ ⟨k', m', v', e', h2, h3, _, _, rfl⟩
  simp only [List.cons.injEq, D.ptr.injEq, D.slc.injEq, and_true] at h2
  obtain ⟨rfl, _, rfl⟩ := h2
  obtain rfl := h1.same h3
  rfl
theorem div_fnl (N : Nat) : Fnl (divRel N) := by
  rintro ds st r r' ⟨k, m, v, e, o, rfl, h1, _, _, _, rfl⟩ ⟨k', m', v', e', o', h2, h3, _, _, _, rfl⟩
  simp only [List.cons.injEq, D.ptr.injEq, D.slc.injEq, D.int.injEq, and_true, true_and] at h2
  obtain ⟨rfl, ⟨_, rfl⟩, rfl⟩ := h2
  obtain rfl := h1.same h3
  rfl
theorem must_fnl : Fnl mustRel := by
  rintro ds st r r' ⟨n, e, rfl, rfl⟩ ⟨n', e', h2, rfl⟩
  simp only [List.cons.injEq, D.int.injEq, and_true, true_and] at h2
  obtain ⟨rfl, rfl⟩ := h2
  rfl
theorem pld_exP {x : D} (h : ExP x) (st : St) : pload st 7 true (.eptr x 0) = some x := by
  obtain ⟨op, k, u0, u1, u2, u3, els, _, _⟩ := h
  exact pld_ex ..
theorem cc_must : IContract Try.prog GG 63 (siG mustRel) ∧ XIContract Try.prog GG 63 (sxG mustRel) := by
  refine joint (T := tb [] []) tr_teval_must (tb_ok all_nil all_nil) ?_
  rintro ds st d e st' ⟨n, e', rfl, h⟩
  simp only [Prod.mk.injEq] at h
  obtain ⟨rfl, rfl, rfl⟩ := h
  unfold F_teval_must
  by_cases he : e = 0
  · simp (disch := first | omega | decide) only [push_cast, ↓wF_free, ↓reduceIte, Nat.reduceEqDiff, Nat.reduceLT, Nat.reduceLeDiff, Nat.reduceAdd, Nat.reduceSub, Nat.reduceMul, Nat.reduceBEq, Int.reduceLT, Int.reduceLE, Int.reduceToNat, Int.reduceNeg, Int.reducePow, Int.reduceAdd, Int.reduceMul, Int.reduceSub, ↓Int.reduceNatCast', he, and_true, true_and]
  · simp (disch := first | omega | decide) only [push_cast, ↓wF_free, ↓reduceIte, Nat.reduceEqDiff, Nat.reduceLT, Nat.reduceLeDiff, Nat.reduceAdd, Nat.reduceSub, Nat.reduceMul, Nat.reduceBEq, Int.reduceLT, Int.reduceLE, Int.reduceToNat, Int.reduceNeg, Int.reducePow, Int.reduceAdd, Int.reduceMul, Int.reduceSub, ↓Int.reduceNatCast', fill_1, he, and_true, true_and, not_false_eq_true]
noncomputable abbrev TEV (N : Nat) : Tbl := tbx [] [(58, siG (evRel N))] [(58, sxG (evRel N))]
set_option maxHeartbeats 4000000 in
set_option maxRecDepth 20000 in
theorem cc_both (N : Nat) (h : IContract Try.prog GG 58 (siG (evRel N)) ∧ XIContract Try.prog GG 58 (sxG (evRel N))) : IContract Try.prog GG 65 (siG (bothRel N)) ∧ XIContract Try.prog GG 65 (sxG (bothRel N)) := by
  refine joint (T := TEV N) tr_teval_evaluator_both (tbx_ok all_nil (all_cons h.1 all_nil) (all_cons h.2 all_nil)) ?_
  rintro ds st d e st' ⟨k, m, v, els, rfl, hev, hok, hl, h⟩
  simp only [Prod.mk.injEq] at h
  obtain ⟨rfl, rfl, rfl⟩ := h
  have i0 := fun st t => idx_ex st els t 0 (by omega)
  have i1 := fun st t => idx_ex st els t 1 (by omega)
  obtain ⟨a1, a2⟩ := hok _ (getD_memD (l := els) (i := 0) (by omega))
  obtain ⟨b1, b2⟩ := hok _ (getD_memD (l := els) (i := 1) (by omega))
  have r0 : evRel N [.ptr k 0, els.getD 0 default] st _ := ⟨k, m, v, _, rfl, hev, a1, a2, rfl⟩
  have r1 : evRel N [.ptr k 0, els.getD 1 default] (st ++ (evF N v (els.getD 0 default)).2) _ := ⟨k, m, v, _, rfl, hev.app _, b1, b2, rfl⟩
  have p0 := pld_exP a1
  have p1 := pld_exP b1
  unfold bothR
  simp only [Int.cast_ofNat_Int] at i0 i1
  generalize els.getD 0 default = x at *
  generalize els.getD 1 default = y at *
  generalize evF N v x = rx at *
  generalize evF N v y = ry at *
  obtain ⟨⟨vx, ex⟩, ox⟩ := rx
  obtain ⟨⟨vy, ey⟩, oy⟩ := ry
  dsimp only at r0 r1 ⊢
  unfold F_teval_evaluator_both
  by_cases hx : ex = 0
  · subst hx
    have c0 := si_val (ev_fnl N) r0
    by_cases hy : ey = 0
    · subst hy
      have c1 := si_val (ev_fnl N) r1
      simp (disch := first | omega | decide) only [push_cast, ↓wF_free, ↓reduceIte, Nat.reduceEqDiff, Nat.reduceLT, Nat.reduceLeDiff, Nat.reduceAdd, Nat.reduceSub, Nat.reduceMul, Nat.reduceBEq, Int.reduceLT, Int.reduceLE, Int.reduceToNat, Int.reduceNeg, Int.reducePow, Int.reduceAdd, Int.reduceMul, Int.reduceSub, ↓Int.reduceNatCast', i0, i1, p0, p1, c0, c1, List.append_assoc, and_true, true_and]
    · have c1 := si_bad (ev_fnl N) r1 hy
      have c2 := sx_bad (ev_fnl N) r1 hy
      simp (disch := first | omega | decide) only [push_cast, ↓wF_free, ↓reduceIte, Nat.reduceEqDiff, Nat.reduceLT, Nat.reduceLeDiff, Nat.reduceAdd, Nat.reduceSub, Nat.reduceMul, Nat.reduceBEq, Int.reduceLT, Int.reduceLE, Int.reduceToNat, Int.reduceNeg, Int.reducePow, Int.reduceAdd, Int.reduceMul, Int.reduceSub, ↓Int.reduceNatCast', i0, i1, p0, p1, c0, c1, c2, hy, List.append_assoc, and_true, true_and, not_false_eq_true]
  · have c0 := si_bad (ev_fnl N) r0 hx
    have c1 := sx_bad (ev_fnl N) r0 hx
    simp (disch := first | omega | decide) only [push_cast, ↓wF_free, ↓reduceIte, Nat.reduceEqDiff, Nat.reduceLT, Nat.reduceLeDiff, Nat.reduceAdd, Nat.reduceSub, Nat.reduceMul, Nat.reduceBEq, Int.reduceLT, Int.reduceLE, Int.reduceToNat, Int.reduceNeg, Int.reducePow, Int.reduceAdd, Int.reduceMul, Int.reduceSub, ↓Int.reduceNatCast', i0, i1, p0, p1, c0, c1, hx, List.append_assoc, and_true, true_and, not_false_eq_true]
theorem opR_bin (ev : D → (Int × Int) × St) {op : Int} (h : op ≠ 11) (els : List D) : opR ev op els = if (bothR ev els).1.2.2 = 0 then (binF op (bothR ev els).1.1 (bothR ev els).1.2.1, (bothR ev els).2) else ((0, (bothR ev els).1.2.2), (bothR ev els).2) := by
  unfold opR
  simp only [h, if_false]
theorem opR_if (ev : D → (Int × Int) × St) (els : List D) : opR ev 11 els = if (bothR ev els).1.2.2 = 0 then ((ev (els.getD (if (bothR ev els).1.1 < (bothR ev els).1.2.1 then 2 else 3) default)).1, (bothR ev els).2 ++ (ev (els.getD (if (bothR ev els).1.1 < (bothR ev els).1.2.1 then 2 else 3) default)).2)
    else ((0, (bothR ev els).1.2.2), (bothR ev els).2) := by
  unfold opR
  simp only [eq_self, if_true]
abbrev CC (f : Nat) (R : List D → St → D × Int × St → Prop) : Prop := IContract Try.prog GG f (siG R) ∧ XIContract Try.prog GG f (sxG R)
noncomputable abbrev TOP (N : Nat) : Tbl := tbx [(64, sp_mnAdd), (66, sp_mnSub), (67, sp_mnMul), (74, sp_mnDiv)]
  [(58, siG (evRel N)), (65, siG (bothRel N)), (63, siG mustRel)]
  [(58, sxG (evRel N)), (65, sxG (bothRel N)), (63, sxG mustRel)]
theorem top_ok {N : Nat} (h : CC 58 (evRel N)) : TblOK Try.prog GG (TOP N) :=
  tbx_ok (all_cons c_mnAdd (all_cons c_mnSub (all_cons c_mnMul (all_cons c_mnDiv all_nil)))) (all_cons h.1 (all_cons (cc_both N h).1 (all_cons cc_must.1 all_nil))) (all_cons h.2 (all_cons (cc_both N h).2 (all_cons cc_must.2 all_nil)))
set_option maxHeartbeats 4000000 in
set_option maxRecDepth 20000 in
theorem cc_add (N : Nat) (h : CC 58 (evRel N)) : CC 45 (opRel N 3) := by
  refine joint (T := TOP N) tr_teval_evaluator_add (top_ok h) ?_
  rintro ds st d e st' ⟨k, m, v, els, rfl, hev, hok, hl, h⟩
  simp only [Prod.mk.injEq] at h
  obtain ⟨rfl, rfl, rfl⟩ := h
  have hl2 : els.length = 2 := by have e : opsF 3 = 2 := rfl; omega
  have rb : bothRel N [.ptr k 0, .slc (nz 7 els) els false] st _ := ⟨k, m, v, els, rfl, hev, hok, by omega, rfl⟩
  rw [opR_bin _ (by decide)]
  generalize bothR (evF N v) els = r at *
  obtain ⟨⟨a, b, eb⟩, ob⟩ := r
  dsimp only at rb ⊢
  unfold F_teval_evaluator_add
  by_cases hb : eb = 0
  · subst hb
    have c0 := si_val (both_fnl N) rb
    have ca := call_mnAdd a b
    have hop : binF 3 a b = addF a b := (rfl)
    rw [if_pos rfl, hop]
    generalize addF a b = q at *
    obtain ⟨n, e⟩ := q
    dsimp only at ca ⊢
    have rm : mustRel [.int .i64 n, .int .i64 e] (st ++ ob) (.int .i64 n, e, st ++ ob) := ⟨n, e, rfl, rfl⟩
    by_cases he : e = 0
    · subst he
      have cm := si_val must_fnl rm
      simp (disch := first | omega | decide) only [push_cast, ↓wF_free, ↓reduceIte, Nat.reduceEqDiff, Nat.reduceLT, Nat.reduceLeDiff, Nat.reduceAdd, Nat.reduceSub, Nat.reduceMul, Nat.reduceBEq, Int.reduceLT, Int.reduceLE, Int.reduceToNat, Int.reduceNeg, Int.reducePow, Int.reduceAdd, Int.reduceMul, Int.reduceSub, ↓Int.reduceNatCast', c0, ca, cm, and_true, true_and]
    · have cm := si_bad must_fnl rm he
      have cx := sx_bad must_fnl rm he
      simp (disch := first | omega | decide) only [push_cast, ↓wF_free, ↓reduceIte, Nat.reduceEqDiff, Nat.reduceLT, Nat.reduceLeDiff, Nat.reduceAdd, Nat.reduceSub, Nat.reduceMul, Nat.reduceBEq, Int.reduceLT, Int.reduceLE, Int.reduceToNat, Int.reduceNeg, Int.reducePow, Int.reduceAdd, Int.reduceMul, Int.reduceSub, ↓Int.reduceNatCast', c0, ca, cm, cx, he, and_true, true_and, not_false_eq_true]
  · have c0 := si_bad (both_fnl N) rb hb
    have c1 := sx_bad (both_fnl N) rb hb
    rw [if_neg hb]
    simp (disch := first | omega | decide) only [push_cast, ↓wF_free, ↓reduceIte, Nat.reduceEqDiff, Nat.reduceLT, Nat.reduceLeDiff, Nat.reduceAdd, Nat.reduceSub, Nat.reduceMul, Nat.reduceBEq, Int.reduceLT, Int.reduceLE, Int.reduceToNat, Int.reduceNeg, Int.reducePow, Int.reduceAdd, Int.reduceMul, Int.reduceSub, ↓Int.reduceNatCast', c0, c1, hb, and_true, true_and, not_false_eq_true]
set_option maxHeartbeats 4000000 in
set_option maxRecDepth 20000 in
theorem cc_sub (N : Nat) (h : CC 58 (evRel N)) : CC 46 (opRel N 4) := by
  refine joint (T := TOP N) tr_teval_evaluator_sub (top_ok h) ?_
  rintro ds st d e st' ⟨k, m, v, els, rfl, hev, hok, hl, h⟩
  simp only [Prod.mk.injEq] at h
  obtain ⟨rfl, rfl, rfl⟩ := h
  have hl2 : els.length = 2 := by have e : opsF 4 = 2 := rfl; omega
  have rb : bothRel N [.ptr k 0, .slc (nz 7 els) els false] st _ := ⟨k, m, v, els, rfl, hev, hok, by omega, rfl⟩
  rw [opR_bin _ (by decide)]
  generalize bothR (evF N v) els = r at *
  obtain ⟨⟨a, b, eb⟩, ob⟩ := r
  dsimp only at rb ⊢
  unfold F_teval_evaluator_sub
  by_cases hb : eb = 0
  · subst hb
    have c0 := si_val (both_fnl N) rb
    have ca := call_mnSub a b
    have hop : binF 4 a b = subF a b := (rfl)
    rw [if_pos rfl, hop]
    generalize subF a b = q at *
    obtain ⟨n, e⟩ := q
    dsimp only at ca ⊢
    have rm : mustRel [.int .i64 n, .int .i64 e] (st ++ ob) (.int .i64 n, e, st ++ ob) := ⟨n, e, rfl, rfl⟩
    by_cases he : e = 0
    · subst he
      have cm := si_val must_fnl rm
      simp (disch := first | omega | decide) only [push_cast, ↓wF_free, ↓reduceIte, Nat.reduceEqDiff, Nat.reduceLT, Nat.reduceLeDiff, Nat.reduceAdd, Nat.reduceSub, Nat.reduceMul, Nat.reduceBEq, Int.reduceLT, Int.reduceLE, Int.reduceToNat, Int.reduceNeg, Int.reducePow, Int.reduceAdd, Int.reduceMul, Int.reduceSub, ↓Int.reduceNatCast', c0, ca, cm, and_true, true_and]
    · have cm := si_bad must_fnl rm he
      have cx := sx_bad must_fnl rm he
      simp (disch := first | omega | decide) only [push_cast, ↓wF_free, ↓reduceIte, Nat.reduceEqDiff, Nat.reduceLT, Nat.reduceLeDiff, Nat.reduceAdd, Nat.reduceSub, Nat.reduceMul, Nat.reduceBEq, Int.reduceLT, Int.reduceLE, Int.reduceToNat, Int.reduceNeg, Int.reducePow, Int.reduceAdd, Int.reduceMul, Int.reduceSub, ↓Int.reduceNatCast', c0, ca, cm, cx, he, and_true, true_and, not_false_eq_true]
  · have c0 := si_bad (both_fnl N) rb hb
    have c1 := sx_bad (both_fnl N) rb hb
    rw [if_neg hb]
    simp (disch := first | omega | decide) only [push_cast, ↓wF_free, ↓reduceIte, Nat.reduceEqDiff, Nat.reduceLT, Nat.reduceLeDiff, Nat.reduceAdd, Nat.reduceSub, Nat.reduceMul, Nat.reduceBEq, Int.reduceLT, Int.reduceLE, Int.reduceToNat, Int.reduceNeg, Int.reducePow, Int.reduceAdd, Int.reduceMul, Int.reduceSub, ↓Int.reduceNatCast', c0, c1, hb, and_true, true_and, not_false_eq_true]
set_option maxHeartbeats 4000000 in
set_option maxRecDepth 20000 in
theorem cc_mul (N : Nat) (h : CC 58 (evRel N)) : CC 47 (opRel N 5) := by
  refine joint (T := TOP N) tr_teval_evaluator_mul (top_ok h) ?_
  rintro ds st d e st' ⟨k, m, v, els, rfl, hev, hok, hl, h⟩
  simp only [Prod.mk.injEq] at h
  obtain ⟨rfl, rfl, rfl⟩ := h
  have hl2 : els.length = 2 := by have e : opsF 5 = 2 := rfl; omega
  have rb : bothRel N [.ptr k 0, .slc (nz 7 els) els false] st _ := ⟨k, m, v, els, rfl, hev, hok, by omega, rfl⟩
  rw [opR_bin _ (by decide)]
  generalize bothR (evF N v) els = r at *
  obtain ⟨⟨a, b, eb⟩, ob⟩ := r
  dsimp only at rb ⊢
  unfold F_teval_evaluator_mul
  by_cases hb : eb = 0
  · subst hb
    have c0 := si_val (both_fnl N) rb
    have ca := call_mnMul a b
    have hop : binF 5 a b = mulF a b := (rfl)
    rw [if_pos rfl, hop]
    generalize mulF a b = q at *
    obtain ⟨n, e⟩ := q
    dsimp only at ca ⊢
    have rm : mustRel [.int .i64 n, .int .i64 e] (st ++ ob) (.int .i64 n, e, st ++ ob) := ⟨n, e, rfl, rfl⟩
    by_cases he : e = 0
    · subst he
      have cm := si_val must_fnl rm
      simp (disch := first | omega | decide) only [push_cast, ↓wF_free, ↓reduceIte, Nat.reduceEqDiff, Nat.reduceLT, Nat.reduceLeDiff, Nat.reduceAdd, Nat.reduceSub, Nat.reduceMul, Nat.reduceBEq, Int.reduceLT, Int.reduceLE, Int.reduceToNat, Int.reduceNeg, Int.reducePow, Int.reduceAdd, Int.reduceMul, Int.reduceSub, ↓Int.reduceNatCast', c0, ca, cm, and_true, true_and]
    · have cm := si_bad must_fnl rm he
      have cx := sx_bad must_fnl rm he
      simp (disch := first | omega | decide) only [push_cast, ↓wF_free, ↓reduceIte, Nat.reduceEqDiff, Nat.reduceLT, Nat.reduceLeDiff, Nat.reduceAdd, Nat.reduceSub, Nat.reduceMul, Nat.reduceBEq, Int.reduceLT, Int.reduceLE, Int.reduceToNat, Int.reduceNeg, Int.reducePow, Int.reduceAdd, Int.reduceMul, Int.reduceSub, ↓Int.reduceNatCast', c0, ca, cm, cx, he, and_true, true_and, not_false_eq_true]
  · have c0 := si_bad (both_fnl N) rb hb
    have c1 := sx_bad (both_fnl N) rb hb
    rw [if_neg hb]
    simp (disch := first | omega | decide) only [push_cast, ↓wF_free, ↓reduceIte, Nat.reduceEqDiff, Nat.reduceLT, Nat.reduceLeDiff, Nat.reduceAdd, Nat.reduceSub, Nat.reduceMul, Nat.reduceBEq, Int.reduceLT, Int.reduceLE, Int.reduceToNat, Int.reduceNeg, Int.reducePow, Int.reduceAdd, Int.reduceMul, Int.reduceSub, ↓Int.reduceNatCast', c0, c1, hb, and_true, true_and, not_false_eq_true]
set_option maxHeartbeats 4000000 in
set_option maxRecDepth 20000 in
theorem cc_least (N : Nat) (h : CC 58 (evRel N)) : CC 48 (opRel N 6) := by
  refine joint (T := TOP N) tr_teval_evaluator_least (top_ok h) ?_
  rintro ds st d e st' ⟨k, m, v, els, rfl, hev, hok, hl, h⟩
  simp only [Prod.mk.injEq] at h
  obtain ⟨rfl, rfl, rfl⟩ := h
  have hl2 : els.length = 2 := by have e : opsF 6 = 2 := rfl; omega
  have rb : bothRel N [.ptr k 0, .slc (nz 7 els) els false] st _ := ⟨k, m, v, els, rfl, hev, hok, by omega, rfl⟩
  rw [opR_bin _ (by decide)]
  generalize bothR (evF N v) els = r at *
  obtain ⟨⟨a, b, eb⟩, ob⟩ := r
  dsimp only at rb ⊢
  unfold F_teval_evaluator_least
  by_cases hb : eb = 0
  · subst hb
    have c0 := si_val (both_fnl N) rb
    have hop : binF 6 a b = (min a b, 0) := (rfl)
    rw [if_pos rfl, hop]
    simp (disch := first | omega | decide) only [push_cast, ↓wF_free, ↓reduceIte, Nat.reduceEqDiff, Nat.reduceLT, Nat.reduceLeDiff, Nat.reduceAdd, Nat.reduceSub, Nat.reduceMul, Nat.reduceBEq, Int.reduceLT, Int.reduceLE, Int.reduceToNat, Int.reduceNeg, Int.reducePow, Int.reduceAdd, Int.reduceMul, Int.reduceSub, ↓Int.reduceNatCast', c0, and_true, true_and]
  · have c0 := si_bad (both_fnl N) rb hb
    have c1 := sx_bad (both_fnl N) rb hb
    rw [if_neg hb]
    simp (disch := first | omega | decide) only [push_cast, ↓wF_free, ↓reduceIte, Nat.reduceEqDiff, Nat.reduceLT, Nat.reduceLeDiff, Nat.reduceAdd, Nat.reduceSub, Nat.reduceMul, Nat.reduceBEq, Int.reduceLT, Int.reduceLE, Int.reduceToNat, Int.reduceNeg, Int.reducePow, Int.reduceAdd, Int.reduceMul, Int.reduceSub, ↓Int.reduceNatCast', c0, c1, hb, and_true, true_and, not_false_eq_true]
set_option maxHeartbeats 4000000 in
set_option maxRecDepth 20000 in
theorem cc_greatest (N : Nat) (h : CC 58 (evRel N)) : CC 49 (opRel N 7) := by
  refine joint (T := TOP N) tr_teval_evaluator_greatest (top_ok h) ?_
  rintro ds st d e st' ⟨k, m, v, els, rfl, hev, hok, hl, h⟩
  simp only [Prod.mk.injEq] at h
  obtain ⟨rfl, rfl, rfl⟩ := h
  have hl2 : els.length = 2 := by have e : opsF 7 = 2 := rfl; omega
  have rb : bothRel N [.ptr k 0, .slc (nz 7 els) els false] st _ := ⟨k, m, v, els, rfl, hev, hok, by omega, rfl⟩
  rw [opR_bin _ (by decide)]
  generalize bothR (evF N v) els = r at *
  obtain ⟨⟨a, b, eb⟩, ob⟩ := r
  dsimp only at rb ⊢
  unfold F_teval_evaluator_greatest
  by_cases hb : eb = 0
  · subst hb
    have c0 := si_val (both_fnl N) rb
    have hop : binF 7 a b = (max a b, 0) := (rfl)
    rw [if_pos rfl, hop]
    simp (disch := first | omega | decide) only [push_cast, ↓wF_free, ↓reduceIte, Nat.reduceEqDiff, Nat.reduceLT, Nat.reduceLeDiff, Nat.reduceAdd, Nat.reduceSub, Nat.reduceMul, Nat.reduceBEq, Int.reduceLT, Int.reduceLE, Int.reduceToNat, Int.reduceNeg, Int.reducePow, Int.reduceAdd, Int.reduceMul, Int.reduceSub, ↓Int.reduceNatCast', c0, and_true, true_and]
  · have c0 := si_bad (both_fnl N) rb hb
    have c1 := sx_bad (both_fnl N) rb hb
    rw [if_neg hb]
    simp (disch := first | omega | decide) only [push_cast, ↓wF_free, ↓reduceIte, Nat.reduceEqDiff, Nat.reduceLT, Nat.reduceLeDiff, Nat.reduceAdd, Nat.reduceSub, Nat.reduceMul, Nat.reduceBEq, Int.reduceLT, Int.reduceLE, Int.reduceToNat, Int.reduceNeg, Int.reducePow, Int.reduceAdd, Int.reduceMul, Int.reduceSub, ↓Int.reduceNatCast', c0, c1, hb, and_true, true_and, not_false_eq_true]
set_option maxHeartbeats 4000000 in
set_option maxRecDepth 20000 in
theorem cc_divide (N : Nat) (h : CC 58 (evRel N)) : CC 68 (divRel N) := by
  refine joint (T := TOP N) tr_teval_evaluator_divide (top_ok h) ?_
  rintro ds st d e st' ⟨k, m, v, els, op, rfl, hev, hok, hl2, ho, h⟩
  simp only [Prod.mk.injEq] at h
  obtain ⟨rfl, rfl, rfl⟩ := h
  have rb : bothRel N [.ptr k 0, .slc (nz 7 els) els false] st _ := ⟨k, m, v, els, rfl, hev, hok, by omega, rfl⟩
  rw [opR_bin _ (by omega)]
  generalize bothR (evF N v) els = r at *
  obtain ⟨⟨a, b, eb⟩, ob⟩ := r
  dsimp only at rb ⊢
  unfold F_teval_evaluator_divide
  by_cases hb : eb = 0
  · subst hb
    have c0 := si_val (both_fnl N) rb
    have ca := call_mnDiv a b op ho
    have hop : binF op a b = divF a b op := by
      unfold binF
      rw [if_neg (by omega), if_neg (by omega), if_neg (by omega), if_neg (by omega), if_neg (by omega)]
    rw [if_pos rfl, hop]
    generalize divF a b op = q at *
    obtain ⟨n, e⟩ := q
    dsimp only at ca ⊢
    have rm : mustRel [.int .i64 n, .int .i64 e] (st ++ ob) (.int .i64 n, e, st ++ ob) := ⟨n, e, rfl, rfl⟩
    by_cases he : e = 0
    · subst he
      have cm := si_val must_fnl rm
      simp (disch := first | omega | decide) only [push_cast, ↓wF_free, ↓reduceIte, Nat.reduceEqDiff, Nat.reduceLT, Nat.reduceLeDiff, Nat.reduceAdd, Nat.reduceSub, Nat.reduceMul, Nat.reduceBEq, Int.reduceLT, Int.reduceLE, Int.reduceToNat, Int.reduceNeg, Int.reducePow, Int.reduceAdd, Int.reduceMul, Int.reduceSub, ↓Int.reduceNatCast', c0, ca, cm, and_true, true_and]
    · have cm := si_bad must_fnl rm he
      have cx := sx_bad must_fnl rm he
      simp (disch := first | omega | decide) only [push_cast, ↓wF_free, ↓reduceIte, Nat.reduceEqDiff, Nat.reduceLT, Nat.reduceLeDiff, Nat.reduceAdd, Nat.reduceSub, Nat.reduceMul, Nat.reduceBEq, Int.reduceLT, Int.reduceLE, Int.reduceToNat, Int.reduceNeg, Int.reducePow, Int.reduceAdd, Int.reduceMul, Int.reduceSub, ↓Int.reduceNatCast', c0, ca, cm, cx, he, and_true, true_and, not_false_eq_true]
  · have c0 := si_bad (both_fnl N) rb hb
    have c1 := sx_bad (both_fnl N) rb hb
    rw [if_neg hb]
    simp (disch := first | omega | decide) only [push_cast, ↓wF_free, ↓reduceIte, Nat.reduceEqDiff, Nat.reduceLT, Nat.reduceLeDiff, Nat.reduceAdd, Nat.reduceSub, Nat.reduceMul, Nat.reduceBEq, Int.reduceLT, Int.reduceLE, Int.reduceToNat, Int.reduceNeg, Int.reducePow, Int.reduceAdd, Int.reduceMul, Int.reduceSub, ↓Int.reduceNatCast', c0, c1, hb, and_true, true_and, not_false_eq_true]
noncomputable abbrev TDV (N : Nat) : Tbl := tbx [] [(68, siG (divRel N))] [(68, sxG (divRel N))]
set_option maxHeartbeats 4000000 in
set_option maxRecDepth 20000 in
theorem cc_down (N : Nat) (h : CC 58 (evRel N)) : CC 50 (opRel N 8) := by
  refine joint (T := TDV N) tr_teval_evaluator_down (tbx_ok all_nil (all_cons (cc_divide N h).1 all_nil) (all_cons (cc_divide N h).2 all_nil)) ?_
  rintro ds st d e st' ⟨k, m, v, els, rfl, hev, hok, hl, h⟩
  simp only [Prod.mk.injEq] at h
  obtain ⟨rfl, rfl, rfl⟩ := h
  have hl2 : els.length = 2 := by have e : opsF 8 = 2 := rfl; omega
  have rb : divRel N [.ptr k 0, .slc (nz 7 els) els false, .int .i64 8] st _ := ⟨k, m, v, els, 8, rfl, hev, hok, hl2, by decide, rfl⟩
  generalize opR (evF N v) 8 els = r at *
  obtain ⟨⟨a, eb⟩, ob⟩ := r
  dsimp only at rb ⊢
  unfold F_teval_evaluator_down
  by_cases hb : eb = 0
  · subst hb
    have c0 := si_val (div_fnl N) rb
    simp (disch := first | omega | decide) only [push_cast, ↓wF_free, ↓reduceIte, Nat.reduceEqDiff, Nat.reduceLT, Nat.reduceLeDiff, Nat.reduceAdd, Nat.reduceSub, Nat.reduceMul, Nat.reduceBEq, Int.reduceLT, Int.reduceLE, Int.reduceToNat, Int.reduceNeg, Int.reducePow, Int.reduceAdd, Int.reduceMul, Int.reduceSub, ↓Int.reduceNatCast', c0, and_true, true_and]
  · have c0 := si_bad (div_fnl N) rb hb
    have c1 := sx_bad (div_fnl N) rb hb
    simp (disch := first | omega | decide) only [push_cast, ↓wF_free, ↓reduceIte, Nat.reduceEqDiff, Nat.reduceLT, Nat.reduceLeDiff, Nat.reduceAdd, Nat.reduceSub, Nat.reduceMul, Nat.reduceBEq, Int.reduceLT, Int.reduceLE, Int.reduceToNat, Int.reduceNeg, Int.reducePow, Int.reduceAdd, Int.reduceMul, Int.reduceSub, ↓Int.reduceNatCast', c0, c1, hb, and_true, true_and, not_false_eq_true]
set_option maxHeartbeats 4000000 in
set_option maxRecDepth 20000 in
theorem cc_up (N : Nat) (h : CC 58 (evRel N)) : CC 51 (opRel N 9) := by
  refine joint (T := TDV N) tr_teval_evaluator_up (tbx_ok all_nil (all_cons (cc_divide N h).1 all_nil) (all_cons (cc_divide N h).2 all_nil)) ?_
  rintro ds st d e st' ⟨k, m, v, els, rfl, hev, hok, hl, h⟩
  simp only [Prod.mk.injEq] at h
  obtain ⟨rfl, rfl, rfl⟩ := h
  have hl2 : els.length = 2 := by have e : opsF 9 = 2 := rfl; omega
  have rb : divRel N [.ptr k 0, .slc (nz 7 els) els false, .int .i64 9] st _ := ⟨k, m, v, els, 9, rfl, hev, hok, hl2, by decide, rfl⟩
  generalize opR (evF N v) 9 els = r at *
  obtain ⟨⟨a, eb⟩, ob⟩ := r
  dsimp only at rb ⊢
  unfold F_teval_evaluator_up
  by_cases hb : eb = 0
  · subst hb
    have c0 := si_val (div_fnl N) rb
    simp (disch := first | omega | decide) only [push_cast, ↓wF_free, ↓reduceIte, Nat.reduceEqDiff, Nat.reduceLT, Nat.reduceLeDiff, Nat.reduceAdd, Nat.reduceSub, Nat.reduceMul, Nat.reduceBEq, Int.reduceLT, Int.reduceLE, Int.reduceToNat, Int.reduceNeg, Int.reducePow, Int.reduceAdd, Int.reduceMul, Int.reduceSub, ↓Int.reduceNatCast', c0, and_true, true_and]
  · have c0 := si_bad (div_fnl N) rb hb
    have c1 := sx_bad (div_fnl N) rb hb
    simp (disch := first | omega | decide) only [push_cast, ↓wF_free, ↓reduceIte, Nat.reduceEqDiff, Nat.reduceLT, Nat.reduceLeDiff, Nat.reduceAdd, Nat.reduceSub, Nat.reduceMul, Nat.reduceBEq, Int.reduceLT, Int.reduceLE, Int.reduceToNat, Int.reduceNeg, Int.reducePow, Int.reduceAdd, Int.reduceMul, Int.reduceSub, ↓Int.reduceNatCast', c0, c1, hb, and_true, true_and, not_false_eq_true]
set_option maxHeartbeats 4000000 in
set_option maxRecDepth 20000 in
theorem cc_half (N : Nat) (h : CC 58 (evRel N)) : CC 52 (opRel N 10) := by
  refine joint (T := TDV N) tr_teval_evaluator_half (tbx_ok all_nil (all_cons (cc_divide N h).1 all_nil) (all_cons (cc_divide N h).2 all_nil)) ?_
  rintro ds st d e st' ⟨k, m, v, els, rfl, hev, hok, hl, h⟩
  simp only [Prod.mk.injEq] at h
  obtain ⟨rfl, rfl, rfl⟩ := h
  have hl2 : els.length = 2 := by have e : opsF 10 = 2 := rfl; omega
  have rb : divRel N [.ptr k 0, .slc (nz 7 els) els false, .int .i64 10] st _ := ⟨k, m, v, els, 10, rfl, hev, hok, hl2, by decide, rfl⟩
  generalize opR (evF N v) 10 els = r at *
  obtain ⟨⟨a, eb⟩, ob⟩ := r
  dsimp only at rb ⊢
  unfold F_teval_evaluator_half
  by_cases hb : eb = 0
  · subst hb
    have c0 := si_val (div_fnl N) rb
    simp (disch := first | omega | decide) only [push_cast, ↓wF_free, ↓reduceIte, Nat.reduceEqDiff, Nat.reduceLT, Nat.reduceLeDiff, Nat.reduceAdd, Nat.reduceSub, Nat.reduceMul, Nat.reduceBEq, Int.reduceLT, Int.reduceLE, Int.reduceToNat, Int.reduceNeg, Int.reducePow, Int.reduceAdd, Int.reduceMul, Int.reduceSub, ↓Int.reduceNatCast', c0, and_true, true_and]
  · have c0 := si_bad (div_fnl N) rb hb
    have c1 := sx_bad (div_fnl N) rb hb
    simp (disch := first | omega | decide) only [push_cast, ↓wF_free, ↓reduceIte, Nat.reduceEqDiff, Nat.reduceLT, Nat.reduceLeDiff, Nat.reduceAdd, Nat.reduceSub, Nat.reduceMul, Nat.reduceBEq, Int.reduceLT, Int.reduceLE, Int.reduceToNat, Int.reduceNeg, Int.reducePow, Int.reduceAdd, Int.reduceMul, Int.reduceSub, ↓Int.reduceNatCast', c0, c1, hb, and_true, true_and, not_false_eq_true]
set_option maxHeartbeats 4000000 in
set_option maxRecDepth 20000 in
theorem cc_choose (N : Nat) (h : CC 58 (evRel N)) : CC 53 (opRel N 11) := by
  refine joint (T := TOP N) tr_teval_evaluator_choose (top_ok h) ?_
  rintro ds st d e st' ⟨k, m, v, els, rfl, hev, hok, hl, h⟩
  simp only [Prod.mk.injEq] at h
  obtain ⟨rfl, rfl, rfl⟩ := h
  have hl2 : els.length = 4 := by have e : opsF 11 = 4 := rfl; omega
  have rb : bothRel N [.ptr k 0, .slc (nz 7 els) els false] st _ := ⟨k, m, v, els, rfl, hev, hok, by omega, rfl⟩
  have rc : ∀ j, j < 4 → evRel N [.ptr k 0, els.getD j default] (st ++ (bothR (evF N v) els).2) _ := fun j hj => ⟨k, m, v, _, rfl, hev.app _, (hok _ (getD_memD (by omega))).1, (hok _ (getD_memD (by omega))).2, rfl⟩
  have ij := fun st t j (hj : j < 4) => idx_ex st els t j (by omega)
  have pj := fun j (hj : j < 4) => pld_exP (hok _ (getD_memD (l := els) (i := j) (by omega))).1
  have i2 : ∀ st t, pidxS st 7 (.slc (nz 7 els) els t) (.int .i64 2) = some (.eptr (els.getD 2 default) 0) := fun st t => ij st t 2 (by omega)
  have i3 : ∀ st t, pidxS st 7 (.slc (nz 7 els) els t) (.int .i64 3) = some (.eptr (els.getD 3 default) 0) := fun st t => ij st t 3 (by omega)
  have p2 := pj 2 (by omega)
  have p3 := pj 3 (by omega)
  have r2 := rc 2 (by omega)
  have r3 := rc 3 (by omega)
  clear rc ij pj
  rw [opR_if]
  generalize bothR (evF N v) els = r at *
  obtain ⟨⟨a, b, eb⟩, ob⟩ := r
  dsimp only at rb r2 r3 ⊢
  unfold F_teval_evaluator_choose
  by_cases hb : eb = 0
  · subst hb
    have c0 := si_val (both_fnl N) rb
    by_cases hab : a < b
    · rw [if_pos rfl, if_pos hab]
      generalize els.getD 2 default = x at *
      generalize evF N v x = rx at *
      obtain ⟨⟨vx, ex⟩, ox⟩ := rx
      dsimp only at r2 ⊢
      by_cases hx : ex = 0
      · subst hx
        have c1 := si_val (ev_fnl N) r2
        simp (disch := first | omega | decide) only [push_cast, ↓wF_free, ↓reduceIte, Nat.reduceEqDiff, Nat.reduceLT, Nat.reduceLeDiff, Nat.reduceAdd, Nat.reduceSub, Nat.reduceMul, Nat.reduceBEq, Int.reduceLT, Int.reduceLE, Int.reduceToNat, Int.reduceNeg, Int.reducePow, Int.reduceAdd, Int.reduceMul, Int.reduceSub, ↓Int.reduceNatCast', c0, hab, i2, p2, c1, List.append_assoc, and_true, true_and]
      · have c1 := si_bad (ev_fnl N) r2 hx
        have c2 := sx_bad (ev_fnl N) r2 hx
        simp (disch := first | omega | decide) only [push_cast, ↓wF_free, ↓reduceIte, Nat.reduceEqDiff, Nat.reduceLT, Nat.reduceLeDiff, Nat.reduceAdd, Nat.reduceSub, Nat.reduceMul, Nat.reduceBEq, Int.reduceLT, Int.reduceLE, Int.reduceToNat, Int.reduceNeg, Int.reducePow, Int.reduceAdd, Int.reduceMul, Int.reduceSub, ↓Int.reduceNatCast', c0, hab, i2, p2, c1, c2, hx, List.append_assoc, and_true, true_and, not_false_eq_true]
    · rw [if_pos rfl, if_neg hab]
      generalize els.getD 3 default = x at *
      generalize evF N v x = rx at *
      obtain ⟨⟨vx, ex⟩, ox⟩ := rx
      dsimp only at r3 ⊢
      by_cases hx : ex = 0
      · subst hx
        have c1 := si_val (ev_fnl N) r3
        simp (disch := first | omega | decide) only [push_cast, ↓wF_free, ↓reduceIte, Nat.reduceEqDiff, Nat.reduceLT, Nat.reduceLeDiff, Nat.reduceAdd, Nat.reduceSub, Nat.reduceMul, Nat.reduceBEq, Int.reduceLT, Int.reduceLE, Int.reduceToNat, Int.reduceNeg, Int.reducePow, Int.reduceAdd, Int.reduceMul, Int.reduceSub, ↓Int.reduceNatCast', c0, hab, i3, p3, c1, List.append_assoc, and_true, true_and]
      · have c1 := si_bad (ev_fnl N) r3 hx
        have c2 := sx_bad (ev_fnl N) r3 hx
        simp (disch := first | omega | decide) only [push_cast, ↓wF_free, ↓reduceIte, Nat.reduceEqDiff, Nat.reduceLT, Nat.reduceLeDiff, Nat.reduceAdd, Nat.reduceSub, Nat.reduceMul, Nat.reduceBEq, Int.reduceLT, Int.reduceLE, Int.reduceToNat, Int.reduceNeg, Int.reducePow, Int.reduceAdd, Int.reduceMul, Int.reduceSub, ↓Int.reduceNatCast', c0, hab, i3, p3, c1, c2, hx, List.append_assoc, and_true, true_and, not_false_eq_true]
  · have c0 := si_bad (both_fnl N) rb hb
    have c1 := sx_bad (both_fnl N) rb hb
    rw [if_neg hb]
    simp (disch := first | omega | decide) only [push_cast, ↓wF_free, ↓reduceIte, Nat.reduceEqDiff, Nat.reduceLT, Nat.reduceLeDiff, Nat.reduceAdd, Nat.reduceSub, Nat.reduceMul, Nat.reduceBEq, Int.reduceLT, Int.reduceLE, Int.reduceToNat, Int.reduceNeg, Int.reducePow, Int.reduceAdd, Int.reduceMul, Int.reduceSub, ↓Int.reduceNatCast', c0, c1, hb, and_true, true_and, not_false_eq_true]
end Go.Proofs.Ytgppecaeegaooaa.PI
namespace Go.Proofs.Ytgppecaeegaooaa.PI
open Go
set_option linter.unusedSimpArgs false
set_option linter.unusedVariables false
theorem mg_add {st : St} {m k : Nat} (h : st[m]? = some ⟨false, 2, evN k 9, false⟩) : pmapget st 2 [0] false .nilf (.mapv m) (.int .i64 3) = some (.clo 5000045 [.ptr k 0]) := by
  simp only [pmapget, h]
  rfl
theorem mg_sub {st : St} {m k : Nat} (h : st[m]? = some ⟨false, 2, evN k 9, false⟩) : pmapget st 2 [0] false .nilf (.mapv m) (.int .i64 4) = some (.clo 5000046 [.ptr k 0]) := by
  simp only [pmapget, h]
  rfl
theorem mg_mul {st : St} {m k : Nat} (h : st[m]? = some ⟨false, 2, evN k 9, false⟩) : pmapget st 2 [0] false .nilf (.mapv m) (.int .i64 5) = some (.clo 5000047 [.ptr k 0]) := by
  simp only [pmapget, h]
  rfl
theorem mg_least {st : St} {m k : Nat} (h : st[m]? = some ⟨false, 2, evN k 9, false⟩) : pmapget st 2 [0] false .nilf (.mapv m) (.int .i64 6) = some (.clo 5000048 [.ptr k 0]) := by
  simp only [pmapget, h]
  rfl
theorem mg_greatest {st : St} {m k : Nat} (h : st[m]? = some ⟨false, 2, evN k 9, false⟩) : pmapget st 2 [0] false .nilf (.mapv m) (.int .i64 7) = some (.clo 5000049 [.ptr k 0]) := by
  simp only [pmapget, h]
  rfl
theorem mg_down {st : St} {m k : Nat} (h : st[m]? = some ⟨false, 2, evN k 9, false⟩) : pmapget st 2 [0] false .nilf (.mapv m) (.int .i64 8) = some (.clo 5000050 [.ptr k 0]) := by
  simp only [pmapget, h]
  rfl
theorem mg_up {st : St} {m k : Nat} (h : st[m]? = some ⟨false, 2, evN k 9, false⟩) : pmapget st 2 [0] false .nilf (.mapv m) (.int .i64 9) = some (.clo 5000051 [.ptr k 0]) := by
  simp only [pmapget, h]
  rfl
theorem mg_half {st : St} {m k : Nat} (h : st[m]? = some ⟨false, 2, evN k 9, false⟩) : pmapget st 2 [0] false .nilf (.mapv m) (.int .i64 10) = some (.clo 5000052 [.ptr k 0]) := by
  simp only [pmapget, h]
  rfl
theorem mg_choose {st : St} {m k : Nat} (h : st[m]? = some ⟨false, 2, evN k 9, false⟩) : pmapget st 2 [0] false .nilf (.mapv m) (.int .i64 11) = some (.clo 5000053 [.ptr k 0]) := by
  simp only [pmapget, h]
  rfl
noncomputable abbrev TE (N : Nat) : Tbl := tbx [] [(33, si_load), (45, siG (opRel N 3)), (46, siG (opRel N 4)), (47, siG (opRel N 5)), (48, siG (opRel N 6)), (49, siG (opRel N 7)), (50, siG (opRel N 8)), (51, siG (opRel N 9)), (52, siG (opRel N 10)), (53, siG (opRel N 11))]
  [(45, sxG (opRel N 3)), (46, sxG (opRel N 4)), (47, sxG (opRel N 5)), (48, sxG (opRel N 6)), (49, sxG (opRel N 7)), (50, sxG (opRel N 8)), (51, sxG (opRel N 9)), (52, sxG (opRel N 10)), (53, sxG (opRel N 11))]
theorem te_ok {N : Nat} (h : CC 58 (evRel N)) : TblOK Try.prog GG (TE N) :=
  tbx_ok all_nil (all_cons ci_load (all_cons (cc_add N h).1 (all_cons (cc_sub N h).1 (all_cons (cc_mul N h).1 (all_cons (cc_least N h).1 (all_cons (cc_greatest N h).1 (all_cons (cc_down N h).1 (all_cons (cc_up N h).1 (all_cons (cc_half N h).1 (all_cons (cc_choose N h).1 all_nil)))))))))) (all_cons (cc_add N h).2 (all_cons (cc_sub N h).2 (all_cons (cc_mul N h).2 (all_cons (cc_least N h).2 (all_cons (cc_greatest N h).2 (all_cons (cc_down N h).2 (all_cons (cc_up N h).2 (all_cons (cc_half N h).2 (all_cons (cc_choose N h).2 all_nil)))))))))
theorem opsF_ge {op : Int} (h : 0 ≤ opsF op) : 1 ≤ op ∧ op ≤ 11 := by
  unfold opsF at h
  split at h <;> omega
set_option maxHeartbeats 8000000 in
set_option maxRecDepth 20000 in
theorem cc_evS (N : Nat) (h : CC 58 (evRel N)) : CC 58 (evRel (N + 1)) := by
  refine joint (T := TE N) tr_teval_evaluator_eval (te_ok h) ?_
  rintro ds st d e st' ⟨k, m, v, x, rfl, hev, hx, hf, h⟩
  simp only [Prod.mk.injEq] at h
  obtain ⟨rfl, rfl, rfl⟩ := h
  obtain ⟨op, k0, u0, u1, u2, u3, els, hl, hel⟩ := hx
  rw [formF_ex] at hf
  split at hf
  case isFalse => cases hf
  rename_i ho
  have hb : (st ++ [(⟨false, 1, exC op k0 u0 u1 u2 u3 els, false⟩ : Obj)])[st.length]? = some ⟨false, 1, exC op k0 u0 u1 u2 u3 els, false⟩ := by simp
  have hev1 := hev.app [(⟨false, 1, exC op k0 u0 u1 u2 u3 els, false⟩ : Obj)]
  rw [evF_ex]
  unfold F_teval_evaluator_eval
  by_cases o1 : op = 1
  · subst o1
    rw [if_pos rfl]
    simp (disch := first | omega | decide) only [push_cast, ↓wF_free, ↓reduceIte, Nat.reduceEqDiff, Nat.reduceLT, Nat.reduceLeDiff, Nat.reduceAdd, Nat.reduceSub, Nat.reduceMul, Nat.reduceBEq, Int.reduceLT, Int.reduceLE, Int.reduceToNat, Int.reduceNeg, Int.reducePow, Int.reduceAdd, Int.reduceMul, Int.reduceSub, ↓Int.reduceNatCast', hb, and_true, true_and]
  · rw [if_neg o1] at hf ⊢
    by_cases o2 : op = 2
    · subst o2
      rw [if_pos rfl] at hf ⊢
      simp only [Bool.and_eq_true, decide_eq_true_eq] at hf
      have c1 := call_load hev1.cs hev1.ev hf.1 hf.2
      simp (disch := first | omega | decide) only [push_cast, ↓wF_free, ↓reduceIte, Nat.reduceEqDiff, Nat.reduceLT, Nat.reduceLeDiff, Nat.reduceAdd, Nat.reduceSub, Nat.reduceMul, Nat.reduceBEq, Int.reduceLT, Int.reduceLE, Int.reduceToNat, Int.reduceNeg, Int.reducePow, Int.reduceAdd, Int.reduceMul, Int.reduceSub, ↓Int.reduceNatCast', hb, o1, c1, and_true, true_and]
    · rw [if_neg o2] at hf ⊢
      have hok : opsOK N els := fun x hx => ⟨hel x hx, List.all_eq_true.1 hf x hx⟩
      have hr := opsF_ge (op := op) (by omega)
      have lm := ldV_m false 65535 (.mapv m) hev1.cs.1
      have he := hev1.ev
      have rr : opRel N op [.ptr k 0, .slc (nz 7 els) els false] (st ++ [(⟨false, 1, exC op k0 u0 u1 u2 u3 els, false⟩ : Obj)]) _ := ⟨k, m, v, els, rfl, hev1, hok, ho, rfl⟩
      rw [List.append_cons]
      generalize hre : opR (evF N v) op els = r at rr ⊢
      obtain ⟨⟨n, er⟩, ob⟩ := r
      dsimp only at rr ⊢
      rcases (show op = 3 ∨ op ≠ 3 by omega) with rfl | o3
      · have mg := mg_add hev1.mp
        by_cases hz : er = 0
        · subst hz
          have c0 := si_val (op_fnl N 3) rr
          simp (disch := first | omega | decide) only [push_cast, ↓wF_free, ↓reduceIte, Nat.reduceEqDiff, Nat.reduceLT, Nat.reduceLeDiff, Nat.reduceAdd, Nat.reduceSub, Nat.reduceMul, Nat.reduceBEq, Int.reduceLT, Int.reduceLE, Int.reduceToNat, Int.reduceNeg, Int.reducePow, Int.reduceAdd, Int.reduceMul, Int.reduceSub, ↓Int.reduceNatCast', hb, o1, o2, he, lm, mg]
          rw [wOpX_callv (f := 45) (ds := [.ptr k 0, .slc (nz 7 els) els false]) (h := by simp (disch := first | omega | decide) only [push_cast, ↓wF_free, ↓reduceIte, Nat.reduceEqDiff, Nat.reduceLT, Nat.reduceLeDiff, Nat.reduceAdd, Nat.reduceSub, Nat.reduceMul, Nat.reduceBEq, Int.reduceLT, Int.reduceLE, Int.reduceToNat, Int.reduceNeg, Int.reducePow, Int.reduceAdd, Int.reduceMul, Int.reduceSub, ↓Int.reduceNatCast'])]
          simp (disch := first | omega | decide) only [push_cast, ↓wF_free, ↓reduceIte, Nat.reduceEqDiff, Nat.reduceLT, Nat.reduceLeDiff, Nat.reduceAdd, Nat.reduceSub, Nat.reduceMul, Nat.reduceBEq, Int.reduceLT, Int.reduceLE, Int.reduceToNat, Int.reduceNeg, Int.reducePow, Int.reduceAdd, Int.reduceMul, Int.reduceSub, ↓Int.reduceNatCast', c0, and_true, true_and]
        · have c0 := si_bad (op_fnl N 3) rr hz
          have c1 := sx_bad (op_fnl N 3) rr hz
          simp (disch := first | omega | decide) only [push_cast, ↓wF_free, ↓reduceIte, Nat.reduceEqDiff, Nat.reduceLT, Nat.reduceLeDiff, Nat.reduceAdd, Nat.reduceSub, Nat.reduceMul, Nat.reduceBEq, Int.reduceLT, Int.reduceLE, Int.reduceToNat, Int.reduceNeg, Int.reducePow, Int.reduceAdd, Int.reduceMul, Int.reduceSub, ↓Int.reduceNatCast', hb, o1, o2, he, lm, mg]
          rw [wOpX_callv (f := 45) (ds := [.ptr k 0, .slc (nz 7 els) els false]) (h := by simp (disch := first | omega | decide) only [push_cast, ↓wF_free, ↓reduceIte, Nat.reduceEqDiff, Nat.reduceLT, Nat.reduceLeDiff, Nat.reduceAdd, Nat.reduceSub, Nat.reduceMul, Nat.reduceBEq, Int.reduceLT, Int.reduceLE, Int.reduceToNat, Int.reduceNeg, Int.reducePow, Int.reduceAdd, Int.reduceMul, Int.reduceSub, ↓Int.reduceNatCast'])]
          simp (disch := first | omega | decide) only [push_cast, ↓wF_free, ↓reduceIte, Nat.reduceEqDiff, Nat.reduceLT, Nat.reduceLeDiff, Nat.reduceAdd, Nat.reduceSub, Nat.reduceMul, Nat.reduceBEq, Int.reduceLT, Int.reduceLE, Int.reduceToNat, Int.reduceNeg, Int.reducePow, Int.reduceAdd, Int.reduceMul, Int.reduceSub, ↓Int.reduceNatCast', c0, c1, hz, and_true, true_and, not_false_eq_true]
      rcases (show op = 4 ∨ op ≠ 4 by omega) with rfl | o4
      · have mg := mg_sub hev1.mp
        by_cases hz : er = 0
        · subst hz
          have c0 := si_val (op_fnl N 4) rr
          simp (disch := first | omega | decide) only [push_cast, ↓wF_free, ↓reduceIte, Nat.reduceEqDiff, Nat.reduceLT, Nat.reduceLeDiff, Nat.reduceAdd, Nat.reduceSub, Nat.reduceMul, Nat.reduceBEq, Int.reduceLT, Int.reduceLE, Int.reduceToNat, Int.reduceNeg, Int.reducePow, Int.reduceAdd, Int.reduceMul, Int.reduceSub, ↓Int.reduceNatCast', hb, o1, o2, he, lm, mg]
          rw [wOpX_callv (f := 46) (ds := [.ptr k 0, .slc (nz 7 els) els false]) (h := by simp (disch := first | omega | decide) only [push_cast, ↓wF_free, ↓reduceIte, Nat.reduceEqDiff, Nat.reduceLT, Nat.reduceLeDiff, Nat.reduceAdd, Nat.reduceSub, Nat.reduceMul, Nat.reduceBEq, Int.reduceLT, Int.reduceLE, Int.reduceToNat, Int.reduceNeg, Int.reducePow, Int.reduceAdd, Int.reduceMul, Int.reduceSub, ↓Int.reduceNatCast'])]
          simp (disch := first | omega | decide) only [push_cast, ↓wF_free, ↓reduceIte, Nat.reduceEqDiff, Nat.reduceLT, Nat.reduceLeDiff, Nat.reduceAdd, Nat.reduceSub, Nat.reduceMul, Nat.reduceBEq, Int.reduceLT, Int.reduceLE, Int.reduceToNat, Int.reduceNeg, Int.reducePow, Int.reduceAdd, Int.reduceMul, Int.reduceSub, ↓Int.reduceNatCast', c0, and_true, true_and]
        · have c0 := si_bad (op_fnl N 4) rr hz
          have c1 := sx_bad (op_fnl N 4) rr hz
          simp (disch := first | omega | decide) only [push_cast, ↓wF_free, ↓reduceIte, Nat.reduceEqDiff, Nat.reduceLT, Nat.reduceLeDiff, Nat.reduceAdd, Nat.reduceSub, Nat.reduceMul, Nat.reduceBEq, Int.reduceLT, Int.reduceLE, Int.reduceToNat, Int.reduceNeg, Int.reducePow, Int.reduceAdd, Int.reduceMul, Int.reduceSub, ↓Int.reduceNatCast', hb, o1, o2, he, lm, mg]
          rw [wOpX_callv (f := 46) (ds := [.ptr k 0, .slc (nz 7 els) els false]) (h := by simp (disch := first | omega | decide) only [push_cast, ↓wF_free, ↓reduceIte, Nat.reduceEqDiff, Nat.reduceLT, Nat.reduceLeDiff, Nat.reduceAdd, Nat.reduceSub, Nat.reduceMul, Nat.reduceBEq, Int.reduceLT, Int.reduceLE, Int.reduceToNat, Int.reduceNeg, Int.reducePow, Int.reduceAdd, Int.reduceMul, Int.reduceSub, ↓Int.reduceNatCast'])]
          simp (disch := first | omega | decide) only [push_cast, ↓wF_free, ↓reduceIte, Nat.reduceEqDiff, Nat.reduceLT, Nat.reduceLeDiff, Nat.reduceAdd, Nat.reduceSub, Nat.reduceMul, Nat.reduceBEq, Int.reduceLT, Int.reduceLE, Int.reduceToNat, Int.reduceNeg, Int.reducePow, Int.reduceAdd, Int.reduceMul, Int.reduceSub, ↓Int.reduceNatCast', c0, c1, hz, and_true, true_and, not_false_eq_true]
      rcases (show op = 5 ∨ op ≠ 5 by omega) with rfl | o5
      · have mg := mg_mul hev1.mp
        by_cases hz : er = 0
        · subst hz
          have c0 := si_val (op_fnl N 5) rr
          simp (disch := first | omega | decide) only [push_cast, ↓wF_free, ↓reduceIte, Nat.reduceEqDiff, Nat.reduceLT, Nat.reduceLeDiff, Nat.reduceAdd, Nat.reduceSub, Nat.reduceMul, Nat.reduceBEq, Int.reduceLT, Int.reduceLE, Int.reduceToNat, Int.reduceNeg, Int.reducePow, Int.reduceAdd, Int.reduceMul, Int.reduceSub, ↓Int.reduceNatCast', hb, o1, o2, he, lm, mg]
          rw [wOpX_callv (f := 47) (ds := [.ptr k 0, .slc (nz 7 els) els false]) (h := by simp (disch := first | omega | decide) only [push_cast, ↓wF_free, ↓reduceIte, Nat.reduceEqDiff, Nat.reduceLT, Nat.reduceLeDiff, Nat.reduceAdd, Nat.reduceSub, Nat.reduceMul, Nat.reduceBEq, Int.reduceLT, Int.reduceLE, Int.reduceToNat, Int.reduceNeg, Int.reducePow, Int.reduceAdd, Int.reduceMul, Int.reduceSub, ↓Int.reduceNatCast'])]
          simp (disch := first | omega | decide) only [push_cast, ↓wF_free, ↓reduceIte, Nat.reduceEqDiff, Nat.reduceLT, Nat.reduceLeDiff, Nat.reduceAdd, Nat.reduceSub, Nat.reduceMul, Nat.reduceBEq, Int.reduceLT, Int.reduceLE, Int.reduceToNat, Int.reduceNeg, Int.reducePow, Int.reduceAdd, Int.reduceMul, Int.reduceSub, ↓Int.reduceNatCast', c0, and_true, true_and]
        · have c0 := si_bad (op_fnl N 5) rr hz
          have c1 := sx_bad (op_fnl N 5) rr hz
          simp (disch := first | omega | decide) only [push_cast, ↓wF_free, ↓reduceIte, Nat.reduceEqDiff, Nat.reduceLT, Nat.reduceLeDiff, Nat.reduceAdd, Nat.reduceSub, Nat.reduceMul, Nat.reduceBEq, Int.reduceLT, Int.reduceLE, Int.reduceToNat, Int.reduceNeg, Int.reducePow, Int.reduceAdd, Int.reduceMul, Int.reduceSub, ↓Int.reduceNatCast', hb, o1, o2, he, lm, mg]
          rw [wOpX_callv (f := 47) (ds := [.ptr k 0, .slc (nz 7 els) els false]) (h := by simp (disch := first | omega | decide) only [push_cast, ↓wF_free, ↓reduceIte, Nat.reduceEqDiff, Nat.reduceLT, Nat.reduceLeDiff, Nat.reduceAdd, Nat.reduceSub, Nat.reduceMul, Nat.reduceBEq, Int.reduceLT, Int.reduceLE, Int.reduceToNat, Int.reduceNeg, Int.reducePow, Int.reduceAdd, Int.reduceMul, Int.reduceSub, ↓Int.reduceNatCast'])]
          simp (disch := first | omega | decide) only [push_cast, ↓wF_free, ↓reduceIte, Nat.reduceEqDiff, Nat.reduceLT, Nat.reduceLeDiff, Nat.reduceAdd, Nat.reduceSub, Nat.reduceMul, Nat.reduceBEq, Int.reduceLT, Int.reduceLE, Int.reduceToNat, Int.reduceNeg, Int.reducePow, Int.reduceAdd, Int.reduceMul, Int.reduceSub, ↓Int.reduceNatCast', c0, c1, hz, and_true, true_and, not_false_eq_true]
      rcases (show op = 6 ∨ op ≠ 6 by omega) with rfl | o6
      · have mg := mg_least hev1.mp
        by_cases hz : er = 0
        · subst hz
          have c0 := si_val (op_fnl N 6) rr
          simp (disch := first | omega | decide) only [push_cast, ↓wF_free, ↓reduceIte, Nat.reduceEqDiff, Nat.reduceLT, Nat.reduceLeDiff, Nat.reduceAdd, Nat.reduceSub, Nat.reduceMul, Nat.reduceBEq, Int.reduceLT, Int.reduceLE, Int.reduceToNat, Int.reduceNeg, Int.reducePow, Int.reduceAdd, Int.reduceMul, Int.reduceSub, ↓Int.reduceNatCast', hb, o1, o2, he, lm, mg]
          rw [wOpX_callv (f := 48) (ds := [.ptr k 0, .slc (nz 7 els) els false]) (h := by simp (disch := first | omega | decide) only [push_cast, ↓wF_free, ↓reduceIte, Nat.reduceEqDiff, Nat.reduceLT, Nat.reduceLeDiff, Nat.reduceAdd, Nat.reduceSub, Nat.reduceMul, Nat.reduceBEq, Int.reduceLT, Int.reduceLE, Int.reduceToNat, Int.reduceNeg, Int.reducePow, Int.reduceAdd, Int.reduceMul, Int.reduceSub, ↓Int.reduceNatCast'])]
          simp (disch := first | omega | decide) only [push_cast, ↓wF_free, ↓reduceIte, Nat.reduceEqDiff, Nat.reduceLT, Nat.reduceLeDiff, Nat.reduceAdd, Nat.reduceSub, Nat.reduceMul, Nat.reduceBEq, Int.reduceLT, Int.reduceLE, Int.reduceToNat, Int.reduceNeg, Int.reducePow, Int.reduceAdd, Int.reduceMul, Int.reduceSub, ↓Int.reduceNatCast', c0, and_true, true_and]
        · have c0 := si_bad (op_fnl N 6) rr hz
          have c1 := sx_bad (op_fnl N 6) rr hz
          simp (disch := first | omega | decide) only [push_cast, ↓wF_free, ↓reduceIte, Nat.reduceEqDiff, Nat.reduceLT, Nat.reduceLeDiff, Nat.reduceAdd, Nat.reduceSub, Nat.reduceMul, Nat.reduceBEq, Int.reduceLT, Int.reduceLE, Int.reduceToNat, Int.reduceNeg, Int.reducePow, Int.reduceAdd, Int.reduceMul, Int.reduceSub, ↓Int.reduceNatCast', hb, o1, o2, he, lm, mg]
          rw [wOpX_callv (f := 48) (ds := [.ptr k 0, .slc (nz 7 els) els false]) (h := by simp (disch := first | omega | decide) only [push_cast, ↓wF_free, ↓reduceIte, Nat.reduceEqDiff, Nat.reduceLT, Nat.reduceLeDiff, Nat.reduceAdd, Nat.reduceSub, Nat.reduceMul, Nat.reduceBEq, Int.reduceLT, Int.reduceLE, Int.reduceToNat, Int.reduceNeg, Int.reducePow, Int.reduceAdd, Int.reduceMul, Int.reduceSub, ↓Int.reduceNatCast'])]
          simp (disch := first | omega | decide) only [push_cast, ↓wF_free, ↓reduceIte, Nat.reduceEqDiff, Nat.reduceLT, Nat.reduceLeDiff, Nat.reduceAdd, Nat.reduceSub, Nat.reduceMul, Nat.reduceBEq, Int.reduceLT, Int.reduceLE, Int.reduceToNat, Int.reduceNeg, Int.reducePow, Int.reduceAdd, Int.reduceMul, Int.reduceSub, ↓Int.reduceNatCast', c0, c1, hz, and_true, true_and, not_false_eq_true]
      rcases (show op = 7 ∨ op ≠ 7 by omega) with rfl | o7
      · have mg := mg_greatest hev1.mp
        by_cases hz : er = 0
        · subst hz
          have c0 := si_val (op_fnl N 7) rr
          simp (disch := first | omega | decide) only [push_cast, ↓wF_free, ↓reduceIte, Nat.reduceEqDiff, Nat.reduceLT, Nat.reduceLeDiff, Nat.reduceAdd, Nat.reduceSub, Nat.reduceMul, Nat.reduceBEq, Int.reduceLT, Int.reduceLE, Int.reduceToNat, Int.reduceNeg, Int.reducePow, Int.reduceAdd, Int.reduceMul, Int.reduceSub, ↓Int.reduceNatCast', hb, o1, o2, he, lm, mg]
          rw [wOpX_callv (f := 49) (ds := [.ptr k 0, .slc (nz 7 els) els false]) (h := by simp (disch := first | omega | decide) only [push_cast, ↓wF_free, ↓reduceIte, Nat.reduceEqDiff, Nat.reduceLT, Nat.reduceLeDiff, Nat.reduceAdd, Nat.reduceSub, Nat.reduceMul, Nat.reduceBEq, Int.reduceLT, Int.reduceLE, Int.reduceToNat, Int.reduceNeg, Int.reducePow, Int.reduceAdd, Int.reduceMul, Int.reduceSub, ↓Int.reduceNatCast'])]
          simp (disch := first | omega | decide) only [push_cast, ↓wF_free, ↓reduceIte, Nat.reduceEqDiff, Nat.reduceLT, Nat.reduceLeDiff, Nat.reduceAdd, Nat.reduceSub, Nat.reduceMul, Nat.reduceBEq, Int.reduceLT, Int.reduceLE, Int.reduceToNat, Int.reduceNeg, Int.reducePow, Int.reduceAdd, Int.reduceMul, Int.reduceSub, ↓Int.reduceNatCast', c0, and_true, true_and]
        · have c0 := si_bad (op_fnl N 7) rr hz
          have c1 := sx_bad (op_fnl N 7) rr hz
          simp (disch := first | omega | decide) only [push_cast, ↓wF_free, ↓reduceIte, Nat.reduceEqDiff, Nat.reduceLT, Nat.reduceLeDiff, Nat.reduceAdd, Nat.reduceSub, Nat.reduceMul, Nat.reduceBEq, Int.reduceLT, Int.reduceLE, Int.reduceToNat, Int.reduceNeg, Int.reducePow, Int.reduceAdd, Int.reduceMul, Int.reduceSub, ↓Int.reduceNatCast', hb, o1, o2, he, lm, mg]
          rw [wOpX_callv (f := 49) (ds := [.ptr k 0, .slc (nz 7 els) els false]) (h := by simp (disch := first | omega | decide) only [push_cast, ↓wF_free, ↓reduceIte, Nat.reduceEqDiff, Nat.reduceLT, Nat.reduceLeDiff, Nat.reduceAdd, Nat.reduceSub, Nat.reduceMul, Nat.reduceBEq, Int.reduceLT, Int.reduceLE, Int.reduceToNat, Int.reduceNeg, Int.reducePow, Int.reduceAdd, Int.reduceMul, Int.reduceSub, ↓Int.reduceNatCast'])]
          simp (disch := first | omega | decide) only [push_cast, ↓wF_free, ↓reduceIte, Nat.reduceEqDiff, Nat.reduceLT, Nat.reduceLeDiff, Nat.reduceAdd, Nat.reduceSub, Nat.reduceMul, Nat.reduceBEq, Int.reduceLT, Int.reduceLE, Int.reduceToNat, Int.reduceNeg, Int.reducePow, Int.reduceAdd, Int.reduceMul, Int.reduceSub, ↓Int.reduceNatCast', c0, c1, hz, and_true, true_and, not_false_eq_true]
      rcases (show op = 8 ∨ op ≠ 8 by omega) with rfl | o8
      · have mg := mg_down hev1.mp
        by_cases hz : er = 0
        · subst hz
          have c0 := si_val (op_fnl N 8) rr
          simp (disch := first | omega | decide) only [push_cast, ↓wF_free, ↓reduceIte, Nat.reduceEqDiff, Nat.reduceLT, Nat.reduceLeDiff, Nat.reduceAdd, Nat.reduceSub, Nat.reduceMul, Nat.reduceBEq, Int.reduceLT, Int.reduceLE, Int.reduceToNat, Int.reduceNeg, Int.reducePow, Int.reduceAdd, Int.reduceMul, Int.reduceSub, ↓Int.reduceNatCast', hb, o1, o2, he, lm, mg]
          rw [wOpX_callv (f := 50) (ds := [.ptr k 0, .slc (nz 7 els) els false]) (h := by simp (disch := first | omega | decide) only [push_cast, ↓wF_free, ↓reduceIte, Nat.reduceEqDiff, Nat.reduceLT, Nat.reduceLeDiff, Nat.reduceAdd, Nat.reduceSub, Nat.reduceMul, Nat.reduceBEq, Int.reduceLT, Int.reduceLE, Int.reduceToNat, Int.reduceNeg, Int.reducePow, Int.reduceAdd, Int.reduceMul, Int.reduceSub, ↓Int.reduceNatCast'])]
          simp (disch := first | omega | decide) only [push_cast, ↓wF_free, ↓reduceIte, Nat.reduceEqDiff, Nat.reduceLT, Nat.reduceLeDiff, Nat.reduceAdd, Nat.reduceSub, Nat.reduceMul, Nat.reduceBEq, Int.reduceLT, Int.reduceLE, Int.reduceToNat, Int.reduceNeg, Int.reducePow, Int.reduceAdd, Int.reduceMul, Int.reduceSub, ↓Int.reduceNatCast', c0, and_true, true_and]
        · have c0 := si_bad (op_fnl N 8) rr hz
          have c1 := sx_bad (op_fnl N 8) rr hz
          simp (disch := first | omega | decide) only [push_cast, ↓wF_free, ↓reduceIte, Nat.reduceEqDiff, Nat.reduceLT, Nat.reduceLeDiff, Nat.reduceAdd, Nat.reduceSub, Nat.reduceMul, Nat.reduceBEq, Int.reduceLT, Int.reduceLE, Int.reduceToNat, Int.reduceNeg, Int.reducePow, Int.reduceAdd, Int.reduceMul, Int.reduceSub, ↓Int.reduceNatCast', hb, o1, o2, he, lm, mg]
          rw [wOpX_callv (f := 50) (ds := [.ptr k 0, .slc (nz 7 els) els false]) (h := by simp (disch := first | omega | decide) only [push_cast, ↓wF_free, ↓reduceIte, Nat.reduceEqDiff, Nat.reduceLT, Nat.reduceLeDiff, Nat.reduceAdd, Nat.reduceSub, Nat.reduceMul, Nat.reduceBEq, Int.reduceLT, Int.reduceLE, Int.reduceToNat, Int.reduceNeg, Int.reducePow, Int.reduceAdd, Int.reduceMul, Int.reduceSub, ↓Int.reduceNatCast'])]
          simp (disch := first | omega | decide) only [push_cast, ↓wF_free, ↓reduceIte, Nat.reduceEqDiff, Nat.reduceLT, Nat.reduceLeDiff, Nat.reduceAdd, Nat.reduceSub, Nat.reduceMul, Nat.reduceBEq, Int.reduceLT, Int.reduceLE, Int.reduceToNat, Int.reduceNeg, Int.reducePow, Int.reduceAdd, Int.reduceMul, Int.reduceSub, ↓Int.reduceNatCast', c0, c1, hz, and_true, true_and, not_false_eq_true]
      rcases (show op = 9 ∨ op ≠ 9 by omega) with rfl | o9
      · have mg := mg_up hev1.mp
        by_cases hz : er = 0
        · subst hz
          have c0 := si_val (op_fnl N 9) rr
          simp (disch := first | omega | decide) only [push_cast, ↓wF_free, ↓reduceIte, Nat.reduceEqDiff, Nat.reduceLT, Nat.reduceLeDiff, Nat.reduceAdd, Nat.reduceSub, Nat.reduceMul, Nat.reduceBEq, Int.reduceLT, Int.reduceLE, Int.reduceToNat, Int.reduceNeg, Int.reducePow, Int.reduceAdd, Int.reduceMul, Int.reduceSub, ↓Int.reduceNatCast', hb, o1, o2, he, lm, mg]
          rw [wOpX_callv (f := 51) (ds := [.ptr k 0, .slc (nz 7 els) els false]) (h := by simp (disch := first | omega | decide) only [push_cast, ↓wF_free, ↓reduceIte, Nat.reduceEqDiff, Nat.reduceLT, Nat.reduceLeDiff, Nat.reduceAdd, Nat.reduceSub, Nat.reduceMul, Nat.reduceBEq, Int.reduceLT, Int.reduceLE, Int.reduceToNat, Int.reduceNeg, Int.reducePow, Int.reduceAdd, Int.reduceMul, Int.reduceSub, ↓Int.reduceNatCast'])]
          simp (disch := first | omega | decide) only [push_cast, ↓wF_free, ↓reduceIte, Nat.reduceEqDiff, Nat.reduceLT, Nat.reduceLeDiff, Nat.reduceAdd, Nat.reduceSub, Nat.reduceMul, Nat.reduceBEq, Int.reduceLT, Int.reduceLE, Int.reduceToNat, Int.reduceNeg, Int.reducePow, Int.reduceAdd, Int.reduceMul, Int.reduceSub, ↓Int.reduceNatCast', c0, and_true, true_and]
        · have c0 := si_bad (op_fnl N 9) rr hz
          have c1 := sx_bad (op_fnl N 9) rr hz
          simp (disch := first | omega | decide) only [push_cast, ↓wF_free, ↓reduceIte, Nat.reduceEqDiff, Nat.reduceLT, Nat.reduceLeDiff, Nat.reduceAdd, Nat.reduceSub, Nat.reduceMul, Nat.reduceBEq, Int.reduceLT, Int.reduceLE, Int.reduceToNat, Int.reduceNeg, Int.reducePow, Int.reduceAdd, Int.reduceMul, Int.reduceSub, ↓Int.reduceNatCast', hb, o1, o2, he, lm, mg]
          rw [wOpX_callv (f := 51) (ds := [.ptr k 0, .slc (nz 7 els) els false]) (h := by simp (disch := first | omega | decide) only [push_cast, ↓wF_free, ↓reduceIte, Nat.reduceEqDiff, Nat.reduceLT, Nat.reduceLeDiff, Nat.reduceAdd, Nat.reduceSub, Nat.reduceMul, Nat.reduceBEq, Int.reduceLT, Int.reduceLE, Int.reduceToNat, Int.reduceNeg, Int.reducePow, Int.reduceAdd, Int.reduceMul, Int.reduceSub, ↓Int.reduceNatCast'])]
          simp (disch := first | omega | decide) only [push_cast, ↓wF_free, ↓reduceIte, Nat.reduceEqDiff, Nat.reduceLT, Nat.reduceLeDiff, Nat.reduceAdd, Nat.reduceSub, Nat.reduceMul, Nat.reduceBEq, Int.reduceLT, Int.reduceLE, Int.reduceToNat, Int.reduceNeg, Int.reducePow, Int.reduceAdd, Int.reduceMul, Int.reduceSub, ↓Int.reduceNatCast', c0, c1, hz, and_true, true_and, not_false_eq_true]
      rcases (show op = 10 ∨ op ≠ 10 by omega) with rfl | o10
      · have mg := mg_half hev1.mp
        by_cases hz : er = 0
        · subst hz
          have c0 := si_val (op_fnl N 10) rr
          simp (disch := first | omega | decide) only [push_cast, ↓wF_free, ↓reduceIte, Nat.reduceEqDiff, Nat.reduceLT, Nat.reduceLeDiff, Nat.reduceAdd, Nat.reduceSub, Nat.reduceMul, Nat.reduceBEq, Int.reduceLT, Int.reduceLE, Int.reduceToNat, Int.reduceNeg, Int.reducePow, Int.reduceAdd, Int.reduceMul, Int.reduceSub, ↓Int.reduceNatCast', hb, o1, o2, he, lm, mg]
          rw [wOpX_callv (f := 52) (ds := [.ptr k 0, .slc (nz 7 els) els false]) (h := by simp (disch := first | omega | decide) only [push_cast, ↓wF_free, ↓reduceIte, Nat.reduceEqDiff, Nat.reduceLT, Nat.reduceLeDiff, Nat.reduceAdd, Nat.reduceSub, Nat.reduceMul, Nat.reduceBEq, Int.reduceLT, Int.reduceLE, Int.reduceToNat, Int.reduceNeg, Int.reducePow, Int.reduceAdd, Int.reduceMul, Int.reduceSub, ↓Int.reduceNatCast'])]
          simp (disch := first | omega | decide) only [push_cast, ↓wF_free, ↓reduceIte, Nat.reduceEqDiff, Nat.reduceLT, Nat.reduceLeDiff, Nat.reduceAdd, Nat.reduceSub, Nat.reduceMul, Nat.reduceBEq, Int.reduceLT, Int.reduceLE, Int.reduceToNat, Int.reduceNeg, Int.reducePow, Int.reduceAdd, Int.reduceMul, Int.reduceSub, ↓Int.reduceNatCast', c0, and_true, true_and]
        · have c0 := si_bad (op_fnl N 10) rr hz
          have c1 := sx_bad (op_fnl N 10) rr hz
          simp (disch := first | omega | decide) only [push_cast, ↓wF_free, ↓reduceIte, Nat.reduceEqDiff, Nat.reduceLT, Nat.reduceLeDiff, Nat.reduceAdd, Nat.reduceSub, Nat.reduceMul, Nat.reduceBEq, Int.reduceLT, Int.reduceLE, Int.reduceToNat, Int.reduceNeg, Int.reducePow, Int.reduceAdd, Int.reduceMul, Int.reduceSub, ↓Int.reduceNatCast', hb, o1, o2, he, lm, mg]
          rw [wOpX_callv (f := 52) (ds := [.ptr k 0, .slc (nz 7 els) els false]) (h := by simp (disch := first | omega | decide) only [push_cast, ↓wF_free, ↓reduceIte, Nat.reduceEqDiff, Nat.reduceLT, Nat.reduceLeDiff, Nat.reduceAdd, Nat.reduceSub, Nat.reduceMul, Nat.reduceBEq, Int.reduceLT, Int.reduceLE, Int.reduceToNat, Int.reduceNeg, Int.reducePow, Int.reduceAdd, Int.reduceMul, Int.reduceSub, ↓Int.reduceNatCast'])]
          simp (disch := first | omega | decide) only [push_cast, ↓wF_free, ↓reduceIte, Nat.reduceEqDiff, Nat.reduceLT, Nat.reduceLeDiff, Nat.reduceAdd, Nat.reduceSub, Nat.reduceMul, Nat.reduceBEq, Int.reduceLT, Int.reduceLE, Int.reduceToNat, Int.reduceNeg, Int.reducePow, Int.reduceAdd, Int.reduceMul, Int.reduceSub, ↓Int.reduceNatCast', c0, c1, hz, and_true, true_and, not_false_eq_true]
      · obtain rfl : op = 11 := by omega
        have mg := mg_choose hev1.mp
        by_cases hz : er = 0
        · subst hz
          have c0 := si_val (op_fnl N 11) rr
          simp (disch := first | omega | decide) only [push_cast, ↓wF_free, ↓reduceIte, Nat.reduceEqDiff, Nat.reduceLT, Nat.reduceLeDiff, Nat.reduceAdd, Nat.reduceSub, Nat.reduceMul, Nat.reduceBEq, Int.reduceLT, Int.reduceLE, Int.reduceToNat, Int.reduceNeg, Int.reducePow, Int.reduceAdd, Int.reduceMul, Int.reduceSub, ↓Int.reduceNatCast', hb, o1, o2, he, lm, mg]
          rw [wOpX_callv (f := 53) (ds := [.ptr k 0, .slc (nz 7 els) els false]) (h := by simp (disch := first | omega | decide) only [push_cast, ↓wF_free, ↓reduceIte, Nat.reduceEqDiff, Nat.reduceLT, Nat.reduceLeDiff, Nat.reduceAdd, Nat.reduceSub, Nat.reduceMul, Nat.reduceBEq, Int.reduceLT, Int.reduceLE, Int.reduceToNat, Int.reduceNeg, Int.reducePow, Int.reduceAdd, Int.reduceMul, Int.reduceSub, ↓Int.reduceNatCast'])]
          simp (disch := first | omega | decide) only [push_cast, ↓wF_free, ↓reduceIte, Nat.reduceEqDiff, Nat.reduceLT, Nat.reduceLeDiff, Nat.reduceAdd, Nat.reduceSub, Nat.reduceMul, Nat.reduceBEq, Int.reduceLT, Int.reduceLE, Int.reduceToNat, Int.reduceNeg, Int.reducePow, Int.reduceAdd, Int.reduceMul, Int.reduceSub, ↓Int.reduceNatCast', c0, and_true, true_and]
        · have c0 := si_bad (op_fnl N 11) rr hz
          have c1 := sx_bad (op_fnl N 11) rr hz
          simp (disch := first | omega | decide) only [push_cast, ↓wF_free, ↓reduceIte, Nat.reduceEqDiff, Nat.reduceLT, Nat.reduceLeDiff, Nat.reduceAdd, Nat.reduceSub, Nat.reduceMul, Nat.reduceBEq, Int.reduceLT, Int.reduceLE, Int.reduceToNat, Int.reduceNeg, Int.reducePow, Int.reduceAdd, Int.reduceMul, Int.reduceSub, ↓Int.reduceNatCast', hb, o1, o2, he, lm, mg]
          rw [wOpX_callv (f := 53) (ds := [.ptr k 0, .slc (nz 7 els) els false]) (h := by simp (disch := first | omega | decide) only [push_cast, ↓wF_free, ↓reduceIte, Nat.reduceEqDiff, Nat.reduceLT, Nat.reduceLeDiff, Nat.reduceAdd, Nat.reduceSub, Nat.reduceMul, Nat.reduceBEq, Int.reduceLT, Int.reduceLE, Int.reduceToNat, Int.reduceNeg, Int.reducePow, Int.reduceAdd, Int.reduceMul, Int.reduceSub, ↓Int.reduceNatCast'])]
          simp (disch := first | omega | decide) only [push_cast, ↓wF_free, ↓reduceIte, Nat.reduceEqDiff, Nat.reduceLT, Nat.reduceLeDiff, Nat.reduceAdd, Nat.reduceSub, Nat.reduceMul, Nat.reduceBEq, Int.reduceLT, Int.reduceLE, Int.reduceToNat, Int.reduceNeg, Int.reducePow, Int.reduceAdd, Int.reduceMul, Int.reduceSub, ↓Int.reduceNatCast', c0, c1, hz, and_true, true_and, not_false_eq_true]
theorem cc_ev : ∀ N, CC 58 (evRel N)
  | 0 => joint (T := tb [] []) tr_teval_evaluator_eval (tb_ok all_nil all_nil) (by
    rintro ds st d e st' ⟨k, m, v, x, _, _, _, hf, _⟩
    cases hf)
  | N + 1 => cc_evS N (cc_ev N)
end Go.Proofs.Ytgppecaeegaooaa.PI
namespace Go.Proofs.Ytgppecaeegaooaa.PI
open Go
set_option linter.unusedSimpArgs false
set_option linter.unusedVariables false
noncomputable def mk_newEv : List D → Option ((Nat → D) × (Nat → List Obj)) := fun ds => @dite _ (∃ p : Int × List Int, p.2.length = 16 ∧ ds = [envD p.1 p.2]) (Classical.propDecidable _)
  (fun h => some (fun n => .ptr (n + 1) 0, fun n => [⟨false, 1, envC h.choose.1 h.choose.2, false⟩, ⟨false, 1, evC h.choose.1 h.choose.2 (.mapv (n + 2)), false⟩, ⟨false, 2, evN (n + 1) 9, false⟩])) (fun _ => none)
theorem mk_ev (h : Int) (v : List Int) (hv : v.length = 16) : mk_newEv [envD h v] = some (fun n => .ptr (n + 1) 0, fun n => [⟨false, 1, envC h v, false⟩, ⟨false, 1, evC h v (.mapv (n + 2)), false⟩, ⟨false, 2, evN (n + 1) 9, false⟩]) := by
  have hx : ∃ p : Int × List Int, p.2.length = 16 ∧ [envD h v] = [envD p.1 p.2] := ⟨(h, v), hv, rfl⟩
  unfold mk_newEv
  rw [dif_pos hx]
  have h2 := hx.choose_spec.2
  generalize hx.choose = p at *
  obtain ⟨p1, p2⟩ := p
  simp only [List.cons.injEq, and_true] at h2
  obtain ⟨rfl, rfl⟩ := envD_inj' h2
  rfl
theorem mk_inv {ds : List D} {r : (Nat → D) × (Nat → List Obj)} (h : mk_newEv ds = some r) : ∃ (k : Int) (v : List Int), v.length = 16 ∧ ds = [envD k v] ∧ r = (fun n => .ptr (n + 1) 0, fun n => [⟨false, 1, envC k v, false⟩, ⟨false, 1, evC k v (.mapv (n + 2)), false⟩, ⟨false, 2, evN (n + 1) 9, false⟩]) := by
  unfold mk_newEv at h
  split at h
  · rename_i hx
    simp only [Option.some.injEq] at h
    exact ⟨_, _, hx.choose_spec.1, hx.choose_spec.2, h.symm⟩
  · cases h
theorem ap0 (st l : St) (o : Obj) : (st ++ o :: l)[st.length]? = some o := by simp
theorem ap1 (st l : St) (o p : Obj) : (st ++ o :: p :: l)[st.length + 1]? = some p := by
  rw [List.getElem?_append_right (by omega)]; simp
theorem ap2 (st l : St) (o p q : Obj) : (st ++ o :: p :: q :: l)[st.length + 2]? = some q := by
  rw [List.getElem?_append_right (by omega)]; simp
theorem sp1 (st l : St) (o p x : Obj) : (st ++ o :: p :: l).set (st.length + 1) x = st ++ o :: x :: l := by
  rw [List.set_append_right _ _ (by omega)]; simp
theorem sp2 (st l : St) (o p q x : Obj) : (st ++ o :: p :: q :: l).set (st.length + 2) x = st ++ o :: p :: x :: l := by
  rw [List.set_append_right _ _ (by omega)]; simp
set_option maxHeartbeats 4000000 in
set_option maxRecDepth 20000 in
theorem cm_newEv : IContract Try.prog GG 32 (fun ds st => (mk_newEv ds).map fun r => (r.1 st.length, st ++ r.2 st.length)) := by
  refine icontract_keep' (T := tb [] []) tr_teval_newEvaluator (tb_ok all_nil all_nil) ?_
  intro ds st r hr
  simp only [Option.map_eq_some_iff] at hr
  obtain ⟨r0, h0, rfl⟩ := hr
  obtain ⟨h, v, hv, rfl, rfl⟩ := mk_inv h0
  unfold F_teval_newEvaluator
  simp (disch := first | omega | decide) only [push_cast, ↓wF_free, ↓reduceIte, Nat.reduceEqDiff, Nat.reduceLT, Nat.reduceLeDiff, Nat.reduceAdd, Nat.reduceSub, Nat.reduceMul, Nat.reduceBEq, Int.reduceLT, Int.reduceLE, Int.reduceToNat, Int.reduceNeg, Int.reducePow, Int.reduceAdd, Int.reduceMul, Int.reduceSub, ↓Int.reduceNatCast', ldE _ _ hv, fill_ev h hv, st_ev h hv, mkmap_2, List.append_assoc, List.cons_append, List.nil_append, List.length_append, List.length_cons, List.length_nil, ap0, ap1, ap2, sp1, sp2]
def evalR (v : List Int) (x : D) : Int × Int := if formF 24 x then (if (evF 24 v x).1.2 = 0 then ((evF 24 v x).1.1, 0) else (0, (evF 24 v x).1.2)) else (0, 1)
noncomputable def TBE : Tbl := { p := look [(57, sp_form 24)], i := look [(58, siG (evRel 24))], m := look [(32, mk_newEv)], x := look [(58, sxG (evRel 24))] }
theorem tbe_p (n : Nat) : TBE.p n = look [(57, sp_form 24)] n := (rfl)
theorem tbe_i (n : Nat) : TBE.i n = look [(58, siG (evRel 24))] n := (rfl)
theorem tbe_m (n : Nat) : TBE.m n = look [(32, mk_newEv)] n := (rfl)
theorem tbe_x (n : Nat) : TBE.x n = look [(58, sxG (evRel 24))] n := (rfl)
attribute [push_cast] tbe_p tbe_i tbe_m tbe_x
theorem tbe_ok : TblOK Try.prog GG TBE :=
  ⟨fun _ _ hs => .inl (by
      have := look_mem hs
      simp only [List.mem_singleton, Prod.mk.injEq] at this
      obtain ⟨rfl, rfl⟩ := this
      exact ⟨by decide, c_form 24⟩), fun _ _ hs => (by
      have := look_mem hs
      simp only [List.mem_singleton, Prod.mk.injEq] at this
      obtain ⟨rfl, rfl⟩ := this
      exact (cc_ev 24).1), fun _ _ hs => (by
      have := look_mem hs
      simp only [List.mem_singleton, Prod.mk.injEq] at this
      obtain ⟨rfl, rfl⟩ := this
      exact cm_newEv), fun _ _ hs => (by cases hs), fun _ _ hs => (by
      have := look_mem hs
      simp only [List.mem_singleton, Prod.mk.injEq] at this
      obtain ⟨rfl, rfl⟩ := this
      exact (cc_ev 24).2)⟩
noncomputable def sp_peval : List D → Option D := spOf (α := D × (Int × List Int)) (fun a => [a.1, envD (Prod.fst a.2) (Prod.snd a.2)]) (fun a => a.2.1 = 65535 ∧ caseV a.2.2 ∧ ExP a.1) (fun a => .tup [.int .i64 (evalR a.2.2 a.1).1, .int .i64 (evalR a.2.2 a.1).2])
theorem call_peval (x : D) (v : Int × List Int) (h : v.1 = 65535 ∧ caseV v.2 ∧ ExP x) : sp_peval [x, envD (Prod.fst v) (Prod.snd v)] = some (.tup [.int .i64 (evalR v.2 x).1, .int .i64 (evalR v.2 x).2]) :=
  spOf_enc (fun ⟨a0, a1⟩ ⟨b0, b1⟩ h => by simp only [List.cons.injEq, D.slc.injEq, D.int.injEq, D.bool.injEq, D.str.injEq, D.agg.injEq, digs_iff, dig_iff, digC_iff, bytes_iff, byte_iff, words_iff, word_iff, bsl_iff, true_and, and_true, ints_iff, nI_iff, tsts_iff, clss_iff, clsD_iff, tarD_iff, tstD_iff, ptD_iff, Int.ofNat_inj, env_iff] at h; simp [h, Prod.ext_iff]) (x, v) h
set_option maxHeartbeats 8000000 in
set_option maxRecDepth 20000 in
theorem wd_peval (x : D) (v : List Int) (hv : caseV v) (hx : ExP x) : wEf GG TBE F_teval_Eval hT [x, envD 65535 v] [] (fun fr st => (gets ⟨fr, st⟩ F_teval_Eval.tail.res).map pack = some (.tup [.int .i64 (evalR v x).1, .int .i64 (evalR v x).2])) fun h das => retDQ h das F_teval_Eval.tail.res (.tup [.int .i64 (evalR v x).1, .int .i64 (evalR v x).2]) := by
  have hvl := hv.1
  have cf : sp_form 24 [x, .int .i64 24] = some (.bool (formF 24 x)) := call_form 24 24 x ⟨Nat.le_refl _, by omega, hx⟩
  have hx2 := hx
  obtain ⟨op, k0, u0, u1, u2, u3, els, hl, hel⟩ := hx2
  unfold wEf F_teval_Eval evalR
  cases hf : formF 24 (exD op k0 u0 u1 u2 u3 els) with
  | false =>
    rw [hf] at cf
    simp (disch := first | omega | decide) only [push_cast, ↓wF_free, ↓reduceIte, Nat.reduceEqDiff, Nat.reduceLT, Nat.reduceLeDiff, Nat.reduceAdd, Nat.reduceSub, Nat.reduceMul, Nat.reduceBEq, Int.reduceLT, Int.reduceLE, Int.reduceToNat, Int.reduceNeg, Int.reducePow, Int.reduceAdd, Int.reduceMul, Int.reduceSub, ↓Int.reduceNatCast', cf, if_false, Bool.false_eq_true]
  | true =>
    rw [hf] at cf
    have hev : EvAt [⟨false, 1, exC op k0 u0 u1 u2 u3 els, false⟩, ⟨false, 1, envC 65535 v, false⟩, ⟨false, 1, [.int .i64 0], false⟩, ⟨false, 1, envC 65535 v, false⟩, ⟨false, 1, evC 65535 v (.mapv 5), false⟩, ⟨false, 2, evN 4 9, false⟩] 4 5 v := ⟨hv, rfl, rfl⟩
    have rr : evRel 24 [.ptr 4 0, exD op k0 u0 u1 u2 u3 els] _ _ := ⟨4, 5, v, _, rfl, hev, hx, hf, rfl⟩
    rw [if_pos rfl]
    generalize evF 24 v (exD op k0 u0 u1 u2 u3 els) = r at *
    obtain ⟨⟨n, e⟩, ob⟩ := r
    dsimp only at rr ⊢
    simp (disch := first | omega | decide) only [push_cast, ↓wF_free, ↓reduceIte, Nat.reduceEqDiff, Nat.reduceLT, Nat.reduceLeDiff, Nat.reduceAdd, Nat.reduceSub, Nat.reduceMul, Nat.reduceBEq, Int.reduceLT, Int.reduceLE, Int.reduceToNat, Int.reduceNeg, Int.reducePow, Int.reduceAdd, Int.reduceMul, Int.reduceSub, ↓Int.reduceNatCast', cf, putOff_clo, hT_eq]
    by_cases he : e = 0
    · subst he
      have c0 := si_val (ev_fnl 24) rr
      rw [if_pos rfl]
      refine W_altL ?_
      simp (disch := first | omega | decide) only [push_cast, ↓wF_free, ↓reduceIte, Nat.reduceEqDiff, Nat.reduceLT, Nat.reduceLeDiff, Nat.reduceAdd, Nat.reduceSub, Nat.reduceMul, Nat.reduceBEq, Int.reduceLT, Int.reduceLE, Int.reduceToNat, Int.reduceNeg, Int.reducePow, Int.reduceAdd, Int.reduceMul, Int.reduceSub, ↓Int.reduceNatCast', ldE _ _ hvl, mk_ev _ _ hvl, c0]
    · have c0 := si_bad (ev_fnl 24) rr he
      have c1 := sx_bad (ev_fnl 24) rr he
      rw [if_neg he]
      refine W_altR1 (by simp (disch := first | omega | decide) only [push_cast, ↓wF_free, ↓reduceIte, Nat.reduceEqDiff, Nat.reduceLT, Nat.reduceLeDiff, Nat.reduceAdd, Nat.reduceSub, Nat.reduceMul, Nat.reduceBEq, Int.reduceLT, Int.reduceLE, Int.reduceToNat, Int.reduceNeg, Int.reducePow, Int.reduceAdd, Int.reduceMul, Int.reduceSub, ↓Int.reduceNatCast', ldE _ _ hvl, mk_ev _ _ hvl, c0, not_false_eq_true]) ?_
      have c2 := run_caught 2 (⟨false, 1, exC op k0 u0 u1 u2 u3 els, false⟩ :: ⟨false, 1, envC 65535 v, false⟩ :: ⟨false, 1, [.int .i64 0], false⟩ :: ⟨false, 1, envC 65535 v, false⟩ :: ⟨false, 1, evC 65535 v (.mapv 5), false⟩ :: ⟨false, 2, evN 4 9, false⟩ :: ob) e 0 rfl
      simp (disch := first | omega | decide) only [push_cast, ↓wF_free, ↓reduceIte, Nat.reduceEqDiff, Nat.reduceLT, Nat.reduceLeDiff, Nat.reduceAdd, Nat.reduceSub, Nat.reduceMul, Nat.reduceBEq, Int.reduceLT, Int.reduceLE, Int.reduceToNat, Int.reduceNeg, Int.reducePow, Int.reduceAdd, Int.reduceMul, Int.reduceSub, ↓Int.reduceNatCast', ldE _ _ hvl, mk_ev _ _ hvl, c0, c1, c2]
theorem c_peval : Contract Try.prog GG 38 sp_peval :=
  econtract_of tr_teval_Eval tbe_ok hT_ok (fun a h => by
    obtain ⟨x, ⟨n, v⟩⟩ := a
    obtain ⟨h1, h2, h3⟩ := h
    dsimp only at h1 h2 h3
    subst h1
    exact wd_peval x v h2 h3)
end Go.Proofs.Ytgppecaeegaooaa.PI
namespace Go.Proofs.Ytgppecaeegaooaa.PI
open Go
set_option linter.unusedSimpArgs false
set_option linter.unusedVariables false
def payD (c : Cls) : D := exD c.op c.n c.u0 c.u1 c.u2 c.u3 c.l
def tarOkX (t : Tar) : Prop := tarOk t ∧ ∀ c ∈ t.cl, ExP (payD c)
theorem ty_int {d : D} (h : TyD Try.prog 3 d) : ∃ n, d = .int .i64 n := by
  have he : Try.prog.underlying 3 = some (.int .i64) := by kernel_rfl
  cases h with
  | int _ k n hu _ => rw [he] at hu; simp only [Option.some.injEq, TypeDesc.int.injEq] at hu; subst hu; exact ⟨n, rfl⟩
  | bool _ b hu => rw [he] at hu; cases hu
  | str _ s hu _ => rw [he] at hu; cases hu
  | slc _ e els hu _ _ => rw [he] at hu; cases hu
  | agg _ fs xs hu _ _ => rw [he] at hu; cases hu
  | arr _ m e xs hu _ _ => rw [he] at hu; cases hu
theorem ty_dim {d : D} (h : TyD Try.prog 24 d) : ∃ a b c e : Int, d = .agg [.int .i64 a, .int .i64 b, .int .i64 c, .int .i64 e] := by
  have he : Try.prog.underlying 24 = some (.array 4 3) := by kernel_rfl
  cases h with
  | int _ k n hu _ => rw [he] at hu; cases hu
  | bool _ b hu => rw [he] at hu; cases hu
  | str _ s hu _ => rw [he] at hu; cases hu
  | slc _ e els hu _ _ => rw [he] at hu; cases hu
  | agg _ fs xs hu _ _ => rw [he] at hu; cases hu
  | arr _ m e xs hu hl hx =>
    rw [he] at hu
    simp only [Option.some.injEq, TypeDesc.array.injEq] at hu
    obtain ⟨rfl, rfl⟩ := hu
    match xs, hl with
    | [w, x, y, z], _ =>
      obtain ⟨a, rfl⟩ := ty_int (hx w (by simp))
      obtain ⟨b, rfl⟩ := ty_int (hx x (by simp))
      obtain ⟨c, rfl⟩ := ty_int (hx y (by simp))
      obtain ⟨e, rfl⟩ := ty_int (hx z (by simp))
      exact ⟨a, b, c, e, rfl⟩
theorem ty_ex {t : TypeId} {d : D} (h : TyD Try.prog t d) : (t = 27 → ExP d) ∧ (t = 25 → ∃ l, d = .slc (nz 7 l) l false ∧ l.length ≤ maxLen ∧ ∀ x ∈ l, ExP x) := by
  have he : (Try.prog.underlying 27).map (fun | .struct fs => fs.toList.map (·.type) | _ => []) = some [3, 3, 24, 25] := by kernel_rfl
  have hs : Try.prog.underlying 25 = some (.slice 27) := by kernel_rfl
  have hc : Try.prog.cellsOf 27 = 7 := by kernel_rfl
  induction h with
  | bool t b hu =>
    refine ⟨fun e => ?_, fun e => ?_⟩ <;> subst e
    · rw [hu] at he; simp at he
    · rw [hs] at hu; cases hu
  | int t k n hu _ =>
    refine ⟨fun e => ?_, fun e => ?_⟩ <;> subst e
    · rw [hu] at he; simp at he
    · rw [hs] at hu; cases hu
  | str t s hu _ =>
    refine ⟨fun e => ?_, fun e => ?_⟩ <;> subst e
    · rw [hu] at he; simp at he
    · rw [hs] at hu; cases hu
  | arr t m e xs hu _ _ _ =>
    refine ⟨fun e => ?_, fun e => ?_⟩ <;> subst e
    · rw [hu] at he; simp at he
    · rw [hs] at hu; cases hu
  | slc t e els hu hx hl ih =>
    refine ⟨fun e => ?_, fun e => ?_⟩ <;> subst e
    · rw [hu] at he; simp at he
    · rw [hs] at hu
      simp only [Option.some.injEq, TypeDesc.slice.injEq] at hu
      subst hu
      rw [hc]
      exact ⟨els, rfl, hl, fun x hx => (ih x hx).1 rfl⟩
  | agg t fs xs hu hlen hf ih =>
    refine ⟨fun e => ?_, fun e => ?_⟩ <;> subst e
    · rw [hu] at he
      simp only [Option.map_some, Option.some.injEq] at he
      generalize fs.toList = F at *
      rcases F with _ | ⟨f0, _ | ⟨f1, _ | ⟨f2, _ | ⟨f3, _ | ⟨f4, F⟩⟩⟩⟩⟩ <;> simp only [List.map_cons, List.map_nil, List.cons.injEq, and_true, and_false, reduceCtorEq] at he
      obtain ⟨e0, e1, e2, e3⟩ := he
      match xs, hlen with
      | [a, b, u, l], _ =>
        obtain ⟨n0, rfl⟩ := ty_int (e0 ▸ hf 0 f0 a rfl rfl)
        obtain ⟨n1, rfl⟩ := ty_int (e1 ▸ hf 1 f1 b rfl rfl)
        obtain ⟨u0, u1, u2, u3, rfl⟩ := ty_dim (e2 ▸ hf 2 f2 u rfl rfl)
        obtain ⟨els, rfl, h1, h2⟩ := (ih 3 f3 l rfl rfl).2 e3
        exact ExP.mk n0 n1 u0 u1 u2 u3 els (Nat.le_trans h1 maxLen_le) h2
    · rw [hs] at hu; cases hu
theorem has_OX {d : D} (h : Has tyO d) : ∃ l, d = .slc (nz 7 l) l false ∧ l.length ≤ maxLen ∧ ∀ x ∈ l, ExP x := by
  cases h with
  | opq Q sz els hq => exact (ty_ex hq).2 rfl
theorem has_clsX {d : D} (h : Has tyCls4 d) : ∃ c, d = clsD c ∧ c.wh.length ≤ maxLen ∧ ExP (payD c) := by
  obtain ⟨x, y, z, rfl, h1, h2, h3⟩ := has_agg3 h
  obtain ⟨s, rfl, _⟩ := has_str h1
  obtain ⟨w, rfl, hw⟩ := has_dom h2
  cases h3 with
  | agg _ xs g1 g2 =>
    match xs, g1 with
    | [a, b, u, e], _ =>
      obtain ⟨a, rfl, _, _⟩ := has_i64 (g2 0 _ a rfl rfl)
      obtain ⟨b, rfl, _, _⟩ := has_i64 (g2 1 _ b rfl rfl)
      obtain ⟨l, rfl, hl⟩ := has_ints (g2 2 _ u rfl rfl)
      obtain ⟨m, rfl, k1, k2⟩ := has_OX (g2 3 _ e rfl rfl)
      match l, hl with
      | [u0, u1, u2, u3], _ => exact ⟨⟨s, w, a, b, u0, u1, u2, u3, m⟩, rfl, hw, ExP.mk a b u0 u1 u2 u3 m (Nat.le_trans k1 maxLen_le) k2⟩
theorem has_tarX {d : D} (h : Has tyTar d) : ∃ t, d = tarD t ∧ tarOkX t := by
  obtain ⟨x, y, z, rfl, h1, h2, h3⟩ := has_agg3 h
  obtain ⟨s, rfl, _⟩ := has_str h1
  obtain ⟨n, rfl, _, _⟩ := has_i64 h2
  obtain ⟨l, rfl, hl, hp⟩ := has_slcP (f := clsD) (p := fun c => c.wh.length ≤ maxLen ∧ ExP (payD c)) (fun x hx => has_clsX hx) h3
  exact ⟨⟨s, n, l⟩, rfl, ⟨hl, fun c hc => (hp c hc).1⟩, fun c hc => (hp c hc).2⟩
def amtF (v : List Int) : Nat → List Cls → Int × Int × Int
  | _, [] => (0, 0, 180)
  | i, c :: l => if (holdsF v c.wh).2 = 0 then (if (holdsF v c.wh).1 = true then (if (evalR v (payD c)).2 = 0 then ((evalR v (payD c)).1, (i : Int), 0) else (0, 0, (evalR v (payD c)).2)) else amtF v (i + 1) l) else (0, 0, (holdsF v c.wh).2)
theorem drop_getC {l : List Cls} {i : Nat} (h : i < l.length) : l.drop i = l.getD i default :: l.drop (i + 1) := by
  rw [List.drop_eq_getElem_cons h]
  simp [List.getD_eq_getElem?_getD, h]
theorem ld_pay (lent : Bool) (c : Cls) : ldO (some ⟨false, 1, clsC c, lent⟩) 7 true 2 = some (payD c) := (rfl)
theorem imm_pay (st : St) (c : Cls) : imm st (payD c) = some (payD c) := imm_ex ..
theorem keys_pay (c : Cls) : keys (payD c) = [] := (rfl)
attribute [push_cast] ld_pay imm_pay keys_pay
noncomputable def sp_amt : List D → Option D := spOf (α := Tar × (Int × List Int)) (fun a => [tarD a.1, envD (Prod.fst a.2) (Prod.snd a.2)]) (fun a => a.2.1 = 65535 ∧ caseV a.2.2 ∧ a.1.cl.length ≤ 65536 ∧ ∀ c ∈ a.1.cl, c.wh.length ≤ 9223372036854775807 ∧ ExP (payD c)) (fun a => .tup [.int .i64 (amtF a.2.2 0 a.1.cl).1, .int .i64 (amtF a.2.2 0 a.1.cl).2.1, .int .i64 (amtF a.2.2 0 a.1.cl).2.2])
theorem call_amt (t : Tar) (v : Int × List Int) (h : v.1 = 65535 ∧ caseV v.2 ∧ t.cl.length ≤ 65536 ∧ ∀ c ∈ t.cl, c.wh.length ≤ 9223372036854775807 ∧ ExP (payD c)) : sp_amt [tarD t, envD (Prod.fst v) (Prod.snd v)] = some (.tup [.int .i64 (amtF v.2 0 t.cl).1, .int .i64 (amtF v.2 0 t.cl).2.1, .int .i64 (amtF v.2 0 t.cl).2.2]) :=
  spOf_enc (fun ⟨a0, a1⟩ ⟨b0, b1⟩ h => by simp only [List.cons.injEq, D.slc.injEq, D.int.injEq, D.bool.injEq, D.str.injEq, D.agg.injEq, digs_iff, dig_iff, digC_iff, bytes_iff, byte_iff, words_iff, word_iff, bsl_iff, true_and, and_true, ints_iff, nI_iff, tsts_iff, clss_iff, clsD_iff, tarD_iff, tstD_iff, ptD_iff, Int.ofNat_inj, env_iff] at h; simp [h, Prod.ext_iff]) (t, v) h
set_option maxHeartbeats 4000000 in
set_option maxRecDepth 20000 in
theorem w_amt (t : Tar) (v : Int × List Int) (h : v.1 = 65535 ∧ caseV v.2 ∧ t.cl.length ≤ 65536 ∧ ∀ c ∈ t.cl, c.wh.length ≤ 9223372036854775807 ∧ ExP (payD c)) : @wW GG (tb [(12, sp_pholds), (38, sp_peval)] []) F_teval_Amount.code (argF [tarD t, envD (Prod.fst v) (Prod.snd v)]) [] ⟨retQ F_teval_Amount.res (.tup [.int .i64 (amtF v.2 0 t.cl).1, .int .i64 (amtF v.2 0 t.cl).2.1, .int .i64 (amtF v.2 0 t.cl).2.2])⟩ := by
  obtain ⟨k, v⟩ := v
  obtain ⟨h1, hcv, h2, h3⟩ := h
  dsimp only at h1 hcv h3
  subst h1
  have hv := hcv.1
  unfold F_teval_Amount
  simp (disch := first | omega | decide) only [push_cast, ↓wF_free, ↓reduceIte, Nat.reduceEqDiff, Nat.reduceLT, Nat.reduceLeDiff, Nat.reduceAdd, Nat.reduceSub, Nat.reduceMul, Nat.reduceBEq, Int.reduceLT, Int.reduceLE, Int.reduceToNat, Int.reduceNeg, Int.reducePow, Int.reduceAdd, Int.reduceMul, Int.reduceSub, ↓Int.reduceNatCast']
  refine W_while (fun i : Nat => [(3, .ptr 1 0), (12, .slc (nz 9 (t.cl.map clsD)) (t.cl.map clsD) false), (13, .int .i64 (t.cl.length : Int)), (14, .int .i64 (i : Int))]) (fun _ => [⟨false, 1, tarC t, false⟩, ⟨false, 1, envC 65535 v, false⟩]) (fun i => i ≤ t.cl.length ∧ amtF v 0 t.cl = amtF v i (t.cl.drop i)) (fun i => t.cl.length - i) 0 (by simp only [push_cast, ↓wF_free, ↓reduceIte, Nat.reduceEqDiff, Nat.reduceLT, Nat.reduceLeDiff, Nat.reduceAdd, Nat.reduceSub, Nat.reduceMul, Nat.reduceBEq, Int.reduceLT, Int.reduceLE, Int.reduceToNat, Int.reduceNeg, Int.reducePow, Int.reduceAdd, Int.reduceMul, Int.reduceSub, ↓Int.reduceNatCast'] <;> rfl) ⟨Nat.zero_le _, rfl⟩ ?_
  rintro i ⟨hi, hh⟩
  unfold F_teval_Amount_L0
  simp (disch := first | omega | decide) only [push_cast, ↓wF_free, ↓reduceIte, Nat.reduceEqDiff, Nat.reduceLT, Nat.reduceLeDiff, Nat.reduceAdd, Nat.reduceSub, Nat.reduceMul, Nat.reduceBEq, Int.reduceLT, Int.reduceLE, Int.reduceToNat, Int.reduceNeg, Int.reducePow, Int.reduceAdd, Int.reduceMul, Int.reduceSub, ↓Int.reduceNatCast']
  refine ifD_split (fun h4 => ?_) (fun h4 => ?_)
  · have hlt : i < t.cl.length := by omega
    have hix : ∀ st : St, pidxS st 9 (.slc (nz 9 (t.cl.map clsD)) (t.cl.map clsD) false) (.int .i64 (i : Int)) = some (.eptr (clsD (t.cl.getD i default)) 0) := fun st => by
      have := idxS_nz st 9 clsD t.cl false .i64 (i : Int) (by omega) (by omega)
      rwa [Int.toNat_natCast] at this
    obtain ⟨q1, q2⟩ := h3 _ (getD_memC hlt)
    rw [drop_getC hlt, amtF] at hh
    have cc : sp_pholds [clsD (t.cl.getD i default), envD 65535 v] = some (.tup [.bool (holdsF v (t.cl.getD i default).wh).1, .int .i64 (holdsF v (t.cl.getD i default).wh).2]) := call_pholds _ (_, _) ⟨rfl, hcv, q1⟩
    have ce : sp_peval [payD (t.cl.getD i default), envD 65535 v] = some (.tup [.int .i64 (evalR v (payD (t.cl.getD i default))).1, .int .i64 (evalR v (payD (t.cl.getD i default))).2]) := call_peval _ (_, _) ⟨rfl, hcv, q2⟩
    generalize t.cl.getD i default = c at *
    generalize holdsF v c.wh = hr at *
    generalize evalR v (payD c) = er at *
    obtain ⟨hb, he⟩ := hr
    obtain ⟨n, e⟩ := er
    dsimp only at cc ce hh
    by_cases he0 : he = 0
    · subst he0
      rw [if_pos rfl] at hh
      cases hb with
      | false =>
        rw [if_neg (by decide)] at hh
        simp (disch := first | omega | decide) only [push_cast, ↓wF_free, ↓reduceIte, Nat.reduceEqDiff, Nat.reduceLT, Nat.reduceLeDiff, Nat.reduceAdd, Nat.reduceSub, Nat.reduceMul, Nat.reduceBEq, Int.reduceLT, Int.reduceLE, Int.reduceToNat, Int.reduceNeg, Int.reducePow, Int.reduceAdd, Int.reduceMul, Int.reduceSub, ↓Int.reduceNatCast', hix, zero_cls, st_cls0, cc, ldE _ _ hv, add_i]
        refine next_head (i + 1) (by exact ⟨by omega, hh⟩) (by omega) ?_
        simp only [push_cast, ↓wF_free, ↓reduceIte, Nat.reduceEqDiff, Nat.reduceLT, Nat.reduceLeDiff, Nat.reduceAdd, Nat.reduceSub, Nat.reduceMul, Nat.reduceBEq, Int.reduceLT, Int.reduceLE, Int.reduceToNat, Int.reduceNeg, Int.reducePow, Int.reduceAdd, Int.reduceMul, Int.reduceSub, ↓Int.reduceNatCast'] <;> rfl
      | true =>
        rw [if_pos rfl] at hh
        by_cases he1 : e = 0
        · subst he1
          rw [if_pos rfl] at hh
          rw [hh]
          simp (disch := first | omega | decide) only [push_cast, ↓wF_free, ↓reduceIte, Nat.reduceEqDiff, Nat.reduceLT, Nat.reduceLeDiff, Nat.reduceAdd, Nat.reduceSub, Nat.reduceMul, Nat.reduceBEq, Int.reduceLT, Int.reduceLE, Int.reduceToNat, Int.reduceNeg, Int.reducePow, Int.reduceAdd, Int.reduceMul, Int.reduceSub, ↓Int.reduceNatCast', hix, zero_cls, st_cls0, cc, ce, ldE _ _ hv]
        · rw [if_neg he1] at hh
          rw [hh]
          simp (disch := first | omega | decide) only [push_cast, ↓wF_free, ↓reduceIte, Nat.reduceEqDiff, Nat.reduceLT, Nat.reduceLeDiff, Nat.reduceAdd, Nat.reduceSub, Nat.reduceMul, Nat.reduceBEq, Int.reduceLT, Int.reduceLE, Int.reduceToNat, Int.reduceNeg, Int.reducePow, Int.reduceAdd, Int.reduceMul, Int.reduceSub, ↓Int.reduceNatCast', hix, zero_cls, st_cls0, cc, ce, he1, ldE _ _ hv]
    · rw [if_neg he0] at hh
      rw [hh]
      simp (disch := first | omega | decide) only [push_cast, ↓wF_free, ↓reduceIte, Nat.reduceEqDiff, Nat.reduceLT, Nat.reduceLeDiff, Nat.reduceAdd, Nat.reduceSub, Nat.reduceMul, Nat.reduceBEq, Int.reduceLT, Int.reduceLE, Int.reduceToNat, Int.reduceNeg, Int.reducePow, Int.reduceAdd, Int.reduceMul, Int.reduceSub, ↓Int.reduceNatCast', hix, zero_cls, st_cls0, cc, he0, ldE _ _ hv]
  · obtain rfl : i = t.cl.length := by omega
    rw [List.drop_length, amtF] at hh
    rw [hh]
    simp (disch := first | omega | decide) only [push_cast, ↓wF_free, ↓reduceIte, Nat.reduceEqDiff, Nat.reduceLT, Nat.reduceLeDiff, Nat.reduceAdd, Nat.reduceSub, Nat.reduceMul, Nat.reduceBEq, Int.reduceLT, Int.reduceLE, Int.reduceToNat, Int.reduceNeg, Int.reducePow, Int.reduceAdd, Int.reduceMul, Int.reduceSub, ↓Int.reduceNatCast']
theorem c_amt : Contract Try.prog GG 19 sp_amt :=
  contract_of tr_teval_Amount (tb_ok (all_cons c_pholds (all_cons c_peval all_nil)) all_nil) (fun a h => w_amt a.1 a.2 h)
theorem amt_app (v : List Int) : ∀ (a b : List Cls) (i : Nat), (∀ c ∈ a, holdsF v c.wh = (false, 0)) → amtF v i (a ++ b) = amtF v (i + a.length) b
  | [], b, i, _ => rfl
  | c :: a, b, i, h => by
    have h1 := h c (by simp)
    rw [List.cons_append, amtF, h1]
    simp only [if_true, Bool.false_eq_true, if_false]
    rw [amt_app v a b (i + 1) (fun x hx => h x (by simp [hx])), List.length_cons]
    congr 1
    omega
theorem chk_ok {cl : List Cls} (h : chkO cl = 0) : (∀ c ∈ cl, (ofB c.wh).2 = true) ∧ ovF cl = none := by
  unfold chkO at h
  split at h
  case isFalse => cases h
  rename_i h1
  split at h
  case isTrue => cases h
  rename_i h2
  refine ⟨fun c hc => ?_, ?_⟩
  · rw [List.all_eq_true] at h1
    exact h1 _ (by simp only [sms, List.mem_map]; exact ⟨c, hc, rfl⟩)
  · cases ho : ovF cl with
    | none => rfl
    | some r => rw [ho] at h2; exact absurd rfl h2
theorem ok_tests {l : List Tst} (h : (ofB l).2 = true) : ∀ t ∈ l, okA t := by
  have key : ∀ (l : List Tst) (b c : Bx), runT b l = some c → ∀ t ∈ l, okA t := by
    intro l
    induction l with
    | nil => intro b c _ t ht; cases ht
    | cons a l ih =>
      intro b c hr t ht
      simp only [runT] at hr
      split at hr
      case isFalse => cases hr
      rename_i ha
      rcases List.mem_cons.1 ht with rfl | ht
      · exact ha
      · exact ih _ _ hr t ht
  cases hr : runT allB l with
  | none => rw [ofB_none hr] at h; cases h
  | some c => exact key l _ _ hr
theorem ord_law {cl : List Cls} (h : chkO cl = 0) {v : List Int} (hv : caseV v) :
    ((amtF v 0 cl).2.2 ≠ 0 → (amtF v 0 cl.reverse).2.2 = (amtF v 0 cl).2.2) ∧
    ((amtF v 0 cl).2.2 = 0 → (amtF v 0 cl.reverse).2.2 = 0 ∧ (amtF v 0 cl).1 = (amtF v 0 cl.reverse).1 ∧ (amtF v 0 cl).2.1 = (cl.length : Int) - 1 - (amtF v 0 cl.reverse).2.1) := by
  obtain ⟨h1, h2⟩ := chk_ok h
  have h0 : ∀ c ∈ cl, (holdsF v c.wh).2 = 0 := fun c hc => holds_valid v c.wh (ok_tests (h1 c hc))
  by_cases hx : ∃ c ∈ cl, (holdsF v c.wh).1 = true
  · obtain ⟨c, hc, hct⟩ := hx
    obtain ⟨a, b, rfl⟩ := List.append_of_mem hc
    have hat : ∀ (k : Nat), k ≠ a.length → k < (a ++ c :: b).length → hldB (a ++ c :: b) v k = false := by
      have hka : hldB (a ++ c :: b) v a.length = true := by
        unfold hldB
        rw [List.getD_eq_getElem?_getD, List.getElem?_append_right (Nat.le_refl _)]
        simpa using hct
      intro k hk hkl
      rcases Nat.lt_or_ge k a.length with hlt | hge
      · cases hb : hldB (a ++ c :: b) v k with
        | false => rfl
        | true =>
          have := ov_not h2 hv hlt (by simp) hb
          rw [hka] at this; cases this
      · exact ov_not h2 hv (show a.length < k by omega) hkl hka
    have ha : ∀ x ∈ a, holdsF v x.wh = (false, 0) := by
      intro x hx
      obtain ⟨i, hi, rfl⟩ := List.getElem_of_mem hx
      have := hat i (by omega) (by simp; omega)
      unfold hldB at this
      rw [List.getD_eq_getElem?_getD, List.getElem?_append_left hi, List.getElem?_eq_getElem hi] at this
      exact Prod.ext this (h0 _ (by simp))
    have hb : ∀ x ∈ b, holdsF v x.wh = (false, 0) := by
      intro x hx
      obtain ⟨i, hi, rfl⟩ := List.getElem_of_mem hx
      have := hat (a.length + 1 + i) (by omega) (by simp; omega)
      unfold hldB at this
      rw [List.getD_eq_getElem?_getD, List.getElem?_append_right (by omega), show a.length + 1 + i - a.length = i + 1 by omega, List.getElem?_cons_succ, List.getElem?_eq_getElem hi] at this
      exact Prod.ext this (h0 _ (by simp))
    have hc0 : holdsF v c.wh = (true, 0) := Prod.ext hct (h0 c hc)
    have e1 := amt_app v a (c :: b) 0 ha
    have e2 : amtF v 0 (a ++ c :: b).reverse = amtF v (0 + b.reverse.length) (c :: a.reverse) := by
      rw [List.reverse_append, List.reverse_cons, List.append_assoc]
      exact amt_app v b.reverse (c :: a.reverse) 0 fun x hx => hb x (by simpa using hx)
    rw [e1, e2, amtF, amtF, hc0]
    simp only [if_true, List.length_reverse, Nat.zero_add]
    generalize evalR v (payD c) = r
    by_cases hr : r.2 = 0
    · rw [if_pos hr, if_pos hr]
      refine ⟨fun h => absurd rfl h, fun _ => ⟨rfl, rfl, ?_⟩⟩
      simp only [List.length_append, List.length_cons]
      omega
    · rw [if_neg hr, if_neg hr]
      exact ⟨fun _ => rfl, fun h => absurd h hr⟩
  · have hn : ∀ c ∈ cl, holdsF v c.wh = (false, 0) := fun c hc => Prod.ext (by
      cases hb : (holdsF v c.wh).1 with
      | false => rfl
      | true => exact absurd ⟨c, hc, hb⟩ hx) (h0 c hc)
    have e1 : amtF v 0 cl = (0, 0, 180) := by
      have := amt_app v cl [] 0 hn
      rw [List.append_nil] at this
      rw [this]; rfl
    have e2 : amtF v 0 cl.reverse = (0, 0, 180) := by
      have := amt_app v cl.reverse [] 0 (fun c hc => hn c (by simpa using hc))
      rw [List.append_nil] at this
      rw [this]; rfl
    rw [e1, e2]
    exact ⟨fun _ => rfl, fun h => absurd h (by decide)⟩
end Go.Proofs.Ytgppecaeegaooaa.PI
namespace Go.Proofs.Ytgppecaeegaooaa.PI
open Go
set_option linter.unusedSimpArgs false
set_option linter.unusedVariables false
theorem take_rev {l : List Cls} {k : Nat} (h : k < l.length) : l.reverse.take (k + 1) = l.reverse.take k ++ [l.getD (l.length - 1 - k) default] := by
  have h1 : k < l.reverse.length := by simpa using h
  rw [List.take_add_one, List.getElem?_eq_getElem h1, List.getElem_reverse]
  simp [List.getD_eq_getElem?_getD, show l.length - 1 - k < l.length by omega]
def bkC (nm : List UInt8) (f : Int) (x : D) : List D := [.str nm, .int .i64 f, x]
theorem bk_lit (nm : List UInt8) (f : Int) : fillD [.str [], .int .i64 0, .slc 0 [] true] [(0, 1, .str nm), (1, 1, .int .i64 f)] = some (bkC nm f (.slc 0 [] true)) := (rfl)
theorem bk_st0 (nm : List UInt8) (f : Int) : stO (some ⟨false, 1, [.str [], .int .i64 0, .slc 0 [] true], false⟩) 3 0 (.agg (bkC nm f (.slc 0 [] true))) = some ⟨false, 1, bkC nm f (.slc 0 [] true), false⟩ := (rfl)
theorem bk_box0 : boxD (.agg [.str [], .int .i64 0, .slc 0 [] true]) = some [.str [], .int .i64 0, .slc 0 [] true] := (rfl)
theorem bk_ld (lent : Bool) (nm : List UInt8) (f : Int) (x : D) : ldO (some ⟨false, 1, bkC nm f x, lent⟩) 1 false 2 = some x := (rfl)
theorem bk_st (nm : List UInt8) (f : Int) (x : D) (key tot off len : Nat) : stO (some ⟨false, 1, bkC nm f x, false⟩) 1 2 (.row key tot off len) = some ⟨false, 1, bkC nm f (.row key tot off len), false⟩ := (rfl)
theorem bk_all (lent : Bool) (nm : List UInt8) (f : Int) (x : D) : ldO (some ⟨false, 1, bkC nm f x, lent⟩) 3 true 0 = some (.agg (bkC nm f x)) := (rfl)
theorem ld_nm (lent : Bool) (t : Tar) : ldO (some ⟨false, 1, tarC t, lent⟩) 1 false 0 = some (.str t.nm) := (rfl)
theorem ld_for (lent : Bool) (t : Tar) : ldO (some ⟨false, 1, tarC t, lent⟩) 1 false 1 = some (.int .i64 t.for_) := (rfl)
attribute [push_cast] ld_nm ld_for
theorem lit_cls (c : Cls) : litD 9 [clsD c] = some (.slc 9 [clsD c] true) := (rfl)
theorem hkB_bk (nm : List UInt8) (f : Int) (x : D) : (bkC nm f x).flatMap hk = hk x := by
  show [] ++ ([] ++ (hk x ++ [])) = hk x
  simp
theorem renB_bk (n : Nat) (σ : List Nat) (nm : List UInt8) (f : Int) (x : D) : (bkC nm f x).map (ren n σ) = bkC nm f (ren n σ x) := (rfl)
theorem hk_row' (key tot off len : Nat) : hk (.row key tot off len) = [key] := (rfl)
theorem hk_slc' (sz : Nat) (els : List D) (t : Bool) : hk (.slc sz els t) = [] := (rfl)
theorem ren_slc' (n : Nat) (σ : List Nat) (sz : Nat) (els : List D) (t : Bool) : ren n σ (.slc sz els t) = .slc sz els t := (rfl)
theorem ren_row' (n : Nat) (σ : List Nat) (key tot off len : Nat) : ren n σ (.row key tot off len) = ren1 n σ (.row key tot off len) := (rfl)
theorem amt_idx (v : List Int) : ∀ (l : List Cls) (i : Nat), 0 ≤ (amtF v i l).2.1 ∧ (amtF v i l).2.1 ≤ (i : Int) + (l.length : Int)
  | [], i => by simp [amtF]
  | c :: l, i => by
    have := amt_idx v l (i + 1)
    rw [amtF, List.length_cons]
    split
    · split
      · split <;> simp only <;> omega
      · omega
    · simp only; omega
set_option maxHeartbeats 4000000 in
set_option maxRecDepth 20000 in
theorem lw_TboxOrder (t : Tar) (ht : tarOkX t) (v : Int × List Int) (hv : v.2.length = 16) : @wW GG (tb [(10, sp_lsane), (11, sp_isc), (23, sp_pchk), (19, sp_amt)] []) F_wagonpoollaw19_TboxOrder.code (argF [tarD t, envD (Prod.fst v) (Prod.snd v)]) [] ⟨retQ F_wagonpoollaw19_TboxOrder.res (.bool true)⟩ := by
  have cs := call_lsane
  have hm := maxLen_le
  obtain ⟨kh, v⟩ := v
  dsimp only at hv
  have ci : sp_isc [envD kh v] = some (.bool (caseB kh v)) := call_isc (kh, v) hv
  obtain ⟨⟨ht1, ht2⟩, ht3⟩ := ht
  unfold F_wagonpoollaw19_TboxOrder
  by_cases h40 : (40 : Int) < (t.cl.length : Int)
  · simp (disch := first | omega | decide) only [push_cast, ↓wF_free, ↓reduceIte, Nat.reduceEqDiff, Nat.reduceLT, Nat.reduceLeDiff, Nat.reduceAdd, Nat.reduceSub, Nat.reduceMul, Nat.reduceBEq, Int.reduceLT, Int.reduceLE, Int.reduceToNat, Int.reduceNeg, Int.reducePow, Int.reduceAdd, Int.reduceMul, Int.reduceSub, ↓Int.reduceNatCast', cs, h40]
  · cases hb : caseB kh v with
    | false =>
      rw [hb] at ci
      simp (disch := first | omega | decide) only [push_cast, ↓wF_free, ↓reduceIte, Nat.reduceEqDiff, Nat.reduceLT, Nat.reduceLeDiff, Nat.reduceAdd, Nat.reduceSub, Nat.reduceMul, Nat.reduceBEq, Int.reduceLT, Int.reduceLE, Int.reduceToNat, Int.reduceNeg, Int.reducePow, Int.reduceAdd, Int.reduceMul, Int.reduceSub, ↓Int.reduceNatCast', cs, h40, ci, ldE _ _ hv]
    | true =>
      obtain ⟨rfl, hcv⟩ := caseB_spec hv hb
      rw [hb] at ci
      have w3 : ∀ c ∈ t.cl, c.wh.length ≤ 9223372036854775807 := fun c hc => Nat.le_trans (ht2 c hc) hm
      have ck := call_pchk t ⟨by omega, w3⟩
      by_cases hk : chkO t.cl = 0
      · have hl := ord_law hk hcv
        have ca : sp_amt [tarD t, envD 65535 v] = _ := call_amt t (_, v) ⟨rfl, hcv, by omega, fun c hc => ⟨w3 c hc, ht3 c hc⟩⟩
        have cb : sp_amt [tarD ⟨t.nm, t.for_, t.cl.reverse⟩, envD 65535 v] = _ := call_amt ⟨t.nm, t.for_, t.cl.reverse⟩ (_, v) ⟨rfl, hcv, by simp; omega, fun c hc => ⟨w3 c (by simpa using hc), ht3 c (by simpa using hc)⟩⟩
        dsimp only at ca cb
        rw [hk] at ck
        have hix : ∀ (st : St) (i : Nat), i < t.cl.length → pidxS st 9 (.slc (nz 9 (t.cl.map clsD)) (t.cl.map clsD) false) (.int .i64 (i : Int)) = some (.eptr (clsD (t.cl.getD i default)) 0) := fun st i hi => by
          have := idxS_nz st 9 clsD t.cl false .i64 (i : Int) (by omega) (by omega)
          rwa [Int.toNat_natCast] at this
        simp (disch := first | omega | decide) only [push_cast, ↓wF_free, ↓reduceIte, Nat.reduceEqDiff, Nat.reduceLT, Nat.reduceLeDiff, Nat.reduceAdd, Nat.reduceSub, Nat.reduceMul, Nat.reduceBEq, Int.reduceLT, Int.reduceLE, Int.reduceToNat, Int.reduceNeg, Int.reducePow, Int.reduceAdd, Int.reduceMul, Int.reduceSub, ↓Int.reduceNatCast', cs, h40, ci, ldE _ _ hv, ck, bk_lit, bk_st0, bk_box0, sub_i]
        refine W_while (fun k : Nat => [(2, .ptr 0 0), (3, .ptr 1 0), (5, .ptr 2 0), (6, .int .i64 ((t.cl.length : Int) - 1)), (7, .int .i64 ((t.cl.length : Int) - 1 - (k : Int)))])
          (fun k => ⟨false, 1, tarC t, false⟩ :: ⟨false, 1, envC 65535 v, false⟩ :: ⟨false, 1, bkC t.nm t.for_ (bufD 0 3 ((t.cl.reverse.take k).map clsD)), false⟩ :: bufS 9 ((t.cl.reverse.take k).map clsD))
          (fun k => k ≤ t.cl.length) (fun k => t.cl.length - k) 0 (by simp only [push_cast, ↓wF_free, ↓reduceIte, Nat.reduceEqDiff, Nat.reduceLT, Nat.reduceLeDiff, Nat.reduceAdd, Nat.reduceSub, Nat.reduceMul, Nat.reduceBEq, Int.reduceLT, Int.reduceLE, Int.reduceToNat, Int.reduceNeg, Int.reducePow, Int.reduceAdd, Int.reduceMul, Int.reduceSub, ↓Int.reduceNatCast', hkB_bk, renB_bk, hk_slc', ren_slc', Int.sub_zero] <;> rfl) (Nat.zero_le _) ?_
        intro k hkl
        have hAl : (t.cl.reverse.take k).length = k := by simp; omega
        unfold F_wagonpoollaw19_TboxOrder_L0
        simp (disch := first | omega | decide) only [push_cast, ↓wF_free, ↓reduceIte, Nat.reduceEqDiff, Nat.reduceLT, Nat.reduceLeDiff, Nat.reduceAdd, Nat.reduceSub, Nat.reduceMul, Nat.reduceBEq, Int.reduceLT, Int.reduceLE, Int.reduceToNat, Int.reduceNeg, Int.reducePow, Int.reduceAdd, Int.reduceMul, Int.reduceSub, ↓Int.reduceNatCast']
        refine ifD_split (fun h2 => ?_) (fun h2 => ?_)
        · have hlt : k < t.cl.length := by omega
          have htk := take_rev hlt
          have hi1 : ∀ st : St, pidxS st 9 (.slc (nz 9 (t.cl.map clsD)) (t.cl.map clsD) false) (.int .i64 ((t.cl.length : Int) - 1 - (k : Int))) = some (.eptr (clsD (t.cl.getD (t.cl.length - 1 - k) default)) 0) := fun st => by
            have := hix st (t.cl.length - 1 - k) (by omega)
            rwa [show ((t.cl.length - 1 - k : Nat) : Int) = (t.cl.length : Int) - 1 - (k : Int) by omega] at this
          have hsub : pbin .sub (.int .i64 ((t.cl.length : Int) - 1 - (k : Int))) (.int .i64 1) = some (.int .i64 ((t.cl.length : Int) - 1 - ((k : Int) + 1))) := by
            rw [sub_i (by omega) (by omega)]; congr 2; omega
          generalize t.cl.getD (t.cl.length - 1 - k) default = x at *
          generalize t.cl.reverse.take k = A at *
          by_cases hA : A = []
          · subst hA
            have p2 := fun st => papp_first1 clsD st 9 0 112 x true (by decide) (by decide)
            have hD : bufD 0 3 (([] : List Cls).map clsD) = .slc 0 [] true := (rfl)
            have hS : bufS 9 (([] : List Cls).map clsD) = [] := (rfl)
            rw [hD, hS]
            simp (disch := first | omega | decide) only [push_cast, ↓wF_free, ↓reduceIte, Nat.reduceEqDiff, Nat.reduceLT, Nat.reduceLeDiff, Nat.reduceAdd, Nat.reduceSub, Nat.reduceMul, Nat.reduceBEq, Int.reduceLT, Int.reduceLE, Int.reduceToNat, Int.reduceNeg, Int.reducePow, Int.reduceAdd, Int.reduceMul, Int.reduceSub, ↓Int.reduceNatCast', hi1, hsub, lit_cls, bk_ld, bk_st, p2]
            refine next_head (k + 1) (by omega) (by omega) ?_
            rw [htk, bufD_snoc, bufS_snoc]
            simp only [push_cast, ↓wF_free, ↓reduceIte, Nat.reduceEqDiff, Nat.reduceLT, Nat.reduceLeDiff, Nat.reduceAdd, Nat.reduceSub, Nat.reduceMul, Nat.reduceBEq, Int.reduceLT, Int.reduceLE, Int.reduceToNat, Int.reduceNeg, Int.reducePow, Int.reduceAdd, Int.reduceMul, Int.reduceSub, ↓Int.reduceNatCast', hkB_bk, renB_bk, hk_row', ren_row'] <;> rfl
          · have hne : A.map clsD ≠ [] := by simpa using hA
            have hD : bufD 0 3 (A.map clsD) = .row 3 A.length 0 A.length := by rw [bufD_ne _ _ _ hne, List.length_map]
            have hS := bufS_ne 9 _ hne
            have p2 := fun lent st => apR_one clsD 9 112 A x lent true st (by decide) (by omega) (by omega)
            rw [hD, hS]
            simp (disch := first | omega | decide) only [push_cast, ↓wF_free, ↓reduceIte, Nat.reduceEqDiff, Nat.reduceLT, Nat.reduceLeDiff, Nat.reduceAdd, Nat.reduceSub, Nat.reduceMul, Nat.reduceBEq, Int.reduceLT, Int.reduceLE, Int.reduceToNat, Int.reduceNeg, Int.reducePow, Int.reduceAdd, Int.reduceMul, Int.reduceSub, ↓Int.reduceNatCast', hi1, hsub, lit_cls, bk_ld, bk_st, p2]
            refine next_head (k + 1) (by omega) (by omega) ?_
            rw [htk, bufD_snoc, bufS_snoc]
            simp only [push_cast, ↓wF_free, ↓reduceIte, Nat.reduceEqDiff, Nat.reduceLT, Nat.reduceLeDiff, Nat.reduceAdd, Nat.reduceSub, Nat.reduceMul, Nat.reduceBEq, Int.reduceLT, Int.reduceLE, Int.reduceToNat, Int.reduceNeg, Int.reducePow, Int.reduceAdd, Int.reduceMul, Int.reduceSub, ↓Int.reduceNatCast', hkB_bk, renB_bk, hk_row', ren_row'] <;> rfl
        · obtain rfl : k = t.cl.length := by omega
          have hT : t.cl.reverse.take t.cl.length = t.cl.reverse := List.take_of_length_le (by simp)
          rw [hT]
          obtain ⟨l1, l2⟩ := hl
          have j1 := amt_idx v t.cl 0
          have cb2 : sp_amt [.agg [.str t.nm, .int .i64 t.for_, .slc (nz 9 (t.cl.reverse.map clsD)) (t.cl.reverse.map clsD) false], envD 65535 v] = _ := cb
          generalize amtF v 0 t.cl = ra at *
          generalize amtF v 0 t.cl.reverse = rb at *
          obtain ⟨a1, a2, a3⟩ := ra
          obtain ⟨b1, b2, b3⟩ := rb
          dsimp only at l1 l2 j1 ca cb2
          have fin : ∀ (T : St), True := fun _ => trivial
          by_cases hA : t.cl.reverse = []
          · have hD : bufD 0 3 (t.cl.reverse.map clsD) = .slc 0 [] true := by rw [hA]; rfl
            have hS : bufS 9 (t.cl.reverse.map clsD) = [] := by rw [hA]; rfl
            have hi0 : ∀ st : St, imm st (.agg (bkC t.nm t.for_ (.slc 0 [] true))) = some (.agg [.str t.nm, .int .i64 t.for_, .slc (nz 9 (t.cl.reverse.map clsD)) (t.cl.reverse.map clsD) false]) := fun st => by rw [hA]; rfl
            have hk0 : keys (.agg (bkC t.nm t.for_ (.slc 0 [] true))) = [] := (rfl)
            rw [hD, hS]
            by_cases he : a3 = 0
            · obtain ⟨e1, e2, e3⟩ := l2 he
              subst e1; subst e2
              have hs2 : pbin .sub (.int .i64 ((t.cl.length : Int) - 1)) (.int .i64 b2) = some (.int .i64 ((t.cl.length : Int) - 1 - b2)) := sub_i (by omega) (by omega)
              simp (disch := first | omega | decide) only [push_cast, ↓wF_free, ↓reduceIte, Nat.reduceEqDiff, Nat.reduceLT, Nat.reduceLeDiff, Nat.reduceAdd, Nat.reduceSub, Nat.reduceMul, Nat.reduceBEq, Int.reduceLT, Int.reduceLE, Int.reduceToNat, Int.reduceNeg, Int.reducePow, Int.reduceAdd, Int.reduceMul, Int.reduceSub, ↓Int.reduceNatCast', bk_all, ca, cb2, hi0, hk0, ldE _ _ hv, he, hs2, e3]
            · have e1 := l1 he
              subst e1
              simp (disch := first | omega | decide) only [push_cast, ↓wF_free, ↓reduceIte, Nat.reduceEqDiff, Nat.reduceLT, Nat.reduceLeDiff, Nat.reduceAdd, Nat.reduceSub, Nat.reduceMul, Nat.reduceBEq, Int.reduceLT, Int.reduceLE, Int.reduceToNat, Int.reduceNeg, Int.reducePow, Int.reduceAdd, Int.reduceMul, Int.reduceSub, ↓Int.reduceNatCast', bk_all, ca, cb2, hi0, hk0, ldE _ _ hv, he]
          · have hne : t.cl.reverse.map clsD ≠ [] := by simpa using hA
            have hD : bufD 0 3 (t.cl.reverse.map clsD) = .row 3 t.cl.reverse.length 0 t.cl.reverse.length := by rw [bufD_ne _ _ _ hne, List.length_map]
            have hS := bufS_ne 9 _ hne
            have hi0 : ∀ a b c : Obj, imm [a, b, c, ⟨true, 9, t.cl.reverse.map clsD, false⟩] (.agg (bkC t.nm t.for_ (.row 3 t.cl.reverse.length 0 t.cl.reverse.length))) = some (.agg [.str t.nm, .int .i64 t.for_, .slc (nz 9 (t.cl.reverse.map clsD)) (t.cl.reverse.map clsD) false]) := fun a b c => by
              have hr : rowEls [a, b, c, ⟨true, 9, t.cl.reverse.map clsD, false⟩] 3 t.cl.reverse.length 0 t.cl.reverse.length = some (9, t.cl.reverse.map clsD) := by
                rw [rowEls_eq]; exact reR_all clsD 9 t.cl.reverse false
              simp only [imm, bkC, immL, imm1, hr]
              rfl
            have hk0 : keys (.agg (bkC t.nm t.for_ (.row 3 t.cl.reverse.length 0 t.cl.reverse.length))) = [3] := (rfl)
            rw [hD, hS]
            by_cases he : a3 = 0
            · obtain ⟨e1, e2, e3⟩ := l2 he
              subst e1; subst e2
              have hs2 : pbin .sub (.int .i64 ((t.cl.length : Int) - 1)) (.int .i64 b2) = some (.int .i64 ((t.cl.length : Int) - 1 - b2)) := sub_i (by omega) (by omega)
              simp (disch := first | omega | decide) only [push_cast, ↓wF_free, ↓reduceIte, Nat.reduceEqDiff, Nat.reduceLT, Nat.reduceLeDiff, Nat.reduceAdd, Nat.reduceSub, Nat.reduceMul, Nat.reduceBEq, Int.reduceLT, Int.reduceLE, Int.reduceToNat, Int.reduceNeg, Int.reducePow, Int.reduceAdd, Int.reduceMul, Int.reduceSub, ↓Int.reduceNatCast', bk_all, ca, cb2, hi0, hk0, ldE _ _ hv, he, hs2, e3]
            · have e1 := l1 he
              subst e1
              simp (disch := first | omega | decide) only [push_cast, ↓wF_free, ↓reduceIte, Nat.reduceEqDiff, Nat.reduceLT, Nat.reduceLeDiff, Nat.reduceAdd, Nat.reduceSub, Nat.reduceMul, Nat.reduceBEq, Int.reduceLT, Int.reduceLE, Int.reduceToNat, Int.reduceNeg, Int.reducePow, Int.reduceAdd, Int.reduceMul, Int.reduceSub, ↓Int.reduceNatCast', bk_all, ca, cb2, hi0, hk0, ldE _ _ hv, he]
      · simp (disch := first | omega | decide) only [push_cast, ↓wF_free, ↓reduceIte, Nat.reduceEqDiff, Nat.reduceLT, Nat.reduceLeDiff, Nat.reduceAdd, Nat.reduceSub, Nat.reduceMul, Nat.reduceBEq, Int.reduceLT, Int.reduceLE, Int.reduceToNat, Int.reduceNeg, Int.reducePow, Int.reduceAdd, Int.reduceMul, Int.reduceSub, ↓Int.reduceNatCast', cs, h40, ci, ldE _ _ hv, ck, hk]
theorem law_TboxOrder : Contract Try.prog GG 8 (lawSp [tyTar, tyEnv]) := by
  refine lawC tr_wagonpoollaw19_TboxOrder (T := tb [(10, sp_lsane), (11, sp_isc), (23, sp_pchk), (19, sp_amt)] []) (tb_ok (all_cons c_lsane (all_cons c_isc (all_cons c_pchk (all_cons c_amt all_nil)))) all_nil) ?_
  intro xs h
  obtain ⟨x0, xs, rfl, h0, h⟩ := hasAll_cons h
  obtain ⟨x1, xs, rfl, h1, h⟩ := hasAll_cons h
  obtain rfl := hasAll_nil h
  obtain ⟨y0, rfl, ya0⟩ := has_tarX h0
  obtain ⟨y1, rfl, ya1⟩ := has_env h1
  exact lw_TboxOrder y0 ya0 y1 ya1
end Go.Proofs.Ytgppecaeegaooaa.PI
