/-
  disk: units, of the program and of the reference; concatenation.
  Conditions: none; these are lemmas.
-/
import Derived.Test.YteacnlikmagfcaaDoorDkA
namespace Go.Proofs.YteacnlikmagfcaaDoor.PI
open Go
set_option linter.unusedSimpArgs false
set_option linter.unusedVariables false





theorem shr_32 {k' : IntKind} {x n : Int} (h0 : 0 ≤ n) (h1 : n ≤ 32) : pbin .shr (.int .u32 x) (.int k' n) = some (.int .u32 (x / 2 ^ n.toNat)) := by
  have h3 : min n.toNat 32 = n.toNat := by omega
  simp only [pbin, ishift, show ¬ n < 0 by omega, if_false, Option.map_some, show IntKind.bits .u32 = 32 from rfl, h3]
  rw [Int.fdiv_eq_ediv_of_nonneg _ (Int.pow_nonneg (by decide))]
theorem conv_i32 (st : St) {k : IntKind} {a : Int} (h0 : 0 ≤ a) (h1 : a < 4294967296) : pconv st (.int .u32) (.int k a) = some (.int .u32 a) := by
  obtain ⟨n, rfl⟩ := Int.eq_ofNat_of_zero_le h0
  simp only [pconv, wrap_u32]
  congr 2
  have : n % 2 ^ 32 = n := Nat.mod_eq_of_lt (by omega)
  rw [this]

/-- the program's four bytes, into the third object, which is empty -/
noncomputable def si_put32 : List D → St → Option (D × St) := siOf (α := Int × List UInt8 × Dig × Bool) (fun a => ([.row 2 0 0 0, .int .u32 a.1, .int .i64 4], [⟨true, 1, a.2.1.map byteD, a.2.2.2⟩, ⟨false, 1, digC a.2.2.1, false⟩, ⟨true, 1, [], false⟩]))
  (fun a => 0 ≤ a.1 ∧ a.1 < 4294967296)
  (fun a => (.row 2 (be a.1 4).length 0 (be a.1 4).length, [⟨true, 1, a.2.1.map byteD, a.2.2.2⟩, ⟨false, 1, digC a.2.2.1, false⟩, ⟨true, 1, (be a.1 4).map byteD, false⟩]))
theorem put32_inj : ∀ a b : Int × List UInt8 × Dig × Bool, (fun a : Int × List UInt8 × Dig × Bool => (([.row 2 0 0 0, .int .u32 a.1, .int .i64 4] : List D), ([⟨true, 1, a.2.1.map byteD, a.2.2.2⟩, ⟨false, 1, digC a.2.2.1, false⟩, ⟨true, 1, [], false⟩] : St))) a = (fun a : Int × List UInt8 × Dig × Bool => (([.row 2 0 0 0, .int .u32 a.1, .int .i64 4] : List D), ([⟨true, 1, a.2.1.map byteD, a.2.2.2⟩, ⟨false, 1, digC a.2.2.1, false⟩, ⟨true, 1, [], false⟩] : St))) b → a = b := by
  rintro ⟨a, b, c, d⟩ ⟨a', b', c', d'⟩ h
  simp only [Prod.mk.injEq, List.cons.injEq, Obj.mk.injEq, D.int.injEq, true_and, and_true, bytes_iff, digC_iff] at h
  obtain ⟨rfl, ⟨rfl, rfl⟩, rfl⟩ := h
  rfl
theorem call_put32 (n : Int) (A : List UInt8) (x : Dig) (l : Bool) (h : 0 ≤ n ∧ n < 4294967296) : si_put32 [.row 2 0 0 0, .int .u32 n, .int .i64 4] [⟨true, 1, A.map byteD, l⟩, ⟨false, 1, digC x, false⟩, ⟨true, 1, [], false⟩] =
    some (.row 2 (be n 4).length 0 (be n 4).length, [⟨true, 1, A.map byteD, l⟩, ⟨false, 1, digC x, false⟩, ⟨true, 1, (be n 4).map byteD, false⟩]) :=
  siOf_enc (fun a b e => by rw [put32_inj a b e]) ((n, A, x, l) : Int × List UInt8 × Dig × Bool) h rfl
set_option maxHeartbeats 4000000 in
theorem ci_put32 : IContract Tryd.prog GG 34 si_put32 := by
  refine icontract_keep (T := tb [] []) tr_disk_put_uint32 (tb_ok all_nil all_nil) ?_
  rintro ⟨n, A, x, l⟩ ⟨h0, h1⟩
  dsimp only at h0 h1
  unfold F_disk_put_uint32
  simp (disch := omega) only [push_cast, ↓wF_free, ↓reduceIte, Nat.reduceEqDiff, Nat.reduceLT, Nat.reduceLeDiff, Nat.reduceAdd, Nat.reduceSub, Nat.reduceMul, Nat.reduceBEq, Int.reduceLT, Int.reduceLE, Int.reduceToNat, Int.reduceNeg, Int.reducePow, Int.reduceAdd, Int.reduceMul, Int.reduceSub, ↓Int.reduceNatCast', sub_i]
  refine W_while (fun j : Nat => [(0, .row 2 (beN n 4 j).length 0 (beN n 4 j).length), (1, .int .u32 n), (7, .int .i64 (3 - (j : Int)))]) (fun j => [⟨true, 1, A.map byteD, l⟩, ⟨false, 1, digC x, false⟩, ⟨true, 1, (beN n 4 j).map byteD, false⟩]) (fun j => j ≤ 4) (fun j => 4 - j) 0 (by simp only [push_cast, ↓wF_free, ↓reduceIte, Nat.reduceEqDiff, Nat.reduceLT, Nat.reduceLeDiff, Nat.reduceAdd, Nat.reduceSub, Nat.reduceMul, Nat.reduceBEq, Int.reduceLT, Int.reduceLE, Int.reduceToNat, Int.reduceNeg, Int.reducePow, Int.reduceAdd, Int.reduceMul, Int.reduceSub, ↓Int.reduceNatCast', show beN n 4 0 = [] from rfl, List.map_nil, show (3 : Int) - ((0 : Nat) : Int) = 3 by omega] <;> rfl) (by omega) ?_
  intro j hj
  have hl := beN_length n 4 j
  unfold F_disk_put_uint32_L0
  simp (disch := omega) only [push_cast, ↓wF_free, ↓reduceIte, Nat.reduceEqDiff, Nat.reduceLT, Nat.reduceLeDiff, Nat.reduceAdd, Nat.reduceSub, Nat.reduceMul, Nat.reduceBEq, Int.reduceLT, Int.reduceLE, Int.reduceToNat, Int.reduceNeg, Int.reducePow, Int.reduceAdd, Int.reduceMul, Int.reduceSub, ↓Int.reduceNatCast']
  refine ifD_split (fun h2 => ?_) (fun h2 => ?_)
  · have et : (8 * ((3 : Int) - (j : Int))).toNat = 8 * (4 - 1 - j) := by omega
    have hq : 0 ≤ n / 2 ^ (8 * (4 - 1 - j)) := Int.ediv_nonneg h0 (Int.le_of_lt (Int.pow_pos (by decide)))
    simp (disch := first | omega | decide) only [push_cast, ↓wF_free, ↓reduceIte, Nat.reduceEqDiff, Nat.reduceLT, Nat.reduceLeDiff, Nat.reduceAdd, Nat.reduceSub, Nat.reduceMul, Nat.reduceBEq, Int.reduceLT, Int.reduceLE, Int.reduceToNat, Int.reduceNeg, Int.reducePow, Int.reduceAdd, Int.reduceMul, Int.reduceSub, ↓Int.reduceNatCast', mul_i, shr_32, et, conv_ub, sub_i]
    refine next_head (j + 1) (by omega) (by omega) ?_
    rw [beN_succ, show (3 : Int) - ((j + 1 : Nat) : Int) = 3 - (j : Int) - 1 by omega]
  · obtain rfl : j = 4 := by omega
    simp (disch := omega) only [push_cast, ↓wF_free, ↓reduceIte, Nat.reduceEqDiff, Nat.reduceLT, Nat.reduceLeDiff, Nat.reduceAdd, Nat.reduceSub, Nat.reduceMul, Nat.reduceBEq, Int.reduceLT, Int.reduceLE, Int.reduceToNat, Int.reduceNeg, Int.reducePow, Int.reduceAdd, Int.reduceMul, Int.reduceSub, ↓Int.reduceNatCast', show beN n 4 4 = be n 4 from rfl]

/-! ### Units -/
theorem sliceA8 (k : Nat) : psliceA 32 1 false (.ptr k 0) none (some (.int .i64 8)) = some (.bsl k 0 8 1 false) := (rfl)
def elB8 (o : Option Obj) : Option (Nat × List D) := o.bind fun o => if !o.row && decide (8 ≤ o.els.length) && (chunk 1 false o.els 8).all purA then some (1, chunk 1 false o.els 8) else none
theorem elsOf_bsl8 (st : St) (key : Nat) : elsOf st (.bsl key 0 8 1 false) = elB8 st[key]? := by
  simp only [elsOf, bslEls, elB8]
  cases st[key]? with
  | none => rfl
  | some o =>
    simp only [Option.bind_some, Nat.zero_add, Nat.mul_one, List.drop_zero]
    by_cases h : (!o.row && decide (8 ≤ o.els.length)) = true
    · simp only [Bool.and_assoc] at h ⊢
      simp only [← Bool.and_assoc] at h ⊢
      simp only [h, Bool.true_and]
      rfl
    · simp only [Bool.not_eq_true] at h
      have h2 : (!o.row && decide (8 ≤ o.els.length) && decide (0 < 1) && (false || 1 == 1)) = false := by simpa using h
      simp only [h2, h, Bool.false_and, Bool.false_eq_true, if_false]
theorem chunk_take : ∀ (n : Nat) (l : List UInt8), n ≤ l.length → chunk 1 false (l.map byteD) n = (l.take n).map byteD
  | 0, l, _ => by cases l <;> rfl
  | n + 1, [], h => by simp at h
  | n + 1, a :: l, h => by
    have := chunk_take n l (by simpa using h)
    simp only [List.map_cons, List.take_succ_cons, chunk]
    rw [show (byteD a :: l.map byteD).drop 1 = l.map byteD from rfl, this]
    rfl
theorem elB8_dig (sz : Nat) (d : Dig) (lent : Bool) : elB8 (some ⟨false, sz, digC d, lent⟩) = some (1, (d.bs.take 8).map byteD) := by
  have h1 : chunk 1 false (digC d) 8 = (d.bs.take 8).map byteD := chunk_take 8 d.bs (by rw [d.len]; decide)
  have h2 : ((d.bs.take 8).map byteD).all purA = true := by simp only [List.all_eq_true, List.mem_map]; rintro x ⟨b, _, rfl⟩; rfl
  simp only [elB8, Option.bind_some, digC_length, h1, h2]
  rfl
theorem call_tagged' (x : List UInt8) (n : Int) (h : (be n 8 ++ x).length ≤ 4294900000) : (taggedL [117, 110, 105, 116] (be n 8 ++ x)).bs.take 8 = sumL n x := (rfl)

noncomputable def sp_unit : List D → Option D := spOf (α := Int × List UInt8) (fun a => [.int .i64 a.1, .slc (nz 1 (a.2.map byteD)) (a.2.map byteD) false]) (fun a => 0 ≤ a.1 ∧ a.1 < 9223372036854775808 ∧ a.2.length ≤ 16000) (fun a => bsD (unitL a.1 a.2))
theorem call_unit (n : Int) (r : List UInt8) (h : 0 ≤ n ∧ n < 9223372036854775808 ∧ r.length ≤ 16000) : sp_unit [.int .i64 n, .slc (nz 1 (r.map byteD)) (r.map byteD) false] = some (bsD (unitL n r)) :=
  spOf_enc (fun ⟨a0, a1⟩ ⟨b0, b1⟩ h => by simp only [List.cons.injEq, D.slc.injEq, D.int.injEq, D.bool.injEq, D.str.injEq, D.agg.injEq, digs_iff, dig_iff, digC_iff, bytes_iff, byte_iff, words_iff, word_iff, Sha.St8.list_iff, bsl_iff, true_and, and_true, bsD_inj', dkD_iff, trD_iff, Int.ofNat_inj] at h; simp [h, Prod.ext_iff]) (n, r) h
set_option maxHeartbeats 4000000 in
set_option maxRecDepth 20000 in
theorem w_unit (n : Int) (r : List UInt8) (h : 0 ≤ n ∧ n < 9223372036854775808 ∧ r.length ≤ 16000) : @wW GG (tb [(29, sp_tagged)] [(33, si_put64), (34, si_put32)]) F_disk_unit.code (argF [.int .i64 n, .slc (nz 1 (r.map byteD)) (r.map byteD) false]) [] ⟨retQ F_disk_unit.res (bsD (unitL n r))⟩ := by
  obtain ⟨h0, h1, h2⟩ := h
  unfold F_disk_unit
  have hb8 := be_length n 8
  have hbl := be_length (r.length : Int) 4
  have hsl := sumL_length n r
  have hst : (taggedL [117, 110, 105, 116] (be n 8 ++ r)).bs.take 8 = sumL n r := rfl
  have hl2 : (be (r.length : Int) 4 ++ sumL n r).length = 12 := by simp [hbl, hsl]
  have ct := call_tagged [117, 110, 105, 116] (be n 8 ++ r) (by simp; omega)
  simp (disch := first | omega | decide) only [push_cast, ↓wF_free, ↓reduceIte, Nat.reduceEqDiff, Nat.reduceLT, Nat.reduceLeDiff, Nat.reduceAdd, Nat.reduceSub, Nat.reduceMul, Nat.reduceBEq, Int.reduceLT, Int.reduceLE, Int.reduceToNat, Int.reduceNeg, Int.reducePow, Int.reduceAdd, Int.reduceMul, Int.reduceSub, ↓Int.reduceNatCast', conv_iu, call_put64, ct, add_i, mkslc_zero, conv_i32]
  rw [call_put32 (r.length : Int) _ _ _ ⟨by omega, by omega⟩]
  simp (disch := first | omega | decide) only [push_cast, ↓wF_free, ↓reduceIte, Nat.reduceEqDiff, Nat.reduceLT, Nat.reduceLeDiff, Nat.reduceAdd, Nat.reduceSub, Nat.reduceMul, Nat.reduceBEq, Int.reduceLT, Int.reduceLE, Int.reduceToNat, Int.reduceNeg, Int.reducePow, Int.reduceAdd, Int.reduceMul, Int.reduceSub, ↓Int.reduceNatCast', sliceA8, elsOf_bsl8, elB8_dig, hst, List.append_assoc]
  rfl
theorem c_unit : Contract Tryd.prog GG 27 sp_unit :=
  contract_of tr_disk_unit (tb_ok (all_cons c_tagged all_nil) (all_cons ci_put64 (all_cons ci_put32 all_nil))) (fun a h => w_unit a.1 a.2 h)
end Go.Proofs.YteacnlikmagfcaaDoor.PI
