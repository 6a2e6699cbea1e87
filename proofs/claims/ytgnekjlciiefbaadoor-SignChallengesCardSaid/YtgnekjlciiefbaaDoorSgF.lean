/-
  sign: the reference's powers and keys; numbers out of digests.
  Conditions: none; these are lemmas.
-/
import Derived.Test.YtgnekjlciiefbaaDoorSgD
namespace Go.Proofs.YtgnekjlciiefbaaDoor.PI
open Go
set_option linter.unusedSimpArgs false
set_option linter.unusedVariables false

noncomputable def sp_rPow : List D → Option D := spOf (α := Int × Int) (fun a => [.int .u64 a.1, .int .u64 a.2]) (fun a => 0 ≤ a.1 ∧ a.1 < 18446744073709551616 ∧ 0 ≤ a.2 ∧ a.2 < 18446744073709551616) (fun a => .int .u64 (powZ a.1 a.2))
theorem call_rPow (b : Int) (n : Int) (h : 0 ≤ b ∧ b < 18446744073709551616 ∧ 0 ≤ n ∧ n < 18446744073709551616) : sp_rPow [.int .u64 b, .int .u64 n] = some (.int .u64 (powZ b n)) :=
  spOf_enc (fun ⟨a0, a1⟩ ⟨b0, b1⟩ h => by simp only [List.cons.injEq, D.slc.injEq, D.int.injEq, D.bool.injEq, D.str.injEq, D.agg.injEq, digs_iff, dig_iff, digC_iff, bytes_iff, byte_iff, words_iff, word_iff, Sha.St8.list_iff, bsl_iff, true_and, and_true] at h; simp [h, Prod.ext_iff]) (b, n) h
set_option maxHeartbeats 4000000 in
set_option maxRecDepth 20000 in
theorem w_rPow (b : Int) (n : Int) (h : 0 ≤ b ∧ b < 18446744073709551616 ∧ 0 ≤ n ∧ n < 18446744073709551616) : @wW GG (tb [(33, sp_Times)] []) F_wagonpoolref03_Pow.code (argF [.int .u64 b, .int .u64 n]) [] ⟨retQ F_wagonpoolref03_Pow.res (.int .u64 (powZ b n))⟩ := by
  obtain ⟨hb0, hb1, hn0, hn1⟩ := h
  have e0 : (1 * (b % 2305843009213690799) ^ n.toNat) % 2305843009213690799 = powZ b n := by
    rw [Int.one_mul]; exact emod_pow b _ _
  have r1 : 0 ≤ b % 2305843009213690799 := Int.emod_nonneg _ (by decide)
  have r2 : b % 2305843009213690799 < 2305843009213690799 := Int.emod_lt_of_pos _ (by decide)
  generalize powZ b n = R at *
  unfold F_wagonpoolref03_Pow
  simp (disch := first | omega | decide) only [push_cast, ↓wF_free, ↓reduceIte, Nat.reduceEqDiff, Nat.reduceLT, Nat.reduceLeDiff, Nat.reduceAdd, Nat.reduceSub, Nat.reduceMul, Nat.reduceBEq, Int.reduceLT, Int.reduceLE, Int.reduceToNat, Int.reduceNeg, Int.reducePow, Int.reduceAdd, Int.reduceMul, Int.reduceSub, ↓Int.reduceNatCast', rem_u]
  generalize b % 2305843009213690799 = b0 at *
  refine W_while (fun c : Int × Int × Int => [(0, .int .u64 c.1), (1, .int .u64 c.2.1), (5, .int .u64 c.2.2)]) (fun _ => []) (fun c => 0 ≤ c.1 ∧ c.1 < 2305843009213690799 ∧ 0 ≤ c.2.1 ∧ c.2.1 < 18446744073709551616 ∧ 0 ≤ c.2.2 ∧ c.2.2 < 2305843009213690799 ∧ (c.2.2 * c.1 ^ c.2.1.toNat) % 2305843009213690799 = R) (fun c => c.2.1.toNat) (b0, n, 1) (by simp only [push_cast, ↓wF_free, ↓reduceIte, Nat.reduceEqDiff, Nat.reduceLT, Nat.reduceLeDiff, Nat.reduceAdd, Nat.reduceSub, Nat.reduceMul, Nat.reduceBEq, Int.reduceLT, Int.reduceLE, Int.reduceToNat, Int.reduceNeg, Int.reducePow, Int.reduceAdd, Int.reduceMul, Int.reduceSub, ↓Int.reduceNatCast'] <;> rfl) ⟨r1, r2, hn0, hn1, by dsimp only; omega, by dsimp only; omega, e0⟩ ?_
  clear e0
  rintro ⟨x, y, o⟩ hP
  obtain ⟨p1, p2, p3, p4, p5, p6, p7⟩ := hP
  dsimp only at p1 p2 p3 p4 p5 p6 p7
  have hr := pow_round o x y.toNat
  rw [p7] at hr
  have ey : y.toNat / 2 = (y / 2).toNat := by omega
  rw [ey] at hr
  have hx1 : 0 ≤ x * x % 2305843009213690799 := Int.emod_nonneg _ (by decide)
  have hx2 : x * x % 2305843009213690799 < 2305843009213690799 := Int.emod_lt_of_pos _ (by decide)
  have ho1 : 0 ≤ o * x % 2305843009213690799 := Int.emod_nonneg _ (by decide)
  have ho2 : o * x % 2305843009213690799 < 2305843009213690799 := Int.emod_lt_of_pos _ (by decide)
  have c1 := call_Times o x 2305843009213690799 ⟨by omega, by omega, by omega, by omega, by omega⟩
  have c2 := call_Times x x 2305843009213690799 ⟨by omega, by omega, by omega, by omega, by omega⟩
  unfold F_wagonpoolref03_Pow_L0
  simp (disch := omega) only [push_cast, ↓wF_free, ↓reduceIte, Nat.reduceEqDiff, Nat.reduceLT, Nat.reduceLeDiff, Nat.reduceAdd, Nat.reduceSub, Nat.reduceMul, Nat.reduceBEq, Int.reduceLT, Int.reduceLE, Int.reduceToNat, Int.reduceNeg, Int.reducePow, Int.reduceAdd, Int.reduceMul, Int.reduceSub, ↓Int.reduceNatCast']
  refine ifD_split (fun h1 => ?_) (fun h1 => ?_)
  · simp (disch := first | omega | decide) only [push_cast, ↓wF_free, ↓reduceIte, Nat.reduceEqDiff, Nat.reduceLT, Nat.reduceLeDiff, Nat.reduceAdd, Nat.reduceSub, Nat.reduceMul, Nat.reduceBEq, Int.reduceLT, Int.reduceLE, Int.reduceToNat, Int.reduceNeg, Int.reducePow, Int.reduceAdd, Int.reduceMul, Int.reduceSub, ↓Int.reduceNatCast', h1, rem_u]
    refine ifD_split (fun h2 => ?_) (fun h2 => ?_)
    · rw [if_pos (by omega)] at hr
      simp (disch := first | omega | decide) only [push_cast, ↓wF_free, ↓reduceIte, Nat.reduceEqDiff, Nat.reduceLT, Nat.reduceLeDiff, Nat.reduceAdd, Nat.reduceSub, Nat.reduceMul, Nat.reduceBEq, Int.reduceLT, Int.reduceLE, Int.reduceToNat, Int.reduceNeg, Int.reducePow, Int.reduceAdd, Int.reduceMul, Int.reduceSub, ↓Int.reduceNatCast', h1, h2, c1, c2, quo_u]
      have hn : 0 ≤ x * x % 2305843009213690799 ∧ x * x % 2305843009213690799 < 2305843009213690799 ∧ 0 ≤ y / 2 ∧ y / 2 < 18446744073709551616 ∧ 0 ≤ o * x % 2305843009213690799 ∧ o * x % 2305843009213690799 < 2305843009213690799 ∧ ((o * x % 2305843009213690799) * (x * x % 2305843009213690799) ^ (y / 2).toNat) % 2305843009213690799 = R := ⟨hx1, hx2, by omega, by omega, ho1, ho2, hr⟩
      refine next_head (x * x % 2305843009213690799, y / 2, o * x % 2305843009213690799) hn (by show (y / 2).toNat < y.toNat; omega) ?_
      simp only [push_cast, ↓wF_free, ↓reduceIte, Nat.reduceEqDiff, Nat.reduceLT, Nat.reduceLeDiff, Nat.reduceAdd, Nat.reduceSub, Nat.reduceMul, Nat.reduceBEq, Int.reduceLT, Int.reduceLE, Int.reduceToNat, Int.reduceNeg, Int.reducePow, Int.reduceAdd, Int.reduceMul, Int.reduceSub, ↓Int.reduceNatCast'] <;> rfl
    · rw [if_neg (by omega)] at hr
      simp (disch := first | omega | decide) only [push_cast, ↓wF_free, ↓reduceIte, Nat.reduceEqDiff, Nat.reduceLT, Nat.reduceLeDiff, Nat.reduceAdd, Nat.reduceSub, Nat.reduceMul, Nat.reduceBEq, Int.reduceLT, Int.reduceLE, Int.reduceToNat, Int.reduceNeg, Int.reducePow, Int.reduceAdd, Int.reduceMul, Int.reduceSub, ↓Int.reduceNatCast', h1, h2, c1, c2, quo_u]
      have hn : 0 ≤ x * x % 2305843009213690799 ∧ x * x % 2305843009213690799 < 2305843009213690799 ∧ 0 ≤ y / 2 ∧ y / 2 < 18446744073709551616 ∧ 0 ≤ o ∧ o < 2305843009213690799 ∧ (o * (x * x % 2305843009213690799) ^ (y / 2).toNat) % 2305843009213690799 = R := ⟨hx1, hx2, by omega, by omega, p5, p6, hr⟩
      refine next_head (x * x % 2305843009213690799, y / 2, o) hn (by show (y / 2).toNat < y.toNat; omega) ?_
      simp only [push_cast, ↓wF_free, ↓reduceIte, Nat.reduceEqDiff, Nat.reduceLT, Nat.reduceLeDiff, Nat.reduceAdd, Nat.reduceSub, Nat.reduceMul, Nat.reduceBEq, Int.reduceLT, Int.reduceLE, Int.reduceToNat, Int.reduceNeg, Int.reducePow, Int.reduceAdd, Int.reduceMul, Int.reduceSub, ↓Int.reduceNatCast'] <;> rfl
  · have e : y = 0 := by omega
    rw [e, Int.toNat_zero, Int.pow_zero, Int.mul_one, Int.emod_eq_of_lt p5 p6] at p7
    rw [← p7]
    simp (disch := omega) only [push_cast, ↓wF_free, ↓reduceIte, Nat.reduceEqDiff, Nat.reduceLT, Nat.reduceLeDiff, Nat.reduceAdd, Nat.reduceSub, Nat.reduceMul, Nat.reduceBEq, Int.reduceLT, Int.reduceLE, Int.reduceToNat, Int.reduceNeg, Int.reducePow, Int.reduceAdd, Int.reduceMul, Int.reduceSub, ↓Int.reduceNatCast', h1]
theorem c_rPow : Contract Tryd.prog GG 28 sp_rPow :=
  contract_of tr_wagonpoolref03_Pow (tb_ok (all_cons c_Times all_nil) all_nil) (fun a h => w_rPow a.1 a.2 h)

noncomputable def sp_rPublic : List D → Option D := spOf (α := Int) (fun a => [.int .u64 a]) (fun a => 0 ≤ a ∧ a < 18446744073709551616) (fun a => .tup [.int .u64 (pubL a), .int .i64 (pubE a)])
theorem call_rPublic (n : Int) (h : 0 ≤ n ∧ n < 18446744073709551616) : sp_rPublic [.int .u64 n] = some (.tup [.int .u64 (pubL n), .int .i64 (pubE n)]) :=
  spOf_enc (fun a b h => by simp only [List.cons.injEq, D.slc.injEq, D.int.injEq, D.bool.injEq, D.str.injEq, D.agg.injEq, digs_iff, dig_iff, digC_iff, bytes_iff, byte_iff, words_iff, word_iff, Sha.St8.list_iff, bsl_iff, true_and, and_true] at h; simp [h, Prod.ext_iff]) (n) h
set_option maxHeartbeats 4000000 in
set_option maxRecDepth 20000 in
theorem w_rPublic (n : Int) (h : 0 ≤ n ∧ n < 18446744073709551616) : @wW GG (tb [(28, sp_rPow)] []) F_wagonpoolref03_Public.code (argF [.int .u64 n]) [] ⟨retQ F_wagonpoolref03_Public.res (.tup [.int .u64 (pubL n), .int .i64 (pubE n)])⟩ := by
  unfold F_wagonpoolref03_Public
  simp (disch := omega) only [push_cast, ↓wF_free, ↓reduceIte, Nat.reduceEqDiff, Nat.reduceLT, Nat.reduceLeDiff, Nat.reduceAdd, Nat.reduceSub, Nat.reduceMul, Nat.reduceBEq, Int.reduceLT, Int.reduceLE, Int.reduceToNat, Int.reduceNeg, Int.reducePow, Int.reduceAdd, Int.reduceMul, Int.reduceSub, ↓Int.reduceNatCast']
  refine ifD_split (fun h1 => ?_) (fun h1 => ?_)
  · have e1 : pubL n = 0 := if_neg (by omega)
    have e2 : pubE n = 30 := if_neg (by omega)
    simp (disch := omega) only [push_cast, ↓wF_free, ↓reduceIte, Nat.reduceEqDiff, Nat.reduceLT, Nat.reduceLeDiff, Nat.reduceAdd, Nat.reduceSub, Nat.reduceMul, Nat.reduceBEq, Int.reduceLT, Int.reduceLE, Int.reduceToNat, Int.reduceNeg, Int.reducePow, Int.reduceAdd, Int.reduceMul, Int.reduceSub, ↓Int.reduceNatCast', h1, e1, e2]
  · simp (disch := omega) only [push_cast, ↓wF_free, ↓reduceIte, Nat.reduceEqDiff, Nat.reduceLT, Nat.reduceLeDiff, Nat.reduceAdd, Nat.reduceSub, Nat.reduceMul, Nat.reduceBEq, Int.reduceLT, Int.reduceLE, Int.reduceToNat, Int.reduceNeg, Int.reducePow, Int.reduceAdd, Int.reduceMul, Int.reduceSub, ↓Int.reduceNatCast', h1]
    refine ifD_split (fun h2 => ?_) (fun h2 => ?_)
    · have e1 : pubL n = 0 := if_neg (by omega)
      have e2 : pubE n = 30 := if_neg (by omega)
      simp (disch := omega) only [push_cast, ↓wF_free, ↓reduceIte, Nat.reduceEqDiff, Nat.reduceLT, Nat.reduceLeDiff, Nat.reduceAdd, Nat.reduceSub, Nat.reduceMul, Nat.reduceBEq, Int.reduceLT, Int.reduceLE, Int.reduceToNat, Int.reduceNeg, Int.reducePow, Int.reduceAdd, Int.reduceMul, Int.reduceSub, ↓Int.reduceNatCast', h1, h2, e1, e2]
    · have e1 : pubL n = powZ 4 n := if_pos (by omega)
      have e2 : pubE n = 0 := if_pos (by omega)
      simp (disch := omega) only [push_cast, ↓wF_free, ↓reduceIte, Nat.reduceEqDiff, Nat.reduceLT, Nat.reduceLeDiff, Nat.reduceAdd, Nat.reduceSub, Nat.reduceMul, Nat.reduceBEq, Int.reduceLT, Int.reduceLE, Int.reduceToNat, Int.reduceNeg, Int.reducePow, Int.reduceAdd, Int.reduceMul, Int.reduceSub, ↓Int.reduceNatCast', h1, h2, e1, e2, call_rPow]
theorem c_rPublic : Contract Tryd.prog GG 24 sp_rPublic :=
  contract_of tr_wagonpoolref03_Public (tb_ok (all_cons c_rPow all_nil) all_nil) (fun a h => w_rPublic a h)

noncomputable def sp_rValid : List D → Option D := spOf (α := Int) (fun a => [.int .u64 a]) (fun a => 0 ≤ a ∧ a < 18446744073709551616) (fun a => .bool (validL a))
theorem call_rValid (x : Int) (h : 0 ≤ x ∧ x < 18446744073709551616) : sp_rValid [.int .u64 x] = some (.bool (validL x)) :=
  spOf_enc (fun a b h => by simp only [List.cons.injEq, D.slc.injEq, D.int.injEq, D.bool.injEq, D.str.injEq, D.agg.injEq, digs_iff, dig_iff, digC_iff, bytes_iff, byte_iff, words_iff, word_iff, Sha.St8.list_iff, bsl_iff, true_and, and_true] at h; simp [h, Prod.ext_iff]) (x) h
set_option maxHeartbeats 4000000 in
set_option maxRecDepth 20000 in
theorem w_rValid (x : Int) (h : 0 ≤ x ∧ x < 18446744073709551616) : @wW GG (tb [(28, sp_rPow)] []) F_wagonpoolref03_Valid.code (argF [.int .u64 x]) [] ⟨retQ F_wagonpoolref03_Valid.res (.bool (validL x))⟩ := by
  unfold F_wagonpoolref03_Valid
  simp (disch := omega) only [push_cast, ↓wF_free, ↓reduceIte, Nat.reduceEqDiff, Nat.reduceLT, Nat.reduceLeDiff, Nat.reduceAdd, Nat.reduceSub, Nat.reduceMul, Nat.reduceBEq, Int.reduceLT, Int.reduceLE, Int.reduceToNat, Int.reduceNeg, Int.reducePow, Int.reduceAdd, Int.reduceMul, Int.reduceSub, ↓Int.reduceNatCast']
  refine ifD_split (fun h1 => ?_) (fun h1 => ?_)
  · simp (disch := omega) only [push_cast, ↓wF_free, ↓reduceIte, Nat.reduceEqDiff, Nat.reduceLT, Nat.reduceLeDiff, Nat.reduceAdd, Nat.reduceSub, Nat.reduceMul, Nat.reduceBEq, Int.reduceLT, Int.reduceLE, Int.reduceToNat, Int.reduceNeg, Int.reducePow, Int.reduceAdd, Int.reduceMul, Int.reduceSub, ↓Int.reduceNatCast', h1]
    refine ifD_split (fun h2 => ?_) (fun h2 => ?_)
    · have e : validL x = decide (powZ x 1152921504606845399 = 1) := by unfold validL; simp [h1, h2]
      simp (disch := omega) only [push_cast, ↓wF_free, ↓reduceIte, Nat.reduceEqDiff, Nat.reduceLT, Nat.reduceLeDiff, Nat.reduceAdd, Nat.reduceSub, Nat.reduceMul, Nat.reduceBEq, Int.reduceLT, Int.reduceLE, Int.reduceToNat, Int.reduceNeg, Int.reducePow, Int.reduceAdd, Int.reduceMul, Int.reduceSub, ↓Int.reduceNatCast', h1, h2, e, call_rPow]
    · have e : validL x = false := by unfold validL; simp [h2]
      simp (disch := omega) only [push_cast, ↓wF_free, ↓reduceIte, Nat.reduceEqDiff, Nat.reduceLT, Nat.reduceLeDiff, Nat.reduceAdd, Nat.reduceSub, Nat.reduceMul, Nat.reduceBEq, Int.reduceLT, Int.reduceLE, Int.reduceToNat, Int.reduceNeg, Int.reducePow, Int.reduceAdd, Int.reduceMul, Int.reduceSub, ↓Int.reduceNatCast', h1, h2, e]
  · have e : validL x = false := by unfold validL; simp [h1]
    simp (disch := omega) only [push_cast, ↓wF_free, ↓reduceIte, Nat.reduceEqDiff, Nat.reduceLT, Nat.reduceLeDiff, Nat.reduceAdd, Nat.reduceSub, Nat.reduceMul, Nat.reduceBEq, Int.reduceLT, Int.reduceLE, Int.reduceToNat, Int.reduceNeg, Int.reducePow, Int.reduceAdd, Int.reduceMul, Int.reduceSub, ↓Int.reduceNatCast', h1, e]
theorem c_rValid : Contract Tryd.prog GG 27 sp_rValid :=
  contract_of tr_wagonpoolref03_Valid (tb_ok (all_cons c_rPow all_nil) all_nil) (fun a h => w_rValid a h)

/-- the number that the first bytes of a digest make -/
def numF (l : List UInt8) : Int := l.foldl (fun n b => n * 256 + (b.toNat : Int)) 0
theorem numF_snoc (l : List UInt8) (b : UInt8) : numF (l ++ [b]) = numF l * 256 + (b.toNat : Int) := by
  unfold numF; rw [List.foldl_append]; rfl
theorem numF_range : ∀ (k : Nat) (l : List UInt8), l.length = k → 0 ≤ numF l ∧ numF l < 256 ^ k
  | 0, l, h => by
    have : l = [] := List.length_eq_zero_iff.1 h
    subst this
    exact ⟨by decide, by decide⟩
  | k + 1, l, h => by
    have hne : l ≠ [] := fun e => by subst e; simp at h
    obtain ⟨m, b, rfl⟩ : ∃ m b, l = m ++ [b] := ⟨l.dropLast, l.getLast hne, (List.dropLast_concat_getLast hne).symm⟩
    have ih := numF_range k m (by simp at h; exact h)
    have hb := b.toNat_lt
    rw [numF_snoc, Int.pow_succ]
    omega
theorem or_byte {n : Int} (b : UInt8) (h0 : 0 ≤ n) (h1 : n < 72057594037927936) : pbin .or (.int .u64 (n * 256)) (.int .u64 (b.toNat : Int)) = some (.int .u64 (n * 256 + (b.toNat : Int))) := by
  have hb := b.toNat_lt
  have := or_disj (a := n) (b := (b.toNat : Int)) 8 h0 (by show n * 256 < _; omega) (by omega) (by show (b.toNat : Int) < 256; omega) (by show n * 256 + (b.toNat : Int) < _; omega)
  exact this
theorem conv_iuU (st : St) {k : IntKind} {a : Int} (h0 : 0 ≤ a) (h1 : a < 18446744073709551616) : pconv st (.int .u64) (.int k a) = some (.int .u64 a) := by
  simp only [pconv, wrapU_id h0 h1]
theorem conv_byteQ (st : St) (b : UInt8) : pconv st (.int .u64) (byteD b) = some (.int .u64 (b.toNat : Int)) := by
  have := b.toNat_lt
  simp only [byteD]
  exact conv_iuU st (by omega) (by omega)
noncomputable def sp_rNumber : List D → Option D := spOf (α := Dig) (fun a => [digD a]) (fun a => True) (fun a => .int .u64 (numF (a.bs.take 8)))
theorem call_rNumber (d : Dig) : sp_rNumber [digD d] = some (.int .u64 (numF (d.bs.take 8))) :=
  spOf_enc (fun a b h => by simp only [List.cons.injEq, D.slc.injEq, D.int.injEq, D.bool.injEq, D.str.injEq, D.agg.injEq, digs_iff, dig_iff, digC_iff, bytes_iff, byte_iff, words_iff, word_iff, Sha.St8.list_iff, bsl_iff, true_and, and_true] at h; simp [h, Prod.ext_iff]) (d) trivial
set_option maxHeartbeats 4000000 in
set_option maxRecDepth 20000 in
theorem w_rNumber (d : Dig) : @wW GG (tb [] []) F_wagonpoolref02_Number.code (argF [digD d]) [] ⟨retQ F_wagonpoolref02_Number.res (.int .u64 (numF (d.bs.take 8)))⟩ := by
  have hd := d.len
  unfold F_wagonpoolref02_Number
  simp (disch := omega) only [push_cast, ↓wF_free, ↓reduceIte, Nat.reduceEqDiff, Nat.reduceLT, Nat.reduceLeDiff, Nat.reduceAdd, Nat.reduceSub, Nat.reduceMul, Nat.reduceBEq, Int.reduceLT, Int.reduceLE, Int.reduceToNat, Int.reduceNeg, Int.reducePow, Int.reduceAdd, Int.reduceMul, Int.reduceSub, ↓Int.reduceNatCast']
  refine W_while (fun i : Nat => [(1, .ptr 0 0), (3, .int .u64 (numF (d.bs.take i))), (4, .int .i64 (i : Int))]) (fun _ => [⟨false, 1, digC d, false⟩]) (fun i => i ≤ 8) (fun i => 8 - i) 0 (by simp only [push_cast, ↓wF_free, ↓reduceIte, Nat.reduceEqDiff, Nat.reduceLT, Nat.reduceLeDiff, Nat.reduceAdd, Nat.reduceSub, Nat.reduceMul, Nat.reduceBEq, Int.reduceLT, Int.reduceLE, Int.reduceToNat, Int.reduceNeg, Int.reducePow, Int.reduceAdd, Int.reduceMul, Int.reduceSub, ↓Int.reduceNatCast'] <;> rfl) (by omega) ?_
  intro i hi
  unfold F_wagonpoolref02_Number_L0
  simp (disch := omega) only [push_cast, ↓wF_free, ↓reduceIte, Nat.reduceEqDiff, Nat.reduceLT, Nat.reduceLeDiff, Nat.reduceAdd, Nat.reduceSub, Nat.reduceMul, Nat.reduceBEq, Int.reduceLT, Int.reduceLE, Int.reduceToNat, Int.reduceNeg, Int.reducePow, Int.reduceAdd, Int.reduceMul, Int.reduceSub, ↓Int.reduceNatCast']
  refine ifD_split (fun h1 => ?_) (fun h1 => ?_)
  · have e := take_getD d.bs i (by omega)
    have hl : (d.bs.take i).length = i := by rw [List.length_take]; omega
    obtain ⟨n0, n1⟩ := numF_range i (d.bs.take i) hl
    have n2 : (256 : Int) ^ i ≤ 256 ^ 7 := by
      have h6 : (256 : Nat) ^ i ≤ 256 ^ 7 := Nat.pow_le_pow_right (by decide) (by omega)
      have h7 : ∀ k : Nat, (256 : Int) ^ k = ((256 ^ k : Nat) : Int) := by simp
      rw [h7, h7]; omega
    have n3 : numF (d.bs.take i) * 256 % 18446744073709551616 = numF (d.bs.take i) * 256 := Int.emod_eq_of_lt (by omega) (by omega)
    have hdc : digC d = d.bs.map byteD := rfl
    rw [hdc]
    simp (disch := first | omega | decide) only [push_cast, ↓wF_free, ↓reduceIte, Nat.reduceEqDiff, Nat.reduceLT, Nat.reduceLeDiff, Nat.reduceAdd, Nat.reduceSub, Nat.reduceMul, Nat.reduceBEq, Int.reduceLT, Int.reduceLE, Int.reduceToNat, Int.reduceNeg, Int.reducePow, Int.reduceAdd, Int.reduceMul, Int.reduceSub, ↓Int.reduceNatCast', idxA_ptr, shl_u, n3, conv_byteQ, or_byte, add_i]
    refine next_head (i + 1) (by omega) (by omega) ?_
    rw [e, numF_snoc]
    simp only [push_cast, ↓wF_free, ↓reduceIte, Nat.reduceEqDiff, Nat.reduceLT, Nat.reduceLeDiff, Nat.reduceAdd, Nat.reduceSub, Nat.reduceMul, Nat.reduceBEq, Int.reduceLT, Int.reduceLE, Int.reduceToNat, Int.reduceNeg, Int.reducePow, Int.reduceAdd, Int.reduceMul, Int.reduceSub, ↓Int.reduceNatCast'] <;> rfl
  · obtain rfl : i = 8 := by omega
    simp (disch := omega) only [push_cast, ↓wF_free, ↓reduceIte, Nat.reduceEqDiff, Nat.reduceLT, Nat.reduceLeDiff, Nat.reduceAdd, Nat.reduceSub, Nat.reduceMul, Nat.reduceBEq, Int.reduceLT, Int.reduceLE, Int.reduceToNat, Int.reduceNeg, Int.reducePow, Int.reduceAdd, Int.reduceMul, Int.reduceSub, ↓Int.reduceNatCast', h1]
theorem c_rNumber : Contract Tryd.prog GG 35 sp_rNumber :=
  contract_of tr_wagonpoolref02_Number (tb_ok all_nil all_nil) (fun a h => w_rNumber a)

noncomputable def sp_sNumber : List D → Option D := spOf (α := Dig) (fun a => [digD a]) (fun a => True) (fun a => .int .u64 (numF (a.bs.take 8)))
theorem call_sNumber (d : Dig) : sp_sNumber [digD d] = some (.int .u64 (numF (d.bs.take 8))) :=
  spOf_enc (fun a b h => by simp only [List.cons.injEq, D.slc.injEq, D.int.injEq, D.bool.injEq, D.str.injEq, D.agg.injEq, digs_iff, dig_iff, digC_iff, bytes_iff, byte_iff, words_iff, word_iff, Sha.St8.list_iff, bsl_iff, true_and, and_true] at h; simp [h, Prod.ext_iff]) (d) trivial
set_option maxHeartbeats 4000000 in
set_option maxRecDepth 20000 in
theorem w_sNumber (d : Dig) : @wW GG (tb [] []) F_digest_Number.code (argF [digD d]) [] ⟨retQ F_digest_Number.res (.int .u64 (numF (d.bs.take 8)))⟩ := by
  have hd := d.len
  have hdc : digC d = d.bs.map byteD := rfl
  unfold F_digest_Number
  have cs : psliceA 32 1 false (.ptr 0 0) none (some (.int .i64 8)) = some (.bsl 0 0 8 1 false) := rfl
  simp (disch := omega) only [push_cast, ↓wF_free, ↓reduceIte, Nat.reduceEqDiff, Nat.reduceLT, Nat.reduceLeDiff, Nat.reduceAdd, Nat.reduceSub, Nat.reduceMul, Nat.reduceBEq, Int.reduceLT, Int.reduceLE, Int.reduceToNat, Int.reduceNeg, Int.reducePow, Int.reduceAdd, Int.reduceMul, Int.reduceSub, ↓Int.reduceNatCast', cs, lenD_bsl]
  refine W_while (fun i : Nat => [(2, .int .u64 (numF (d.bs.take i))), (5, .bsl 0 0 8 1 false), (6, .int .i64 8), (7, .int .i64 (i : Int))]) (fun _ => [⟨false, 1, digC d, false⟩]) (fun i => i ≤ 8) (fun i => 8 - i) 0 (by simp only [push_cast, ↓wF_free, ↓reduceIte, Nat.reduceEqDiff, Nat.reduceLT, Nat.reduceLeDiff, Nat.reduceAdd, Nat.reduceSub, Nat.reduceMul, Nat.reduceBEq, Int.reduceLT, Int.reduceLE, Int.reduceToNat, Int.reduceNeg, Int.reducePow, Int.reduceAdd, Int.reduceMul, Int.reduceSub, ↓Int.reduceNatCast'] <;> rfl) (by omega) ?_
  intro i hi
  unfold F_digest_Number_L0
  simp (disch := omega) only [push_cast, ↓wF_free, ↓reduceIte, Nat.reduceEqDiff, Nat.reduceLT, Nat.reduceLeDiff, Nat.reduceAdd, Nat.reduceSub, Nat.reduceMul, Nat.reduceBEq, Int.reduceLT, Int.reduceLE, Int.reduceToNat, Int.reduceNeg, Int.reducePow, Int.reduceAdd, Int.reduceMul, Int.reduceSub, ↓Int.reduceNatCast']
  refine ifD_split (fun h1 => ?_) (fun h1 => ?_)
  · have e := take_getD d.bs i (by omega)
    have hl : (d.bs.take i).length = i := by rw [List.length_take]; omega
    obtain ⟨n0, n1⟩ := numF_range i (d.bs.take i) hl
    have n2 : (256 : Int) ^ i ≤ 256 ^ 7 := by
      have h6 : (256 : Nat) ^ i ≤ 256 ^ 7 := Nat.pow_le_pow_right (by decide) (by omega)
      have h7 : ∀ k : Nat, (256 : Int) ^ k = ((256 ^ k : Nat) : Int) := by simp
      rw [h7, h7]; omega
    have n3 : numF (d.bs.take i) * 256 % 18446744073709551616 = numF (d.bs.take i) * 256 := Int.emod_eq_of_lt (by omega) (by omega)
    rw [hdc]
    have ci : pidxS [(⟨false, 1, d.bs.map byteD, false⟩ : Obj)] 1 (.bsl 0 0 8 1 false) (.int .i64 (i : Int)) = some (.ptr 0 i) := by
      simp only [pidxS, natOf_int .i64 (i : Int) (by omega), Int.toNat_natCast, Nat.zero_add, Nat.mul_one, and_true]
      rw [if_pos (by omega)]
    simp (disch := first | omega | decide) only [push_cast, ↓wF_free, ↓reduceIte, Nat.reduceEqDiff, Nat.reduceLT, Nat.reduceLeDiff, Nat.reduceAdd, Nat.reduceSub, Nat.reduceMul, Nat.reduceBEq, Int.reduceLT, Int.reduceLE, Int.reduceToNat, Int.reduceNeg, Int.reducePow, Int.reduceAdd, Int.reduceMul, Int.reduceSub, ↓Int.reduceNatCast', ci, shl_u, n3, conv_byteQ, or_byte, add_i]
    refine next_head (i + 1) (by omega) (by omega) ?_
    rw [e, numF_snoc]
    simp only [push_cast, ↓wF_free, ↓reduceIte, Nat.reduceEqDiff, Nat.reduceLT, Nat.reduceLeDiff, Nat.reduceAdd, Nat.reduceSub, Nat.reduceMul, Nat.reduceBEq, Int.reduceLT, Int.reduceLE, Int.reduceToNat, Int.reduceNeg, Int.reducePow, Int.reduceAdd, Int.reduceMul, Int.reduceSub, ↓Int.reduceNatCast'] <;> rfl
  · obtain rfl : i = 8 := by omega
    simp (disch := omega) only [push_cast, ↓wF_free, ↓reduceIte, Nat.reduceEqDiff, Nat.reduceLT, Nat.reduceLeDiff, Nat.reduceAdd, Nat.reduceSub, Nat.reduceMul, Nat.reduceBEq, Int.reduceLT, Int.reduceLE, Int.reduceToNat, Int.reduceNeg, Int.reducePow, Int.reduceAdd, Int.reduceMul, Int.reduceSub, ↓Int.reduceNatCast', h1]
theorem c_sNumber : Contract Tryd.prog GG 18 sp_sNumber :=
  contract_of tr_digest_Number (tb_ok all_nil all_nil) (fun a h => w_sNumber a)

noncomputable def sp_short : List D → Option D := spOf (α := List UInt8) (fun a => [.slc (nz 1 (a.map byteD)) (a.map byteD) false]) (fun a => True) (fun a => .bool (decide ((a.length : Int) ≤ 2000 ∨ 65536 < (a.length : Int))))
theorem call_short (b : List UInt8) : sp_short [.slc (nz 1 (b.map byteD)) (b.map byteD) false] = some (.bool (decide ((b.length : Int) ≤ 2000 ∨ 65536 < (b.length : Int)))) :=
  spOf_enc (fun a b h => by simp only [List.cons.injEq, D.slc.injEq, D.int.injEq, D.bool.injEq, D.str.injEq, D.agg.injEq, digs_iff, dig_iff, digC_iff, bytes_iff, byte_iff, words_iff, word_iff, Sha.St8.list_iff, bsl_iff, true_and, and_true] at h; simp [h, Prod.ext_iff]) (b) trivial
set_option maxHeartbeats 4000000 in
set_option maxRecDepth 20000 in
theorem w_short (b : List UInt8) : @wW GG (tb [] []) F_wagonpoollaw03_short.code (argF [.slc (nz 1 (b.map byteD)) (b.map byteD) false]) [] ⟨retQ F_wagonpoollaw03_short.res (.bool (decide ((b.length : Int) ≤ 2000 ∨ 65536 < (b.length : Int))))⟩ := by
  unfold F_wagonpoollaw03_short
  simp (disch := omega) only [push_cast, ↓wF_free, ↓reduceIte, Nat.reduceEqDiff, Nat.reduceLT, Nat.reduceLeDiff, Nat.reduceAdd, Nat.reduceSub, Nat.reduceMul, Nat.reduceBEq, Int.reduceLT, Int.reduceLE, Int.reduceToNat, Int.reduceNeg, Int.reducePow, Int.reduceAdd, Int.reduceMul, Int.reduceSub, ↓Int.reduceNatCast']
  refine ifD_split (fun h1 => ?_) (fun h1 => ?_)
  · have e : decide ((b.length : Int) ≤ 2000 ∨ 65536 < (b.length : Int)) = true := decide_eq_true (.inl h1)
    rw [e]
    simp (disch := omega) only [push_cast, ↓wF_free, ↓reduceIte, Nat.reduceEqDiff, Nat.reduceLT, Nat.reduceLeDiff, Nat.reduceAdd, Nat.reduceSub, Nat.reduceMul, Nat.reduceBEq, Int.reduceLT, Int.reduceLE, Int.reduceToNat, Int.reduceNeg, Int.reducePow, Int.reduceAdd, Int.reduceMul, Int.reduceSub, ↓Int.reduceNatCast', h1]
  · have e : decide ((b.length : Int) ≤ 2000 ∨ 65536 < (b.length : Int)) = decide (65536 < (b.length : Int)) := by simp [h1]
    rw [e]
    simp (disch := omega) only [push_cast, ↓wF_free, ↓reduceIte, Nat.reduceEqDiff, Nat.reduceLT, Nat.reduceLeDiff, Nat.reduceAdd, Nat.reduceSub, Nat.reduceMul, Nat.reduceBEq, Int.reduceLT, Int.reduceLE, Int.reduceToNat, Int.reduceNeg, Int.reducePow, Int.reduceAdd, Int.reduceMul, Int.reduceSub, ↓Int.reduceNatCast', h1]
theorem c_short : Contract Tryd.prog GG 22 sp_short :=
  contract_of tr_wagonpoollaw03_short (tb_ok all_nil all_nil) (fun a h => w_short a)
end Go.Proofs.YtgnekjlciiefbaaDoor.PI
