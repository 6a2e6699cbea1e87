/-
  netting: amounts in range, sums.
  Conditions: none; these are lemmas.
-/
import Derived.Test.YtedchaaoemifbaaNtP
import Derived.Laws.Externs
namespace Go.Proofs.Ytedchaaoemifbaa.PI
open Go
set_option linter.unusedSimpArgs false
set_option linter.unusedVariables false

/-! ### Values -/
def nI (n : Int) : D := .int .i64 n
def payC (p : Pay) : List D := [.int .i64 p.f, .int .i64 p.t, .int .i64 p.n]
def payD (p : Pay) : D := .agg (payC p)
theorem nI_inj {a b : Int} (h : nI a = nI b) : a = b := by simpa [nI] using h
theorem nI_iff {a b : Int} : nI a = nI b ↔ a = b := ⟨nI_inj, fun h => by rw [h]⟩
theorem ints_iff {a b : List Int} : a.map nI = b.map nI ↔ a = b := ⟨map_inj fun _ _ => nI_inj, fun h => by rw [h]⟩
theorem payD_inj {a b : Pay} (h : payD a = payD b) : a = b := by
  obtain ⟨a1, a2, a3⟩ := a
  obtain ⟨b1, b2, b3⟩ := b
  simp [payD, payC] at h
  obtain ⟨rfl, rfl, rfl⟩ := h
  rfl
theorem payD_iff {a b : Pay} : payD a = payD b ↔ a = b := ⟨payD_inj, fun h => by rw [h]⟩
theorem pays_iff {a b : List Pay} : a.map payD = b.map payD ↔ a = b := ⟨map_inj fun _ _ => payD_inj, fun h => by rw [h]⟩
theorem litD_i1 (k : IntKind) (n : Int) : litD 1 [.int k n] = some (.slc 1 [.int k n] true) := (rfl)
theorem litD_i2 (k k' : IntKind) (n m : Int) : litD 1 [.int k n, .int k' m] = some (.slc 1 [.int k n, .int k' m] true) := (rfl)
theorem pload_nI (st : St) (n : Int) : pload st 1 false (.eptr (nI n) 0) = some (.int .i64 n) := (rfl)
theorem nzI_of (x : List Int) (h : x ≠ []) : nz 1 (x.map nI) = 1 := by
  cases x with
  | nil => exact absurd rfl h
  | cons a r => rfl
attribute [push_cast] litD_i1 litD_i2 pload_nI

/-! ### Integers -/
theorem wrapU (n : Int) : IntKind.wrap .u64 n = n % 18446744073709551616 := by
  show (if (false && decide (n % (2 ^ 64 : Int) ≥ (2 ^ (64 - 1) : Int))) = true then n % (2 ^ 64 : Int) - (2 ^ 64 : Int) else n % (2 ^ 64 : Int)) = _
  rfl
theorem conv_wU (st : St) (k : IntKind) (a : Int) : pconv st (.int .u64) (.int k a) = some (.int .u64 (a % 18446744073709551616)) := by
  simp only [pconv, wrapU]
theorem add_uw (a b : Int) : pbin .add (.int .u64 a) (.int .u64 b) = some (.int .u64 ((a + b) % 18446744073709551616)) := by
  simp only [pbin, if_true, iarith, Option.map_some, wrapU]
theorem conv_uI (st : St) (a : Int) : pconv st (.int .i64) (.int .u64 a) = some (.int .i64 (IntKind.wrap .i64 a)) := (rfl)
theorem wrapI (n : Int) : IntKind.wrap .i64 n = if n % 18446744073709551616 < 9223372036854775808 then n % 18446744073709551616 else n % 18446744073709551616 - 18446744073709551616 := by
  show (if (true && decide (n % (2 ^ 64 : Int) ≥ (2 ^ (64 - 1) : Int))) = true then n % (2 ^ 64 : Int) - (2 ^ 64 : Int) else n % (2 ^ 64 : Int)) = _
  simp only [Bool.true_and, decide_eq_true_eq]
  split <;> split <;> omega
theorem shr63 (x : Int) (k' : IntKind) : pbin .shr (.int .i64 x) (.int k' 63) = some (.int .i64 (x / 9223372036854775808)) := shr_i (.inl rfl) (by decide) (by decide)

/-! ### In range -/
noncomputable def sp_rin : List D → Option D := spOf (α := Int) (fun a => [.int .i64 a]) (fun a => True) (fun a => .bool (decide (inR a)))
theorem call_rin (x : Int) : sp_rin [.int .i64 x] = some (.bool (decide (inR x))) :=
  spOf_enc (fun a b h => by simp only [List.cons.injEq, D.slc.injEq, D.int.injEq, D.bool.injEq, D.str.injEq, D.agg.injEq, digs_iff, dig_iff, digC_iff, bytes_iff, byte_iff, words_iff, word_iff, bsl_iff, true_and, and_true, ints_iff, pays_iff, nI_iff, payD_iff, Int.ofNat_inj] at h; simp [h, Prod.ext_iff]) (x) trivial
set_option maxHeartbeats 4000000 in
set_option maxRecDepth 20000 in
theorem w_rin (x : Int) : @wW GG (tb [] []) F_wagonpoolref07_In.code (argF [.int .i64 x]) [] ⟨retQ F_wagonpoolref07_In.res (.bool (decide (inR x)))⟩ := by
  unfold F_wagonpoolref07_In
  unfold inR
  by_cases h1 : -9007199254740992 ≤ x
  · have e : decide (-9007199254740992 ≤ x ∧ x ≤ 9007199254740992) = decide (x ≤ 9007199254740992) := by apply decide_eq_decide.2; omega
    simp (disch := first | omega | decide) only [push_cast, ↓wF_free, ↓reduceIte, Nat.reduceEqDiff, Nat.reduceLT, Nat.reduceLeDiff, Nat.reduceAdd, Nat.reduceSub, Nat.reduceMul, Nat.reduceBEq, Int.reduceLT, Int.reduceLE, Int.reduceToNat, Int.reduceNeg, Int.reducePow, Int.reduceAdd, Int.reduceMul, Int.reduceSub, ↓Int.reduceNatCast', h1, e]
  · have e : decide (-9007199254740992 ≤ x ∧ x ≤ 9007199254740992) = false := by apply decide_eq_false; omega
    simp (disch := first | omega | decide) only [push_cast, ↓wF_free, ↓reduceIte, Nat.reduceEqDiff, Nat.reduceLT, Nat.reduceLeDiff, Nat.reduceAdd, Nat.reduceSub, Nat.reduceMul, Nat.reduceBEq, Int.reduceLT, Int.reduceLE, Int.reduceToNat, Int.reduceNeg, Int.reducePow, Int.reduceAdd, Int.reduceMul, Int.reduceSub, ↓Int.reduceNatCast', h1, e]
theorem c_rin : Contract Try.prog GG 14 sp_rin :=
  contract_of tr_wagonpoolref07_In (tb_ok all_nil all_nil) (fun a h => w_rin a)

noncomputable def sp_minn : List D → Option D := spOf (α := List Int) (fun a => [.slc (nz 1 (a.map nI)) (a.map nI) false]) (fun a => a.length ≤ 4294967296) (fun a => .bool (a.all fun x => decide (inR x)))
theorem call_minn (l : List Int) (h : l.length ≤ 4294967296) : sp_minn [.slc (nz 1 (l.map nI)) (l.map nI) false] = some (.bool (l.all fun x => decide (inR x))) :=
  spOf_enc (fun a b h => by simp only [List.cons.injEq, D.slc.injEq, D.int.injEq, D.bool.injEq, D.str.injEq, D.agg.injEq, digs_iff, dig_iff, digC_iff, bytes_iff, byte_iff, words_iff, word_iff, bsl_iff, true_and, and_true, ints_iff, pays_iff, nI_iff, payD_iff, Int.ofNat_inj] at h; simp [h, Prod.ext_iff]) (l) h
set_option maxHeartbeats 4000000 in
set_option maxRecDepth 20000 in
theorem w_minn (l : List Int) (h : l.length ≤ 4294967296) : @wW GG (tb [] []) F_money_in.code (argF [.slc (nz 1 (l.map nI)) (l.map nI) false]) [] ⟨retQ F_money_in.res (.bool (l.all fun x => decide (inR x)))⟩ := by
  unfold F_money_in
  simp (disch := first | omega | decide) only [push_cast, ↓wF_free, ↓reduceIte, Nat.reduceEqDiff, Nat.reduceLT, Nat.reduceLeDiff, Nat.reduceAdd, Nat.reduceSub, Nat.reduceMul, Nat.reduceBEq, Int.reduceLT, Int.reduceLE, Int.reduceToNat, Int.reduceNeg, Int.reducePow, Int.reduceAdd, Int.reduceMul, Int.reduceSub, ↓Int.reduceNatCast']
  refine W_while (fun i : Nat => [(5, .slc (nz 1 (l.map nI)) (l.map nI) false), (6, .int .i64 (l.length : Int)), (7, .int .i64 (i : Int))]) (fun i => []) (fun i => i ≤ l.length ∧ ∀ j, j < i → inR (at' l j)) (fun i => l.length - i) 0 (by simp only [push_cast, ↓wF_free, ↓reduceIte, Nat.reduceEqDiff, Nat.reduceLT, Nat.reduceLeDiff, Nat.reduceAdd, Nat.reduceSub, Nat.reduceMul, Nat.reduceBEq, Int.reduceLT, Int.reduceLE, Int.reduceToNat, Int.reduceNeg, Int.reducePow, Int.reduceAdd, Int.reduceMul, Int.reduceSub, ↓Int.reduceNatCast'] <;> rfl) ⟨Nat.zero_le _, fun j hj => by omega⟩ ?_
  rintro i ⟨hi, hp⟩
  unfold F_money_in_L0
  simp (disch := first | omega | decide) only [push_cast, ↓wF_free, ↓reduceIte, Nat.reduceEqDiff, Nat.reduceLT, Nat.reduceLeDiff, Nat.reduceAdd, Nat.reduceSub, Nat.reduceMul, Nat.reduceBEq, Int.reduceLT, Int.reduceLE, Int.reduceToNat, Int.reduceNeg, Int.reducePow, Int.reduceAdd, Int.reduceMul, Int.reduceSub, ↓Int.reduceNatCast']
  refine ifD_split (fun h2 => ?_) (fun h2 => ?_)
  · have hbad : ¬ inR (at' l i) → (l.all fun x => decide (inR x)) = false := fun hb => by
      rw [Bool.eq_false_iff]
      intro h
      rw [List.all_eq_true] at h
      exact hb (of_decide_eq_true (h _ (at_mem (by omega))))
    have hgood : inR (at' l i) → ∀ j, j < i + 1 → inR (at' l j) := fun hg j hj => by
      rcases Nat.lt_or_ge j i with h1 | h1
      · exact hp j h1
      · obtain rfl : j = i := by omega
        exact hg
    simp (disch := first | omega | decide) only [push_cast, ↓wF_free, ↓reduceIte, Nat.reduceEqDiff, Nat.reduceLT, Nat.reduceLeDiff, Nat.reduceAdd, Nat.reduceSub, Nat.reduceMul, Nat.reduceBEq, Int.reduceLT, Int.reduceLE, Int.reduceToNat, Int.reduceNeg, Int.reducePow, Int.reduceAdd, Int.reduceMul, Int.reduceSub, ↓Int.reduceNatCast', idxS_nz]
    by_cases h3 : l.getD i default < -9007199254740992
    · have := hbad (by unfold inR at'; omega)
      simp (disch := first | omega | decide) only [push_cast, ↓wF_free, ↓reduceIte, Nat.reduceEqDiff, Nat.reduceLT, Nat.reduceLeDiff, Nat.reduceAdd, Nat.reduceSub, Nat.reduceMul, Nat.reduceBEq, Int.reduceLT, Int.reduceLE, Int.reduceToNat, Int.reduceNeg, Int.reducePow, Int.reduceAdd, Int.reduceMul, Int.reduceSub, ↓Int.reduceNatCast', h3, this]
    · by_cases h4 : 9007199254740992 < l.getD i default
      · have := hbad (by unfold inR at'; omega)
        simp (disch := first | omega | decide) only [push_cast, ↓wF_free, ↓reduceIte, Nat.reduceEqDiff, Nat.reduceLT, Nat.reduceLeDiff, Nat.reduceAdd, Nat.reduceSub, Nat.reduceMul, Nat.reduceBEq, Int.reduceLT, Int.reduceLE, Int.reduceToNat, Int.reduceNeg, Int.reducePow, Int.reduceAdd, Int.reduceMul, Int.reduceSub, ↓Int.reduceNatCast', h3, h4, this]
      · have hg := hgood (by unfold inR at'; omega)
        simp (disch := first | omega | decide) only [push_cast, ↓wF_free, ↓reduceIte, Nat.reduceEqDiff, Nat.reduceLT, Nat.reduceLeDiff, Nat.reduceAdd, Nat.reduceSub, Nat.reduceMul, Nat.reduceBEq, Int.reduceLT, Int.reduceLE, Int.reduceToNat, Int.reduceNeg, Int.reducePow, Int.reduceAdd, Int.reduceMul, Int.reduceSub, ↓Int.reduceNatCast', h3, h4, add_i]
        refine next_head (i + 1) (by exact ⟨by omega, hg⟩) (by omega) ?_
        simp only [push_cast, ↓wF_free, ↓reduceIte, Nat.reduceEqDiff, Nat.reduceLT, Nat.reduceLeDiff, Nat.reduceAdd, Nat.reduceSub, Nat.reduceMul, Nat.reduceBEq, Int.reduceLT, Int.reduceLE, Int.reduceToNat, Int.reduceNeg, Int.reducePow, Int.reduceAdd, Int.reduceMul, Int.reduceSub, ↓Int.reduceNatCast'] <;> rfl
  · obtain rfl : i = l.length := by omega
    have e : (l.all fun x => decide (inR x)) = true := by
      rw [List.all_eq_true]
      intro v hv
      obtain ⟨j, hj, rfl⟩ := mem_at hv
      exact decide_eq_true (hp j hj)
    simp (disch := first | omega | decide) only [push_cast, ↓wF_free, ↓reduceIte, Nat.reduceEqDiff, Nat.reduceLT, Nat.reduceLeDiff, Nat.reduceAdd, Nat.reduceSub, Nat.reduceMul, Nat.reduceBEq, Int.reduceLT, Int.reduceLE, Int.reduceToNat, Int.reduceNeg, Int.reducePow, Int.reduceAdd, Int.reduceMul, Int.reduceSub, ↓Int.reduceNatCast', e]
theorem c_minn : Contract Try.prog GG 26 sp_minn :=
  contract_of tr_money_in (tb_ok all_nil all_nil) (fun a h => w_minn a h)

def rgL (c : Int) : Int × Int := if inR c then (c, 0) else (0, 3)
theorem call_in1 (x : Int) : sp_minn [.slc 1 [.int .i64 x] false] = some (.bool (decide (inR x))) := by
  have := call_minn [x] (by simp)
  simp only [List.all_cons, List.all_nil, Bool.and_true] at this
  exact this
theorem call_in2 (x y : Int) : sp_minn [.slc 1 [.int .i64 x, .int .i64 y] false] = some (.bool (decide (inR x) && decide (inR y))) := by
  have := call_minn [x, y] (by simp)
  simp only [List.all_cons, List.all_nil, Bool.and_true] at this
  exact this
noncomputable def sp_mranged : List D → Option D := spOf (α := Int) (fun a => [.int .i64 a]) (fun a => True) (fun a => .tup [.int .i64 (rgL a).1, .int .i64 (rgL a).2])
theorem call_mranged (c : Int) : sp_mranged [.int .i64 c] = some (.tup [.int .i64 (rgL c).1, .int .i64 (rgL c).2]) :=
  spOf_enc (fun a b h => by simp only [List.cons.injEq, D.slc.injEq, D.int.injEq, D.bool.injEq, D.str.injEq, D.agg.injEq, digs_iff, dig_iff, digC_iff, bytes_iff, byte_iff, words_iff, word_iff, bsl_iff, true_and, and_true, ints_iff, pays_iff, nI_iff, payD_iff, Int.ofNat_inj] at h; simp [h, Prod.ext_iff]) (c) trivial
set_option maxHeartbeats 4000000 in
set_option maxRecDepth 20000 in
theorem w_mranged (c : Int) : @wW GG (tb [(26, sp_minn)] []) F_money_ranged.code (argF [.int .i64 c]) [] ⟨retQ F_money_ranged.res (.tup [.int .i64 (rgL c).1, .int .i64 (rgL c).2])⟩ := by
  unfold F_money_ranged
  by_cases h : inR c
  · have e : rgL c = (c, 0) := by unfold rgL; rw [if_pos h]
    simp (disch := first | omega | decide) only [push_cast, ↓wF_free, ↓reduceIte, Nat.reduceEqDiff, Nat.reduceLT, Nat.reduceLeDiff, Nat.reduceAdd, Nat.reduceSub, Nat.reduceMul, Nat.reduceBEq, Int.reduceLT, Int.reduceLE, Int.reduceToNat, Int.reduceNeg, Int.reducePow, Int.reduceAdd, Int.reduceMul, Int.reduceSub, ↓Int.reduceNatCast', call_in1, h, e]
  · have e : rgL c = (0, 3) := by unfold rgL; rw [if_neg h]
    simp (disch := first | omega | decide) only [push_cast, ↓wF_free, ↓reduceIte, Nat.reduceEqDiff, Nat.reduceLT, Nat.reduceLeDiff, Nat.reduceAdd, Nat.reduceSub, Nat.reduceMul, Nat.reduceBEq, Int.reduceLT, Int.reduceLE, Int.reduceToNat, Int.reduceNeg, Int.reducePow, Int.reduceAdd, Int.reduceMul, Int.reduceSub, ↓Int.reduceNatCast', call_in1, h, e]
theorem c_mranged : Contract Try.prog GG 28 sp_mranged :=
  contract_of tr_money_ranged (tb_ok (all_cons c_minn all_nil) all_nil) (fun a h => w_mranged a)

def addL (a b : Int) : Int × Int := if inR a ∧ inR b then rgL (a + b) else (0, 3)
def subL (a b : Int) : Int × Int := if inR a ∧ inR b then rgL (a - b) else (0, 3)
noncomputable def sp_madd : List D → Option D := spOf (α := Int × Int) (fun a => [.int .i64 a.1, .int .i64 a.2]) (fun a => True) (fun a => .tup [.int .i64 (addL a.1 a.2).1, .int .i64 (addL a.1 a.2).2])
theorem call_madd (a : Int) (b : Int) : sp_madd [.int .i64 a, .int .i64 b] = some (.tup [.int .i64 (addL a b).1, .int .i64 (addL a b).2]) :=
  spOf_enc (fun ⟨a0, a1⟩ ⟨b0, b1⟩ h => by simp only [List.cons.injEq, D.slc.injEq, D.int.injEq, D.bool.injEq, D.str.injEq, D.agg.injEq, digs_iff, dig_iff, digC_iff, bytes_iff, byte_iff, words_iff, word_iff, bsl_iff, true_and, and_true, ints_iff, pays_iff, nI_iff, payD_iff, Int.ofNat_inj] at h; simp [h, Prod.ext_iff]) (a, b) trivial
set_option maxHeartbeats 4000000 in
set_option maxRecDepth 20000 in
theorem w_madd (a : Int) (b : Int) : @wW GG (tb [(26, sp_minn), (28, sp_mranged)] []) F_money_Add.code (argF [.int .i64 a, .int .i64 b]) [] ⟨retQ F_money_Add.res (.tup [.int .i64 (addL a b).1, .int .i64 (addL a b).2])⟩ := by
  unfold F_money_Add
  by_cases h1 : inR a
  · by_cases h2 : inR b
    · have e : addL a b = rgL (a + b) := by unfold addL; rw [if_pos ⟨h1, h2⟩]
      have h1' := h1
      have h2' := h2
      unfold inR at h1' h2'
      simp (disch := first | omega | decide) only [push_cast, ↓wF_free, ↓reduceIte, Nat.reduceEqDiff, Nat.reduceLT, Nat.reduceLeDiff, Nat.reduceAdd, Nat.reduceSub, Nat.reduceMul, Nat.reduceBEq, Int.reduceLT, Int.reduceLE, Int.reduceToNat, Int.reduceNeg, Int.reducePow, Int.reduceAdd, Int.reduceMul, Int.reduceSub, ↓Int.reduceNatCast', call_in2, h1, h2, e, add_i, call_mranged]
    · have e : addL a b = (0, 3) := by unfold addL; rw [if_neg (fun h => h2 h.2)]
      simp (disch := first | omega | decide) only [push_cast, ↓wF_free, ↓reduceIte, Nat.reduceEqDiff, Nat.reduceLT, Nat.reduceLeDiff, Nat.reduceAdd, Nat.reduceSub, Nat.reduceMul, Nat.reduceBEq, Int.reduceLT, Int.reduceLE, Int.reduceToNat, Int.reduceNeg, Int.reducePow, Int.reduceAdd, Int.reduceMul, Int.reduceSub, ↓Int.reduceNatCast', call_in2, h1, h2, e]
  · have e : addL a b = (0, 3) := by unfold addL; rw [if_neg (fun h => h1 h.1)]
    simp (disch := first | omega | decide) only [push_cast, ↓wF_free, ↓reduceIte, Nat.reduceEqDiff, Nat.reduceLT, Nat.reduceLeDiff, Nat.reduceAdd, Nat.reduceSub, Nat.reduceMul, Nat.reduceBEq, Int.reduceLT, Int.reduceLE, Int.reduceToNat, Int.reduceNeg, Int.reducePow, Int.reduceAdd, Int.reduceMul, Int.reduceSub, ↓Int.reduceNatCast', call_in2, h1, e]
theorem c_madd : Contract Try.prog GG 24 sp_madd :=
  contract_of tr_money_Add (tb_ok (all_cons c_minn (all_cons c_mranged all_nil)) all_nil) (fun a h => w_madd a.1 a.2)
noncomputable def sp_msub : List D → Option D := spOf (α := Int × Int) (fun a => [.int .i64 a.1, .int .i64 a.2]) (fun a => True) (fun a => .tup [.int .i64 (subL a.1 a.2).1, .int .i64 (subL a.1 a.2).2])
theorem call_msub (a : Int) (b : Int) : sp_msub [.int .i64 a, .int .i64 b] = some (.tup [.int .i64 (subL a b).1, .int .i64 (subL a b).2]) :=
  spOf_enc (fun ⟨a0, a1⟩ ⟨b0, b1⟩ h => by simp only [List.cons.injEq, D.slc.injEq, D.int.injEq, D.bool.injEq, D.str.injEq, D.agg.injEq, digs_iff, dig_iff, digC_iff, bytes_iff, byte_iff, words_iff, word_iff, bsl_iff, true_and, and_true, ints_iff, pays_iff, nI_iff, payD_iff, Int.ofNat_inj] at h; simp [h, Prod.ext_iff]) (a, b) trivial
set_option maxHeartbeats 4000000 in
set_option maxRecDepth 20000 in
theorem w_msub (a : Int) (b : Int) : @wW GG (tb [(26, sp_minn), (28, sp_mranged)] []) F_money_Sub.code (argF [.int .i64 a, .int .i64 b]) [] ⟨retQ F_money_Sub.res (.tup [.int .i64 (subL a b).1, .int .i64 (subL a b).2])⟩ := by
  unfold F_money_Sub
  by_cases h1 : inR a
  · by_cases h2 : inR b
    · have e : subL a b = rgL (a - b) := by unfold subL; rw [if_pos ⟨h1, h2⟩]
      have h1' := h1
      have h2' := h2
      unfold inR at h1' h2'
      simp (disch := first | omega | decide) only [push_cast, ↓wF_free, ↓reduceIte, Nat.reduceEqDiff, Nat.reduceLT, Nat.reduceLeDiff, Nat.reduceAdd, Nat.reduceSub, Nat.reduceMul, Nat.reduceBEq, Int.reduceLT, Int.reduceLE, Int.reduceToNat, Int.reduceNeg, Int.reducePow, Int.reduceAdd, Int.reduceMul, Int.reduceSub, ↓Int.reduceNatCast', call_in2, h1, h2, e, sub_i, call_mranged]
    · have e : subL a b = (0, 3) := by unfold subL; rw [if_neg (fun h => h2 h.2)]
      simp (disch := first | omega | decide) only [push_cast, ↓wF_free, ↓reduceIte, Nat.reduceEqDiff, Nat.reduceLT, Nat.reduceLeDiff, Nat.reduceAdd, Nat.reduceSub, Nat.reduceMul, Nat.reduceBEq, Int.reduceLT, Int.reduceLE, Int.reduceToNat, Int.reduceNeg, Int.reducePow, Int.reduceAdd, Int.reduceMul, Int.reduceSub, ↓Int.reduceNatCast', call_in2, h1, h2, e]
  · have e : subL a b = (0, 3) := by unfold subL; rw [if_neg (fun h => h1 h.1)]
    simp (disch := first | omega | decide) only [push_cast, ↓wF_free, ↓reduceIte, Nat.reduceEqDiff, Nat.reduceLT, Nat.reduceLeDiff, Nat.reduceAdd, Nat.reduceSub, Nat.reduceMul, Nat.reduceBEq, Int.reduceLT, Int.reduceLE, Int.reduceToNat, Int.reduceNeg, Int.reducePow, Int.reduceAdd, Int.reduceMul, Int.reduceSub, ↓Int.reduceNatCast', call_in2, h1, e]
theorem c_msub : Contract Try.prog GG 25 sp_msub :=
  contract_of tr_money_Sub (tb_ok (all_cons c_minn (all_cons c_mranged all_nil)) all_nil) (fun a h => w_msub a.1 a.2)

/-! ### Sums -/
noncomputable def sp_add64 : List D → Option D := spOf (α := Int × Int) (fun a => [.int .u64 a.1, .int .u64 a.2, .int .u64 0]) (fun a => 0 ≤ a.1 ∧ 0 ≤ a.2) (fun a => .tup [.int .u64 ((a.1 + a.2) % 18446744073709551616), .int .u64 ((a.1 + a.2) / 18446744073709551616)])
theorem call_add64 (a b : Int) (h : 0 ≤ a ∧ 0 ≤ b) : sp_add64 [.int .u64 a, .int .u64 b, .int .u64 0] = some (.tup [.int .u64 ((a + b) % 18446744073709551616), .int .u64 ((a + b) / 18446744073709551616)]) :=
  spOf_enc (fun ⟨a, b⟩ ⟨c, d⟩ h => by simp at h; simp [h]) (a, b) h
theorem xc_add64 : ExtOK Try.prog 27 sp_add64 := by
  intro ys r hr w g st vs hl hrep
  obtain ⟨⟨a, b⟩, rfl, ⟨ha, hb⟩, rfl⟩ := spOf_inv hr
  match vs, hl with
  | [v1, v2, v3], _ =>
    obtain rfl := int_inv (hrep 0 _ _ rfl rfl)
    obtain rfl := int_inv (hrep 1 _ _ rfl rfl)
    obtain rfl := int_inv (hrep 2 _ _ rfl rfl)
    dsimp only at ha hb ⊢
    refine ⟨_, ?_, fun g st => .tup _ [.int .u64 ((a + b) % 18446744073709551616), .int .u64 ((a + b) / 18446744073709551616)] rfl (fun i d v h1 h2 => ?_)⟩
    · rw [show [Value.int .u64 a, .int .u64 b, .int .u64 0].toArray = #[.int .u64 a, .int .u64 b, .int .u64 0] from rfl, run_callFunc_extern Try.func27 (by kernel_rfl) (by kernel_rfl) (by kernel_rfl) (e := add64Entry) (by kernel_rfl), run_add64 a b 0 ha hb (by decide) (by decide)]
      simp only [Result.andThen, Int.add_zero]
    · match i, h1, h2 with
      | 0, h1, h2 => simp at h1 h2; subst h1; subst h2; exact .int _ _
      | 1, h1, h2 => simp at h1 h2; subst h1; subst h2; exact .int _ _

def sumE (l : List Int) : Int × Int := if l.all (fun x => decide (inR x)) && decide (inR (sumI l)) then (sumI l, 0) else (0, 3)
theorem sumI_append : ∀ a b : List Int, sumI (a ++ b) = sumI a + sumI b
  | [], b => by simp [sumI]
  | x :: a, b => by rw [List.cons_append, sumI, sumI, sumI_append a b]; omega
theorem sum_bound : ∀ (l : List Int), (∀ v ∈ l, inR v) → -(9007199254740992 * (l.length : Int)) ≤ sumI l ∧ sumI l ≤ 9007199254740992 * (l.length : Int)
  | [], _ => by simp [sumI]
  | a :: l, h => by
    have h1 := sum_bound l (fun v hv => h v (by simp [hv]))
    have h2 := h a (by simp)
    unfold inR at h2
    simp only [sumI, List.length_cons]
    omega
theorem sum_take (l : List Int) (i : Nat) (h : i < l.length) : sumI (l.take (i + 1)) = sumI (l.take i) + at' l i := by
  rw [take_getD l i h, sumI_append]
  simp [sumI, at']
end Go.Proofs.Ytedchaaoemifbaa.PI
