/-
  bisect: what is valid, and roots with padding, of the program and of the reference.
  Conditions: none; these are lemmas.
-/
import Derived.Test.YtokhnpjchpmndaaDoorMkQ
import Derived.Test.YtokhnpjchpmndaaDoorBsZ
namespace Go.Proofs.YtokhnpjchpmndaaDoor.PI
open Go
set_option linter.unusedSimpArgs false
set_option linter.unusedVariables false

def bvalid (x : Bis) : Bool := if x.h < 0 then false else if 16 < x.h then false else if x.l < 0 then false else if x.h < x.l then false else if 0 ≤ x.i then (if x.i < 2 ^ (x.h - x.l).toNat then decide (x.r = x.h - x.l) else false) else false
theorem bvalid_spec {x : Bis} (h : bvalid x = true) : 0 ≤ x.h ∧ x.h ≤ 16 ∧ 0 ≤ x.l ∧ x.l ≤ x.h ∧ 0 ≤ x.i ∧ x.i < 2 ^ (x.h - x.l).toNat ∧ x.r = x.h - x.l := by
  unfold bvalid at h
  split at h; · cases h
  split at h; · cases h
  split at h; · cases h
  split at h; · cases h
  split at h
  · split at h
    · exact ⟨by omega, by omega, by omega, by omega, by assumption, by assumption, of_decide_eq_true h⟩
    · cases h
  · cases h
theorem bvalid_of {x : Bis} (h1 : 0 ≤ x.h) (h2 : x.h ≤ 16) (h3 : 0 ≤ x.l) (h4 : x.l ≤ x.h) (h5 : 0 ≤ x.i) (h6 : x.i < 2 ^ (x.h - x.l).toNat) (h7 : x.r = x.h - x.l) : bvalid x = true := by
  unfold bvalid
  rw [if_neg (by omega), if_neg (by omega), if_neg (by omega), if_neg (by omega), if_pos h5, if_pos h6]
  exact decide_eq_true h7
theorem div_zero_iff {i : Int} {k : Nat} (h0 : 0 ≤ i) : i / 2 ^ k = 0 ↔ i < 2 ^ k := by
  have hp : (0 : Int) < 2 ^ k := Int.pow_pos (by decide)
  constructor
  · intro h
    have := Int.emod_lt_of_pos i hp
    have e := Int.ediv_mul_add_emod i (2 ^ k)
    rw [h] at e
    omega
  · intro h
    exact Int.ediv_eq_zero_of_lt h0 h

noncomputable def sp_bvalid : List D → Option D := spOf (α := Bis) (fun a => [bisD a]) (fun a => True) (fun a => .bool (bvalid a))
theorem call_bvalid (x : Bis) : sp_bvalid [bisD x] = some (.bool (bvalid x)) :=
  spOf_enc (fun a b h => by simp only [List.cons.injEq, D.slc.injEq, D.int.injEq, D.bool.injEq, D.str.injEq, D.agg.injEq, digs_iff, dig_iff, digC_iff, bytes_iff, byte_iff, words_iff, word_iff, Sha.St8.list_iff, bsl_iff, true_and, and_true, bisD_iff] at h; simp [h, Prod.ext_iff]) (x) trivial
set_option maxHeartbeats 4000000 in
set_option maxRecDepth 20000 in
theorem w_bvalid (x : Bis) : @wW GG (tb [] []) F_bisect_valid.code (argF [bisD x]) [] ⟨retQ F_bisect_valid.res (.bool (bvalid x))⟩ := by
  unfold F_bisect_valid bvalid
  by_cases h1 : x.h < 0
  · simp (disch := first | omega | decide) only [push_cast, ↓wF_free, ↓reduceIte, Nat.reduceEqDiff, Nat.reduceLT, Nat.reduceLeDiff, Nat.reduceAdd, Nat.reduceSub, Nat.reduceMul, Nat.reduceBEq, Int.reduceLT, Int.reduceLE, Int.reduceToNat, Int.reduceNeg, Int.reducePow, Int.reduceAdd, Int.reduceMul, Int.reduceSub, ↓Int.reduceNatCast', h1]
  by_cases h2 : 16 < x.h
  · simp (disch := first | omega | decide) only [push_cast, ↓wF_free, ↓reduceIte, Nat.reduceEqDiff, Nat.reduceLT, Nat.reduceLeDiff, Nat.reduceAdd, Nat.reduceSub, Nat.reduceMul, Nat.reduceBEq, Int.reduceLT, Int.reduceLE, Int.reduceToNat, Int.reduceNeg, Int.reducePow, Int.reduceAdd, Int.reduceMul, Int.reduceSub, ↓Int.reduceNatCast', h1, h2]
  by_cases h3 : x.l < 0
  · simp (disch := first | omega | decide) only [push_cast, ↓wF_free, ↓reduceIte, Nat.reduceEqDiff, Nat.reduceLT, Nat.reduceLeDiff, Nat.reduceAdd, Nat.reduceSub, Nat.reduceMul, Nat.reduceBEq, Int.reduceLT, Int.reduceLE, Int.reduceToNat, Int.reduceNeg, Int.reducePow, Int.reduceAdd, Int.reduceMul, Int.reduceSub, ↓Int.reduceNatCast', h1, h2, h3]
  by_cases h4 : x.h < x.l
  · simp (disch := first | omega | decide) only [push_cast, ↓wF_free, ↓reduceIte, Nat.reduceEqDiff, Nat.reduceLT, Nat.reduceLeDiff, Nat.reduceAdd, Nat.reduceSub, Nat.reduceMul, Nat.reduceBEq, Int.reduceLT, Int.reduceLE, Int.reduceToNat, Int.reduceNeg, Int.reducePow, Int.reduceAdd, Int.reduceMul, Int.reduceSub, ↓Int.reduceNatCast', h1, h2, h3, h4]
  by_cases h5 : 0 ≤ x.i
  · have e := div_zero_iff (k := (x.h - x.l).toNat) h5
    by_cases h6 : x.i < 2 ^ (x.h - x.l).toNat
    · simp (disch := first | omega | decide) only [push_cast, ↓wF_free, ↓reduceIte, Nat.reduceEqDiff, Nat.reduceLT, Nat.reduceLeDiff, Nat.reduceAdd, Nat.reduceSub, Nat.reduceMul, Nat.reduceBEq, Int.reduceLT, Int.reduceLE, Int.reduceToNat, Int.reduceNeg, Int.reducePow, Int.reduceAdd, Int.reduceMul, Int.reduceSub, ↓Int.reduceNatCast', h1, h2, h3, h4, h5, h6, sub_i, shr_s, e]
    · simp (disch := first | omega | decide) only [push_cast, ↓wF_free, ↓reduceIte, Nat.reduceEqDiff, Nat.reduceLT, Nat.reduceLeDiff, Nat.reduceAdd, Nat.reduceSub, Nat.reduceMul, Nat.reduceBEq, Int.reduceLT, Int.reduceLE, Int.reduceToNat, Int.reduceNeg, Int.reducePow, Int.reduceAdd, Int.reduceMul, Int.reduceSub, ↓Int.reduceNatCast', h1, h2, h3, h4, h5, h6, sub_i, shr_s, e]
  · simp (disch := first | omega | decide) only [push_cast, ↓wF_free, ↓reduceIte, Nat.reduceEqDiff, Nat.reduceLT, Nat.reduceLeDiff, Nat.reduceAdd, Nat.reduceSub, Nat.reduceMul, Nat.reduceBEq, Int.reduceLT, Int.reduceLE, Int.reduceToNat, Int.reduceNeg, Int.reducePow, Int.reduceAdd, Int.reduceMul, Int.reduceSub, ↓Int.reduceNatCast', h1, h2, h3, h4, h5]
theorem c_bvalid : Contract Tryd.prog GG 35 sp_bvalid :=
  contract_of tr_bisect_valid (tb_ok all_nil all_nil) (fun a h => w_bvalid a)

noncomputable def sp_bpower : List D → Option D := spOf (α := Int) (fun a => [.int .i64 a]) (fun a => 0 ≤ a ∧ a ≤ 60) (fun a => .int .i64 (2 ^ a.toNat))
theorem call_bpower (n : Int) (h : 0 ≤ n ∧ n ≤ 60) : sp_bpower [.int .i64 n] = some (.int .i64 (2 ^ n.toNat)) :=
  spOf_enc (fun a b h => by simp only [List.cons.injEq, D.slc.injEq, D.int.injEq, D.bool.injEq, D.str.injEq, D.agg.injEq, digs_iff, dig_iff, digC_iff, bytes_iff, byte_iff, words_iff, word_iff, Sha.St8.list_iff, bsl_iff, true_and, and_true, bisD_iff] at h; simp [h, Prod.ext_iff]) (n) h
set_option maxHeartbeats 4000000 in
set_option maxRecDepth 20000 in
theorem w_bpower (n : Int) (h : 0 ≤ n ∧ n ≤ 60) : @wW GG (tb [] []) F_wagonpoolref38_power.code (argF [.int .i64 n]) [] ⟨retQ F_wagonpoolref38_power.res (.int .i64 (2 ^ n.toNat))⟩ := by
  obtain ⟨h0, h1⟩ := h
  unfold F_wagonpoolref38_power
  simp (disch := omega) only [push_cast, ↓wF_free, ↓reduceIte, Nat.reduceEqDiff, Nat.reduceLT, Nat.reduceLeDiff, Nat.reduceAdd, Nat.reduceSub, Nat.reduceMul, Nat.reduceBEq, Int.reduceLT, Int.reduceLE, Int.reduceToNat, Int.reduceNeg, Int.reducePow, Int.reduceAdd, Int.reduceMul, Int.reduceSub, ↓Int.reduceNatCast']
  refine W_while (fun i : Nat => [(0, .int .i64 n), (3, .int .i64 (2 ^ i)), (4, .int .i64 (i : Int))]) (fun _ => []) (fun i => (i : Int) ≤ n) (fun i => (n - i).toNat) 0 (by simp only [push_cast, ↓wF_free, ↓reduceIte, Nat.reduceEqDiff, Nat.reduceLT, Nat.reduceLeDiff, Nat.reduceAdd, Nat.reduceSub, Nat.reduceMul, Nat.reduceBEq, Int.reduceLT, Int.reduceLE, Int.reduceToNat, Int.reduceNeg, Int.reducePow, Int.reduceAdd, Int.reduceMul, Int.reduceSub, ↓Int.reduceNatCast'] <;> rfl) (by omega) ?_
  intro i hi
  unfold F_wagonpoolref38_power_L0
  simp (disch := omega) only [push_cast, ↓wF_free, ↓reduceIte, Nat.reduceEqDiff, Nat.reduceLT, Nat.reduceLeDiff, Nat.reduceAdd, Nat.reduceSub, Nat.reduceMul, Nat.reduceBEq, Int.reduceLT, Int.reduceLE, Int.reduceToNat, Int.reduceNeg, Int.reducePow, Int.reduceAdd, Int.reduceMul, Int.reduceSub, ↓Int.reduceNatCast']
  refine ifD_split (fun h2 => ?_) (fun h2 => ?_)
  · have p1 := pow_mono (a := i) (b := 59) (by omega)
    have p2 := pow_pos2 i
    have e : (2 : Int) * 2 ^ i = 2 ^ (i + 1) := by rw [Int.pow_succ]; omega
    simp (disch := first | omega | decide) only [push_cast, ↓wF_free, ↓reduceIte, Nat.reduceEqDiff, Nat.reduceLT, Nat.reduceLeDiff, Nat.reduceAdd, Nat.reduceSub, Nat.reduceMul, Nat.reduceBEq, Int.reduceLT, Int.reduceLE, Int.reduceToNat, Int.reduceNeg, Int.reducePow, Int.reduceAdd, Int.reduceMul, Int.reduceSub, ↓Int.reduceNatCast', mul_i, add_i]
    refine next_head (i + 1) (by omega) (by omega) ?_
    rw [e]
    simp only [push_cast, ↓wF_free, ↓reduceIte, Nat.reduceEqDiff, Nat.reduceLT, Nat.reduceLeDiff, Nat.reduceAdd, Nat.reduceSub, Nat.reduceMul, Nat.reduceBEq, Int.reduceLT, Int.reduceLE, Int.reduceToNat, Int.reduceNeg, Int.reducePow, Int.reduceAdd, Int.reduceMul, Int.reduceSub, ↓Int.reduceNatCast'] <;> rfl
  · obtain rfl : (i : Int) = n := by omega
    simp (disch := omega) only [push_cast, ↓wF_free, ↓reduceIte, Nat.reduceEqDiff, Nat.reduceLT, Nat.reduceLeDiff, Nat.reduceAdd, Nat.reduceSub, Nat.reduceMul, Nat.reduceBEq, Int.reduceLT, Int.reduceLE, Int.reduceToNat, Int.reduceNeg, Int.reducePow, Int.reduceAdd, Int.reduceMul, Int.reduceSub, ↓Int.reduceNatCast', h2]
theorem c_bpower : Contract Tryd.prog GG 52 sp_bpower :=
  contract_of tr_wagonpoolref38_power (tb_ok all_nil all_nil) (fun a h => w_bpower a h)

noncomputable def sp_rvalid : List D → Option D := spOf (α := Bis) (fun a => [bisD a]) (fun a => True) (fun a => .bool (bvalid a))
theorem call_rvalid (x : Bis) : sp_rvalid [bisD x] = some (.bool (bvalid x)) :=
  spOf_enc (fun a b h => by simp only [List.cons.injEq, D.slc.injEq, D.int.injEq, D.bool.injEq, D.str.injEq, D.agg.injEq, digs_iff, dig_iff, digC_iff, bytes_iff, byte_iff, words_iff, word_iff, Sha.St8.list_iff, bsl_iff, true_and, and_true, bisD_iff] at h; simp [h, Prod.ext_iff]) (x) trivial
set_option maxHeartbeats 4000000 in
set_option maxRecDepth 20000 in
theorem w_rvalid (x : Bis) : @wW GG (tb [(52, sp_bpower)] []) F_wagonpoolref38_Valid.code (argF [bisD x]) [] ⟨retQ F_wagonpoolref38_Valid.res (.bool (bvalid x))⟩ := by
  unfold F_wagonpoolref38_Valid bvalid
  by_cases h1 : x.h < 0
  · simp (disch := first | omega | decide) only [push_cast, ↓wF_free, ↓reduceIte, Nat.reduceEqDiff, Nat.reduceLT, Nat.reduceLeDiff, Nat.reduceAdd, Nat.reduceSub, Nat.reduceMul, Nat.reduceBEq, Int.reduceLT, Int.reduceLE, Int.reduceToNat, Int.reduceNeg, Int.reducePow, Int.reduceAdd, Int.reduceMul, Int.reduceSub, ↓Int.reduceNatCast', h1]
  by_cases h2 : 16 < x.h
  · simp (disch := first | omega | decide) only [push_cast, ↓wF_free, ↓reduceIte, Nat.reduceEqDiff, Nat.reduceLT, Nat.reduceLeDiff, Nat.reduceAdd, Nat.reduceSub, Nat.reduceMul, Nat.reduceBEq, Int.reduceLT, Int.reduceLE, Int.reduceToNat, Int.reduceNeg, Int.reducePow, Int.reduceAdd, Int.reduceMul, Int.reduceSub, ↓Int.reduceNatCast', h1, h2]
  by_cases h3 : x.l < 0
  · simp (disch := first | omega | decide) only [push_cast, ↓wF_free, ↓reduceIte, Nat.reduceEqDiff, Nat.reduceLT, Nat.reduceLeDiff, Nat.reduceAdd, Nat.reduceSub, Nat.reduceMul, Nat.reduceBEq, Int.reduceLT, Int.reduceLE, Int.reduceToNat, Int.reduceNeg, Int.reducePow, Int.reduceAdd, Int.reduceMul, Int.reduceSub, ↓Int.reduceNatCast', h1, h2, h3]
  by_cases h4 : x.h < x.l
  · simp (disch := first | omega | decide) only [push_cast, ↓wF_free, ↓reduceIte, Nat.reduceEqDiff, Nat.reduceLT, Nat.reduceLeDiff, Nat.reduceAdd, Nat.reduceSub, Nat.reduceMul, Nat.reduceBEq, Int.reduceLT, Int.reduceLE, Int.reduceToNat, Int.reduceNeg, Int.reducePow, Int.reduceAdd, Int.reduceMul, Int.reduceSub, ↓Int.reduceNatCast', h1, h2, h3, h4]
  have c := call_bpower (x.h - x.l) (by omega)
  by_cases h5 : 0 ≤ x.i
  · by_cases h6 : x.i < 2 ^ (x.h - x.l).toNat
    · simp (disch := first | omega | decide) only [push_cast, ↓wF_free, ↓reduceIte, Nat.reduceEqDiff, Nat.reduceLT, Nat.reduceLeDiff, Nat.reduceAdd, Nat.reduceSub, Nat.reduceMul, Nat.reduceBEq, Int.reduceLT, Int.reduceLE, Int.reduceToNat, Int.reduceNeg, Int.reducePow, Int.reduceAdd, Int.reduceMul, Int.reduceSub, ↓Int.reduceNatCast', h1, h2, h3, h4, h5, h6, sub_i, c]
    · simp (disch := first | omega | decide) only [push_cast, ↓wF_free, ↓reduceIte, Nat.reduceEqDiff, Nat.reduceLT, Nat.reduceLeDiff, Nat.reduceAdd, Nat.reduceSub, Nat.reduceMul, Nat.reduceBEq, Int.reduceLT, Int.reduceLE, Int.reduceToNat, Int.reduceNeg, Int.reducePow, Int.reduceAdd, Int.reduceMul, Int.reduceSub, ↓Int.reduceNatCast', h1, h2, h3, h4, h5, h6, sub_i, c]
  · simp (disch := first | omega | decide) only [push_cast, ↓wF_free, ↓reduceIte, Nat.reduceEqDiff, Nat.reduceLT, Nat.reduceLeDiff, Nat.reduceAdd, Nat.reduceSub, Nat.reduceMul, Nat.reduceBEq, Int.reduceLT, Int.reduceLE, Int.reduceToNat, Int.reduceNeg, Int.reducePow, Int.reduceAdd, Int.reduceMul, Int.reduceSub, ↓Int.reduceNatCast', h1, h2, h3, h4, h5]
theorem c_rvalid : Contract Tryd.prog GG 42 sp_rvalid :=
  contract_of tr_wagonpoolref38_Valid (tb_ok (all_cons c_bpower all_nil) all_nil) (fun a h => w_rvalid a)

noncomputable def sp_bpadding : List D → Option D := spOf (α := Int) (fun a => [.int .i64 a]) (fun a => 0 ≤ a ∧ a ≤ 60) (fun a => digD (padN a.toNat))
theorem call_bpadding (n : Int) (h : 0 ≤ n ∧ n ≤ 60) : sp_bpadding [.int .i64 n] = some (digD (padN n.toNat)) :=
  spOf_enc (fun a b h => by simp only [List.cons.injEq, D.slc.injEq, D.int.injEq, D.bool.injEq, D.str.injEq, D.agg.injEq, digs_iff, dig_iff, digC_iff, bytes_iff, byte_iff, words_iff, word_iff, Sha.St8.list_iff, bsl_iff, true_and, and_true, bisD_iff] at h; simp [h, Prod.ext_iff]) (n) h
set_option maxHeartbeats 4000000 in
set_option maxRecDepth 20000 in
theorem w_bpadding (n : Int) (h : 0 ≤ n ∧ n ≤ 60) : @wW GG (tb [(45, sp_rPad), (38, sp_rParent)] []) F_wagonpoolref38_padding.code (argF [.int .i64 n]) [] ⟨retQ F_wagonpoolref38_padding.res (digD (padN n.toNat))⟩ := by
  obtain ⟨h0, h1⟩ := h
  unfold F_wagonpoolref38_padding
  simp (disch := omega) only [push_cast, ↓wF_free, ↓reduceIte, Nat.reduceEqDiff, Nat.reduceLT, Nat.reduceLeDiff, Nat.reduceAdd, Nat.reduceSub, Nat.reduceMul, Nat.reduceBEq, Int.reduceLT, Int.reduceLE, Int.reduceToNat, Int.reduceNeg, Int.reducePow, Int.reduceAdd, Int.reduceMul, Int.reduceSub, ↓Int.reduceNatCast', call_rPad]
  refine W_while (fun i : Nat => [(0, .int .i64 n), (2, .ptr 0 0), (3, .ptr 1 0), (4, .int .i64 (i : Int))]) (fun i => [⟨false, 1, digC zeroDig, false⟩, ⟨false, 1, digC (padN i), false⟩]) (fun i => (i : Int) ≤ n) (fun i => (n - i).toNat) 0 (by simp only [push_cast, ↓wF_free, ↓reduceIte, Nat.reduceEqDiff, Nat.reduceLT, Nat.reduceLeDiff, Nat.reduceAdd, Nat.reduceSub, Nat.reduceMul, Nat.reduceBEq, Int.reduceLT, Int.reduceLE, Int.reduceToNat, Int.reduceNeg, Int.reducePow, Int.reduceAdd, Int.reduceMul, Int.reduceSub, ↓Int.reduceNatCast'] <;> rfl) (by omega) ?_
  intro i hi
  unfold F_wagonpoolref38_padding_L0
  simp (disch := omega) only [push_cast, ↓wF_free, ↓reduceIte, Nat.reduceEqDiff, Nat.reduceLT, Nat.reduceLeDiff, Nat.reduceAdd, Nat.reduceSub, Nat.reduceMul, Nat.reduceBEq, Int.reduceLT, Int.reduceLE, Int.reduceToNat, Int.reduceNeg, Int.reducePow, Int.reduceAdd, Int.reduceMul, Int.reduceSub, ↓Int.reduceNatCast']
  refine ifD_split (fun h2 => ?_) (fun h2 => ?_)
  · simp (disch := first | omega | decide) only [push_cast, ↓wF_free, ↓reduceIte, Nat.reduceEqDiff, Nat.reduceLT, Nat.reduceLeDiff, Nat.reduceAdd, Nat.reduceSub, Nat.reduceMul, Nat.reduceBEq, Int.reduceLT, Int.reduceLE, Int.reduceToNat, Int.reduceNeg, Int.reducePow, Int.reduceAdd, Int.reduceMul, Int.reduceSub, ↓Int.reduceNatCast', call_rParent, add_i]
    refine next_head (i + 1) (by omega) (by omega) ?_
    simp only [push_cast, ↓wF_free, ↓reduceIte, Nat.reduceEqDiff, Nat.reduceLT, Nat.reduceLeDiff, Nat.reduceAdd, Nat.reduceSub, Nat.reduceMul, Nat.reduceBEq, Int.reduceLT, Int.reduceLE, Int.reduceToNat, Int.reduceNeg, Int.reducePow, Int.reduceAdd, Int.reduceMul, Int.reduceSub, ↓Int.reduceNatCast'] <;> rfl
  · have e : n.toNat = i := by omega
    rw [e]
    simp (disch := omega) only [push_cast, ↓wF_free, ↓reduceIte, Nat.reduceEqDiff, Nat.reduceLT, Nat.reduceLeDiff, Nat.reduceAdd, Nat.reduceSub, Nat.reduceMul, Nat.reduceBEq, Int.reduceLT, Int.reduceLE, Int.reduceToNat, Int.reduceNeg, Int.reducePow, Int.reduceAdd, Int.reduceMul, Int.reduceSub, ↓Int.reduceNatCast', h2]
theorem c_bpadding : Contract Tryd.prog GG 56 sp_bpadding :=
  contract_of tr_wagonpoolref38_padding (tb_ok (all_cons c_rPad (all_cons c_rParent all_nil)) all_nil) (fun a h => w_bpadding a h)

/-- the root of a commitment, with padding up to a height -/
def padF (s : Int) (root : Dig) : Nat → Dig
  | 0 => root
  | j + 1 => if depthL s ≤ (j : Int) then parentL (padF s root j) (padN j) else padF s root j
theorem padF_low (s : Int) (root : Dig) : ∀ j : Nat, (j : Int) ≤ depthL s → padF s root j = root
  | 0, _ => rfl
  | j + 1, h => by
    rw [padF, if_neg (by omega)]
    exact padF_low s root j (by omega)

noncomputable def sp_bpadded : List D → Option D := spOf (α := (Int × Dig) × Int) (fun a => [.agg (.int .i64 (Prod.fst a.1) :: digC (Prod.snd a.1)), .int .i64 a.2]) (fun a => 0 ≤ a.2 ∧ a.2 ≤ 60) (fun a => digD (padF a.1.1 a.1.2 a.2.toNat))
theorem call_bpadded (c : Int × Dig) (n : Int) (h : 0 ≤ n ∧ n ≤ 60) : sp_bpadded [.agg (.int .i64 (Prod.fst c) :: digC (Prod.snd c)), .int .i64 n] = some (digD (padF c.1 c.2 n.toNat)) :=
  spOf_enc (fun ⟨a0, a1⟩ ⟨b0, b1⟩ h => by simp only [List.cons.injEq, D.slc.injEq, D.int.injEq, D.bool.injEq, D.str.injEq, D.agg.injEq, digs_iff, dig_iff, digC_iff, bytes_iff, byte_iff, words_iff, word_iff, Sha.St8.list_iff, bsl_iff, true_and, and_true, bisD_iff] at h; simp [h, Prod.ext_iff]) (c, n) h
set_option maxHeartbeats 4000000 in
set_option maxRecDepth 20000 in
theorem w_bpadded (c : Int × Dig) (n : Int) (h : 0 ≤ n ∧ n ≤ 60) : @wW GG (tb [(32, sp_mPad), (27, sp_mParent), (22, sp_mDepth)] []) F_bisect_padded.code (argF [.agg (.int .i64 (Prod.fst c) :: digC (Prod.snd c)), .int .i64 n]) [] ⟨retQ F_bisect_padded.res (digD (padF c.1 c.2 n.toNat))⟩ := by
  obtain ⟨s, root⟩ := c
  obtain ⟨h0, h1⟩ := h
  dsimp only
  unfold F_bisect_padded
  simp (disch := omega) only [push_cast, ↓wF_free, ↓reduceIte, Nat.reduceEqDiff, Nat.reduceLT, Nat.reduceLeDiff, Nat.reduceAdd, Nat.reduceSub, Nat.reduceMul, Nat.reduceBEq, Int.reduceLT, Int.reduceLE, Int.reduceToNat, Int.reduceNeg, Int.reducePow, Int.reduceAdd, Int.reduceMul, Int.reduceSub, ↓Int.reduceNatCast', call_mPad, box_commit, ldO_one, ldO_succ]
  refine W_while (fun i : Nat => [(2, .ptr 0 0), (4, .ptr 1 0), (5, .ptr 2 0), (6, .ptr 3 0), (11, .int .i64 n), (12, .int .i64 (i : Int))]) (fun i => [⟨false, 1, .int .i64 s :: digC root, false⟩, ⟨false, 1, digC zeroDig, false⟩, ⟨false, 1, digC (padF s root i), false⟩, ⟨false, 1, digC (padN i), false⟩]) (fun i => (i : Int) ≤ n) (fun i => (n - i).toNat) 0 (by simp only [push_cast, ↓wF_free, ↓reduceIte, Nat.reduceEqDiff, Nat.reduceLT, Nat.reduceLeDiff, Nat.reduceAdd, Nat.reduceSub, Nat.reduceMul, Nat.reduceBEq, Int.reduceLT, Int.reduceLE, Int.reduceToNat, Int.reduceNeg, Int.reducePow, Int.reduceAdd, Int.reduceMul, Int.reduceSub, ↓Int.reduceNatCast'] <;> rfl) (by omega) ?_
  intro i hi
  unfold F_bisect_padded_L0
  simp (disch := omega) only [push_cast, ↓wF_free, ↓reduceIte, Nat.reduceEqDiff, Nat.reduceLT, Nat.reduceLeDiff, Nat.reduceAdd, Nat.reduceSub, Nat.reduceMul, Nat.reduceBEq, Int.reduceLT, Int.reduceLE, Int.reduceToNat, Int.reduceNeg, Int.reducePow, Int.reduceAdd, Int.reduceMul, Int.reduceSub, ↓Int.reduceNatCast']
  refine ifD_split (fun h2 => ?_) (fun h2 => ?_)
  · simp (disch := first | omega | decide) only [push_cast, ↓wF_free, ↓reduceIte, Nat.reduceEqDiff, Nat.reduceLT, Nat.reduceLeDiff, Nat.reduceAdd, Nat.reduceSub, Nat.reduceMul, Nat.reduceBEq, Int.reduceLT, Int.reduceLE, Int.reduceToNat, Int.reduceNeg, Int.reducePow, Int.reduceAdd, Int.reduceMul, Int.reduceSub, ↓Int.reduceNatCast', call_mDepth, ldO_one, h2]
    refine ifD_split (fun h3 => ?_) (fun h3 => ?_)
    · simp (disch := first | omega | decide) only [push_cast, ↓wF_free, ↓reduceIte, Nat.reduceEqDiff, Nat.reduceLT, Nat.reduceLeDiff, Nat.reduceAdd, Nat.reduceSub, Nat.reduceMul, Nat.reduceBEq, Int.reduceLT, Int.reduceLE, Int.reduceToNat, Int.reduceNeg, Int.reducePow, Int.reduceAdd, Int.reduceMul, Int.reduceSub, ↓Int.reduceNatCast', call_mParent, add_i, h3]
      refine next_head (i + 1) (by omega) (by omega) ?_
      rw [show padF s root (i + 1) = parentL (padF s root i) (padN i) from if_pos h3]
      simp only [push_cast, ↓wF_free, ↓reduceIte, Nat.reduceEqDiff, Nat.reduceLT, Nat.reduceLeDiff, Nat.reduceAdd, Nat.reduceSub, Nat.reduceMul, Nat.reduceBEq, Int.reduceLT, Int.reduceLE, Int.reduceToNat, Int.reduceNeg, Int.reducePow, Int.reduceAdd, Int.reduceMul, Int.reduceSub, ↓Int.reduceNatCast'] <;> rfl
    · simp (disch := first | omega | decide) only [push_cast, ↓wF_free, ↓reduceIte, Nat.reduceEqDiff, Nat.reduceLT, Nat.reduceLeDiff, Nat.reduceAdd, Nat.reduceSub, Nat.reduceMul, Nat.reduceBEq, Int.reduceLT, Int.reduceLE, Int.reduceToNat, Int.reduceNeg, Int.reducePow, Int.reduceAdd, Int.reduceMul, Int.reduceSub, ↓Int.reduceNatCast', call_mParent, add_i, h3]
      refine next_head (i + 1) (by omega) (by omega) ?_
      rw [show padF s root (i + 1) = padF s root i from if_neg h3]
      simp only [push_cast, ↓wF_free, ↓reduceIte, Nat.reduceEqDiff, Nat.reduceLT, Nat.reduceLeDiff, Nat.reduceAdd, Nat.reduceSub, Nat.reduceMul, Nat.reduceBEq, Int.reduceLT, Int.reduceLE, Int.reduceToNat, Int.reduceNeg, Int.reducePow, Int.reduceAdd, Int.reduceMul, Int.reduceSub, ↓Int.reduceNatCast'] <;> rfl
  · have e : n.toNat = i := by omega
    rw [e]
    simp (disch := omega) only [push_cast, ↓wF_free, ↓reduceIte, Nat.reduceEqDiff, Nat.reduceLT, Nat.reduceLeDiff, Nat.reduceAdd, Nat.reduceSub, Nat.reduceMul, Nat.reduceBEq, Int.reduceLT, Int.reduceLE, Int.reduceToNat, Int.reduceNeg, Int.reducePow, Int.reduceAdd, Int.reduceMul, Int.reduceSub, ↓Int.reduceNatCast', h2]
theorem c_bpadded : Contract Tryd.prog GG 33 sp_bpadded :=
  contract_of tr_bisect_padded (tb_ok (all_cons c_mPad (all_cons c_mParent (all_cons c_mDepth all_nil))) all_nil) (fun a h => w_bpadded a.1 a.2 h)

noncomputable def sp_rpadded38 : List D → Option D := spOf (α := (Int × Dig) × Int) (fun a => [.agg (.int .i64 (Prod.fst a.1) :: digC (Prod.snd a.1)), .int .i64 a.2]) (fun a => 0 ≤ depthL a.1.1 ∧ depthL a.1.1 ≤ a.2 ∧ a.2 ≤ 60) (fun a => digD (padF a.1.1 a.1.2 a.2.toNat))
theorem call_rpadded38 (c : Int × Dig) (n : Int) (h : 0 ≤ depthL c.1 ∧ depthL c.1 ≤ n ∧ n ≤ 60) : sp_rpadded38 [.agg (.int .i64 (Prod.fst c) :: digC (Prod.snd c)), .int .i64 n] = some (digD (padF c.1 c.2 n.toNat)) :=
  spOf_enc (fun ⟨a0, a1⟩ ⟨b0, b1⟩ h => by simp only [List.cons.injEq, D.slc.injEq, D.int.injEq, D.bool.injEq, D.str.injEq, D.agg.injEq, digs_iff, dig_iff, digC_iff, bytes_iff, byte_iff, words_iff, word_iff, Sha.St8.list_iff, bsl_iff, true_and, and_true, bisD_iff] at h; simp [h, Prod.ext_iff]) (c, n) h
set_option maxHeartbeats 4000000 in
set_option maxRecDepth 20000 in
theorem w_rpadded38 (c : Int × Dig) (n : Int) (h : 0 ≤ depthL c.1 ∧ depthL c.1 ≤ n ∧ n ≤ 60) : @wW GG (tb [(38, sp_rParent), (56, sp_bpadding), (36, sp_rDepth)] []) F_wagonpoolref38_padded.code (argF [.agg (.int .i64 (Prod.fst c) :: digC (Prod.snd c)), .int .i64 n]) [] ⟨retQ F_wagonpoolref38_padded.res (digD (padF c.1 c.2 n.toNat))⟩ := by
  obtain ⟨s, root⟩ := c
  dsimp only at h ⊢
  obtain ⟨h0, h0', h1⟩ := h
  unfold F_wagonpoolref38_padded
  simp (disch := omega) only [push_cast, ↓wF_free, ↓reduceIte, Nat.reduceEqDiff, Nat.reduceLT, Nat.reduceLeDiff, Nat.reduceAdd, Nat.reduceSub, Nat.reduceMul, Nat.reduceBEq, Int.reduceLT, Int.reduceLE, Int.reduceToNat, Int.reduceNeg, Int.reducePow, Int.reduceAdd, Int.reduceMul, Int.reduceSub, ↓Int.reduceNatCast', box_commit, ldO_one, ldO_succ, call_rDepth]
  refine W_while (fun i : Nat => [(1, .int .i64 n), (4, .ptr 1 0), (5, .ptr 2 0), (6, .int .i64 (depthL s + (i : Int)))]) (fun i => [⟨false, 1, .int .i64 s :: digC root, false⟩, ⟨false, 1, digC zeroDig, false⟩, ⟨false, 1, digC (padF s root ((depthL s).toNat + i)), false⟩]) (fun i => depthL s + (i : Int) ≤ n) (fun i => (n - depthL s - i).toNat) 0 ?_ (by omega) ?_
  · rw [padF_low s root _ (by omega)]
    simp only [push_cast, ↓wF_free, ↓reduceIte, Nat.reduceEqDiff, Nat.reduceLT, Nat.reduceLeDiff, Nat.reduceAdd, Nat.reduceSub, Nat.reduceMul, Nat.reduceBEq, Int.reduceLT, Int.reduceLE, Int.reduceToNat, Int.reduceNeg, Int.reducePow, Int.reduceAdd, Int.reduceMul, Int.reduceSub, ↓Int.reduceNatCast', Int.natCast_zero, Int.add_zero] <;> rfl
  intro i hi
  unfold F_wagonpoolref38_padded_L0
  simp (disch := omega) only [push_cast, ↓wF_free, ↓reduceIte, Nat.reduceEqDiff, Nat.reduceLT, Nat.reduceLeDiff, Nat.reduceAdd, Nat.reduceSub, Nat.reduceMul, Nat.reduceBEq, Int.reduceLT, Int.reduceLE, Int.reduceToNat, Int.reduceNeg, Int.reducePow, Int.reduceAdd, Int.reduceMul, Int.reduceSub, ↓Int.reduceNatCast']
  refine ifD_split (fun h2 => ?_) (fun h2 => ?_)
  · have c1 := call_bpadding (depthL s + (i : Int)) (by omega)
    have e1 : (depthL s + (i : Int)).toNat = (depthL s).toNat + i := by omega
    rw [e1] at c1
    simp (disch := first | omega | decide) only [push_cast, ↓wF_free, ↓reduceIte, Nat.reduceEqDiff, Nat.reduceLT, Nat.reduceLeDiff, Nat.reduceAdd, Nat.reduceSub, Nat.reduceMul, Nat.reduceBEq, Int.reduceLT, Int.reduceLE, Int.reduceToNat, Int.reduceNeg, Int.reducePow, Int.reduceAdd, Int.reduceMul, Int.reduceSub, ↓Int.reduceNatCast', c1, call_rParent, add_i, h2]
    refine next_head (i + 1) (by omega) (by omega) ?_
    rw [show (depthL s).toNat + (i + 1) = ((depthL s).toNat + i) + 1 by omega, show padF s root ((depthL s).toNat + i + 1) = parentL (padF s root ((depthL s).toNat + i)) (padN ((depthL s).toNat + i)) from if_pos (by omega), show depthL s + ((i + 1 : Nat) : Int) = depthL s + (i : Int) + 1 by omega]
  · have e : (depthL s).toNat + i = n.toNat := by omega
    rw [e]
    simp (disch := omega) only [push_cast, ↓wF_free, ↓reduceIte, Nat.reduceEqDiff, Nat.reduceLT, Nat.reduceLeDiff, Nat.reduceAdd, Nat.reduceSub, Nat.reduceMul, Nat.reduceBEq, Int.reduceLT, Int.reduceLE, Int.reduceToNat, Int.reduceNeg, Int.reducePow, Int.reduceAdd, Int.reduceMul, Int.reduceSub, ↓Int.reduceNatCast', h2]
theorem c_rpadded38 : Contract Tryd.prog GG 47 sp_rpadded38 :=
  contract_of tr_wagonpoolref38_padded (tb_ok (all_cons c_rParent (all_cons c_bpadding (all_cons c_rDepth all_nil))) all_nil) (fun a h => w_rpadded38 a.1 a.2 h)
end Go.Proofs.YtokhnpjchpmndaaDoor.PI
