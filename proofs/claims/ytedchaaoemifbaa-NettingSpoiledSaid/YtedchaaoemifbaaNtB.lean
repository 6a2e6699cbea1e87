/-
  netting: sums, of the program and of the reference; validity; comparison.
  Conditions: none; these are lemmas.
-/
import Derived.Test.YtedchaaoemifbaaNtA
namespace Go.Proofs.Ytedchaaoemifbaa.PI
open Go
set_option linter.unusedSimpArgs false
set_option linter.unusedVariables false

theorem sumE_bad {l : List Int} {i : Nat} (h : i < l.length) (hb : ¬ inR (at' l i)) : sumE l = (0, 3) := by
  unfold sumE
  rw [if_neg]
  simp only [Bool.and_eq_true, not_and]
  intro h1
  rw [List.all_eq_true] at h1
  exact absurd (of_decide_eq_true (h1 _ (at_mem h))) hb
theorem sumE_all {l : List Int} (h : ∀ j, j < l.length → inR (at' l j)) : sumE l = rgL (sumI l) := by
  have e : (l.all fun x => decide (inR x)) = true := by
    rw [List.all_eq_true]
    intro v hv
    obtain ⟨j, hj, rfl⟩ := mem_at hv
    exact decide_eq_true (h j hj)
  unfold sumE rgL
  rw [e]
  by_cases h2 : inR (sumI l) <;> simp [h2]
theorem sum_pre {l : List Int} {i : Nat} (h : ∀ j, j < i → inR (at' l j)) (hi : i ≤ l.length) : -(9007199254740992 * (i : Int)) ≤ sumI (l.take i) ∧ sumI (l.take i) ≤ 9007199254740992 * (i : Int) := by
  have := sum_bound (l.take i) (fun v hv => by
    obtain ⟨j, hj, rfl⟩ := mem_at hv
    have hj2 : j < i := by rw [List.length_take] at hj; omega
    have : at' (l.take i) j = at' l j := by unfold at'; simp [List.getD_eq_getElem?_getD, List.getElem?_take, hj2]
    rw [this]; exact h j hj2)
  rw [List.length_take, Nat.min_eq_left hi] at this
  exact this
set_option maxHeartbeats 4000000 in
noncomputable def sp_msum : List D → Option D := spOf (α := List Int) (fun a => [.slc (nz 1 (a.map nI)) (a.map nI) false]) (fun a => a.length ≤ 9223372036854775807) (fun a => .tup [.int .i64 (sumE a).1, .int .i64 (sumE a).2])
theorem call_msum (l : List Int) (h : l.length ≤ 9223372036854775807) : sp_msum [.slc (nz 1 (l.map nI)) (l.map nI) false] = some (.tup [.int .i64 (sumE l).1, .int .i64 (sumE l).2]) :=
  spOf_enc (fun a b h => by simp only [List.cons.injEq, D.slc.injEq, D.int.injEq, D.bool.injEq, D.str.injEq, D.agg.injEq, digs_iff, dig_iff, digC_iff, bytes_iff, byte_iff, words_iff, word_iff, bsl_iff, true_and, and_true, ints_iff, pays_iff, nI_iff, payD_iff, Int.ofNat_inj] at h; simp [h, Prod.ext_iff]) (l) h
theorem w_msum (l : List Int) (h : l.length ≤ 9223372036854775807) : @wW GG (tb [(26, sp_minn), (28, sp_mranged), (27 + 50000000, sp_add64)] []) F_money_Sum.code (argF [.slc (nz 1 (l.map nI)) (l.map nI) false]) [] ⟨retQ F_money_Sum.res (.tup [.int .i64 (sumE l).1, .int .i64 (sumE l).2])⟩ := by
  unfold F_money_Sum
  simp (disch := first | omega | decide) only [push_cast, ↓wF_free, ↓reduceIte, Nat.reduceEqDiff, Nat.reduceLT, Nat.reduceLeDiff, Nat.reduceAdd, Nat.reduceSub, Nat.reduceMul, Nat.reduceBEq, Int.reduceLT, Int.reduceLE, Int.reduceToNat, Int.reduceNeg, Int.reducePow, Int.reduceAdd, Int.reduceMul, Int.reduceSub, ↓Int.reduceNatCast']
  refine W_while (fun i : Nat => [(4, .int .u64 ((sumI (l.take i) / 18446744073709551616) % 18446744073709551616)), (5, .int .u64 (sumI (l.take i) % 18446744073709551616)), (10, .slc (nz 1 (l.map nI)) (l.map nI) false), (11, .int .i64 (l.length : Int)), (12, .int .i64 (i : Int))]) (fun i => []) (fun i => i ≤ l.length ∧ ∀ j, j < i → inR (at' l j)) (fun i => l.length - i) 0 (by simp only [push_cast, ↓wF_free, ↓reduceIte, Nat.reduceEqDiff, Nat.reduceLT, Nat.reduceLeDiff, Nat.reduceAdd, Nat.reduceSub, Nat.reduceMul, Nat.reduceBEq, Int.reduceLT, Int.reduceLE, Int.reduceToNat, Int.reduceNeg, Int.reducePow, Int.reduceAdd, Int.reduceMul, Int.reduceSub, ↓Int.reduceNatCast'] <;> rfl) ⟨Nat.zero_le _, fun j hj => by omega⟩ ?_
  rintro i ⟨hi, hp⟩
  obtain ⟨b1, b2⟩ := sum_pre hp hi
  unfold F_money_Sum_L0
  simp (disch := first | omega | decide) only [push_cast, ↓wF_free, ↓reduceIte, Nat.reduceEqDiff, Nat.reduceLT, Nat.reduceLeDiff, Nat.reduceAdd, Nat.reduceSub, Nat.reduceMul, Nat.reduceBEq, Int.reduceLT, Int.reduceLE, Int.reduceToNat, Int.reduceNeg, Int.reducePow, Int.reduceAdd, Int.reduceMul, Int.reduceSub, ↓Int.reduceNatCast']
  refine ifD_split (fun h2 => ?_) (fun h2 => ?_)
  · have hb := sumE_bad (l := l) (i := i) (by omega)
    have hst := sum_take l i (by omega)
    simp (disch := first | omega | decide) only [push_cast, ↓wF_free, ↓reduceIte, Nat.reduceEqDiff, Nat.reduceLT, Nat.reduceLeDiff, Nat.reduceAdd, Nat.reduceSub, Nat.reduceMul, Nat.reduceBEq, Int.reduceLT, Int.reduceLE, Int.reduceToNat, Int.reduceNeg, Int.reducePow, Int.reduceAdd, Int.reduceMul, Int.reduceSub, ↓Int.reduceNatCast', idxS_nz]
    unfold at' at hb hst
    generalize hx : l.getD i default = x at *
    by_cases h3 : inR x
    · have hg : ∀ j, j < i + 1 → inR (at' l j) := fun j hj => by
        rcases Nat.lt_or_ge j i with h1 | h1
        · exact hp j h1
        · obtain rfl : j = i := by omega
          unfold at'; rw [hx]; exact h3
      have h3' := h3
      unfold inR at h3'
      have ca := call_add64 (sumI (l.take i) % 18446744073709551616) (x % 18446744073709551616) ⟨by omega, by omega⟩
      simp (disch := first | omega | decide) only [push_cast, ↓wF_free, ↓reduceIte, Nat.reduceEqDiff, Nat.reduceLT, Nat.reduceLeDiff, Nat.reduceAdd, Nat.reduceSub, Nat.reduceMul, Nat.reduceBEq, Int.reduceLT, Int.reduceLE, Int.reduceToNat, Int.reduceNeg, Int.reducePow, Int.reduceAdd, Int.reduceMul, Int.reduceSub, ↓Int.reduceNatCast', call_in1, h3, conv_wU, ca, shr63, add_uw, add_i]
      refine next_head (i + 1) (by exact ⟨by omega, hg⟩) (by omega) ?_
      rw [hst]
      have e1 : (sumI (l.take i) % 18446744073709551616 + x % 18446744073709551616) % 18446744073709551616 = (sumI (l.take i) + x) % 18446744073709551616 := by omega
      have e2 : (sumI (l.take i) / 18446744073709551616 % 18446744073709551616 + ((sumI (l.take i) % 18446744073709551616 + x % 18446744073709551616) / 18446744073709551616 + x / 9223372036854775808 % 18446744073709551616) % 18446744073709551616) % 18446744073709551616 = (sumI (l.take i) + x) / 18446744073709551616 % 18446744073709551616 := by
        generalize sumI (l.take i) = S
        have k1 : x / 9223372036854775808 = x / 18446744073709551616 := by omega
        have k2 : (S + x) / 18446744073709551616 = S / 18446744073709551616 + (S % 18446744073709551616 + x % 18446744073709551616) / 18446744073709551616 + x / 18446744073709551616 := by omega
        rw [k1, k2]
        generalize S / 18446744073709551616 = A
        generalize (S % 18446744073709551616 + x % 18446744073709551616) / 18446744073709551616 = c
        generalize x / 18446744073709551616 = y
        omega
      rw [e1, e2]
      simp only [push_cast, ↓wF_free, ↓reduceIte, Nat.reduceEqDiff, Nat.reduceLT, Nat.reduceLeDiff, Nat.reduceAdd, Nat.reduceSub, Nat.reduceMul, Nat.reduceBEq, Int.reduceLT, Int.reduceLE, Int.reduceToNat, Int.reduceNeg, Int.reducePow, Int.reduceAdd, Int.reduceMul, Int.reduceSub, ↓Int.reduceNatCast'] <;> rfl
    · have e := hb h3
      simp (disch := first | omega | decide) only [push_cast, ↓wF_free, ↓reduceIte, Nat.reduceEqDiff, Nat.reduceLT, Nat.reduceLeDiff, Nat.reduceAdd, Nat.reduceSub, Nat.reduceMul, Nat.reduceBEq, Int.reduceLT, Int.reduceLE, Int.reduceToNat, Int.reduceNeg, Int.reducePow, Int.reduceAdd, Int.reduceMul, Int.reduceSub, ↓Int.reduceNatCast', call_in1, h3, e]
  · obtain rfl : i = l.length := by omega
    rw [List.take_length] at *
    have hs := sumE_all hp
    generalize sumI l = S at *
    simp (disch := first | omega | decide) only [push_cast, ↓wF_free, ↓reduceIte, Nat.reduceEqDiff, Nat.reduceLT, Nat.reduceLeDiff, Nat.reduceAdd, Nat.reduceSub, Nat.reduceMul, Nat.reduceBEq, Int.reduceLT, Int.reduceLE, Int.reduceToNat, Int.reduceNeg, Int.reducePow, Int.reduceAdd, Int.reduceMul, Int.reduceSub, ↓Int.reduceNatCast', conv_uI, wrapI, shr63, conv_wU]
    have hm : S % 18446744073709551616 % 18446744073709551616 = S % 18446744073709551616 := by omega
    rw [hm]
    by_cases hS : -9223372036854775808 ≤ S ∧ S < 9223372036854775808
    · have e1 : (if S % 18446744073709551616 < 9223372036854775808 then S % 18446744073709551616 else S % 18446744073709551616 - 18446744073709551616) = S := by split <;> omega
      have e2 : S / 18446744073709551616 % 18446744073709551616 = S / 9223372036854775808 % 18446744073709551616 := by omega
      simp (disch := first | omega | decide) only [push_cast, ↓wF_free, ↓reduceIte, Nat.reduceEqDiff, Nat.reduceLT, Nat.reduceLeDiff, Nat.reduceAdd, Nat.reduceSub, Nat.reduceMul, Nat.reduceBEq, Int.reduceLT, Int.reduceLE, Int.reduceToNat, Int.reduceNeg, Int.reducePow, Int.reduceAdd, Int.reduceMul, Int.reduceSub, ↓Int.reduceNatCast', e1, e2, call_mranged, hs]
    · have e0 : sumE l = (0, 3) := by rw [hs]; unfold rgL; rw [if_neg (by unfold inR; omega)]
      generalize hv : (if S % 18446744073709551616 < 9223372036854775808 then S % 18446744073709551616 else S % 18446744073709551616 - 18446744073709551616) = v
      have e2 : ¬ (S / 18446744073709551616 % 18446744073709551616 = v / 9223372036854775808 % 18446744073709551616) := by
        split at hv <;> omega
      simp (disch := first | omega | decide) only [push_cast, ↓wF_free, ↓reduceIte, Nat.reduceEqDiff, Nat.reduceLT, Nat.reduceLeDiff, Nat.reduceAdd, Nat.reduceSub, Nat.reduceMul, Nat.reduceBEq, Int.reduceLT, Int.reduceLE, Int.reduceToNat, Int.reduceNeg, Int.reducePow, Int.reduceAdd, Int.reduceMul, Int.reduceSub, ↓Int.reduceNatCast', e2, e0]
theorem c_msum : Contract Try.prog GG 11 sp_msum :=
  contract_of tr_money_Sum (tb_okE (all_cons (.inl ⟨by decide, c_minn⟩) (all_cons (.inl ⟨by decide, c_mranged⟩) (all_cons (.inr ⟨_, rfl, xc_add64⟩) all_nil))) all_nil) (fun a h => w_msum a h)

noncomputable def sp_rvalid : List D → Option D := spOf (α := List Int) (fun a => [.slc (nz 1 (a.map nI)) (a.map nI) false]) (fun a => True) (fun a => .int .i64 (chkE a))
theorem call_rvalid (b : List Int) : sp_rvalid [.slc (nz 1 (b.map nI)) (b.map nI) false] = some (.int .i64 (chkE b)) :=
  spOf_enc (fun a b h => by simp only [List.cons.injEq, D.slc.injEq, D.int.injEq, D.bool.injEq, D.str.injEq, D.agg.injEq, digs_iff, dig_iff, digC_iff, bytes_iff, byte_iff, words_iff, word_iff, bsl_iff, true_and, and_true, ints_iff, pays_iff, nI_iff, payD_iff, Int.ofNat_inj] at h; simp [h, Prod.ext_iff]) (b) trivial
set_option maxHeartbeats 4000000 in
set_option maxRecDepth 20000 in
theorem w_rvalid (b : List Int) : @wW GG (tb [(14, sp_rin)] []) F_wagonpoolref34_Valid.code (argF [.slc (nz 1 (b.map nI)) (b.map nI) false]) [] ⟨retQ F_wagonpoolref34_Valid.res (.int .i64 (chkE b))⟩ := by
  unfold F_wagonpoolref34_Valid
  by_cases h0 : 336 < b.length
  · have h0' : (336 : Int) < (b.length : Int) := by omega
    have e : chkE b = 2 := by unfold chkE; rw [if_pos h0]
    simp (disch := first | omega | decide) only [push_cast, ↓wF_free, ↓reduceIte, Nat.reduceEqDiff, Nat.reduceLT, Nat.reduceLeDiff, Nat.reduceAdd, Nat.reduceSub, Nat.reduceMul, Nat.reduceBEq, Int.reduceLT, Int.reduceLE, Int.reduceToNat, Int.reduceNeg, Int.reducePow, Int.reduceAdd, Int.reduceMul, Int.reduceSub, ↓Int.reduceNatCast', h0', e]
  · have h0' : ¬ (336 : Int) < (b.length : Int) := by omega
    simp (disch := first | omega | decide) only [push_cast, ↓wF_free, ↓reduceIte, Nat.reduceEqDiff, Nat.reduceLT, Nat.reduceLeDiff, Nat.reduceAdd, Nat.reduceSub, Nat.reduceMul, Nat.reduceBEq, Int.reduceLT, Int.reduceLE, Int.reduceToNat, Int.reduceNeg, Int.reducePow, Int.reduceAdd, Int.reduceMul, Int.reduceSub, ↓Int.reduceNatCast', h0']
    refine W_while (fun i : Nat => [(0, .slc (nz 1 (b.map nI)) (b.map nI) false), (3, .int .i64 (i : Int))]) (fun i => []) (fun i => i ≤ b.length ∧ ∀ j, j < i → inR (at' b j)) (fun i => b.length - i) 0 (by simp only [push_cast, ↓wF_free, ↓reduceIte, Nat.reduceEqDiff, Nat.reduceLT, Nat.reduceLeDiff, Nat.reduceAdd, Nat.reduceSub, Nat.reduceMul, Nat.reduceBEq, Int.reduceLT, Int.reduceLE, Int.reduceToNat, Int.reduceNeg, Int.reducePow, Int.reduceAdd, Int.reduceMul, Int.reduceSub, ↓Int.reduceNatCast'] <;> rfl) ⟨Nat.zero_le _, fun j hj => by omega⟩ ?_
    rintro i ⟨hi, hp⟩
    unfold F_wagonpoolref34_Valid_L0
    simp (disch := first | omega | decide) only [push_cast, ↓wF_free, ↓reduceIte, Nat.reduceEqDiff, Nat.reduceLT, Nat.reduceLeDiff, Nat.reduceAdd, Nat.reduceSub, Nat.reduceMul, Nat.reduceBEq, Int.reduceLT, Int.reduceLE, Int.reduceToNat, Int.reduceNeg, Int.reducePow, Int.reduceAdd, Int.reduceMul, Int.reduceSub, ↓Int.reduceNatCast']
    refine ifD_split (fun h2 => ?_) (fun h2 => ?_)
    · have hm := at_mem (x := b) (i := i) (by omega)
      simp (disch := first | omega | decide) only [push_cast, ↓wF_free, ↓reduceIte, Nat.reduceEqDiff, Nat.reduceLT, Nat.reduceLeDiff, Nat.reduceAdd, Nat.reduceSub, Nat.reduceMul, Nat.reduceBEq, Int.reduceLT, Int.reduceLE, Int.reduceToNat, Int.reduceNeg, Int.reducePow, Int.reduceAdd, Int.reduceMul, Int.reduceSub, ↓Int.reduceNatCast', idxS_nz, call_rin]
      by_cases h3 : inR (b.getD i default)
      · have hg : ∀ j, j < i + 1 → inR (at' b j) := fun j hj => by
          rcases Nat.lt_or_ge j i with h1 | h1
          · exact hp j h1
          · obtain rfl : j = i := by omega
            exact h3
        simp (disch := first | omega | decide) only [push_cast, ↓wF_free, ↓reduceIte, Nat.reduceEqDiff, Nat.reduceLT, Nat.reduceLeDiff, Nat.reduceAdd, Nat.reduceSub, Nat.reduceMul, Nat.reduceBEq, Int.reduceLT, Int.reduceLE, Int.reduceToNat, Int.reduceNeg, Int.reducePow, Int.reduceAdd, Int.reduceMul, Int.reduceSub, ↓Int.reduceNatCast', h3, add_i]
        refine next_head (i + 1) (by exact ⟨by omega, hg⟩) (by omega) ?_
        simp only [push_cast, ↓wF_free, ↓reduceIte, Nat.reduceEqDiff, Nat.reduceLT, Nat.reduceLeDiff, Nat.reduceAdd, Nat.reduceSub, Nat.reduceMul, Nat.reduceBEq, Int.reduceLT, Int.reduceLE, Int.reduceToNat, Int.reduceNeg, Int.reducePow, Int.reduceAdd, Int.reduceMul, Int.reduceSub, ↓Int.reduceNatCast'] <;> rfl
      · have e : chkE b = 3 := by
          unfold chkE
          rw [if_neg h0, if_pos]
          rw [List.any_eq_true]
          exact ⟨_, hm, decide_eq_true h3⟩
        simp (disch := first | omega | decide) only [push_cast, ↓wF_free, ↓reduceIte, Nat.reduceEqDiff, Nat.reduceLT, Nat.reduceLeDiff, Nat.reduceAdd, Nat.reduceSub, Nat.reduceMul, Nat.reduceBEq, Int.reduceLT, Int.reduceLE, Int.reduceToNat, Int.reduceNeg, Int.reducePow, Int.reduceAdd, Int.reduceMul, Int.reduceSub, ↓Int.reduceNatCast', h3, e]
    · obtain rfl : i = b.length := by omega
      have e : chkE b = 0 := chkE_of (by omega) (fun v hv => by
        obtain ⟨j, hj, rfl⟩ := mem_at hv
        exact hp j hj)
      simp (disch := first | omega | decide) only [push_cast, ↓wF_free, ↓reduceIte, Nat.reduceEqDiff, Nat.reduceLT, Nat.reduceLeDiff, Nat.reduceAdd, Nat.reduceSub, Nat.reduceMul, Nat.reduceBEq, Int.reduceLT, Int.reduceLE, Int.reduceToNat, Int.reduceNeg, Int.reducePow, Int.reduceAdd, Int.reduceMul, Int.reduceSub, ↓Int.reduceNatCast', e]
theorem c_rvalid : Contract Try.prog GG 34 sp_rvalid :=
  contract_of tr_wagonpoolref34_Valid (tb_ok (all_cons c_rin all_nil) all_nil) (fun a h => w_rvalid a)

noncomputable def sp_isame : List D → Option D := spOf (α := List Int × List Int) (fun a => [.slc (nz 1 (a.1.map nI)) (a.1.map nI) false, .slc (nz 1 (a.2.map nI)) (a.2.map nI) false]) (fun a => a.1.length ≤ 9223372036854775807) (fun a => .bool (decide (a.1 = a.2)))
theorem call_isame (a : List Int) (b : List Int) (h : a.length ≤ 9223372036854775807) : sp_isame [.slc (nz 1 (a.map nI)) (a.map nI) false, .slc (nz 1 (b.map nI)) (b.map nI) false] = some (.bool (decide (a = b))) :=
  spOf_enc (fun ⟨a0, a1⟩ ⟨b0, b1⟩ h => by simp only [List.cons.injEq, D.slc.injEq, D.int.injEq, D.bool.injEq, D.str.injEq, D.agg.injEq, digs_iff, dig_iff, digC_iff, bytes_iff, byte_iff, words_iff, word_iff, bsl_iff, true_and, and_true, ints_iff, pays_iff, nI_iff, payD_iff, Int.ofNat_inj] at h; simp [h, Prod.ext_iff]) (a, b) h
set_option maxHeartbeats 4000000 in
set_option maxRecDepth 20000 in
theorem w_isame (a : List Int) (b : List Int) (h : a.length ≤ 9223372036854775807) : @wW GG (tb [] []) F_wagonpoolref07_Same.code (argF [.slc (nz 1 (a.map nI)) (a.map nI) false, .slc (nz 1 (b.map nI)) (b.map nI) false]) [] ⟨retQ F_wagonpoolref07_Same.res (.bool (decide (a = b)))⟩ := by
  unfold F_wagonpoolref07_Same
  by_cases e1 : (a.length : Int) = (b.length : Int)
  · simp (disch := first | omega | decide) only [push_cast, ↓wF_free, ↓reduceIte, Nat.reduceEqDiff, Nat.reduceLT, Nat.reduceLeDiff, Nat.reduceAdd, Nat.reduceSub, Nat.reduceMul, Nat.reduceBEq, Int.reduceLT, Int.reduceLE, Int.reduceToNat, Int.reduceNeg, Int.reducePow, Int.reduceAdd, Int.reduceMul, Int.reduceSub, ↓Int.reduceNatCast', e1]
    refine W_while (fun i : Nat => [(0, .slc (nz 1 (a.map nI)) (a.map nI) false), (1, .slc (nz 1 (b.map nI)) (b.map nI) false), (5, .int .i64 (i : Int))]) (fun i => []) (fun i => i ≤ a.length ∧ ∀ j, j < i → at' a j = at' b j) (fun i => a.length - i) 0 (by simp only [push_cast, ↓wF_free, ↓reduceIte, Nat.reduceEqDiff, Nat.reduceLT, Nat.reduceLeDiff, Nat.reduceAdd, Nat.reduceSub, Nat.reduceMul, Nat.reduceBEq, Int.reduceLT, Int.reduceLE, Int.reduceToNat, Int.reduceNeg, Int.reducePow, Int.reduceAdd, Int.reduceMul, Int.reduceSub, ↓Int.reduceNatCast'] <;> rfl) ⟨Nat.zero_le _, fun j hj => by omega⟩ ?_
    rintro i ⟨hi, hp⟩
    unfold F_wagonpoolref07_Same_L0
    simp (disch := first | omega | decide) only [push_cast, ↓wF_free, ↓reduceIte, Nat.reduceEqDiff, Nat.reduceLT, Nat.reduceLeDiff, Nat.reduceAdd, Nat.reduceSub, Nat.reduceMul, Nat.reduceBEq, Int.reduceLT, Int.reduceLE, Int.reduceToNat, Int.reduceNeg, Int.reducePow, Int.reduceAdd, Int.reduceMul, Int.reduceSub, ↓Int.reduceNatCast']
    refine ifD_split (fun h2 => ?_) (fun h2 => ?_)
    · simp (disch := first | omega | decide) only [push_cast, ↓wF_free, ↓reduceIte, Nat.reduceEqDiff, Nat.reduceLT, Nat.reduceLeDiff, Nat.reduceAdd, Nat.reduceSub, Nat.reduceMul, Nat.reduceBEq, Int.reduceLT, Int.reduceLE, Int.reduceToNat, Int.reduceNeg, Int.reducePow, Int.reduceAdd, Int.reduceMul, Int.reduceSub, ↓Int.reduceNatCast', idxS_nz]
      by_cases e2 : a.getD i default = b.getD i default
      · have hg : ∀ j, j < i + 1 → at' a j = at' b j := fun j hj => by
          rcases Nat.lt_or_ge j i with h1 | h1
          · exact hp j h1
          · obtain rfl : j = i := by omega
            exact e2
        simp (disch := first | omega | decide) only [push_cast, ↓wF_free, ↓reduceIte, Nat.reduceEqDiff, Nat.reduceLT, Nat.reduceLeDiff, Nat.reduceAdd, Nat.reduceSub, Nat.reduceMul, Nat.reduceBEq, Int.reduceLT, Int.reduceLE, Int.reduceToNat, Int.reduceNeg, Int.reducePow, Int.reduceAdd, Int.reduceMul, Int.reduceSub, ↓Int.reduceNatCast', e2, add_i]
        refine next_head (i + 1) (by exact ⟨by omega, hg⟩) (by omega) ?_
        simp only [push_cast, ↓wF_free, ↓reduceIte, Nat.reduceEqDiff, Nat.reduceLT, Nat.reduceLeDiff, Nat.reduceAdd, Nat.reduceSub, Nat.reduceMul, Nat.reduceBEq, Int.reduceLT, Int.reduceLE, Int.reduceToNat, Int.reduceNeg, Int.reducePow, Int.reduceAdd, Int.reduceMul, Int.reduceSub, ↓Int.reduceNatCast'] <;> rfl
      · have e : decide (a = b) = false := by
          apply decide_eq_false
          intro h
          rw [h] at e2
          exact e2 rfl
        simp (disch := first | omega | decide) only [push_cast, ↓wF_free, ↓reduceIte, Nat.reduceEqDiff, Nat.reduceLT, Nat.reduceLeDiff, Nat.reduceAdd, Nat.reduceSub, Nat.reduceMul, Nat.reduceBEq, Int.reduceLT, Int.reduceLE, Int.reduceToNat, Int.reduceNeg, Int.reducePow, Int.reduceAdd, Int.reduceMul, Int.reduceSub, ↓Int.reduceNatCast', e2, e]
    · obtain rfl : i = a.length := by omega
      have e : decide (a = b) = true := decide_eq_true (ext_at (by omega) hp)
      simp (disch := first | omega | decide) only [push_cast, ↓wF_free, ↓reduceIte, Nat.reduceEqDiff, Nat.reduceLT, Nat.reduceLeDiff, Nat.reduceAdd, Nat.reduceSub, Nat.reduceMul, Nat.reduceBEq, Int.reduceLT, Int.reduceLE, Int.reduceToNat, Int.reduceNeg, Int.reducePow, Int.reduceAdd, Int.reduceMul, Int.reduceSub, ↓Int.reduceNatCast', e]
  · have e : decide (a = b) = false := by
      apply decide_eq_false
      intro h
      rw [h] at e1
      exact e1 rfl
    simp (disch := first | omega | decide) only [push_cast, ↓wF_free, ↓reduceIte, Nat.reduceEqDiff, Nat.reduceLT, Nat.reduceLeDiff, Nat.reduceAdd, Nat.reduceSub, Nat.reduceMul, Nat.reduceBEq, Int.reduceLT, Int.reduceLE, Int.reduceToNat, Int.reduceNeg, Int.reducePow, Int.reduceAdd, Int.reduceMul, Int.reduceSub, ↓Int.reduceNatCast', e1, e]
theorem c_isame : Contract Try.prog GG 12 sp_isame :=
  contract_of tr_wagonpoolref07_Same (tb_ok all_nil all_nil) (fun a h => w_isame a.1 a.2 h)
end Go.Proofs.Ytedchaaoemifbaa.PI
