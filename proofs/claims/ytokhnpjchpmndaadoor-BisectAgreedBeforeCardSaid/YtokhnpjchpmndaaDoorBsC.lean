/-
  bisect: Disclose of the reference; Done and Answer; rounds.
  Conditions: none; these are lemmas.
-/
import Derived.Test.YtokhnpjchpmndaaDoorBsB
namespace Go.Proofs.YtokhnpjchpmndaaDoor.PI
open Go
set_option linter.unusedSimpArgs false
set_option linter.unusedVariables false

noncomputable def sp_rDisc : List D → Option D := spOf (α := Bis × Int × Dig × Dig) (fun a => [bisD a.1, .int .i64 a.2.1, digD a.2.2.1, digD a.2.2.2]) (fun a => -9223372036854775808 ≤ a.2.1 ∧ a.2.1 < 9223372036854775808) (fun a => .tup [bisD (discL a.1 a.2.1 a.2.2.1 a.2.2.2), .int .i64 (discE a.1 a.2.1 a.2.2.1 a.2.2.2)])
theorem call_rDisc (x : Bis) (p : Int) (l : Dig) (r : Dig) (h : -9223372036854775808 ≤ p ∧ p < 9223372036854775808) : sp_rDisc [bisD x, .int .i64 p, digD l, digD r] = some (.tup [bisD (discL x p l r), .int .i64 (discE x p l r)]) :=
  spOf_enc (fun ⟨a0, a1, a2, a3⟩ ⟨b0, b1, b2, b3⟩ h => by simp only [List.cons.injEq, D.slc.injEq, D.int.injEq, D.bool.injEq, D.str.injEq, D.agg.injEq, digs_iff, dig_iff, digC_iff, bytes_iff, byte_iff, words_iff, word_iff, Sha.St8.list_iff, bsl_iff, true_and, and_true, bisD_iff] at h; simp [h, Prod.ext_iff]) (x, p, l, r) h
set_option maxHeartbeats 4000000 in
set_option maxRecDepth 20000 in
theorem w_rDisc (x : Bis) (p : Int) (l : Dig) (r : Dig) (h : -9223372036854775808 ≤ p ∧ p < 9223372036854775808) : @wW GG (tb [(42, sp_rvalid), (38, sp_rParent)] []) F_wagonpoolref38_Disclose.code (argF [bisD x, .int .i64 p, digD l, digD r]) [] ⟨retQ F_wagonpoolref38_Disclose.res (.tup [bisD (discL x p l r), .int .i64 (discE x p l r)])⟩ := by
  unfold F_wagonpoolref38_Disclose
  by_cases hv : bvalid x = true
  · have cv := call_rvalid x
    rw [hv] at cv
    by_cases hp : p = 0 ∨ p = 1
    · obtain ⟨v1, v2, v3, v4, v5, v6, v7⟩ := bvalid_spec hv
      have v8 := i_bound hv
      rcases hp with rfl | rfl
      · have q1 : ¬ (1 : Int) = 0 := by decide
        by_cases h1 : x.l = 0
        · have e1 : discL x 0 l r = zeroBis := by unfold discL; rw [if_pos ⟨hv, .inl rfl⟩, if_pos (.inl h1)]
          have e2 : discE x 0 l r = 380 := by unfold discE; rw [if_pos ⟨hv, .inl rfl⟩, if_pos (.inl h1)]
          rw [e1, e2]
          simp (disch := first | omega | decide) only [push_cast, ↓wF_free, ↓reduceIte, Nat.reduceEqDiff, Nat.reduceLT, Nat.reduceLeDiff, Nat.reduceAdd, Nat.reduceSub, Nat.reduceMul, Nat.reduceBEq, Int.reduceLT, Int.reduceLE, Int.reduceToNat, Int.reduceNeg, Int.reducePow, Int.reduceAdd, Int.reduceMul, Int.reduceSub, ↓Int.reduceNatCast', cv, h1, idxA_pp, fill_nil]
        by_cases h2 : x.t0 = true
        · have e1 : discL x 0 l r = zeroBis := by unfold discL; rw [if_pos ⟨hv, .inl rfl⟩, if_pos (.inr h2)]
          have e2 : discE x 0 l r = 380 := by unfold discE; rw [if_pos ⟨hv, .inl rfl⟩, if_pos (.inr h2)]
          rw [e1, e2]
          simp (disch := first | omega | decide) only [push_cast, ↓wF_free, ↓reduceIte, Nat.reduceEqDiff, Nat.reduceLT, Nat.reduceLeDiff, Nat.reduceAdd, Nat.reduceSub, Nat.reduceMul, Nat.reduceBEq, Int.reduceLT, Int.reduceLE, Int.reduceToNat, Int.reduceNeg, Int.reducePow, Int.reduceAdd, Int.reduceMul, Int.reduceSub, ↓Int.reduceNatCast', cv, h1, h2, idxA_pp, fill_nil]
        have h2' : x.t0 = false := by simpa using h2
        by_cases h3 : parentL l r = x.n0
        · by_cases h4 : x.t1 = true
          · have e1 : discL x 0 l r = stepB (setB x 0 l r) := by unfold discL; rw [if_pos ⟨hv, .inl rfl⟩, if_neg (by intro h; rcases h with h | h; exact h1 h; exact h2 h), if_pos (show parentL l r = nodeB x 0 from h3)]; exact if_pos h4
            have e2 : discE x 0 l r = 0 := by unfold discE; rw [if_pos ⟨hv, .inl rfl⟩, if_neg (by intro h; rcases h with h | h; exact h1 h; exact h2 h)]; exact if_pos h3
            rw [e1, e2, show setB x 0 l r = { x with t0 := true, l0 := l, r0 := r } from rfl]
            unfold stepB
            by_cases h5 : l = x.l1
            · simp (disch := first | omega | decide) only [push_cast, ↓wF_free, ↓reduceIte, Nat.reduceEqDiff, Nat.reduceLT, Nat.reduceLeDiff, Nat.reduceAdd, Nat.reduceSub, Nat.reduceMul, Nat.reduceBEq, Int.reduceLT, Int.reduceLE, Int.reduceToNat, Int.reduceNeg, Int.reducePow, Int.reduceAdd, Int.reduceMul, Int.reduceSub, ↓Int.reduceNatCast', cv, h1, h2', h3, h4, ← h5, idxA_pp, call_rParent, sub_i, mul_i, add_i, fill_nil]
            · simp (disch := first | omega | decide) only [push_cast, ↓wF_free, ↓reduceIte, Nat.reduceEqDiff, Nat.reduceLT, Nat.reduceLeDiff, Nat.reduceAdd, Nat.reduceSub, Nat.reduceMul, Nat.reduceBEq, Int.reduceLT, Int.reduceLE, Int.reduceToNat, Int.reduceNeg, Int.reducePow, Int.reduceAdd, Int.reduceMul, Int.reduceSub, ↓Int.reduceNatCast', cv, h1, h2', h3, h4, h5, idxA_pp, call_rParent, sub_i, mul_i, add_i, fill_nil]
          · have h4' : x.t1 = false := by simpa using h4
            have e1 : discL x 0 l r = setB x 0 l r := by unfold discL; rw [if_pos ⟨hv, .inl rfl⟩, if_neg (by intro h; rcases h with h | h; exact h1 h; exact h2 h), if_pos (show parentL l r = nodeB x 0 from h3)]; exact if_neg h4
            have e2 : discE x 0 l r = 0 := by unfold discE; rw [if_pos ⟨hv, .inl rfl⟩, if_neg (by intro h; rcases h with h | h; exact h1 h; exact h2 h)]; exact if_pos h3
            rw [e1, e2, show setB x 0 l r = { x with t0 := true, l0 := l, r0 := r } from rfl]
            simp (disch := first | omega | decide) only [push_cast, ↓wF_free, ↓reduceIte, Nat.reduceEqDiff, Nat.reduceLT, Nat.reduceLeDiff, Nat.reduceAdd, Nat.reduceSub, Nat.reduceMul, Nat.reduceBEq, Int.reduceLT, Int.reduceLE, Int.reduceToNat, Int.reduceNeg, Int.reducePow, Int.reduceAdd, Int.reduceMul, Int.reduceSub, ↓Int.reduceNatCast', cv, h1, h2', h3, h4', idxA_pp, call_rParent, sub_i, mul_i, add_i]
        · have e1 : discL x 0 l r = zeroBis := by unfold discL; rw [if_pos ⟨hv, .inl rfl⟩, if_neg (by intro h; rcases h with h | h; exact h1 h; exact h2 h)]; exact if_neg h3
          have e2 : discE x 0 l r = 381 := by unfold discE; rw [if_pos ⟨hv, .inl rfl⟩, if_neg (by intro h; rcases h with h | h; exact h1 h; exact h2 h)]; exact if_neg h3
          rw [e1, e2]
          simp (disch := first | omega | decide) only [push_cast, ↓wF_free, ↓reduceIte, Nat.reduceEqDiff, Nat.reduceLT, Nat.reduceLeDiff, Nat.reduceAdd, Nat.reduceSub, Nat.reduceMul, Nat.reduceBEq, Int.reduceLT, Int.reduceLE, Int.reduceToNat, Int.reduceNeg, Int.reducePow, Int.reduceAdd, Int.reduceMul, Int.reduceSub, ↓Int.reduceNatCast', cv, h1, h2', h3, idxA_pp, call_rParent, fill_nil]
      · have q1 : ¬ (1 : Int) = 0 := by decide
        by_cases h1 : x.l = 0
        · have e1 : discL x 1 l r = zeroBis := by unfold discL; rw [if_pos ⟨hv, .inr rfl⟩, if_pos (.inl h1)]
          have e2 : discE x 1 l r = 380 := by unfold discE; rw [if_pos ⟨hv, .inr rfl⟩, if_pos (.inl h1)]
          rw [e1, e2]
          simp (disch := first | omega | decide) only [push_cast, ↓wF_free, ↓reduceIte, Nat.reduceEqDiff, Nat.reduceLT, Nat.reduceLeDiff, Nat.reduceAdd, Nat.reduceSub, Nat.reduceMul, Nat.reduceBEq, Int.reduceLT, Int.reduceLE, Int.reduceToNat, Int.reduceNeg, Int.reducePow, Int.reduceAdd, Int.reduceMul, Int.reduceSub, ↓Int.reduceNatCast', cv, h1, q1, idxA_pp, fill_nil]
        by_cases h2 : x.t1 = true
        · have e1 : discL x 1 l r = zeroBis := by unfold discL; rw [if_pos ⟨hv, .inr rfl⟩, if_pos (.inr h2)]
          have e2 : discE x 1 l r = 380 := by unfold discE; rw [if_pos ⟨hv, .inr rfl⟩, if_pos (.inr h2)]
          rw [e1, e2]
          simp (disch := first | omega | decide) only [push_cast, ↓wF_free, ↓reduceIte, Nat.reduceEqDiff, Nat.reduceLT, Nat.reduceLeDiff, Nat.reduceAdd, Nat.reduceSub, Nat.reduceMul, Nat.reduceBEq, Int.reduceLT, Int.reduceLE, Int.reduceToNat, Int.reduceNeg, Int.reducePow, Int.reduceAdd, Int.reduceMul, Int.reduceSub, ↓Int.reduceNatCast', cv, h1, h2, q1, idxA_pp, fill_nil]
        have h2' : x.t1 = false := by simpa using h2
        by_cases h3 : parentL l r = x.n1
        · by_cases h4 : x.t0 = true
          · have e1 : discL x 1 l r = stepB (setB x 1 l r) := by unfold discL; rw [if_pos ⟨hv, .inr rfl⟩, if_neg (by intro h; rcases h with h | h; exact h1 h; exact h2 h), if_pos (show parentL l r = nodeB x 1 from h3)]; exact if_pos h4
            have e2 : discE x 1 l r = 0 := by unfold discE; rw [if_pos ⟨hv, .inr rfl⟩, if_neg (by intro h; rcases h with h | h; exact h1 h; exact h2 h)]; exact if_pos h3
            rw [e1, e2, show setB x 1 l r = { x with t1 := true, l1 := l, r1 := r } from rfl]
            unfold stepB
            by_cases h5 : l = x.l0
            · simp (disch := first | omega | decide) only [push_cast, ↓wF_free, ↓reduceIte, Nat.reduceEqDiff, Nat.reduceLT, Nat.reduceLeDiff, Nat.reduceAdd, Nat.reduceSub, Nat.reduceMul, Nat.reduceBEq, Int.reduceLT, Int.reduceLE, Int.reduceToNat, Int.reduceNeg, Int.reducePow, Int.reduceAdd, Int.reduceMul, Int.reduceSub, ↓Int.reduceNatCast', cv, h1, h2', h3, h4, q1, ← h5, idxA_pp, call_rParent, sub_i, mul_i, add_i, fill_nil]
            · have h6 : ¬ x.l0 = l := fun h => h5 h.symm
              simp (disch := first | omega | decide) only [push_cast, ↓wF_free, ↓reduceIte, Nat.reduceEqDiff, Nat.reduceLT, Nat.reduceLeDiff, Nat.reduceAdd, Nat.reduceSub, Nat.reduceMul, Nat.reduceBEq, Int.reduceLT, Int.reduceLE, Int.reduceToNat, Int.reduceNeg, Int.reducePow, Int.reduceAdd, Int.reduceMul, Int.reduceSub, ↓Int.reduceNatCast', cv, h1, h2', h3, h4, h5, h6, q1, idxA_pp, call_rParent, sub_i, mul_i, add_i, fill_nil]
          · have h4' : x.t0 = false := by simpa using h4
            have e1 : discL x 1 l r = setB x 1 l r := by unfold discL; rw [if_pos ⟨hv, .inr rfl⟩, if_neg (by intro h; rcases h with h | h; exact h1 h; exact h2 h), if_pos (show parentL l r = nodeB x 1 from h3)]; exact if_neg h4
            have e2 : discE x 1 l r = 0 := by unfold discE; rw [if_pos ⟨hv, .inr rfl⟩, if_neg (by intro h; rcases h with h | h; exact h1 h; exact h2 h)]; exact if_pos h3
            rw [e1, e2, show setB x 1 l r = { x with t1 := true, l1 := l, r1 := r } from rfl]
            simp (disch := first | omega | decide) only [push_cast, ↓wF_free, ↓reduceIte, Nat.reduceEqDiff, Nat.reduceLT, Nat.reduceLeDiff, Nat.reduceAdd, Nat.reduceSub, Nat.reduceMul, Nat.reduceBEq, Int.reduceLT, Int.reduceLE, Int.reduceToNat, Int.reduceNeg, Int.reducePow, Int.reduceAdd, Int.reduceMul, Int.reduceSub, ↓Int.reduceNatCast', cv, h1, h2', h3, h4', q1, idxA_pp, call_rParent, sub_i, mul_i, add_i]
        · have e1 : discL x 1 l r = zeroBis := by unfold discL; rw [if_pos ⟨hv, .inr rfl⟩, if_neg (by intro h; rcases h with h | h; exact h1 h; exact h2 h)]; exact if_neg h3
          have e2 : discE x 1 l r = 381 := by unfold discE; rw [if_pos ⟨hv, .inr rfl⟩, if_neg (by intro h; rcases h with h | h; exact h1 h; exact h2 h)]; exact if_neg h3
          rw [e1, e2]
          simp (disch := first | omega | decide) only [push_cast, ↓wF_free, ↓reduceIte, Nat.reduceEqDiff, Nat.reduceLT, Nat.reduceLeDiff, Nat.reduceAdd, Nat.reduceSub, Nat.reduceMul, Nat.reduceBEq, Int.reduceLT, Int.reduceLE, Int.reduceToNat, Int.reduceNeg, Int.reducePow, Int.reduceAdd, Int.reduceMul, Int.reduceSub, ↓Int.reduceNatCast', cv, h1, h2', h3, q1, idxA_pp, call_rParent, fill_nil]
    · have e1 : discL x p l r = zeroBis := by unfold discL; exact if_neg fun h => hp h.2
      have e2 : discE x p l r = 1 := by unfold discE; exact if_neg fun h => hp h.2
      have p0 : ¬ p = 0 := fun h => hp (.inl h)
      have p1 : ¬ p = 1 := fun h => hp (.inr h)
      rw [e1, e2]
      by_cases p2 : p < 0
      · simp (disch := first | omega | decide) only [push_cast, ↓wF_free, ↓reduceIte, Nat.reduceEqDiff, Nat.reduceLT, Nat.reduceLeDiff, Nat.reduceAdd, Nat.reduceSub, Nat.reduceMul, Nat.reduceBEq, Int.reduceLT, Int.reduceLE, Int.reduceToNat, Int.reduceNeg, Int.reducePow, Int.reduceAdd, Int.reduceMul, Int.reduceSub, ↓Int.reduceNatCast', cv, p2, fill_nil]
      · have p3 : 1 < p := by omega
        simp (disch := first | omega | decide) only [push_cast, ↓wF_free, ↓reduceIte, Nat.reduceEqDiff, Nat.reduceLT, Nat.reduceLeDiff, Nat.reduceAdd, Nat.reduceSub, Nat.reduceMul, Nat.reduceBEq, Int.reduceLT, Int.reduceLE, Int.reduceToNat, Int.reduceNeg, Int.reducePow, Int.reduceAdd, Int.reduceMul, Int.reduceSub, ↓Int.reduceNatCast', cv, p2, p3, fill_nil]
  · have hv' : bvalid x = false := by simpa using hv
    have cv := call_rvalid x
    rw [hv'] at cv
    have e1 : discL x p l r = zeroBis := by unfold discL; exact if_neg fun h => hv h.1
    have e2 : discE x p l r = 1 := by unfold discE; exact if_neg fun h => hv h.1
    rw [e1, e2]
    simp (disch := first | omega | decide) only [push_cast, ↓wF_free, ↓reduceIte, Nat.reduceEqDiff, Nat.reduceLT, Nat.reduceLeDiff, Nat.reduceAdd, Nat.reduceSub, Nat.reduceMul, Nat.reduceBEq, Int.reduceLT, Int.reduceLE, Int.reduceToNat, Int.reduceNeg, Int.reducePow, Int.reduceAdd, Int.reduceMul, Int.reduceSub, ↓Int.reduceNatCast', cv, fill_nil]
theorem c_rDisc : Contract Tryd.prog GG 30 sp_rDisc :=
  contract_of tr_wagonpoolref38_Disclose (tb_ok (all_cons c_rvalid (all_cons c_rParent all_nil)) all_nil) (fun a h => w_rDisc a.1 a.2.1 a.2.2.1 a.2.2.2 h)

theorem immL_d2 (st : St) (a b : Dig) : immL st (d2C a b) = some (d2C a b) := solid1_immL st (d2C_solid a b)
theorem ne20 : ¬ (2 : Int) = 0 := by decide
theorem ne380 : ¬ (380 : Int) = 0 := by decide
theorem ne10 : ¬ (1 : Int) = 0 := by decide
def doneOk (x : Bis) : Bool := bvalid x && decide (x.l ≤ 0)
def doneI (x : Bis) : Int := if doneOk x = true then x.i else 0
def doneA (x : Bis) : Dig := if doneOk x = true then x.n0 else zeroDig
def doneB (x : Bis) : Dig := if doneOk x = true then x.n1 else zeroDig
noncomputable def sp_bDone : List D → Option D := spOf (α := Bis) (fun a => [bisD a]) (fun a => True) (fun a => .tup [.int .i64 (doneI a), .agg (d2C (doneA a) (doneB a)), .bool (doneOk a)])
theorem call_bDone (x : Bis) : sp_bDone [bisD x] = some (.tup [.int .i64 (doneI x), .agg (d2C (doneA x) (doneB x)), .bool (doneOk x)]) :=
  spOf_enc (fun a b h => by simp only [List.cons.injEq, D.slc.injEq, D.int.injEq, D.bool.injEq, D.str.injEq, D.agg.injEq, digs_iff, dig_iff, digC_iff, bytes_iff, byte_iff, words_iff, word_iff, Sha.St8.list_iff, bsl_iff, true_and, and_true, bisD_iff] at h; simp [h, Prod.ext_iff]) (x) trivial
set_option maxHeartbeats 4000000 in
set_option maxRecDepth 20000 in
theorem w_bDone (x : Bis) : @wW GG (tb [(35, sp_bvalid)] []) F_bisect_Done.code (argF [bisD x]) [] ⟨retQ F_bisect_Done.res (.tup [.int .i64 (doneI x), .agg (d2C (doneA x) (doneB x)), .bool (doneOk x)])⟩ := by
  have cv := call_bvalid x
  unfold F_bisect_Done doneI doneA doneB doneOk
  by_cases hv : bvalid x = true
  · rw [hv] at cv ⊢
    by_cases h1 : 0 < x.l
    · have h2 : ¬ x.l ≤ 0 := by omega
      simp (disch := first | omega | decide) only [push_cast, ↓wF_free, ↓reduceIte, Nat.reduceEqDiff, Nat.reduceLT, Nat.reduceLeDiff, Nat.reduceAdd, Nat.reduceSub, Nat.reduceMul, Nat.reduceBEq, Int.reduceLT, Int.reduceLE, Int.reduceToNat, Int.reduceNeg, Int.reducePow, Int.reduceAdd, Int.reduceMul, Int.reduceSub, ↓Int.reduceNatCast', immL_d2, cv, h1, h2]
    · have h2 : x.l ≤ 0 := by omega
      simp (disch := first | omega | decide) only [push_cast, ↓wF_free, ↓reduceIte, Nat.reduceEqDiff, Nat.reduceLT, Nat.reduceLeDiff, Nat.reduceAdd, Nat.reduceSub, Nat.reduceMul, Nat.reduceBEq, Int.reduceLT, Int.reduceLE, Int.reduceToNat, Int.reduceNeg, Int.reducePow, Int.reduceAdd, Int.reduceMul, Int.reduceSub, ↓Int.reduceNatCast', immL_d2, cv, h1, h2]
  · have hv' : bvalid x = false := by simpa using hv
    rw [hv'] at cv ⊢
    simp (disch := first | omega | decide) only [push_cast, ↓wF_free, ↓reduceIte, Nat.reduceEqDiff, Nat.reduceLT, Nat.reduceLeDiff, Nat.reduceAdd, Nat.reduceSub, Nat.reduceMul, Nat.reduceBEq, Int.reduceLT, Int.reduceLE, Int.reduceToNat, Int.reduceNeg, Int.reducePow, Int.reduceAdd, Int.reduceMul, Int.reduceSub, ↓Int.reduceNatCast', immL_d2, cv]
theorem c_bDone : Contract Tryd.prog GG 16 sp_bDone :=
  contract_of tr_bisect_Done (tb_ok (all_cons c_bvalid all_nil) all_nil) (fun a h => w_bDone a)
noncomputable def sp_rDone : List D → Option D := spOf (α := Bis) (fun a => [bisD a]) (fun a => True) (fun a => .tup [.int .i64 (doneI a), .agg (d2C (doneA a) (doneB a)), .bool (doneOk a)])
theorem call_rDone (x : Bis) : sp_rDone [bisD x] = some (.tup [.int .i64 (doneI x), .agg (d2C (doneA x) (doneB x)), .bool (doneOk x)]) :=
  spOf_enc (fun a b h => by simp only [List.cons.injEq, D.slc.injEq, D.int.injEq, D.bool.injEq, D.str.injEq, D.agg.injEq, digs_iff, dig_iff, digC_iff, bytes_iff, byte_iff, words_iff, word_iff, Sha.St8.list_iff, bsl_iff, true_and, and_true, bisD_iff] at h; simp [h, Prod.ext_iff]) (x) trivial
set_option maxHeartbeats 4000000 in
set_option maxRecDepth 20000 in
theorem w_rDone (x : Bis) : @wW GG (tb [(42, sp_rvalid)] []) F_wagonpoolref38_Done.code (argF [bisD x]) [] ⟨retQ F_wagonpoolref38_Done.res (.tup [.int .i64 (doneI x), .agg (d2C (doneA x) (doneB x)), .bool (doneOk x)])⟩ := by
  have cv := call_rvalid x
  unfold F_wagonpoolref38_Done doneI doneA doneB doneOk
  by_cases hv : bvalid x = true
  · rw [hv] at cv ⊢
    by_cases h1 : 0 < x.l
    · have h2 : ¬ x.l ≤ 0 := by omega
      simp (disch := first | omega | decide) only [push_cast, ↓wF_free, ↓reduceIte, Nat.reduceEqDiff, Nat.reduceLT, Nat.reduceLeDiff, Nat.reduceAdd, Nat.reduceSub, Nat.reduceMul, Nat.reduceBEq, Int.reduceLT, Int.reduceLE, Int.reduceToNat, Int.reduceNeg, Int.reducePow, Int.reduceAdd, Int.reduceMul, Int.reduceSub, ↓Int.reduceNatCast', immL_d2, cv, h1, h2, fill_nil]
    · have h2 : x.l ≤ 0 := by omega
      simp (disch := first | omega | decide) only [push_cast, ↓wF_free, ↓reduceIte, Nat.reduceEqDiff, Nat.reduceLT, Nat.reduceLeDiff, Nat.reduceAdd, Nat.reduceSub, Nat.reduceMul, Nat.reduceBEq, Int.reduceLT, Int.reduceLE, Int.reduceToNat, Int.reduceNeg, Int.reducePow, Int.reduceAdd, Int.reduceMul, Int.reduceSub, ↓Int.reduceNatCast', immL_d2, cv, h1, h2, fill_nil]
  · have hv' : bvalid x = false := by simpa using hv
    rw [hv'] at cv ⊢
    simp (disch := first | omega | decide) only [push_cast, ↓wF_free, ↓reduceIte, Nat.reduceEqDiff, Nat.reduceLT, Nat.reduceLeDiff, Nat.reduceAdd, Nat.reduceSub, Nat.reduceMul, Nat.reduceBEq, Int.reduceLT, Int.reduceLE, Int.reduceToNat, Int.reduceNeg, Int.reducePow, Int.reduceAdd, Int.reduceMul, Int.reduceSub, ↓Int.reduceNatCast', immL_d2, cv, fill_nil]
theorem c_rDone : Contract Tryd.prog GG 31 sp_rDone :=
  contract_of tr_wagonpoolref38_Done (tb_ok (all_cons c_rvalid all_nil) all_nil) (fun a h => w_rDone a)

def ansE (s : List Dig) (x : Bis) : Int := if bvalid x = true then (if 65536 < (s.length : Int) then 2 else if x.l = 0 then 380 else 0) else 1
def ansL (s : List Dig) (x : Bis) : Dig := if ansE s x = 0 then nodeR s (x.l - 1) (2 * x.i) else zeroDig
def ansR (s : List Dig) (x : Bis) : Dig := if ansE s x = 0 then nodeR s (x.l - 1) (2 * x.i + 1) else zeroDig
noncomputable def sp_bAns : List D → Option D := spOf (α := List Dig × Bis) (fun a => [.slc (nz 32 (a.1.map digD)) (a.1.map digD) false, bisD a.2]) (fun a => True) (fun a => .tup [digD (ansL a.1 a.2), digD (ansR a.1 a.2), .int .i64 (ansE a.1 a.2)])
theorem call_bAns (s : List Dig) (x : Bis) : sp_bAns [.slc (nz 32 (s.map digD)) (s.map digD) false, bisD x] = some (.tup [digD (ansL s x), digD (ansR s x), .int .i64 (ansE s x)]) :=
  spOf_enc (fun ⟨a0, a1⟩ ⟨b0, b1⟩ h => by simp only [List.cons.injEq, D.slc.injEq, D.int.injEq, D.bool.injEq, D.str.injEq, D.agg.injEq, digs_iff, dig_iff, digC_iff, bytes_iff, byte_iff, words_iff, word_iff, Sha.St8.list_iff, bsl_iff, true_and, and_true, bisD_iff] at h; simp [h, Prod.ext_iff]) (s, x) trivial
set_option maxHeartbeats 4000000 in
set_option maxRecDepth 20000 in
theorem w_bAns (s : List Dig) (x : Bis) : @wW GG (tb [(35, sp_bvalid), (23, sp_mNode)] []) F_bisect_Answer.code (argF [.slc (nz 32 (s.map digD)) (s.map digD) false, bisD x]) [] ⟨retQ F_bisect_Answer.res (.tup [digD (ansL s x), digD (ansR s x), .int .i64 (ansE s x)])⟩ := by
  have cv := call_bvalid x
  unfold F_bisect_Answer ansL ansR
  by_cases hv : bvalid x = true
  · obtain ⟨v1, v2, v3, v4, v5, v6, v7⟩ := bvalid_spec hv
    have v8 := i_bound hv
    by_cases h1 : 65536 < (s.length : Int)
    · have e : ansE s x = 2 := by unfold ansE; rw [if_pos hv, if_pos h1]
      rw [e]; rw [hv] at cv
      simp (disch := first | omega | decide) only [push_cast, ↓wF_free, ↓reduceIte, Nat.reduceEqDiff, Nat.reduceLT, Nat.reduceLeDiff, Nat.reduceAdd, Nat.reduceSub, Nat.reduceMul, Nat.reduceBEq, Int.reduceLT, Int.reduceLE, Int.reduceToNat, Int.reduceNeg, Int.reducePow, Int.reduceAdd, Int.reduceMul, Int.reduceSub, ↓Int.reduceNatCast', ne20, ne380, ne10, cv, h1]
    · by_cases h2 : x.l = 0
      · have e : ansE s x = 380 := by unfold ansE; rw [if_pos hv, if_neg h1, if_pos h2]
        rw [e]; rw [hv] at cv
        simp (disch := first | omega | decide) only [push_cast, ↓wF_free, ↓reduceIte, Nat.reduceEqDiff, Nat.reduceLT, Nat.reduceLeDiff, Nat.reduceAdd, Nat.reduceSub, Nat.reduceMul, Nat.reduceBEq, Int.reduceLT, Int.reduceLE, Int.reduceToNat, Int.reduceNeg, Int.reducePow, Int.reduceAdd, Int.reduceMul, Int.reduceSub, ↓Int.reduceNatCast', ne20, ne380, ne10, cv, h1, h2]
      · have e : ansE s x = 0 := by unfold ansE; rw [if_pos hv, if_neg h1, if_neg h2]
        rw [e]; rw [hv] at cv
        simp (disch := first | omega | decide) only [push_cast, ↓wF_free, ↓reduceIte, Nat.reduceEqDiff, Nat.reduceLT, Nat.reduceLeDiff, Nat.reduceAdd, Nat.reduceSub, Nat.reduceMul, Nat.reduceBEq, Int.reduceLT, Int.reduceLE, Int.reduceToNat, Int.reduceNeg, Int.reducePow, Int.reduceAdd, Int.reduceMul, Int.reduceSub, ↓Int.reduceNatCast', ne20, ne380, ne10, cv, h1, h2, call_mNode, sub_i, mul_i, add_i]
  · have hv' : bvalid x = false := by simpa using hv
    have e : ansE s x = 1 := by unfold ansE; rw [if_neg hv]
    rw [e]; rw [hv'] at cv
    simp (disch := first | omega | decide) only [push_cast, ↓wF_free, ↓reduceIte, Nat.reduceEqDiff, Nat.reduceLT, Nat.reduceLeDiff, Nat.reduceAdd, Nat.reduceSub, Nat.reduceMul, Nat.reduceBEq, Int.reduceLT, Int.reduceLE, Int.reduceToNat, Int.reduceNeg, Int.reducePow, Int.reduceAdd, Int.reduceMul, Int.reduceSub, ↓Int.reduceNatCast', ne20, ne380, ne10, cv]
theorem c_bAns : Contract Tryd.prog GG 20 sp_bAns :=
  contract_of tr_bisect_Answer (tb_ok (all_cons c_bvalid (all_cons c_mNode all_nil)) all_nil) (fun a h => w_bAns a.1 a.2)
noncomputable def sp_rAns : List D → Option D := spOf (α := List Dig × Bis) (fun a => [.slc (nz 32 (a.1.map digD)) (a.1.map digD) false, bisD a.2]) (fun a => True) (fun a => .tup [digD (ansL a.1 a.2), digD (ansR a.1 a.2), .int .i64 (ansE a.1 a.2)])
theorem call_rAns (s : List Dig) (x : Bis) : sp_rAns [.slc (nz 32 (s.map digD)) (s.map digD) false, bisD x] = some (.tup [digD (ansL s x), digD (ansR s x), .int .i64 (ansE s x)]) :=
  spOf_enc (fun ⟨a0, a1⟩ ⟨b0, b1⟩ h => by simp only [List.cons.injEq, D.slc.injEq, D.int.injEq, D.bool.injEq, D.str.injEq, D.agg.injEq, digs_iff, dig_iff, digC_iff, bytes_iff, byte_iff, words_iff, word_iff, Sha.St8.list_iff, bsl_iff, true_and, and_true, bisD_iff] at h; simp [h, Prod.ext_iff]) (s, x) trivial
set_option maxHeartbeats 4000000 in
set_option maxRecDepth 20000 in
theorem w_rAns (s : List Dig) (x : Bis) : @wW GG (tb [(42, sp_rvalid), (37, sp_rNode)] []) F_wagonpoolref38_Answer.code (argF [.slc (nz 32 (s.map digD)) (s.map digD) false, bisD x]) [] ⟨retQ F_wagonpoolref38_Answer.res (.tup [digD (ansL s x), digD (ansR s x), .int .i64 (ansE s x)])⟩ := by
  have cv := call_rvalid x
  unfold F_wagonpoolref38_Answer ansL ansR
  by_cases hv : bvalid x = true
  · obtain ⟨v1, v2, v3, v4, v5, v6, v7⟩ := bvalid_spec hv
    have v8 := i_bound hv
    by_cases h1 : 65536 < (s.length : Int)
    · have e : ansE s x = 2 := by unfold ansE; rw [if_pos hv, if_pos h1]
      rw [e]; rw [hv] at cv
      simp (disch := first | omega | decide) only [push_cast, ↓wF_free, ↓reduceIte, Nat.reduceEqDiff, Nat.reduceLT, Nat.reduceLeDiff, Nat.reduceAdd, Nat.reduceSub, Nat.reduceMul, Nat.reduceBEq, Int.reduceLT, Int.reduceLE, Int.reduceToNat, Int.reduceNeg, Int.reducePow, Int.reduceAdd, Int.reduceMul, Int.reduceSub, ↓Int.reduceNatCast', ne20, ne380, ne10, cv, h1, fill_nil]
    · by_cases h2 : x.l = 0
      · have e : ansE s x = 380 := by unfold ansE; rw [if_pos hv, if_neg h1, if_pos h2]
        rw [e]; rw [hv] at cv
        simp (disch := first | omega | decide) only [push_cast, ↓wF_free, ↓reduceIte, Nat.reduceEqDiff, Nat.reduceLT, Nat.reduceLeDiff, Nat.reduceAdd, Nat.reduceSub, Nat.reduceMul, Nat.reduceBEq, Int.reduceLT, Int.reduceLE, Int.reduceToNat, Int.reduceNeg, Int.reducePow, Int.reduceAdd, Int.reduceMul, Int.reduceSub, ↓Int.reduceNatCast', ne20, ne380, ne10, cv, h1, h2, fill_nil]
      · have e : ansE s x = 0 := by unfold ansE; rw [if_pos hv, if_neg h1, if_neg h2]
        rw [e]; rw [hv] at cv
        simp (disch := first | omega | decide) only [push_cast, ↓wF_free, ↓reduceIte, Nat.reduceEqDiff, Nat.reduceLT, Nat.reduceLeDiff, Nat.reduceAdd, Nat.reduceSub, Nat.reduceMul, Nat.reduceBEq, Int.reduceLT, Int.reduceLE, Int.reduceToNat, Int.reduceNeg, Int.reducePow, Int.reduceAdd, Int.reduceMul, Int.reduceSub, ↓Int.reduceNatCast', ne20, ne380, ne10, cv, h1, h2, call_rNode, sub_i, mul_i, add_i, fill_nil]
  · have hv' : bvalid x = false := by simpa using hv
    have e : ansE s x = 1 := by unfold ansE; rw [if_neg hv]
    rw [e]; rw [hv'] at cv
    simp (disch := first | omega | decide) only [push_cast, ↓wF_free, ↓reduceIte, Nat.reduceEqDiff, Nat.reduceLT, Nat.reduceLeDiff, Nat.reduceAdd, Nat.reduceSub, Nat.reduceMul, Nat.reduceBEq, Int.reduceLT, Int.reduceLE, Int.reduceToNat, Int.reduceNeg, Int.reducePow, Int.reduceAdd, Int.reduceMul, Int.reduceSub, ↓Int.reduceNatCast', ne20, ne380, ne10, cv, fill_nil]
theorem c_rAns : Contract Tryd.prog GG 21 sp_rAns :=
  contract_of tr_wagonpoolref38_Answer (tb_ok (all_cons c_rvalid (all_cons c_rNode all_nil)) all_nil) (fun a h => w_rAns a.1 a.2)

noncomputable def sp_root : List D → Option D := spOf (α := List Dig) (fun a => [.slc (nz 32 (a.map digD)) (a.map digD) false]) (fun a => True) (fun a => .agg (.int .i64 (rootL a).1 :: digC (rootL a).2))
theorem call_root (l : List Dig) : sp_root [.slc (nz 32 (l.map digD)) (l.map digD) false] = some (.agg (.int .i64 (rootL l).1 :: digC (rootL l).2)) :=
  spOf_enc (fun a b h => by simp only [List.cons.injEq, D.slc.injEq, D.int.injEq, D.bool.injEq, D.str.injEq, D.agg.injEq, digs_iff, dig_iff, digC_iff, bytes_iff, byte_iff, words_iff, word_iff, Sha.St8.list_iff, bsl_iff, true_and, and_true, bisD_iff] at h; simp [h, Prod.ext_iff]) (l) trivial
set_option maxHeartbeats 4000000 in
set_option maxRecDepth 20000 in
theorem w_root (l : List Dig) : @wW GG (tb [(34, sp_mRoot)] []) F_wagonpoollaw38_root.code (argF [.slc (nz 32 (l.map digD)) (l.map digD) false]) [] ⟨retQ F_wagonpoollaw38_root.res (.agg (.int .i64 (rootL l).1 :: digC (rootL l).2))⟩ := by
  unfold F_wagonpoollaw38_root
  simp (disch := omega) only [push_cast, ↓wF_free, ↓reduceIte, Nat.reduceEqDiff, Nat.reduceLT, Nat.reduceLeDiff, Nat.reduceAdd, Nat.reduceSub, Nat.reduceMul, Nat.reduceBEq, Int.reduceLT, Int.reduceLE, Int.reduceToNat, Int.reduceNeg, Int.reducePow, Int.reduceAdd, Int.reduceMul, Int.reduceSub, ↓Int.reduceNatCast', call_mRoot, box_commit, stO_commit, ldO_commit]
theorem c_root : Contract Tryd.prog GG 14 sp_root :=
  contract_of tr_wagonpoollaw38_root (tb_ok (all_cons c_mRoot all_nil) all_nil) (fun a h => w_root a)
noncomputable def sp_few38 : List D → Option D := spOf (α := List Dig × List Dig) (fun a => [.slc (nz 32 (a.1.map digD)) (a.1.map digD) false, .slc (nz 32 (a.2.map digD)) (a.2.map digD) false]) (fun a => True) (fun a => .bool (decide ((a.1.length : Int) ≤ 10 ∧ (a.2.length : Int) ≤ 10)))
theorem call_few38 (a : List Dig) (b : List Dig) : sp_few38 [.slc (nz 32 (a.map digD)) (a.map digD) false, .slc (nz 32 (b.map digD)) (b.map digD) false] = some (.bool (decide ((a.length : Int) ≤ 10 ∧ (b.length : Int) ≤ 10))) :=
  spOf_enc (fun ⟨a0, a1⟩ ⟨b0, b1⟩ h => by simp only [List.cons.injEq, D.slc.injEq, D.int.injEq, D.bool.injEq, D.str.injEq, D.agg.injEq, digs_iff, dig_iff, digC_iff, bytes_iff, byte_iff, words_iff, word_iff, Sha.St8.list_iff, bsl_iff, true_and, and_true, bisD_iff] at h; simp [h, Prod.ext_iff]) (a, b) trivial
set_option maxHeartbeats 4000000 in
set_option maxRecDepth 20000 in
theorem w_few38 (a : List Dig) (b : List Dig) : @wW GG (tb [] []) F_wagonpoollaw38_few.code (argF [.slc (nz 32 (a.map digD)) (a.map digD) false, .slc (nz 32 (b.map digD)) (b.map digD) false]) [] ⟨retQ F_wagonpoollaw38_few.res (.bool (decide ((a.length : Int) ≤ 10 ∧ (b.length : Int) ≤ 10)))⟩ := by
  unfold F_wagonpoollaw38_few
  by_cases h1 : (a.length : Int) ≤ 10
  · by_cases h2 : (b.length : Int) ≤ 10
    · simp (disch := omega) only [push_cast, ↓wF_free, ↓reduceIte, Nat.reduceEqDiff, Nat.reduceLT, Nat.reduceLeDiff, Nat.reduceAdd, Nat.reduceSub, Nat.reduceMul, Nat.reduceBEq, Int.reduceLT, Int.reduceLE, Int.reduceToNat, Int.reduceNeg, Int.reducePow, Int.reduceAdd, Int.reduceMul, Int.reduceSub, ↓Int.reduceNatCast', h1, h2]
    · simp (disch := omega) only [push_cast, ↓wF_free, ↓reduceIte, Nat.reduceEqDiff, Nat.reduceLT, Nat.reduceLeDiff, Nat.reduceAdd, Nat.reduceSub, Nat.reduceMul, Nat.reduceBEq, Int.reduceLT, Int.reduceLE, Int.reduceToNat, Int.reduceNeg, Int.reducePow, Int.reduceAdd, Int.reduceMul, Int.reduceSub, ↓Int.reduceNatCast', h1, h2]
  · simp (disch := omega) only [push_cast, ↓wF_free, ↓reduceIte, Nat.reduceEqDiff, Nat.reduceLT, Nat.reduceLeDiff, Nat.reduceAdd, Nat.reduceSub, Nat.reduceMul, Nat.reduceBEq, Int.reduceLT, Int.reduceLE, Int.reduceToNat, Int.reduceNeg, Int.reducePow, Int.reduceAdd, Int.reduceMul, Int.reduceSub, ↓Int.reduceNatCast', h1]
theorem c_few38 : Contract Tryd.prog GG 12 sp_few38 :=
  contract_of tr_wagonpoollaw38_few (tb_ok all_nil all_nil) (fun a h => w_few38 a.1 a.2)

/-- a round: both answer, the first one ahead -/
def roundY (x : Bis) (a b : List Dig) (p : Int) : Bis := discL x p (ansL (if p = 0 then a else b) x) (ansR (if p = 0 then a else b) x)
def roundL (x : Bis) (a b : List Dig) (p : Int) : Bis := discL (roundY x a b p) (1 - p) (ansL (if p = 0 then b else a) x) (ansR (if p = 0 then b else a) x)
def roundOk (x : Bis) (a b : List Dig) (p : Int) : Bool := decide (ansE (if p = 0 then a else b) x = 0) && (decide (ansE (if p = 0 then b else a) x = 0) && (decide (discE x p (ansL (if p = 0 then a else b) x) (ansR (if p = 0 then a else b) x) = 0) &&
  decide (discE (roundY x a b p) (1 - p) (ansL (if p = 0 then b else a) x) (ansR (if p = 0 then b else a) x) = 0)))
theorem box_ss (k l : Nat) (a b : List D) (t u : Bool) : boxD (.agg [.slc k a t, .slc l b u]) = some [.slc k a t, .slc l b u] := rfl
theorem fill_ss (k l : Nat) (a b : List D) (t u : Bool) : fillD [.slc 0 [] true, .slc 0 [] true] [(0, 1, .slc k a t), (1, 1, .slc l b u)] = some [.slc k a t, .slc l b u] := rfl
theorem stO_ss (sz : Nat) (x y : D) (k l : Nat) (a b : List D) (t u : Bool) : stO (some ⟨false, sz, [x, y], false⟩) 2 0 (.agg [.slc k a t, .slc l b u]) = some ⟨false, sz, [.slc k a t, .slc l b u], false⟩ := rfl
theorem and_chain (p q r s : Bool) : (if p = true then (if (if (if p = true then q else false) = true then r else false) = true then s else false) else false) = (p && (q && (r && s))) := by cases p <;> cases q <;> cases r <;> rfl
noncomputable def sp_round : List D → Option D := spOf (α := Bis × List Dig × List Dig × Int) (fun a => [bisD a.1, .slc (nz 32 (a.2.1.map digD)) (a.2.1.map digD) false, .slc (nz 32 (a.2.2.1.map digD)) (a.2.2.1.map digD) false, .int .i64 a.2.2.2]) (fun a => a.2.2.2 = 0 ∨ a.2.2.2 = 1) (fun a => .tup [bisD (roundL a.1 a.2.1 a.2.2.1 a.2.2.2), .bool (roundOk a.1 a.2.1 a.2.2.1 a.2.2.2)])
theorem call_round (x : Bis) (a : List Dig) (b : List Dig) (p : Int) (h : p = 0 ∨ p = 1) : sp_round [bisD x, .slc (nz 32 (a.map digD)) (a.map digD) false, .slc (nz 32 (b.map digD)) (b.map digD) false, .int .i64 p] = some (.tup [bisD (roundL x a b p), .bool (roundOk x a b p)]) :=
  spOf_enc (fun ⟨a0, a1, a2, a3⟩ ⟨b0, b1, b2, b3⟩ h => by simp only [List.cons.injEq, D.slc.injEq, D.int.injEq, D.bool.injEq, D.str.injEq, D.agg.injEq, digs_iff, dig_iff, digC_iff, bytes_iff, byte_iff, words_iff, word_iff, Sha.St8.list_iff, bsl_iff, true_and, and_true, bisD_iff] at h; simp [h, Prod.ext_iff]) (x, a, b, p) h
set_option maxHeartbeats 4000000 in
set_option maxRecDepth 20000 in
theorem w_round (x : Bis) (a : List Dig) (b : List Dig) (p : Int) (h : p = 0 ∨ p = 1) : @wW GG (tb [(20, sp_bAns), (28, sp_bDisc)] []) F_wagonpoollaw38_round.code (argF [bisD x, .slc (nz 32 (a.map digD)) (a.map digD) false, .slc (nz 32 (b.map digD)) (b.map digD) false, .int .i64 p]) [] ⟨retQ F_wagonpoollaw38_round.res (.tup [bisD (roundL x a b p), .bool (roundOk x a b p)])⟩ := by
  unfold F_wagonpoollaw38_round roundOk roundL
  rcases h with rfl | rfl
  · have ea : (if (0 : Int) = 0 then a else b) = a := if_pos rfl
    have eb : (if (0 : Int) = 0 then b else a) = b := if_pos rfl
    have y : discL x 0 (ansL a x) (ansR a x) = roundY x a b 0 := rfl
    rw [ea, eb]
    by_cases a1 : ansE a x = 0
    · by_cases a2 : ansE b x = 0
      · by_cases a3 : discE x 0 (ansL a x) (ansR a x) = 0
        · simp (disch := first | omega | decide) only [push_cast, ↓wF_free, ↓reduceIte, Nat.reduceEqDiff, Nat.reduceLT, Nat.reduceLeDiff, Nat.reduceAdd, Nat.reduceSub, Nat.reduceMul, Nat.reduceBEq, Int.reduceLT, Int.reduceLE, Int.reduceToNat, Int.reduceNeg, Int.reducePow, Int.reduceAdd, Int.reduceMul, Int.reduceSub, ↓Int.reduceNatCast', box_ss, fill_ss, stO_ss, idxA_pp, ldO_one, ldO_succ, call_bAns, call_bDisc, sub_i, y, a1, a2, a3]
        · simp (disch := first | omega | decide) only [push_cast, ↓wF_free, ↓reduceIte, Nat.reduceEqDiff, Nat.reduceLT, Nat.reduceLeDiff, Nat.reduceAdd, Nat.reduceSub, Nat.reduceMul, Nat.reduceBEq, Int.reduceLT, Int.reduceLE, Int.reduceToNat, Int.reduceNeg, Int.reducePow, Int.reduceAdd, Int.reduceMul, Int.reduceSub, ↓Int.reduceNatCast', box_ss, fill_ss, stO_ss, idxA_pp, ldO_one, ldO_succ, call_bAns, call_bDisc, sub_i, y, a1, a2, a3]
      · simp (disch := first | omega | decide) only [push_cast, ↓wF_free, ↓reduceIte, Nat.reduceEqDiff, Nat.reduceLT, Nat.reduceLeDiff, Nat.reduceAdd, Nat.reduceSub, Nat.reduceMul, Nat.reduceBEq, Int.reduceLT, Int.reduceLE, Int.reduceToNat, Int.reduceNeg, Int.reducePow, Int.reduceAdd, Int.reduceMul, Int.reduceSub, ↓Int.reduceNatCast', box_ss, fill_ss, stO_ss, idxA_pp, ldO_one, ldO_succ, call_bAns, call_bDisc, sub_i, y, a1, a2]
    · simp (disch := first | omega | decide) only [push_cast, ↓wF_free, ↓reduceIte, Nat.reduceEqDiff, Nat.reduceLT, Nat.reduceLeDiff, Nat.reduceAdd, Nat.reduceSub, Nat.reduceMul, Nat.reduceBEq, Int.reduceLT, Int.reduceLE, Int.reduceToNat, Int.reduceNeg, Int.reducePow, Int.reduceAdd, Int.reduceMul, Int.reduceSub, ↓Int.reduceNatCast', box_ss, fill_ss, stO_ss, idxA_pp, ldO_one, ldO_succ, call_bAns, call_bDisc, sub_i, y, a1]
  · have ea : (if (1 : Int) = 0 then a else b) = b := if_neg (by decide)
    have eb : (if (1 : Int) = 0 then b else a) = a := if_neg (by decide)
    have y : discL x 1 (ansL b x) (ansR b x) = roundY x a b 1 := by unfold roundY; rw [ea]
    rw [ea, eb]
    by_cases a1 : ansE b x = 0
    · by_cases a2 : ansE a x = 0
      · by_cases a3 : discE x 1 (ansL b x) (ansR b x) = 0
        · simp (disch := first | omega | decide) only [push_cast, ↓wF_free, ↓reduceIte, Nat.reduceEqDiff, Nat.reduceLT, Nat.reduceLeDiff, Nat.reduceAdd, Nat.reduceSub, Nat.reduceMul, Nat.reduceBEq, Int.reduceLT, Int.reduceLE, Int.reduceToNat, Int.reduceNeg, Int.reducePow, Int.reduceAdd, Int.reduceMul, Int.reduceSub, ↓Int.reduceNatCast', box_ss, fill_ss, stO_ss, idxA_pp, ldO_one, ldO_succ, call_bAns, call_bDisc, sub_i, y, a1, a2, a3]
        · simp (disch := first | omega | decide) only [push_cast, ↓wF_free, ↓reduceIte, Nat.reduceEqDiff, Nat.reduceLT, Nat.reduceLeDiff, Nat.reduceAdd, Nat.reduceSub, Nat.reduceMul, Nat.reduceBEq, Int.reduceLT, Int.reduceLE, Int.reduceToNat, Int.reduceNeg, Int.reducePow, Int.reduceAdd, Int.reduceMul, Int.reduceSub, ↓Int.reduceNatCast', box_ss, fill_ss, stO_ss, idxA_pp, ldO_one, ldO_succ, call_bAns, call_bDisc, sub_i, y, a1, a2, a3]
      · simp (disch := first | omega | decide) only [push_cast, ↓wF_free, ↓reduceIte, Nat.reduceEqDiff, Nat.reduceLT, Nat.reduceLeDiff, Nat.reduceAdd, Nat.reduceSub, Nat.reduceMul, Nat.reduceBEq, Int.reduceLT, Int.reduceLE, Int.reduceToNat, Int.reduceNeg, Int.reducePow, Int.reduceAdd, Int.reduceMul, Int.reduceSub, ↓Int.reduceNatCast', box_ss, fill_ss, stO_ss, idxA_pp, ldO_one, ldO_succ, call_bAns, call_bDisc, sub_i, y, a1, a2]
    · simp (disch := first | omega | decide) only [push_cast, ↓wF_free, ↓reduceIte, Nat.reduceEqDiff, Nat.reduceLT, Nat.reduceLeDiff, Nat.reduceAdd, Nat.reduceSub, Nat.reduceMul, Nat.reduceBEq, Int.reduceLT, Int.reduceLE, Int.reduceToNat, Int.reduceNeg, Int.reducePow, Int.reduceAdd, Int.reduceMul, Int.reduceSub, ↓Int.reduceNatCast', box_ss, fill_ss, stO_ss, idxA_pp, ldO_one, ldO_succ, call_bAns, call_bDisc, sub_i, y, a1]
theorem c_round : Contract Tryd.prog GG 15 sp_round :=
  contract_of tr_wagonpoollaw38_round (tb_ok (all_cons c_bAns (all_cons c_bDisc all_nil)) all_nil) (fun a h => w_round a.1 a.2.1 a.2.2.1 a.2.2.2 h)
end Go.Proofs.YtokhnpjchpmndaaDoor.PI
