/-
  netting: the reference's sums and its search; checks of balances; copies.
  Conditions: none; these are lemmas.
-/
import Derived.Test.YtedchaaoemifbaaNtB
namespace Go.Proofs.Ytedchaaoemifbaa.PI
open Go
set_option linter.unusedSimpArgs false
set_option linter.unusedVariables false

theorem quo_t {a b : Int} (hb : b = 9007199254740992) (h1 : -1152921504606846976 ≤ a) (h2 : a ≤ 1152921504606846976) : pbin .quo (.int .i64 a) (.int .i64 b) = some (.int .i64 (a.tdiv b)) := by
  subst hb
  have h3 : -128 ≤ a.tdiv 9007199254740992 ∧ a.tdiv 9007199254740992 ≤ 128 := by
    rcases Int.le_total 0 a with h | h
    · rw [Int.tdiv_eq_ediv_of_nonneg h]; omega
    · have e : a.tdiv 9007199254740992 = -((-a) / 9007199254740992) := by
        rw [← Int.tdiv_eq_ediv_of_nonneg (show 0 ≤ -a by omega), Int.neg_tdiv]; omega
      rw [e]; omega
  simp only [pbin, if_true, iarith, show ¬ (9007199254740992 : Int) = 0 by decide, if_false, Option.map_some, wrap_i64 (show -9223372036854775808 ≤ a.tdiv 9007199254740992 by omega) (show a.tdiv 9007199254740992 < 9223372036854775808 by omega)]
theorem tdiv_pos (a : Int) (h : 0 ≤ a) : a.tdiv 9007199254740992 = a / 9007199254740992 := Int.tdiv_eq_ediv_of_nonneg h
theorem tdiv_neg (a : Int) (h : a ≤ 0) : a.tdiv 9007199254740992 = -((-a) / 9007199254740992) := by
  rw [← Int.tdiv_eq_ediv_of_nonneg (show 0 ≤ -a by omega), Int.neg_tdiv]; omega
noncomputable def sp_rfloor : List D → Option D := spOf (α := Int × Int) (fun a => [.int .i64 a.1, .int .i64 a.2]) (fun a => a.2 = 9007199254740992 ∧ -1152921504606846976 ≤ a.1 ∧ a.1 ≤ 1152921504606846976) (fun a => .int .i64 (a.1 / a.2))
theorem call_rfloor (a : Int) (b : Int) (h : b = 9007199254740992 ∧ -1152921504606846976 ≤ a ∧ a ≤ 1152921504606846976) : sp_rfloor [.int .i64 a, .int .i64 b] = some (.int .i64 (a / b)) :=
  spOf_enc (fun ⟨a0, a1⟩ ⟨b0, b1⟩ h => by simp only [List.cons.injEq, D.slc.injEq, D.int.injEq, D.bool.injEq, D.str.injEq, D.agg.injEq, digs_iff, dig_iff, digC_iff, bytes_iff, byte_iff, words_iff, word_iff, bsl_iff, true_and, and_true, ints_iff, pays_iff, nI_iff, payD_iff, Int.ofNat_inj] at h; simp [h, Prod.ext_iff]) (a, b) h
set_option maxHeartbeats 4000000 in
set_option maxRecDepth 20000 in
theorem w_rfloor (a : Int) (b : Int) (h : b = 9007199254740992 ∧ -1152921504606846976 ≤ a ∧ a ≤ 1152921504606846976) : @wW GG (tb [] []) F_wagonpoolref07_Floor.code (argF [.int .i64 a, .int .i64 b]) [] ⟨retQ F_wagonpoolref07_Floor.res (.int .i64 (a / b))⟩ := by
  obtain ⟨rfl, h1, h2⟩ := h
  unfold F_wagonpoolref07_Floor
  have hq : -128 ≤ a.tdiv 9007199254740992 ∧ a.tdiv 9007199254740992 ≤ 128 := by
    rcases Int.le_total 0 a with h | h
    · rw [tdiv_pos a h]; omega
    · rw [tdiv_neg a h]; omega
  simp (disch := first | omega | decide) only [push_cast, ↓wF_free, ↓reduceIte, Nat.reduceEqDiff, Nat.reduceLT, Nat.reduceLeDiff, Nat.reduceAdd, Nat.reduceSub, Nat.reduceMul, Nat.reduceBEq, Int.reduceLT, Int.reduceLE, Int.reduceToNat, Int.reduceNeg, Int.reducePow, Int.reduceAdd, Int.reduceMul, Int.reduceSub, ↓Int.reduceNatCast', quo_t, mul_i]
  by_cases h3 : a < a.tdiv 9007199254740992 * 9007199254740992
  · have e : a.tdiv 9007199254740992 - 1 = a / 9007199254740992 := by
      rcases Int.le_total 0 a with h | h
      · rw [tdiv_pos a h] at h3 ⊢; omega
      · rw [tdiv_neg a h] at h3 ⊢; omega
    simp (disch := first | omega | decide) only [push_cast, ↓wF_free, ↓reduceIte, Nat.reduceEqDiff, Nat.reduceLT, Nat.reduceLeDiff, Nat.reduceAdd, Nat.reduceSub, Nat.reduceMul, Nat.reduceBEq, Int.reduceLT, Int.reduceLE, Int.reduceToNat, Int.reduceNeg, Int.reducePow, Int.reduceAdd, Int.reduceMul, Int.reduceSub, ↓Int.reduceNatCast', h3, sub_i, e]
  · have e : a.tdiv 9007199254740992 = a / 9007199254740992 := by
      rcases Int.le_total 0 a with h | h
      · rw [tdiv_pos a h]
      · rw [tdiv_neg a h] at h3 ⊢; omega
    rw [e] at h3
    simp (disch := first | omega | decide) only [push_cast, ↓wF_free, ↓reduceIte, Nat.reduceEqDiff, Nat.reduceLT, Nat.reduceLeDiff, Nat.reduceAdd, Nat.reduceSub, Nat.reduceMul, Nat.reduceBEq, Int.reduceLT, Int.reduceLE, Int.reduceToNat, Int.reduceNeg, Int.reducePow, Int.reduceAdd, Int.reduceMul, Int.reduceSub, ↓Int.reduceNatCast', h3, e]
theorem c_rfloor : Contract Try.prog GG 41 sp_rfloor :=
  contract_of tr_wagonpoolref07_Floor (tb_ok all_nil all_nil) (fun a h => w_rfloor a.1 a.2 h)

noncomputable def sp_rsum : List D → Option D := spOf (α := List Int) (fun a => [.slc (nz 1 (a.map nI)) (a.map nI) false]) (fun a => a.length ≤ 4294967296) (fun a => .tup [.int .i64 (sumE a).1, .int .i64 (sumE a).2])
theorem call_rsum (l : List Int) (h : l.length ≤ 4294967296) : sp_rsum [.slc (nz 1 (l.map nI)) (l.map nI) false] = some (.tup [.int .i64 (sumE l).1, .int .i64 (sumE l).2]) :=
  spOf_enc (fun a b h => by simp only [List.cons.injEq, D.slc.injEq, D.int.injEq, D.bool.injEq, D.str.injEq, D.agg.injEq, digs_iff, dig_iff, digC_iff, bytes_iff, byte_iff, words_iff, word_iff, bsl_iff, true_and, and_true, ints_iff, pays_iff, nI_iff, payD_iff, Int.ofNat_inj] at h; simp [h, Prod.ext_iff]) (l) h
set_option maxHeartbeats 4000000 in
set_option maxRecDepth 20000 in
theorem w_rsum (l : List Int) (h : l.length ≤ 4294967296) : @wW GG (tb [(14, sp_rin), (41, sp_rfloor)] []) F_wagonpoolref07_Sum.code (argF [.slc (nz 1 (l.map nI)) (l.map nI) false]) [] ⟨retQ F_wagonpoolref07_Sum.res (.tup [.int .i64 (sumE l).1, .int .i64 (sumE l).2])⟩ := by
  unfold F_wagonpoolref07_Sum
  simp (disch := first | omega | decide) only [push_cast, ↓wF_free, ↓reduceIte, Nat.reduceEqDiff, Nat.reduceLT, Nat.reduceLeDiff, Nat.reduceAdd, Nat.reduceSub, Nat.reduceMul, Nat.reduceBEq, Int.reduceLT, Int.reduceLE, Int.reduceToNat, Int.reduceNeg, Int.reducePow, Int.reduceAdd, Int.reduceMul, Int.reduceSub, ↓Int.reduceNatCast']
  refine W_while (fun i : Nat => [(0, .slc (nz 1 (l.map nI)) (l.map nI) false), (4, .int .i64 (sumI (l.take i) / 9007199254740992)), (5, .int .i64 (sumI (l.take i) % 9007199254740992)), (6, .int .i64 (i : Int))]) (fun i => []) (fun i => i ≤ l.length ∧ ∀ j, j < i → inR (at' l j)) (fun i => l.length - i) 0 (by simp only [push_cast, ↓wF_free, ↓reduceIte, Nat.reduceEqDiff, Nat.reduceLT, Nat.reduceLeDiff, Nat.reduceAdd, Nat.reduceSub, Nat.reduceMul, Nat.reduceBEq, Int.reduceLT, Int.reduceLE, Int.reduceToNat, Int.reduceNeg, Int.reducePow, Int.reduceAdd, Int.reduceMul, Int.reduceSub, ↓Int.reduceNatCast'] <;> rfl) ⟨Nat.zero_le _, fun j hj => by omega⟩ ?_
  rintro i ⟨hi, hp⟩
  obtain ⟨b1, b2⟩ := sum_pre hp hi
  unfold F_wagonpoolref07_Sum_L0
  simp (disch := first | omega | decide) only [push_cast, ↓wF_free, ↓reduceIte, Nat.reduceEqDiff, Nat.reduceLT, Nat.reduceLeDiff, Nat.reduceAdd, Nat.reduceSub, Nat.reduceMul, Nat.reduceBEq, Int.reduceLT, Int.reduceLE, Int.reduceToNat, Int.reduceNeg, Int.reducePow, Int.reduceAdd, Int.reduceMul, Int.reduceSub, ↓Int.reduceNatCast']
  refine ifD_split (fun h2 => ?_) (fun h2 => ?_)
  · have hb := sumE_bad (l := l) (i := i) (by omega)
    have hst := sum_take l i (by omega)
    simp (disch := first | omega | decide) only [push_cast, ↓wF_free, ↓reduceIte, Nat.reduceEqDiff, Nat.reduceLT, Nat.reduceLeDiff, Nat.reduceAdd, Nat.reduceSub, Nat.reduceMul, Nat.reduceBEq, Int.reduceLT, Int.reduceLE, Int.reduceToNat, Int.reduceNeg, Int.reducePow, Int.reduceAdd, Int.reduceMul, Int.reduceSub, ↓Int.reduceNatCast', idxS_nz, call_rin]
    unfold at' at hb hst
    generalize hx : l.getD i default = x at *
    by_cases h3 : inR x
    · have hg : ∀ j, j < i + 1 → inR (at' l j) := fun j hj => by
        rcases Nat.lt_or_ge j i with h1 | h1
        · exact hp j h1
        · obtain rfl : j = i := by omega
          unfold at'; rw [hx]; exact h3
      have h3' := h3
      unfold inR at h3'
      generalize hS : sumI (l.take i) = S at *
      have cf := call_rfloor (S % 9007199254740992 + x) 9007199254740992 ⟨rfl, by omega, by omega⟩
      simp (disch := first | omega | decide) only [push_cast, ↓wF_free, ↓reduceIte, Nat.reduceEqDiff, Nat.reduceLT, Nat.reduceLeDiff, Nat.reduceAdd, Nat.reduceSub, Nat.reduceMul, Nat.reduceBEq, Int.reduceLT, Int.reduceLE, Int.reduceToNat, Int.reduceNeg, Int.reducePow, Int.reduceAdd, Int.reduceMul, Int.reduceSub, ↓Int.reduceNatCast', idxS_nz, hx, h3, cf, add_i, mul_i, sub_i]
      refine next_head (i + 1) (by exact ⟨by omega, hg⟩) (by omega) ?_
      rw [hst]
      have e1 : S / 9007199254740992 + (S % 9007199254740992 + x) / 9007199254740992 = (S + x) / 9007199254740992 := by omega
      have e2 : S % 9007199254740992 + x - (S % 9007199254740992 + x) / 9007199254740992 * 9007199254740992 = (S + x) % 9007199254740992 := by omega
      rw [e1, e2]
      simp only [push_cast, ↓wF_free, ↓reduceIte, Nat.reduceEqDiff, Nat.reduceLT, Nat.reduceLeDiff, Nat.reduceAdd, Nat.reduceSub, Nat.reduceMul, Nat.reduceBEq, Int.reduceLT, Int.reduceLE, Int.reduceToNat, Int.reduceNeg, Int.reducePow, Int.reduceAdd, Int.reduceMul, Int.reduceSub, ↓Int.reduceNatCast'] <;> rfl
    · have e := hb h3
      simp (disch := first | omega | decide) only [push_cast, ↓wF_free, ↓reduceIte, Nat.reduceEqDiff, Nat.reduceLT, Nat.reduceLeDiff, Nat.reduceAdd, Nat.reduceSub, Nat.reduceMul, Nat.reduceBEq, Int.reduceLT, Int.reduceLE, Int.reduceToNat, Int.reduceNeg, Int.reducePow, Int.reduceAdd, Int.reduceMul, Int.reduceSub, ↓Int.reduceNatCast', h3, e]
  · obtain rfl : i = l.length := by omega
    rw [List.take_length] at *
    have hs := sumE_all hp
    generalize sumI l = S at *
    simp (disch := first | omega | decide) only [push_cast, ↓wF_free, ↓reduceIte, Nat.reduceEqDiff, Nat.reduceLT, Nat.reduceLeDiff, Nat.reduceAdd, Nat.reduceSub, Nat.reduceMul, Nat.reduceBEq, Int.reduceLT, Int.reduceLE, Int.reduceToNat, Int.reduceNeg, Int.reducePow, Int.reduceAdd, Int.reduceMul, Int.reduceSub, ↓Int.reduceNatCast']
    by_cases k1 : S / 9007199254740992 < -1
    · have e0 : sumE l = (0, 3) := by rw [hs]; unfold rgL; rw [if_neg (by unfold inR; omega)]
      simp (disch := first | omega | decide) only [push_cast, ↓wF_free, ↓reduceIte, Nat.reduceEqDiff, Nat.reduceLT, Nat.reduceLeDiff, Nat.reduceAdd, Nat.reduceSub, Nat.reduceMul, Nat.reduceBEq, Int.reduceLT, Int.reduceLE, Int.reduceToNat, Int.reduceNeg, Int.reducePow, Int.reduceAdd, Int.reduceMul, Int.reduceSub, ↓Int.reduceNatCast', k1, e0]
    · by_cases k2 : 1 < S / 9007199254740992
      · have e0 : sumE l = (0, 3) := by rw [hs]; unfold rgL; rw [if_neg (by unfold inR; omega)]
        simp (disch := first | omega | decide) only [push_cast, ↓wF_free, ↓reduceIte, Nat.reduceEqDiff, Nat.reduceLT, Nat.reduceLeDiff, Nat.reduceAdd, Nat.reduceSub, Nat.reduceMul, Nat.reduceBEq, Int.reduceLT, Int.reduceLE, Int.reduceToNat, Int.reduceNeg, Int.reducePow, Int.reduceAdd, Int.reduceMul, Int.reduceSub, ↓Int.reduceNatCast', k1, k2, e0]
      · by_cases k3 : S / 9007199254740992 = 1
        · by_cases k4 : 0 < S % 9007199254740992
          · have e0 : sumE l = (0, 3) := by rw [hs]; unfold rgL; rw [if_neg (by unfold inR; omega)]
            have n1 : ¬ (1 : Int) < -1 := by decide
            have n2 : ¬ (1 : Int) < 1 := by decide
            simp (disch := first | omega | decide) only [push_cast, ↓wF_free, ↓reduceIte, Nat.reduceEqDiff, Nat.reduceLT, Nat.reduceLeDiff, Nat.reduceAdd, Nat.reduceSub, Nat.reduceMul, Nat.reduceBEq, Int.reduceLT, Int.reduceLE, Int.reduceToNat, Int.reduceNeg, Int.reducePow, Int.reduceAdd, Int.reduceMul, Int.reduceSub, ↓Int.reduceNatCast', k3, k4, e0, n1, n2]
          · have e0 : sumE l = (S, 0) := by rw [hs]; unfold rgL; rw [if_pos (by unfold inR; omega)]
            have n1 : ¬ (1 : Int) < -1 := by decide
            have n2 : ¬ (1 : Int) < 1 := by decide
            have e1 : 9007199254740992 + S % 9007199254740992 = S := by omega
            simp (disch := first | omega | decide) only [push_cast, ↓wF_free, ↓reduceIte, Nat.reduceEqDiff, Nat.reduceLT, Nat.reduceLeDiff, Nat.reduceAdd, Nat.reduceSub, Nat.reduceMul, Nat.reduceBEq, Int.reduceLT, Int.reduceLE, Int.reduceToNat, Int.reduceNeg, Int.reducePow, Int.reduceAdd, Int.reduceMul, Int.reduceSub, ↓Int.reduceNatCast', k3, k4, e0, n1, n2, mul_i, add_i, e1, Int.one_mul]
        · have e0 : sumE l = (S, 0) := by rw [hs]; unfold rgL; rw [if_pos (by unfold inR; omega)]
          have e1 : S / 9007199254740992 * 9007199254740992 + S % 9007199254740992 = S := by omega
          simp (disch := first | omega | decide) only [push_cast, ↓wF_free, ↓reduceIte, Nat.reduceEqDiff, Nat.reduceLT, Nat.reduceLeDiff, Nat.reduceAdd, Nat.reduceSub, Nat.reduceMul, Nat.reduceBEq, Int.reduceLT, Int.reduceLE, Int.reduceToNat, Int.reduceNeg, Int.reducePow, Int.reduceAdd, Int.reduceMul, Int.reduceSub, ↓Int.reduceNatCast', k1, k2, k3, e0, mul_i, add_i, e1]
theorem c_rsum : Contract Try.prog GG 35 sp_rsum :=
  contract_of tr_wagonpoolref07_Sum (tb_ok (all_cons c_rin (all_cons c_rfloor all_nil)) all_nil) (fun a h => w_rsum a h)

def sgP (s : Int) : Int → Bool := if s = -1 then neg' else pos'
noncomputable def sp_rnext : List D → Option D := spOf (α := List Int × Nat × Int) (fun a => [.slc (nz 1 (a.1.map nI)) (a.1.map nI) false, .int .i64 (a.2.1 : Int), .int .i64 a.2.2]) (fun a => (a.2.2 = 1 ∨ a.2.2 = -1) ∧ a.2.1 ≤ a.1.length ∧ a.1.length ≤ 4294967296 ∧ (∀ v ∈ a.1, inR v)) (fun a => .int .i64 (nx (sgP a.2.2) a.1 a.2.1 : Int))
theorem call_rnext (b : List Int) (f : Nat) (s : Int) (h : (s = 1 ∨ s = -1) ∧ f ≤ b.length ∧ b.length ≤ 4294967296 ∧ (∀ v ∈ b, inR v)) : sp_rnext [.slc (nz 1 (b.map nI)) (b.map nI) false, .int .i64 (f : Int), .int .i64 s] = some (.int .i64 (nx (sgP s) b f : Int)) :=
  spOf_enc (fun ⟨a0, a1, a2⟩ ⟨b0, b1, b2⟩ h => by simp only [List.cons.injEq, D.slc.injEq, D.int.injEq, D.bool.injEq, D.str.injEq, D.agg.injEq, digs_iff, dig_iff, digC_iff, bytes_iff, byte_iff, words_iff, word_iff, bsl_iff, true_and, and_true, ints_iff, pays_iff, nI_iff, payD_iff, Int.ofNat_inj] at h; simp [h, Prod.ext_iff]) (b, f, s) h
set_option maxHeartbeats 4000000 in
set_option maxRecDepth 20000 in
theorem w_rnext (b : List Int) (f : Nat) (s : Int) (h : (s = 1 ∨ s = -1) ∧ f ≤ b.length ∧ b.length ≤ 4294967296 ∧ (∀ v ∈ b, inR v)) : @wW GG (tb [] []) F_wagonpoolref34_next.code (argF [.slc (nz 1 (b.map nI)) (b.map nI) false, .int .i64 (f : Int), .int .i64 s]) [] ⟨retQ F_wagonpoolref34_next.res (.int .i64 (nx (sgP s) b f : Int))⟩ := by
  obtain ⟨hs, hf, hl, hr⟩ := h
  unfold F_wagonpoolref34_next
  simp (disch := first | omega | decide) only [push_cast, ↓wF_free, ↓reduceIte, Nat.reduceEqDiff, Nat.reduceLT, Nat.reduceLeDiff, Nat.reduceAdd, Nat.reduceSub, Nat.reduceMul, Nat.reduceBEq, Int.reduceLT, Int.reduceLE, Int.reduceToNat, Int.reduceNeg, Int.reducePow, Int.reduceAdd, Int.reduceMul, Int.reduceSub, ↓Int.reduceNatCast']
  refine W_while (fun i : Nat => [(0, .slc (nz 1 (b.map nI)) (b.map nI) false), (1, .int .i64 (i : Int)), (2, .int .i64 s)]) (fun i => []) (fun i => i ≤ b.length ∧ nx (sgP s) b i = nx (sgP s) b f) (fun i => b.length - i) f (by simp only [push_cast, ↓wF_free, ↓reduceIte, Nat.reduceEqDiff, Nat.reduceLT, Nat.reduceLeDiff, Nat.reduceAdd, Nat.reduceSub, Nat.reduceMul, Nat.reduceBEq, Int.reduceLT, Int.reduceLE, Int.reduceToNat, Int.reduceNeg, Int.reducePow, Int.reduceAdd, Int.reduceMul, Int.reduceSub, ↓Int.reduceNatCast'] <;> rfl) ⟨hf, rfl⟩ ?_
  rintro i ⟨hi, hp⟩
  unfold F_wagonpoolref34_next_L0
  by_cases h2 : (i : Int) < (b.length : Int)
  · have hx := hr _ (at_mem (x := b) (i := i) (by omega))
    have hy := nx_yes (sgP s) b i (by omega)
    have hn := nx_no (sgP s) b i (by omega)
    unfold at' at hx hy hn
    simp (disch := first | omega | decide) only [push_cast, ↓wF_free, ↓reduceIte, Nat.reduceEqDiff, Nat.reduceLT, Nat.reduceLeDiff, Nat.reduceAdd, Nat.reduceSub, Nat.reduceMul, Nat.reduceBEq, Int.reduceLT, Int.reduceLE, Int.reduceToNat, Int.reduceNeg, Int.reducePow, Int.reduceAdd, Int.reduceMul, Int.reduceSub, ↓Int.reduceNatCast', h2, idxS_nz]
    generalize b.getD i default = x at *
    unfold inR at hx
    have hm : -9223372036854775808 ≤ x * s ∧ x * s < 9223372036854775808 := by rcases hs with rfl | rfl <;> omega
    by_cases h3 : x * s ≤ 0
    · have hf' : sgP s x = false := by
        unfold sgP neg' pos'
        rcases hs with rfl | rfl
        · simp; omega
        · simp; omega
      simp (disch := first | omega | decide) only [push_cast, ↓wF_free, ↓reduceIte, Nat.reduceEqDiff, Nat.reduceLT, Nat.reduceLeDiff, Nat.reduceAdd, Nat.reduceSub, Nat.reduceMul, Nat.reduceBEq, Int.reduceLT, Int.reduceLE, Int.reduceToNat, Int.reduceNeg, Int.reducePow, Int.reduceAdd, Int.reduceMul, Int.reduceSub, ↓Int.reduceNatCast', mul_i, h3, add_i]
      refine next_head (i + 1) (by exact ⟨by omega, by rw [← hn hf']; exact hp⟩) (by omega) ?_
      simp only [push_cast, ↓wF_free, ↓reduceIte, Nat.reduceEqDiff, Nat.reduceLT, Nat.reduceLeDiff, Nat.reduceAdd, Nat.reduceSub, Nat.reduceMul, Nat.reduceBEq, Int.reduceLT, Int.reduceLE, Int.reduceToNat, Int.reduceNeg, Int.reducePow, Int.reduceAdd, Int.reduceMul, Int.reduceSub, ↓Int.reduceNatCast'] <;> rfl
    · have ht' : sgP s x = true := by
        unfold sgP neg' pos'
        rcases hs with rfl | rfl
        · simp; omega
        · simp; omega
      rw [← hp, hy ht']
      simp (disch := first | omega | decide) only [push_cast, ↓wF_free, ↓reduceIte, Nat.reduceEqDiff, Nat.reduceLT, Nat.reduceLeDiff, Nat.reduceAdd, Nat.reduceSub, Nat.reduceMul, Nat.reduceBEq, Int.reduceLT, Int.reduceLE, Int.reduceToNat, Int.reduceNeg, Int.reducePow, Int.reduceAdd, Int.reduceMul, Int.reduceSub, ↓Int.reduceNatCast', mul_i, h3]
  · rw [← hp, nx_end _ _ _ (by omega)]
    simp (disch := first | omega | decide) only [push_cast, ↓wF_free, ↓reduceIte, Nat.reduceEqDiff, Nat.reduceLT, Nat.reduceLeDiff, Nat.reduceAdd, Nat.reduceSub, Nat.reduceMul, Nat.reduceBEq, Int.reduceLT, Int.reduceLE, Int.reduceToNat, Int.reduceNeg, Int.reducePow, Int.reduceAdd, Int.reduceMul, Int.reduceSub, ↓Int.reduceNatCast', h2]
theorem c_rnext : Contract Try.prog GG 36 sp_rnext :=
  contract_of tr_wagonpoolref34_next (tb_ok all_nil all_nil) (fun a h => w_rnext a.1 a.2.1 a.2.2 h)

/-! ### Closures that hold nothing -/
noncomputable def si_ck1 : List D → St → Option (D × St) := siOf (α := Int × St) (fun a => ([.int .i64 a.1], a.2)) (fun _ => True) (fun a => (.bool (decide ¬ inR a.1), a.2))
theorem call_ck1 (x : Int) (st : St) : si_ck1 [.int .i64 x] st = some (.bool (decide ¬ inR x), st) :=
  siOf_enc (fun a b e => by simp only [Prod.mk.injEq, List.cons.injEq, D.int.injEq, and_true, true_and] at e; rw [e.1, e.2]) ((x, st) : Int × St) trivial rfl
theorem ci_ck1 : IContract Try.prog GG 37 si_ck1 := by
  refine icontract_keep (T := tb [] []) tr_netting_check_1 (tb_ok all_nil all_nil) ?_
  rintro ⟨x, st⟩ _
  unfold F_netting_check_1
  dsimp only
  by_cases h1 : x < -9007199254740992
  · have e : (decide ¬ inR x) = true := decide_eq_true (by unfold inR; omega)
    simp (disch := first | omega | decide) only [push_cast, ↓wF_free, ↓reduceIte, Nat.reduceEqDiff, Nat.reduceLT, Nat.reduceLeDiff, Nat.reduceAdd, Nat.reduceSub, Nat.reduceMul, Nat.reduceBEq, Int.reduceLT, Int.reduceLE, Int.reduceToNat, Int.reduceNeg, Int.reducePow, Int.reduceAdd, Int.reduceMul, Int.reduceSub, ↓Int.reduceNatCast', h1, e]
  · have e : (decide ¬ inR x) = decide (9007199254740992 < x) := by apply decide_eq_decide.2; unfold inR; omega
    simp (disch := first | omega | decide) only [push_cast, ↓wF_free, ↓reduceIte, Nat.reduceEqDiff, Nat.reduceLT, Nat.reduceLeDiff, Nat.reduceAdd, Nat.reduceSub, Nat.reduceMul, Nat.reduceBEq, Int.reduceLT, Int.reduceLE, Int.reduceToNat, Int.reduceNeg, Int.reducePow, Int.reduceAdd, Int.reduceMul, Int.reduceSub, ↓Int.reduceNatCast', h1, e]
noncomputable def si_ck2 : List D → St → Option (D × St) := siOf (α := Int × St) (fun a => ([.int .i64 a.1], a.2)) (fun _ => True) (fun a => (.bool (!decide (a.1 = 0)), a.2))
theorem call_ck2 (x : Int) (st : St) : si_ck2 [.int .i64 x] st = some (.bool (!decide (x = 0)), st) :=
  siOf_enc (fun a b e => by simp only [Prod.mk.injEq, List.cons.injEq, D.int.injEq, and_true, true_and] at e; rw [e.1, e.2]) ((x, st) : Int × St) trivial rfl
theorem ci_ck2 : IContract Try.prog GG 32 si_ck2 := by
  refine icontract_keep (T := tb [] []) tr_netting_Check_2 (tb_ok all_nil all_nil) ?_
  rintro ⟨x, st⟩ _
  unfold F_netting_Check_2
  dsimp only
  simp (disch := first | omega | decide) only [push_cast, ↓wF_free, ↓reduceIte, Nat.reduceEqDiff, Nat.reduceLT, Nat.reduceLeDiff, Nat.reduceAdd, Nat.reduceSub, Nat.reduceMul, Nat.reduceBEq, Int.reduceLT, Int.reduceLE, Int.reduceToNat, Int.reduceNeg, Int.reducePow, Int.reduceAdd, Int.reduceMul, Int.reduceSub, ↓Int.reduceNatCast']
end Go.Proofs.Ytedchaaoemifbaa.PI
