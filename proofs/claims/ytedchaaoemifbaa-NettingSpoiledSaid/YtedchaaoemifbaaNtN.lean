/-
  netting: lists of payments that are accepted are exact.
  Conditions: none.
-/
import Derived.Test.YtedchaaoemifbaaNtM
namespace Go.Proofs.Ytedchaaoemifbaa.PI
open Go
set_option linter.unusedSimpArgs false
set_option linter.unusedVariables false

theorem paid_zero (a : Int) : ∀ l : List Pay, (∀ p ∈ l, p.f ≠ a) → paid a l = 0
  | [], _ => rfl
  | p :: l, h => by rw [paid, if_neg (h p (by simp)), paid_zero a l (fun q hq => h q (by simp [hq]))]; rfl
theorem got_zero (a : Int) : ∀ l : List Pay, (∀ p ∈ l, p.t ≠ a) → got a l = 0
  | [], _ => rfl
  | p :: l, h => by rw [got, if_neg (h p (by simp)), got_zero a l (fun q hq => h q (by simp [hq]))]; rfl
theorem paid_app (a : Int) : ∀ l m : List Pay, paid a (l ++ m) = paid a l + paid a m
  | [], m => by simp [paid]
  | p :: l, m => by rw [List.cons_append, paid, paid, paid_app a l m]; omega
theorem got_app (a : Int) : ∀ l m : List Pay, got a (l ++ m) = got a l + got a m
  | [], m => by simp [got]
  | p :: l, m => by rw [List.cons_append, got, got, got_app a l m]; omega
theorem paid_pos (a : Int) : ∀ l : List Pay, (∀ p ∈ l, 1 ≤ p.n) → 0 ≤ paid a l
  | [], _ => Int.le_refl _
  | p :: l, h => by
    have h1 := paid_pos a l (fun q hq => h q (by simp [hq]))
    have h2 := h p (by simp)
    rw [paid]; split <;> omega
theorem got_pos (a : Int) : ∀ l : List Pay, (∀ p ∈ l, 1 ≤ p.n) → 0 ≤ got a l
  | [], _ => Int.le_refl _
  | p :: l, h => by
    have h1 := got_pos a l (fun q hq => h q (by simp [hq]))
    have h2 := h p (by simp)
    rw [got]; split <;> omega
theorem paid_take (a : Int) (l : List Pay) (i : Nat) (h : ∀ p ∈ l, 1 ≤ p.n) : 0 ≤ paid a (l.take i) ∧ paid a (l.take i) ≤ paid a l := by
  have h1 := paid_pos a (l.take i) (fun p hp => h p (List.mem_of_mem_take hp))
  have h2 := paid_pos a (l.drop i) (fun p hp => h p (List.mem_of_mem_drop hp))
  have h3 := paid_app a (l.take i) (l.drop i)
  rw [List.take_append_drop] at h3
  omega
theorem got_take (a : Int) (l : List Pay) (i : Nat) (h : ∀ p ∈ l, 1 ≤ p.n) : 0 ≤ got a (l.take i) ∧ got a (l.take i) ≤ got a l := by
  have h1 := got_pos a (l.take i) (fun p hp => h p (List.mem_of_mem_take hp))
  have h2 := got_pos a (l.drop i) (fun p hp => h p (List.mem_of_mem_drop hp))
  have h3 := got_app a (l.take i) (l.drop i)
  rw [List.take_append_drop] at h3
  omega
theorem take_oneP (l : List Pay) (i : Nat) (h : i < l.length) : l.take (i + 1) = l.take i ++ [l.getD i default] := by
  rw [List.take_add_one, List.getD_eq_getElem?_getD, List.getElem?_eq_getElem h]
  rfl
theorem paid_next (a : Int) (l : List Pay) (i : Nat) (h : i < l.length) : paid a (l.take (i + 1)) = paid a (l.take i) + (if (l.getD i default).f = a then (l.getD i default).n else 0) := by
  rw [take_oneP l i h, paid_app]; simp [paid]
theorem got_next (a : Int) (l : List Pay) (i : Nat) (h : i < l.length) : got a (l.take (i + 1)) = got a (l.take i) + (if (l.getD i default).t = a then (l.getD i default).n else 0) := by
  rw [take_oneP l i h, got_app]; simp [got]

structure Exact (b : List Int) (l : List Pay) : Prop where
  chk : chkE b = 0
  sum : sumI b = 0
  ok : ∀ p ∈ l, 0 ≤ p.f ∧ p.f < b.length ∧ 0 ≤ p.t ∧ p.t < b.length ∧ p.f ≠ p.t ∧ 1 ≤ p.n ∧ p.n ≤ 9007199254740992 ∧ at' b p.f.toNat < 0 ∧ 0 < at' b p.t.toNat
  pd : ∀ i : Nat, i < b.length → paid (i : Int) l = max 0 (-(at' b i))
  gt : ∀ i : Nat, i < b.length → got (i : Int) l = max 0 (at' b i)
theorem check_exact {b : List Int} {l : List Pay} (h : checkL b l = 0) : Exact b l := by
  unfold checkL at h
  by_cases h0 : (settleL b l).2 = 0
  · rw [if_neg (by rw [h0]; simp)] at h
    obtain ⟨hc, hse⟩ := settleL_ok h0
    obtain ⟨v1, v2, v3, v4⟩ := settle_val l b _ hse
    generalize (settleL b l).1 = y at *
    have h1 : l.any (wrongP b) = false := by cases e : l.any (wrongP b) with
      | false => rfl
      | true => rw [e] at h; simp at h
    have h2 : y.any (fun x => decide (x ≠ 0)) = false := by cases e : y.any (fun x => decide (x ≠ 0)) with
      | false => rfl
      | true => rw [e, Bool.or_true] at h; simp at h
    rw [List.any_eq_false] at h1 h2
    have hy : ∀ v ∈ y, v = 0 := fun v hv => by have := h2 v hv; simpa using this
    have hw : ∀ p ∈ l, at' b p.f.toNat < 0 ∧ 0 < at' b p.t.toNat := fun p hp => by
      have := h1 p hp
      unfold wrongP at this
      rw [Bool.or_eq_true, decide_eq_true_eq, decide_eq_true_eq] at this
      omega
    have hz : sumI y = 0 := by
      have : ∀ z : List Int, (∀ v ∈ z, v = 0) → sumI z = 0 := fun z => by
        induction z with
        | nil => intro _; rfl
        | cons a z ih => intro hz; rw [sumI, hz a (by simp), ih (fun v hv => hz v (by simp [hv]))]; rfl
      exact this y hy
    have hok : ∀ p ∈ l, 0 ≤ p.f ∧ p.f < b.length ∧ 0 ≤ p.t ∧ p.t < b.length ∧ p.f ≠ p.t ∧ 1 ≤ p.n ∧ p.n ≤ 9007199254740992 ∧ at' b p.f.toNat < 0 ∧ 0 < at' b p.t.toNat := fun p hp => by
      obtain ⟨a1, a2⟩ := v4 p hp
      obtain ⟨a3, a4⟩ := hw p hp
      unfold badAcc at a1
      unfold badAmt at a2
      omega
    have hyi : ∀ i : Nat, i < b.length → at' b i + paid (i : Int) l - got (i : Int) l = 0 := fun i hi => by
      rw [← v3 i]
      exact hy _ (at_mem (by omega))
    have hp0 : ∀ i : Nat, 0 ≤ at' b i → paid (i : Int) l = 0 := fun i hi => paid_zero _ l (fun p hp e => by
      have := (hw p hp).1
      rw [e, Int.toNat_natCast] at this
      omega)
    have hg0 : ∀ i : Nat, at' b i ≤ 0 → got (i : Int) l = 0 := fun i hi => got_zero _ l (fun p hp e => by
      have := (hw p hp).2
      rw [e, Int.toNat_natCast] at this
      omega)
    refine ⟨hc, by omega, hok, fun i hi => ?_, fun i hi => ?_⟩
    · have := hyi i hi
      rcases Int.lt_or_le (at' b i) 0 with h3 | h3
      · have := hg0 i (by omega); omega
      · have := hp0 i h3; omega
    · have := hyi i hi
      rcases Int.lt_or_le 0 (at' b i) with h3 | h3
      · have := hp0 i (by omega); omega
      · have := hg0 i h3; omega
  · rw [if_pos h0] at h; exact absurd h h0

theorem mk_ints (n : Nat) (h1 : n ≤ 336) : mkslcD 1 8 (.int .i64 0) (.int .i64 (n : Int)) (.int .i64 (n : Int)) = some (n, ⟨true, 1, (List.replicate n (0 : Int)).map nI, false⟩) := by
  simp only [mkslcD, natOf_int .i64 (n : Int) (by omega), Int.toNat_natCast]
  rw [if_pos ⟨Nat.le_refl _, by omega, by omega, by decide, rfl, rfl⟩, List.map_replicate]
  rfl
theorem rep_at (n i : Nat) : at' (List.replicate n (0 : Int)) i = 0 := by
  unfold at'
  rw [List.getD_eq_getElem?_getD, List.getElem?_replicate]
  split <;> rfl

set_option maxHeartbeats 4000000
set_option maxHeartbeats 4000000 in
set_option maxRecDepth 20000 in
theorem lw_NettingExact (b : List Int) (hb : b.length ≤ maxLen) (l : List Pay) (hl : l.length ≤ maxLen) : @wW GG (tb [(9, sp_nsane), (13, sp_pcheck2), (14, sp_rin), (11, sp_msum)] []) F_wagonpoollaw34_NettingExact.code (argF [.slc (nz 1 (b.map nI)) (b.map nI) false, .slc (nz 3 (l.map payD)) (l.map payD) false]) [] ⟨retQ F_wagonpoollaw34_NettingExact.res (.bool true)⟩ := by
  have hm := maxLen_le
  have ck := call_pcheck2 b l (by omega)
  have cs := call_msum b (by omega)
  unfold F_wagonpoollaw34_NettingExact
  by_cases hck : checkL b l = 0
  · obtain ⟨hc, h0, hok, hpd, hgt⟩ := check_exact hck
    obtain ⟨hl, hin⟩ := chkE_ok hc
    have hs := sum_ok hc
    have z1 : (sumE b).2 = 0 := Classical.byContradiction fun h => (hs.1 (.inl h)) h0
    have z2 : (sumE b).1 = 0 := Classical.byContradiction fun h => (hs.1 (.inr h)) h0
    rw [z1, z2] at cs
    rw [hck] at ck
    have hn1 : ∀ p ∈ l, 1 ≤ p.n := fun p hp => (hok p hp).2.2.2.2.2.1
    have mk := mk_ints b.length hl
    simp (disch := first | omega | decide) only [push_cast, ↓wF_free, ↓reduceIte, Nat.reduceEqDiff, Nat.reduceLT, Nat.reduceLeDiff, Nat.reduceAdd, Nat.reduceSub, Nat.reduceMul, Nat.reduceBEq, Int.reduceLT, Int.reduceLE, Int.reduceToNat, Int.reduceNeg, Int.reducePow, Int.reduceAdd, Int.reduceMul, Int.reduceSub, ↓Int.reduceNatCast', call_nsane, ck, mk]
    refine W_while (fun i : Nat × List Int × List Int => [(0, .slc (nz 1 (b.map nI)) (b.map nI) false), (1, .slc (nz 3 (l.map payD)) (l.map payD) false), (5, .row 0 b.length 0 b.length), (6, .row 1 b.length 0 b.length), (7, .int .i64 (i.1 : Int))])
      (fun i => [⟨true, 1, i.2.1.map nI, false⟩, ⟨true, 1, i.2.2.map nI, false⟩])
      (fun i => i.1 ≤ l.length ∧ i.2.1.length = b.length ∧ i.2.2.length = b.length ∧ (∀ j : Nat, j < b.length → at' i.2.1 j = paid (j : Int) (l.take i.1)) ∧ (∀ j : Nat, j < b.length → at' i.2.2 j = got (j : Int) (l.take i.1)))
      (fun i => l.length - i.1) (0, List.replicate b.length 0, List.replicate b.length 0) (by simp only [push_cast, ↓wF_free, ↓reduceIte, Nat.reduceEqDiff, Nat.reduceLT, Nat.reduceLeDiff, Nat.reduceAdd, Nat.reduceSub, Nat.reduceMul, Nat.reduceBEq, Int.reduceLT, Int.reduceLE, Int.reduceToNat, Int.reduceNeg, Int.reducePow, Int.reduceAdd, Int.reduceMul, Int.reduceSub, ↓Int.reduceNatCast'] <;> rfl)
      ⟨Nat.zero_le _, List.length_replicate .., List.length_replicate .., fun j _ => by rw [rep_at]; rfl, fun j _ => by rw [rep_at]; rfl⟩ ?_
    rintro ⟨i, A, B⟩ ⟨hi, hA, hB, hAj, hBj⟩
    dsimp only at hi hA hB hAj hBj
    unfold F_wagonpoollaw34_NettingExact_L0
    simp (disch := first | omega | decide) only [push_cast, ↓wF_free, ↓reduceIte, Nat.reduceEqDiff, Nat.reduceLT, Nat.reduceLeDiff, Nat.reduceAdd, Nat.reduceSub, Nat.reduceMul, Nat.reduceBEq, Int.reduceLT, Int.reduceLE, Int.reduceToNat, Int.reduceNeg, Int.reducePow, Int.reduceAdd, Int.reduceMul, Int.reduceSub, ↓Int.reduceNatCast']
    refine ifD_split (fun h2 => ?_) (fun h2 => ?_)
    · have hlt : i < l.length := by omega
      have hxx := fun st => idxS_nz (st := st) 3 payD l false .i64 (i : Int) (by omega) (by omega)
      rw [Int.toNat_natCast] at hxx
      obtain ⟨a1, a2, a3, a4, a5, a6, a7, a8, a9⟩ := hok _ (getD_mem hlt)
      have hpn := fun a : Int => paid_next a l i hlt
      have hgn := fun a : Int => got_next a l i hlt
      have hpb := fun a : Int => paid_take a l (i + 1) hn1
      have hgb := fun a : Int => got_take a l (i + 1) hn1
      generalize hP : l.getD i default = P at *
      have b1 : ¬ P.n < 1 := by omega
      have b2 : ¬ P.f < 0 := by omega
      have b3 : ¬ (b.length : Int) ≤ P.f := by omega
      have b4 : ¬ P.t < 0 := by omega
      have b5 : ¬ (b.length : Int) ≤ P.t := by omega
      have cr := call_rin P.n
      rw [decide_eq_true (show inR P.n by unfold inR; omega)] at cr
      have ef : ((P.f.toNat : Nat) : Int) = P.f := by omega
      have et : ((P.t.toNat : Nat) : Int) = P.t := by omega
      have vA := hAj P.f.toNat (by omega)
      have vB := hBj P.t.toNat (by omega)
      have wA := hpn P.f
      have wB := hgn P.t
      rw [if_pos rfl] at wA wB
      rw [ef] at vA
      rw [et] at vB
      have uA := hpb P.f
      have uB := hgb P.t
      have xA := hpd P.f.toNat (by omega)
      have xB := hgt P.t.toNat (by omega)
      rw [ef] at xA
      rw [et] at xB
      have r1 := hin _ (at_mem (x := b) (i := P.f.toNat) (by omega))
      have r2 := hin _ (at_mem (x := b) (i := P.t.toNat) (by omega))
      unfold inR at r1 r2
      have l1 := ldR_nI A false b.length P.f.toNat hA (by omega)
      have l2 := ldR_nI B false b.length P.t.toNat hB (by omega)
      have i1 := ixR_nI A false 0 b.length P.f hA a1 a2
      have i2 := ixR_nI B false 1 b.length P.t hB a3 a4
      have hA2 : (A.set P.f.toNat (at' A P.f.toNat + P.n)).length = b.length := by rw [List.length_set]; exact hA
      have hB2 : (B.set P.t.toNat (at' B P.t.toNat + P.n)).length = b.length := by rw [List.length_set]; exact hB
      have s1 := stRI_row A b.length P.f.toNat (at' A P.f.toNat + P.n) hA (by omega)
      have s2 := stRI_row B b.length P.t.toNat (at' B P.t.toNat + P.n) hB (by omega)
      have l3 := ldR_nI (A.set P.f.toNat (at' A P.f.toNat + P.n)) false b.length P.f.toNat hA2 (by omega)
      have l4 := ldR_nI (B.set P.t.toNat (at' B P.t.toNat + P.n)) false b.length P.t.toNat hB2 (by omega)
      rw [at_set _ _ _ _ (by omega), if_pos rfl] at l3 l4
      have i3 := ixR_nI (A.set P.f.toNat (at' A P.f.toNat + P.n)) false 0 b.length P.f hA2 a1 a2
      have i4 := ixR_nI (B.set P.t.toNat (at' B P.t.toNat + P.n)) false 1 b.length P.t hB2 a3 a4
      have cA := call_rin (at' A P.f.toNat + P.n)
      have cB := call_rin (at' B P.t.toNat + P.n)
      rw [decide_eq_true (by unfold inR; omega)] at cA cB
      have m1 : -9223372036854775808 ≤ at' A P.f.toNat + P.n ∧ at' A P.f.toNat + P.n ≤ 9223372036854775807 := by omega
      have m2 : -9223372036854775808 ≤ at' B P.t.toNat + P.n ∧ at' B P.t.toNat + P.n ≤ 9223372036854775807 := by omega
      simp (disch := first | omega | decide) only [push_cast, ↓wF_free, ↓reduceIte, Nat.reduceEqDiff, Nat.reduceLT, Nat.reduceLeDiff, Nat.reduceAdd, Nat.reduceSub, Nat.reduceMul, Nat.reduceBEq, Int.reduceLT, Int.reduceLE, Int.reduceToNat, Int.reduceNeg, Int.reducePow, Int.reduceAdd, Int.reduceMul, Int.reduceSub, ↓Int.reduceNatCast', hxx, pld_f, pld_t, pld_n, b1, b2, b3, b4, b5, cr, i1, l1, add_i, pstor_ri, s1, i2, l2, s2, i3, l3, i4, l4, cA, cB]
      refine next_head (i + 1, A.set P.f.toNat (at' A P.f.toNat + P.n), B.set P.t.toNat (at' B P.t.toNat + P.n)) (by exact ⟨by omega, hA2, hB2, fun j hj => by
        rw [at_set _ _ _ _ (by omega), hpn]
        by_cases e : P.f.toNat = j
        · rw [if_pos e, if_pos (by omega), hAj _ (by omega), ef, ← e, ef]
        · rw [if_neg e, if_neg (by omega), hAj j hj, Int.add_zero], fun j hj => by
        rw [at_set _ _ _ _ (by omega), hgn]
        by_cases e : P.t.toNat = j
        · rw [if_pos e, if_pos (by omega), hBj _ (by omega), et, ← e, et]
        · rw [if_neg e, if_neg (by omega), hBj j hj, Int.add_zero]⟩) (by dsimp only; omega) ?_
      rfl
    · have e : i = l.length := by omega
      subst e
      rw [List.take_length] at hAj hBj
      simp (disch := first | omega | decide) only [push_cast, ↓wF_free, ↓reduceIte, Nat.reduceEqDiff, Nat.reduceLT, Nat.reduceLeDiff, Nat.reduceAdd, Nat.reduceSub, Nat.reduceMul, Nat.reduceBEq, Int.reduceLT, Int.reduceLE, Int.reduceToNat, Int.reduceNeg, Int.reducePow, Int.reduceAdd, Int.reduceMul, Int.reduceSub, ↓Int.reduceNatCast']
      refine W_while (fun i : Nat => [(0, .slc (nz 1 (b.map nI)) (b.map nI) false), (5, .row 0 b.length 0 b.length), (6, .row 1 b.length 0 b.length), (8, .int .i64 (i : Int))])
        (fun i => [⟨true, 1, A.map nI, false⟩, ⟨true, 1, B.map nI, false⟩]) (fun i => i ≤ b.length) (fun i => b.length - i) 0 (by simp only [push_cast, ↓wF_free, ↓reduceIte, Nat.reduceEqDiff, Nat.reduceLT, Nat.reduceLeDiff, Nat.reduceAdd, Nat.reduceSub, Nat.reduceMul, Nat.reduceBEq, Int.reduceLT, Int.reduceLE, Int.reduceToNat, Int.reduceNeg, Int.reducePow, Int.reduceAdd, Int.reduceMul, Int.reduceSub, ↓Int.reduceNatCast'] <;> rfl) (Nat.zero_le _) ?_
      intro i hi
      unfold F_wagonpoollaw34_NettingExact_L1
      simp (disch := first | omega | decide) only [push_cast, ↓wF_free, ↓reduceIte, Nat.reduceEqDiff, Nat.reduceLT, Nat.reduceLeDiff, Nat.reduceAdd, Nat.reduceSub, Nat.reduceMul, Nat.reduceBEq, Int.reduceLT, Int.reduceLE, Int.reduceToNat, Int.reduceNeg, Int.reducePow, Int.reduceAdd, Int.reduceMul, Int.reduceSub, ↓Int.reduceNatCast']
      refine ifD_split (fun h2 => ?_) (fun h2 => ?_)
      · have hlt : i < b.length := by omega
        have hxx := fun st => idxS_nz (st := st) 1 nI b false .i64 (i : Int) (by omega) (by omega)
        rw [Int.toNat_natCast] at hxx
        have i1 := ixR_nI A false 0 b.length (i : Int) hA (by omega) (by omega)
        have i2 := ixR_nI B false 1 b.length (i : Int) hB (by omega) (by omega)
        rw [Int.toNat_natCast] at i1 i2
        have l1 := ldR_nI A false b.length i hA hlt
        have l2 := ldR_nI B false b.length i hB hlt
        have r1 := hin _ (at_mem hlt)
        unfold inR at r1
        have e1 : at' A i = max 0 (-(at' b i)) := (hAj i hlt).trans (hpd i hlt)
        have e2 : at' B i = max 0 (at' b i) := (hBj i hlt).trans (hgt i hlt)
        unfold at' at e1 e2 r1 l1 l2
        simp (disch := first | omega | decide) only [push_cast, ↓wF_free, ↓reduceIte, Nat.reduceEqDiff, Nat.reduceLT, Nat.reduceLeDiff, Nat.reduceAdd, Nat.reduceSub, Nat.reduceMul, Nat.reduceBEq, Int.reduceLT, Int.reduceLE, Int.reduceToNat, Int.reduceNeg, Int.reducePow, Int.reduceAdd, Int.reduceMul, Int.reduceSub, ↓Int.reduceNatCast', hxx, pload_nI, i1, l1, un_neg, i2, l2, e1, e2, add_i]
        refine next_head (i + 1) (by omega) (by omega) ?_
        rfl
      · simp (disch := first | omega | decide) only [push_cast, ↓wF_free, ↓reduceIte, Nat.reduceEqDiff, Nat.reduceLT, Nat.reduceLeDiff, Nat.reduceAdd, Nat.reduceSub, Nat.reduceMul, Nat.reduceBEq, Int.reduceLT, Int.reduceLE, Int.reduceToNat, Int.reduceNeg, Int.reducePow, Int.reduceAdd, Int.reduceMul, Int.reduceSub, ↓Int.reduceNatCast', cs]
  · simp (disch := first | omega | decide) only [push_cast, ↓wF_free, ↓reduceIte, Nat.reduceEqDiff, Nat.reduceLT, Nat.reduceLeDiff, Nat.reduceAdd, Nat.reduceSub, Nat.reduceMul, Nat.reduceBEq, Int.reduceLT, Int.reduceLE, Int.reduceToNat, Int.reduceNeg, Int.reducePow, Int.reduceAdd, Int.reduceMul, Int.reduceSub, ↓Int.reduceNatCast', call_nsane, ck, hck]
theorem law_NettingExact : Contract Try.prog GG 4 (lawSp [.slc (.int .i64), .slc (.agg [.int .i64, .int .i64, .int .i64])]) := by
  refine lawC tr_wagonpoollaw34_NettingExact (T := tb [(9, sp_nsane), (13, sp_pcheck2), (14, sp_rin), (11, sp_msum)] []) (tb_ok (all_cons c_nsane (all_cons c_pcheck2 (all_cons c_rin (all_cons c_msum all_nil)))) all_nil) ?_
  intro xs h
  obtain ⟨x0, xs, rfl, h0, h⟩ := hasAll_cons h
  obtain ⟨x1, xs, rfl, h1, h⟩ := hasAll_cons h
  obtain rfl := hasAll_nil h
  obtain ⟨y0, rfl, ya0⟩ := has_ints h0
  obtain ⟨y1, rfl, ya1⟩ := has_pays h1
  exact lw_NettingExact y0 ya0 y1 ya1
end Go.Proofs.Ytedchaaoemifbaa.PI
