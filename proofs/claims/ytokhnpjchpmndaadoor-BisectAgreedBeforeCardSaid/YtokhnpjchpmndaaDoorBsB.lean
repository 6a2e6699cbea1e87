/-
  bisect: Begin, Disclose, Done, Answer, of the program and of the reference.
  Conditions: none; these are lemmas.
-/
import Derived.Test.YtokhnpjchpmndaaDoorBsA
namespace Go.Proofs.YtokhnpjchpmndaaDoor.PI
open Go
set_option linter.unusedSimpArgs false
set_option linter.unusedVariables false

theorem idxA_pp (st : St) (n sz key off : Nat) (k : IntKind) (i : Int) (h0 : 0 ≤ i) (h1 : i < (n : Int)) : pidxA st n sz (.ptr key off) (.int k i) = some (.ptr key (off + i.toNat * sz)) := by
  simp only [pidxA, natOf_int k i h0, pfld]
  rw [if_pos (by omega)]
/-- the state before the first round -/
def beginH (a b : Int × Dig) : Bis := ⟨max (depthL a.1) (depthL b.1), max (depthL a.1) (depthL b.1), 0, padF a.1 a.2 (max (depthL a.1) (depthL b.1)).toNat, padF b.1 b.2 (max (depthL a.1) (depthL b.1)).toNat, false, false, zeroDig, zeroDig, zeroDig, zeroDig, 0⟩
def beginL (a b : Int × Dig) : Bis := if depthL a.1 < 0 then zeroBis else if depthL b.1 < 0 then zeroBis else if (beginH a b).n0 = (beginH a b).n1 then zeroBis else beginH a b
def beginE (a b : Int × Dig) : Int := if depthL a.1 < 0 then 1 else if depthL b.1 < 0 then 1 else if (beginH a b).n0 = (beginH a b).n1 then 380 else 0
theorem depthL_range (n : Int) : -1 ≤ depthL n ∧ depthL n ≤ 16 := by
  by_cases h : n < 0 ∨ 65536 < n
  · rw [depthL_bad h]; omega
  · have := depthL_ok (n := n) (by omega) (by omega)
    omega
theorem fldv_zeroBis_n : pfldv 3 64 true (bisD zeroBis) = some (.agg (d2C zeroDig zeroDig)) := fldv_mid (A := [.int .i64 0, .int .i64 0, .int .i64 0]) (B := d2C zeroDig zeroDig) (by simp [bisC, d2C, zeroBis]; rfl) rfl (d2C_length _ _)

noncomputable def sp_bBegin : List D → Option D := spOf (α := (Int × Dig) × (Int × Dig)) (fun a => [.agg (.int .i64 (Prod.fst a.1) :: digC (Prod.snd a.1)), .agg (.int .i64 (Prod.fst a.2) :: digC (Prod.snd a.2))]) (fun a => True) (fun a => .tup [bisD (beginL a.1 a.2), .int .i64 (beginE a.1 a.2)])
theorem call_bBegin (a : Int × Dig) (b : Int × Dig) : sp_bBegin [.agg (.int .i64 (Prod.fst a) :: digC (Prod.snd a)), .agg (.int .i64 (Prod.fst b) :: digC (Prod.snd b))] = some (.tup [bisD (beginL a b), .int .i64 (beginE a b)]) :=
  spOf_enc (fun ⟨a0, a1⟩ ⟨b0, b1⟩ h => by simp only [List.cons.injEq, D.slc.injEq, D.int.injEq, D.bool.injEq, D.str.injEq, D.agg.injEq, digs_iff, dig_iff, digC_iff, bytes_iff, byte_iff, words_iff, word_iff, Sha.St8.list_iff, bsl_iff, true_and, and_true, bisD_iff] at h; simp [h, Prod.ext_iff]) (a, b) trivial
set_option maxHeartbeats 4000000 in
set_option maxRecDepth 20000 in
theorem w_bBegin (a : Int × Dig) (b : Int × Dig) : @wW GG (tb [(22, sp_mDepth), (33, sp_bpadded)] []) F_bisect_Begin.code (argF [.agg (.int .i64 (Prod.fst a) :: digC (Prod.snd a)), .agg (.int .i64 (Prod.fst b) :: digC (Prod.snd b))]) [] ⟨retQ F_bisect_Begin.res (.tup [bisD (beginL a b), .int .i64 (beginE a b)])⟩ := by
  obtain ⟨s1, r1⟩ := a
  obtain ⟨s2, r2⟩ := b
  have d1 := depthL_range s1
  have d2 := depthL_range s2
  unfold F_bisect_Begin beginL beginE
  dsimp only
  by_cases h1 : depthL s1 < 0
  · simp (disch := first | omega | decide) only [push_cast, ↓wF_free, ↓reduceIte, Nat.reduceEqDiff, Nat.reduceLT, Nat.reduceLeDiff, Nat.reduceAdd, Nat.reduceSub, Nat.reduceMul, Nat.reduceBEq, Int.reduceLT, Int.reduceLE, Int.reduceToNat, Int.reduceNeg, Int.reducePow, Int.reduceAdd, Int.reduceMul, Int.reduceSub, ↓Int.reduceNatCast', box_commit, ldO_one, ldO_succ, ldO_commit, call_mDepth, h1]
  by_cases h2 : depthL s2 < 0
  · simp (disch := first | omega | decide) only [push_cast, ↓wF_free, ↓reduceIte, Nat.reduceEqDiff, Nat.reduceLT, Nat.reduceLeDiff, Nat.reduceAdd, Nat.reduceSub, Nat.reduceMul, Nat.reduceBEq, Int.reduceLT, Int.reduceLE, Int.reduceToNat, Int.reduceNeg, Int.reducePow, Int.reduceAdd, Int.reduceMul, Int.reduceSub, ↓Int.reduceNatCast', box_commit, ldO_one, ldO_succ, ldO_commit, call_mDepth, h1, h2]
  have c1 := call_bpadded (s1, r1) (max (depthL s1) (depthL s2)) ⟨by omega, by omega⟩
  have c2 := call_bpadded (s2, r2) (max (depthL s1) (depthL s2)) ⟨by omega, by omega⟩
  dsimp only at c1 c2
  have e1 : (beginH (s1, r1) (s2, r2)).n0 = padF s1 r1 (max (depthL s1) (depthL s2)).toNat := rfl
  have e2 : (beginH (s1, r1) (s2, r2)).n1 = padF s2 r2 (max (depthL s1) (depthL s2)).toNat := rfl
  have e3 : beginH (s1, r1) (s2, r2) = { zeroBis with h := max (depthL s1) (depthL s2), l := max (depthL s1) (depthL s2), n0 := padF s1 r1 (max (depthL s1) (depthL s2)).toNat, n1 := padF s2 r2 (max (depthL s1) (depthL s2)).toNat } := rfl
  rw [e1, e2, e3]
  generalize padF s1 r1 (max (depthL s1) (depthL s2)).toNat = p1 at *
  generalize padF s2 r2 (max (depthL s1) (depthL s2)).toNat = p2 at *
  by_cases h3 : p1 = p2
  · simp (disch := first | omega | decide) only [push_cast, ↓wF_free, ↓reduceIte, Nat.reduceEqDiff, Nat.reduceLT, Nat.reduceLeDiff, Nat.reduceAdd, Nat.reduceSub, Nat.reduceMul, Nat.reduceBEq, Int.reduceLT, Int.reduceLE, Int.reduceToNat, Int.reduceNeg, Int.reducePow, Int.reduceAdd, Int.reduceMul, Int.reduceSub, ↓Int.reduceNatCast', box_commit, ldO_one, ldO_succ, ldO_commit, call_mDepth, h1, h2, c1, c2, h3, fill_nil, idxA_pp]
  · simp (disch := first | omega | decide) only [push_cast, ↓wF_free, ↓reduceIte, Nat.reduceEqDiff, Nat.reduceLT, Nat.reduceLeDiff, Nat.reduceAdd, Nat.reduceSub, Nat.reduceMul, Nat.reduceBEq, Int.reduceLT, Int.reduceLE, Int.reduceToNat, Int.reduceNeg, Int.reducePow, Int.reduceAdd, Int.reduceMul, Int.reduceSub, ↓Int.reduceNatCast', box_commit, ldO_one, ldO_succ, ldO_commit, call_mDepth, h1, h2, c1, c2, h3, fill_nil, idxA_pp]
theorem c_bBegin : Contract Tryd.prog GG 13 sp_bBegin :=
  contract_of tr_bisect_Begin (tb_ok (all_cons c_mDepth (all_cons c_bpadded all_nil)) all_nil) (fun a h => w_bBegin a.1 a.2)

noncomputable def sp_rBegin : List D → Option D := spOf (α := (Int × Dig) × (Int × Dig)) (fun a => [.agg (.int .i64 (Prod.fst a.1) :: digC (Prod.snd a.1)), .agg (.int .i64 (Prod.fst a.2) :: digC (Prod.snd a.2))]) (fun a => True) (fun a => .tup [bisD (beginL a.1 a.2), .int .i64 (beginE a.1 a.2)])
theorem call_rBegin (a : Int × Dig) (b : Int × Dig) : sp_rBegin [.agg (.int .i64 (Prod.fst a) :: digC (Prod.snd a)), .agg (.int .i64 (Prod.fst b) :: digC (Prod.snd b))] = some (.tup [bisD (beginL a b), .int .i64 (beginE a b)]) :=
  spOf_enc (fun ⟨a0, a1⟩ ⟨b0, b1⟩ h => by simp only [List.cons.injEq, D.slc.injEq, D.int.injEq, D.bool.injEq, D.str.injEq, D.agg.injEq, digs_iff, dig_iff, digC_iff, bytes_iff, byte_iff, words_iff, word_iff, Sha.St8.list_iff, bsl_iff, true_and, and_true, bisD_iff] at h; simp [h, Prod.ext_iff]) (a, b) trivial
set_option maxHeartbeats 4000000 in
set_option maxRecDepth 20000 in
theorem w_rBegin (a : Int × Dig) (b : Int × Dig) : @wW GG (tb [(36, sp_rDepth), (47, sp_rpadded38)] []) F_wagonpoolref38_Begin.code (argF [.agg (.int .i64 (Prod.fst a) :: digC (Prod.snd a)), .agg (.int .i64 (Prod.fst b) :: digC (Prod.snd b))]) [] ⟨retQ F_wagonpoolref38_Begin.res (.tup [bisD (beginL a b), .int .i64 (beginE a b)])⟩ := by
  obtain ⟨s1, r1⟩ := a
  obtain ⟨s2, r2⟩ := b
  have d1 := depthL_range s1
  have d2 := depthL_range s2
  unfold F_wagonpoolref38_Begin beginL beginE
  dsimp only
  by_cases h1 : depthL s1 < 0
  · simp (disch := first | omega | decide) only [push_cast, ↓wF_free, ↓reduceIte, Nat.reduceEqDiff, Nat.reduceLT, Nat.reduceLeDiff, Nat.reduceAdd, Nat.reduceSub, Nat.reduceMul, Nat.reduceBEq, Int.reduceLT, Int.reduceLE, Int.reduceToNat, Int.reduceNeg, Int.reducePow, Int.reduceAdd, Int.reduceMul, Int.reduceSub, ↓Int.reduceNatCast', box_commit, ldO_one, ldO_succ, ldO_commit, call_rDepth, h1, fill_nil]
  by_cases h2 : depthL s2 < 0
  · simp (disch := first | omega | decide) only [push_cast, ↓wF_free, ↓reduceIte, Nat.reduceEqDiff, Nat.reduceLT, Nat.reduceLeDiff, Nat.reduceAdd, Nat.reduceSub, Nat.reduceMul, Nat.reduceBEq, Int.reduceLT, Int.reduceLE, Int.reduceToNat, Int.reduceNeg, Int.reducePow, Int.reduceAdd, Int.reduceMul, Int.reduceSub, ↓Int.reduceNatCast', box_commit, ldO_one, ldO_succ, ldO_commit, call_rDepth, h1, h2, fill_nil]
  have c1 := call_rpadded38 (s1, r1) (max (depthL s1) (depthL s2)) ⟨by dsimp only; omega, by dsimp only; omega, by omega⟩
  have c2 := call_rpadded38 (s2, r2) (max (depthL s1) (depthL s2)) ⟨by dsimp only; omega, by dsimp only; omega, by omega⟩
  dsimp only at c1 c2
  have e1 : (beginH (s1, r1) (s2, r2)).n0 = padF s1 r1 (max (depthL s1) (depthL s2)).toNat := rfl
  have e2 : (beginH (s1, r1) (s2, r2)).n1 = padF s2 r2 (max (depthL s1) (depthL s2)).toNat := rfl
  have e3 : beginH (s1, r1) (s2, r2) = { zeroBis with h := max (depthL s1) (depthL s2), l := max (depthL s1) (depthL s2), n0 := padF s1 r1 (max (depthL s1) (depthL s2)).toNat, n1 := padF s2 r2 (max (depthL s1) (depthL s2)).toNat } := rfl
  rw [e1, e2, e3]
  generalize padF s1 r1 (max (depthL s1) (depthL s2)).toNat = p1 at *
  generalize padF s2 r2 (max (depthL s1) (depthL s2)).toNat = p2 at *
  by_cases h3 : p1 = p2
  · simp (disch := first | omega | decide) only [push_cast, ↓wF_free, ↓reduceIte, Nat.reduceEqDiff, Nat.reduceLT, Nat.reduceLeDiff, Nat.reduceAdd, Nat.reduceSub, Nat.reduceMul, Nat.reduceBEq, Int.reduceLT, Int.reduceLE, Int.reduceToNat, Int.reduceNeg, Int.reducePow, Int.reduceAdd, Int.reduceMul, Int.reduceSub, ↓Int.reduceNatCast', box_commit, ldO_one, ldO_succ, ldO_commit, call_rDepth, h1, h2, c1, c2, h3, fill_nil, idxA_pp]
  · simp (disch := first | omega | decide) only [push_cast, ↓wF_free, ↓reduceIte, Nat.reduceEqDiff, Nat.reduceLT, Nat.reduceLeDiff, Nat.reduceAdd, Nat.reduceSub, Nat.reduceMul, Nat.reduceBEq, Int.reduceLT, Int.reduceLE, Int.reduceToNat, Int.reduceNeg, Int.reducePow, Int.reduceAdd, Int.reduceMul, Int.reduceSub, ↓Int.reduceNatCast', box_commit, ldO_one, ldO_succ, ldO_commit, call_rDepth, h1, h2, c1, c2, h3, fill_nil, idxA_pp]
theorem c_rBegin : Contract Tryd.prog GG 29 sp_rBegin :=
  contract_of tr_wagonpoolref38_Begin (tb_ok (all_cons c_rDepth (all_cons c_rpadded38 all_nil)) all_nil) (fun a h => w_rBegin a.1 a.2)

def toldB (x : Bis) (p : Int) : Bool := if p = 0 then x.t0 else x.t1
def nodeB (x : Bis) (p : Int) : Dig := if p = 0 then x.n0 else x.n1
def setB (x : Bis) (p : Int) (l r : Dig) : Bis := if p = 0 then { x with t0 := true, l0 := l, r0 := r } else { x with t1 := true, l1 := l, r1 := r }
def stepB (x : Bis) : Bis := if x.l0 = x.l1 then { zeroBis with h := x.h, l := x.l - 1, i := 2 * x.i + 1, n0 := x.r0, n1 := x.r1, r := x.r + 1 } else { zeroBis with h := x.h, l := x.l - 1, i := 2 * x.i, n0 := x.l0, n1 := x.l1, r := x.r + 1 }
def discL (x : Bis) (p : Int) (l r : Dig) : Bis := if bvalid x = true ∧ (p = 0 ∨ p = 1) then (if x.l = 0 ∨ toldB x p = true then zeroBis else if parentL l r = nodeB x p then (if toldB x (1 - p) = true then stepB (setB x p l r) else setB x p l r) else zeroBis) else zeroBis
def discE (x : Bis) (p : Int) (l r : Dig) : Int := if bvalid x = true ∧ (p = 0 ∨ p = 1) then (if x.l = 0 ∨ toldB x p = true then 380 else if parentL l r = nodeB x p then 0 else 381) else 1
theorem i_bound {x : Bis} (h : bvalid x = true) : x.i < 65536 := by
  obtain ⟨a, b, c, d, e, f, g⟩ := bvalid_spec h
  have := pow_mono (a := (x.h - x.l).toNat) (b := 16) (by omega)
  omega

noncomputable def sp_bDisc : List D → Option D := spOf (α := Bis × Int × Dig × Dig) (fun a => [bisD a.1, .int .i64 a.2.1, digD a.2.2.1, digD a.2.2.2]) (fun a => -9223372036854775808 ≤ a.2.1 ∧ a.2.1 < 9223372036854775808) (fun a => .tup [bisD (discL a.1 a.2.1 a.2.2.1 a.2.2.2), .int .i64 (discE a.1 a.2.1 a.2.2.1 a.2.2.2)])
theorem call_bDisc (x : Bis) (p : Int) (l : Dig) (r : Dig) (h : -9223372036854775808 ≤ p ∧ p < 9223372036854775808) : sp_bDisc [bisD x, .int .i64 p, digD l, digD r] = some (.tup [bisD (discL x p l r), .int .i64 (discE x p l r)]) :=
  spOf_enc (fun ⟨a0, a1, a2, a3⟩ ⟨b0, b1, b2, b3⟩ h => by simp only [List.cons.injEq, D.slc.injEq, D.int.injEq, D.bool.injEq, D.str.injEq, D.agg.injEq, digs_iff, dig_iff, digC_iff, bytes_iff, byte_iff, words_iff, word_iff, Sha.St8.list_iff, bsl_iff, true_and, and_true, bisD_iff] at h; simp [h, Prod.ext_iff]) (x, p, l, r) h
set_option maxHeartbeats 4000000 in
set_option maxRecDepth 20000 in
theorem w_bDisc (x : Bis) (p : Int) (l : Dig) (r : Dig) (h : -9223372036854775808 ≤ p ∧ p < 9223372036854775808) : @wW GG (tb [(35, sp_bvalid), (27, sp_mParent)] []) F_bisect_Disclose.code (argF [bisD x, .int .i64 p, digD l, digD r]) [] ⟨retQ F_bisect_Disclose.res (.tup [bisD (discL x p l r), .int .i64 (discE x p l r)])⟩ := by
  unfold F_bisect_Disclose
  by_cases hv : bvalid x = true
  · have cv := call_bvalid x
    rw [hv] at cv
    by_cases hp : p = 0 ∨ p = 1
    · obtain ⟨v1, v2, v3, v4, v5, v6, v7⟩ := bvalid_spec hv
      have v8 := i_bound hv
      rcases hp with rfl | rfl
      · have q1 : ¬ (1 : Int) = 0 := by decide
        by_cases h1 : x.l = 0
        · have e1 : discL x 0 l r = zeroBis := by unfold discL; rw [if_pos ⟨hv, .inl rfl⟩, if_pos (.inl h1)]
          have e2 : discE x 0 l r = 380 := by unfold discE; rw [if_pos ⟨hv, .inl rfl⟩, if_pos (.inl h1)]
          rw [e1, e2]
          simp (disch := first | omega | decide) only [push_cast, ↓wF_free, ↓reduceIte, Nat.reduceEqDiff, Nat.reduceLT, Nat.reduceLeDiff, Nat.reduceAdd, Nat.reduceSub, Nat.reduceMul, Nat.reduceBEq, Int.reduceLT, Int.reduceLE, Int.reduceToNat, Int.reduceNeg, Int.reducePow, Int.reduceAdd, Int.reduceMul, Int.reduceSub, ↓Int.reduceNatCast', cv, h1, idxA_pp]
        by_cases h2 : x.t0 = true
        · have e1 : discL x 0 l r = zeroBis := by unfold discL; rw [if_pos ⟨hv, .inl rfl⟩, if_pos (.inr h2)]
          have e2 : discE x 0 l r = 380 := by unfold discE; rw [if_pos ⟨hv, .inl rfl⟩, if_pos (.inr h2)]
          rw [e1, e2]
          simp (disch := first | omega | decide) only [push_cast, ↓wF_free, ↓reduceIte, Nat.reduceEqDiff, Nat.reduceLT, Nat.reduceLeDiff, Nat.reduceAdd, Nat.reduceSub, Nat.reduceMul, Nat.reduceBEq, Int.reduceLT, Int.reduceLE, Int.reduceToNat, Int.reduceNeg, Int.reducePow, Int.reduceAdd, Int.reduceMul, Int.reduceSub, ↓Int.reduceNatCast', cv, h1, h2, idxA_pp]
        have h2' : x.t0 = false := by simpa using h2
        by_cases h3 : parentL l r = x.n0
        · by_cases h4 : x.t1 = true
          · have e1 : discL x 0 l r = stepB (setB x 0 l r) := by unfold discL; rw [if_pos ⟨hv, .inl rfl⟩, if_neg (by intro h; rcases h with h | h; exact h1 h; exact h2 h), if_pos (show parentL l r = nodeB x 0 from h3)]; exact if_pos h4
            have e2 : discE x 0 l r = 0 := by unfold discE; rw [if_pos ⟨hv, .inl rfl⟩, if_neg (by intro h; rcases h with h | h; exact h1 h; exact h2 h)]; exact if_pos h3
            rw [e1, e2, show setB x 0 l r = { x with t0 := true, l0 := l, r0 := r } from rfl]
            unfold stepB
            by_cases h5 : l = x.l1
            · simp (disch := first | omega | decide) only [push_cast, ↓wF_free, ↓reduceIte, Nat.reduceEqDiff, Nat.reduceLT, Nat.reduceLeDiff, Nat.reduceAdd, Nat.reduceSub, Nat.reduceMul, Nat.reduceBEq, Int.reduceLT, Int.reduceLE, Int.reduceToNat, Int.reduceNeg, Int.reducePow, Int.reduceAdd, Int.reduceMul, Int.reduceSub, ↓Int.reduceNatCast', cv, h1, h2', h3, h4, ← h5, idxA_pp, call_mParent, sub_i, mul_i, add_i, fill_nil]
            · simp (disch := first | omega | decide) only [push_cast, ↓wF_free, ↓reduceIte, Nat.reduceEqDiff, Nat.reduceLT, Nat.reduceLeDiff, Nat.reduceAdd, Nat.reduceSub, Nat.reduceMul, Nat.reduceBEq, Int.reduceLT, Int.reduceLE, Int.reduceToNat, Int.reduceNeg, Int.reducePow, Int.reduceAdd, Int.reduceMul, Int.reduceSub, ↓Int.reduceNatCast', cv, h1, h2', h3, h4, h5, idxA_pp, call_mParent, sub_i, mul_i, add_i, fill_nil]
          · have h4' : x.t1 = false := by simpa using h4
            have e1 : discL x 0 l r = setB x 0 l r := by unfold discL; rw [if_pos ⟨hv, .inl rfl⟩, if_neg (by intro h; rcases h with h | h; exact h1 h; exact h2 h), if_pos (show parentL l r = nodeB x 0 from h3)]; exact if_neg h4
            have e2 : discE x 0 l r = 0 := by unfold discE; rw [if_pos ⟨hv, .inl rfl⟩, if_neg (by intro h; rcases h with h | h; exact h1 h; exact h2 h)]; exact if_pos h3
            rw [e1, e2, show setB x 0 l r = { x with t0 := true, l0 := l, r0 := r } from rfl]
            simp (disch := first | omega | decide) only [push_cast, ↓wF_free, ↓reduceIte, Nat.reduceEqDiff, Nat.reduceLT, Nat.reduceLeDiff, Nat.reduceAdd, Nat.reduceSub, Nat.reduceMul, Nat.reduceBEq, Int.reduceLT, Int.reduceLE, Int.reduceToNat, Int.reduceNeg, Int.reducePow, Int.reduceAdd, Int.reduceMul, Int.reduceSub, ↓Int.reduceNatCast', cv, h1, h2', h3, h4', idxA_pp, call_mParent, sub_i, mul_i, add_i]
        · have e1 : discL x 0 l r = zeroBis := by unfold discL; rw [if_pos ⟨hv, .inl rfl⟩, if_neg (by intro h; rcases h with h | h; exact h1 h; exact h2 h)]; exact if_neg h3
          have e2 : discE x 0 l r = 381 := by unfold discE; rw [if_pos ⟨hv, .inl rfl⟩, if_neg (by intro h; rcases h with h | h; exact h1 h; exact h2 h)]; exact if_neg h3
          rw [e1, e2]
          simp (disch := first | omega | decide) only [push_cast, ↓wF_free, ↓reduceIte, Nat.reduceEqDiff, Nat.reduceLT, Nat.reduceLeDiff, Nat.reduceAdd, Nat.reduceSub, Nat.reduceMul, Nat.reduceBEq, Int.reduceLT, Int.reduceLE, Int.reduceToNat, Int.reduceNeg, Int.reducePow, Int.reduceAdd, Int.reduceMul, Int.reduceSub, ↓Int.reduceNatCast', cv, h1, h2', h3, idxA_pp, call_mParent]
      · have q1 : ¬ (1 : Int) = 0 := by decide
        by_cases h1 : x.l = 0
        · have e1 : discL x 1 l r = zeroBis := by unfold discL; rw [if_pos ⟨hv, .inr rfl⟩, if_pos (.inl h1)]
          have e2 : discE x 1 l r = 380 := by unfold discE; rw [if_pos ⟨hv, .inr rfl⟩, if_pos (.inl h1)]
          rw [e1, e2]
          simp (disch := first | omega | decide) only [push_cast, ↓wF_free, ↓reduceIte, Nat.reduceEqDiff, Nat.reduceLT, Nat.reduceLeDiff, Nat.reduceAdd, Nat.reduceSub, Nat.reduceMul, Nat.reduceBEq, Int.reduceLT, Int.reduceLE, Int.reduceToNat, Int.reduceNeg, Int.reducePow, Int.reduceAdd, Int.reduceMul, Int.reduceSub, ↓Int.reduceNatCast', cv, h1, q1, idxA_pp]
        by_cases h2 : x.t1 = true
        · have e1 : discL x 1 l r = zeroBis := by unfold discL; rw [if_pos ⟨hv, .inr rfl⟩, if_pos (.inr h2)]
          have e2 : discE x 1 l r = 380 := by unfold discE; rw [if_pos ⟨hv, .inr rfl⟩, if_pos (.inr h2)]
          rw [e1, e2]
          simp (disch := first | omega | decide) only [push_cast, ↓wF_free, ↓reduceIte, Nat.reduceEqDiff, Nat.reduceLT, Nat.reduceLeDiff, Nat.reduceAdd, Nat.reduceSub, Nat.reduceMul, Nat.reduceBEq, Int.reduceLT, Int.reduceLE, Int.reduceToNat, Int.reduceNeg, Int.reducePow, Int.reduceAdd, Int.reduceMul, Int.reduceSub, ↓Int.reduceNatCast', cv, h1, h2, q1, idxA_pp]
        have h2' : x.t1 = false := by simpa using h2
        by_cases h3 : parentL l r = x.n1
        · by_cases h4 : x.t0 = true
          · have e1 : discL x 1 l r = stepB (setB x 1 l r) := by unfold discL; rw [if_pos ⟨hv, .inr rfl⟩, if_neg (by intro h; rcases h with h | h; exact h1 h; exact h2 h), if_pos (show parentL l r = nodeB x 1 from h3)]; exact if_pos h4
            have e2 : discE x 1 l r = 0 := by unfold discE; rw [if_pos ⟨hv, .inr rfl⟩, if_neg (by intro h; rcases h with h | h; exact h1 h; exact h2 h)]; exact if_pos h3
            rw [e1, e2, show setB x 1 l r = { x with t1 := true, l1 := l, r1 := r } from rfl]
            unfold stepB
            by_cases h5 : l = x.l0
            · simp (disch := first | omega | decide) only [push_cast, ↓wF_free, ↓reduceIte, Nat.reduceEqDiff, Nat.reduceLT, Nat.reduceLeDiff, Nat.reduceAdd, Nat.reduceSub, Nat.reduceMul, Nat.reduceBEq, Int.reduceLT, Int.reduceLE, Int.reduceToNat, Int.reduceNeg, Int.reducePow, Int.reduceAdd, Int.reduceMul, Int.reduceSub, ↓Int.reduceNatCast', cv, h1, h2', h3, h4, q1, ← h5, idxA_pp, call_mParent, sub_i, mul_i, add_i, fill_nil]
            · have h6 : ¬ x.l0 = l := fun h => h5 h.symm
              simp (disch := first | omega | decide) only [push_cast, ↓wF_free, ↓reduceIte, Nat.reduceEqDiff, Nat.reduceLT, Nat.reduceLeDiff, Nat.reduceAdd, Nat.reduceSub, Nat.reduceMul, Nat.reduceBEq, Int.reduceLT, Int.reduceLE, Int.reduceToNat, Int.reduceNeg, Int.reducePow, Int.reduceAdd, Int.reduceMul, Int.reduceSub, ↓Int.reduceNatCast', cv, h1, h2', h3, h4, h5, h6, q1, idxA_pp, call_mParent, sub_i, mul_i, add_i, fill_nil]
          · have h4' : x.t0 = false := by simpa using h4
            have e1 : discL x 1 l r = setB x 1 l r := by unfold discL; rw [if_pos ⟨hv, .inr rfl⟩, if_neg (by intro h; rcases h with h | h; exact h1 h; exact h2 h), if_pos (show parentL l r = nodeB x 1 from h3)]; exact if_neg h4
            have e2 : discE x 1 l r = 0 := by unfold discE; rw [if_pos ⟨hv, .inr rfl⟩, if_neg (by intro h; rcases h with h | h; exact h1 h; exact h2 h)]; exact if_pos h3
            rw [e1, e2, show setB x 1 l r = { x with t1 := true, l1 := l, r1 := r } from rfl]
            simp (disch := first | omega | decide) only [push_cast, ↓wF_free, ↓reduceIte, Nat.reduceEqDiff, Nat.reduceLT, Nat.reduceLeDiff, Nat.reduceAdd, Nat.reduceSub, Nat.reduceMul, Nat.reduceBEq, Int.reduceLT, Int.reduceLE, Int.reduceToNat, Int.reduceNeg, Int.reducePow, Int.reduceAdd, Int.reduceMul, Int.reduceSub, ↓Int.reduceNatCast', cv, h1, h2', h3, h4', q1, idxA_pp, call_mParent, sub_i, mul_i, add_i]
        · have e1 : discL x 1 l r = zeroBis := by unfold discL; rw [if_pos ⟨hv, .inr rfl⟩, if_neg (by intro h; rcases h with h | h; exact h1 h; exact h2 h)]; exact if_neg h3
          have e2 : discE x 1 l r = 381 := by unfold discE; rw [if_pos ⟨hv, .inr rfl⟩, if_neg (by intro h; rcases h with h | h; exact h1 h; exact h2 h)]; exact if_neg h3
          rw [e1, e2]
          simp (disch := first | omega | decide) only [push_cast, ↓wF_free, ↓reduceIte, Nat.reduceEqDiff, Nat.reduceLT, Nat.reduceLeDiff, Nat.reduceAdd, Nat.reduceSub, Nat.reduceMul, Nat.reduceBEq, Int.reduceLT, Int.reduceLE, Int.reduceToNat, Int.reduceNeg, Int.reducePow, Int.reduceAdd, Int.reduceMul, Int.reduceSub, ↓Int.reduceNatCast', cv, h1, h2', h3, q1, idxA_pp, call_mParent]
    · have e1 : discL x p l r = zeroBis := by unfold discL; exact if_neg fun h => hp h.2
      have e2 : discE x p l r = 1 := by unfold discE; exact if_neg fun h => hp h.2
      have p0 : ¬ p = 0 := fun h => hp (.inl h)
      have p1 : ¬ p = 1 := fun h => hp (.inr h)
      rw [e1, e2]
      simp (disch := first | omega | decide) only [push_cast, ↓wF_free, ↓reduceIte, Nat.reduceEqDiff, Nat.reduceLT, Nat.reduceLeDiff, Nat.reduceAdd, Nat.reduceSub, Nat.reduceMul, Nat.reduceBEq, Int.reduceLT, Int.reduceLE, Int.reduceToNat, Int.reduceNeg, Int.reducePow, Int.reduceAdd, Int.reduceMul, Int.reduceSub, ↓Int.reduceNatCast', cv, p0, p1]
  · have hv' : bvalid x = false := by simpa using hv
    have cv := call_bvalid x
    rw [hv'] at cv
    have e1 : discL x p l r = zeroBis := by unfold discL; exact if_neg fun h => hv h.1
    have e2 : discE x p l r = 1 := by unfold discE; exact if_neg fun h => hv h.1
    rw [e1, e2]
    simp (disch := first | omega | decide) only [push_cast, ↓wF_free, ↓reduceIte, Nat.reduceEqDiff, Nat.reduceLT, Nat.reduceLeDiff, Nat.reduceAdd, Nat.reduceSub, Nat.reduceMul, Nat.reduceBEq, Int.reduceLT, Int.reduceLE, Int.reduceToNat, Int.reduceNeg, Int.reducePow, Int.reduceAdd, Int.reduceMul, Int.reduceSub, ↓Int.reduceNatCast', cv]
theorem c_bDisc : Contract Tryd.prog GG 28 sp_bDisc :=
  contract_of tr_bisect_Disclose (tb_ok (all_cons c_bvalid (all_cons c_mParent all_nil)) all_nil) (fun a h => w_bDisc a.1 a.2.1 a.2.2.1 a.2.2.2 h)
end Go.Proofs.YtokhnpjchpmndaaDoor.PI
