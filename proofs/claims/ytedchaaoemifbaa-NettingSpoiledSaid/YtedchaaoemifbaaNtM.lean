/-
  netting: the theorem of the stage.
  Conditions: none.
-/
import Derived.Test.YtedchaaoemifbaaNtL
namespace Go.Proofs.Ytedchaaoemifbaa.PI
open Go
set_option linter.unusedSimpArgs false
set_option linter.unusedVariables false

def inA (b : List Int) (i : Nat) : Bool := decide (b.length ≤ 336) && (b.take i).all (fun x => decide (inR x))
theorem inA_zero (b : List Int) : inA b 0 = decide (b.length ≤ 336) := by simp [inA]
theorem take_one (b : List Int) (i : Nat) (h : i < b.length) : b.take (i + 1) = b.take i ++ [at' b i] := by
  rw [List.take_add_one]
  unfold at'
  rw [List.getD_eq_getElem?_getD, List.getElem?_eq_getElem h]
  rfl
theorem inA_succ (b : List Int) (i : Nat) (h : i < b.length) : inA b (i + 1) = (inA b i && decide (inR (at' b i))) := by
  unfold inA
  rw [take_one b i h, List.all_append]
  simp [Bool.and_assoc]
theorem inA_all (b : List Int) : inA b b.length = decide (chkE b = 0) := by
  unfold inA
  rw [List.take_length]
  by_cases h : chkE b = 0
  · obtain ⟨h1, h2⟩ := chkE_ok h
    simp only [h, decide_true, h1, Bool.true_and, List.all_eq_true, decide_eq_true_eq]
    exact h2
  · have : ¬ (b.length ≤ 336 ∧ ∀ x ∈ b, inR x) := fun ⟨h1, h2⟩ => h (chkE_of h1 h2)
    rw [decide_eq_false h]
    rw [Bool.eq_false_iff]
    intro h3
    rw [Bool.and_eq_true, List.all_eq_true] at h3
    exact this ⟨by simpa using h3.1, fun x hx => by simpa using h3.2 x hx⟩
theorem cnt_succ (b : List Int) (i : Nat) (h : i < b.length) : cnt (b.take (i + 1)) = cnt (b.take i) + (if at' b i = 0 then 0 else 1) := by
  unfold cnt
  rw [take_one b i h, List.countP_append]
  by_cases h : at' b i = 0 <;> simp [h]
theorem cnt_take_le (b : List Int) (i : Nat) : cnt (b.take i) ≤ i := by
  have : cnt (b.take i) ≤ (b.take i).length := List.countP_le_length
  rw [List.length_take] at this
  omega
theorem net_check {b : List Int} (hc : chkE b = 0) (h0 : sumI b = 0) : settleL b (pays b) = (netEnd (paysX b) b, 0) ∧ checkL b (pays b) = 0 := by
  obtain ⟨h1, h2, h3, h4⟩ := pays_all hc
  have e : settleL b (pays b) = (netEnd (paysX b) b, 0) := by unfold settleL; rw [if_neg (by rw [hc]; simp), h1]
  refine ⟨e, ?_⟩
  unfold checkL
  rw [e]
  have a1 : (pays b).any (wrongP b) = false := by
    rw [List.any_eq_false]
    intro p hp
    obtain ⟨_, _, _, _, _, _, q1, q2⟩ := h2 p hp
    unfold wrongP
    rw [Bool.or_eq_true, decide_eq_true_eq, decide_eq_true_eq]
    omega
  have a2 : (netEnd (paysX b) b).any (fun x => decide (x ≠ 0)) = false := by
    rw [List.any_eq_false]
    intro v hv
    simp [h3 h0 v hv]
  dsimp only
  rw [a1, a2, if_neg (by simp)]
  rfl
theorem net_few (b : List Int) (h : chkE b = 0) : (pays b).length < cnt b ∨ (cnt b = 0 ∧ (pays b).length = 0) := by
  unfold pays
  rw [List.length_map]
  exact net_len (b.length + 1) b 0 0 (netI0 b) (Nat.le_succ_of_le List.countP_le_length)

set_option maxHeartbeats 4000000 in
set_option maxRecDepth 20000 in
theorem lw_NettingSettles (b : List Int) (hb : b.length ≤ maxLen) : @wW GG (tb [(9, sp_nsane), (15, sp_pnet), (11, sp_msum), (14, sp_rin), (10, sp_psettle), (13, sp_pcheck2)] []) F_wagonpoollaw34_NettingSettles.code (argF [.slc (nz 1 (b.map nI)) (b.map nI) false]) [] ⟨retQ F_wagonpoollaw34_NettingSettles.res (.bool true)⟩ := by
  have hm := maxLen_le
  have c1 := call_pnet b (by omega)
  have cs := call_msum b (by omega)
  have hle := netOut_le b
  unfold F_wagonpoollaw34_NettingSettles
  have hlen : decide ((b.length : Int) ≤ 336) = inA b 0 := by rw [inA_zero]; exact decide_eq_decide.2 (by omega)
  simp (disch := first | omega | decide) only [push_cast, ↓wF_free, ↓reduceIte, Nat.reduceEqDiff, Nat.reduceLT, Nat.reduceLeDiff, Nat.reduceAdd, Nat.reduceSub, Nat.reduceMul, Nat.reduceBEq, Int.reduceLT, Int.reduceLE, Int.reduceToNat, Int.reduceNeg, Int.reducePow, Int.reduceAdd, Int.reduceMul, Int.reduceSub, ↓Int.reduceNatCast', call_nsane, c1, cs, hlen]
  refine W_while (fun i : Nat => [(0, .slc (nz 1 (b.map nI)) (b.map nI) false), (3, .slc (nz 3 ((netOut b).1.map payD)) ((netOut b).1.map payD) false), (4, .int .i64 (netOut b).2), (5, .int .i64 (sumE b).1), (6, .int .i64 (sumE b).2), (7, .bool (inA b i)), (8, .int .i64 (cnt (b.take i) : Int)), (9, .int .i64 (i : Int))]) (fun i => []) (fun i => i ≤ b.length) (fun i => b.length - i) 0 (by simp only [push_cast, ↓wF_free, ↓reduceIte, Nat.reduceEqDiff, Nat.reduceLT, Nat.reduceLeDiff, Nat.reduceAdd, Nat.reduceSub, Nat.reduceMul, Nat.reduceBEq, Int.reduceLT, Int.reduceLE, Int.reduceToNat, Int.reduceNeg, Int.reducePow, Int.reduceAdd, Int.reduceMul, Int.reduceSub, ↓Int.reduceNatCast'] <;> rfl) (Nat.zero_le _) ?_
  intro i hi
  unfold F_wagonpoollaw34_NettingSettles_L0
  simp (disch := first | omega | decide) only [push_cast, ↓wF_free, ↓reduceIte, Nat.reduceEqDiff, Nat.reduceLT, Nat.reduceLeDiff, Nat.reduceAdd, Nat.reduceSub, Nat.reduceMul, Nat.reduceBEq, Int.reduceLT, Int.reduceLE, Int.reduceToNat, Int.reduceNeg, Int.reducePow, Int.reduceAdd, Int.reduceMul, Int.reduceSub, ↓Int.reduceNatCast']
  refine ifD_split (fun h2 => ?_) (fun h2 => ?_)
  · have hlt : i < b.length := by omega
    have hin := inA_succ b i hlt
    have hcn := cnt_succ b i hlt
    have hcl := cnt_take_le b i
    have hxx := idxS_nz (st := []) 1 nI b false .i64 (i : Int) (by omega) (by omega)
    rw [Int.toNat_natCast] at hxx
    cases hA : inA b i with
    | true =>
      rw [hA, Bool.true_and] at hin
      have cr := call_rin (at' b i)
      rw [← hin] at cr
      by_cases hz : at' b i = 0
      · rw [if_pos hz, Nat.add_zero] at hcn
        unfold at' at hz
        unfold at' at cr
        rw [hz] at hxx cr
        simp (disch := first | omega | decide) only [push_cast, ↓wF_free, ↓reduceIte, Nat.reduceEqDiff, Nat.reduceLT, Nat.reduceLeDiff, Nat.reduceAdd, Nat.reduceSub, Nat.reduceMul, Nat.reduceBEq, Int.reduceLT, Int.reduceLE, Int.reduceToNat, Int.reduceNeg, Int.reducePow, Int.reduceAdd, Int.reduceMul, Int.reduceSub, ↓Int.reduceNatCast', hxx, pload_nI, cr, add_i]
        refine next_head (i + 1) (by omega) (by omega) ?_
        rw [hcn]
        rfl
      · rw [if_neg hz] at hcn
        simp (disch := first | omega | decide) only [push_cast, ↓wF_free, ↓reduceIte, Nat.reduceEqDiff, Nat.reduceLT, Nat.reduceLeDiff, Nat.reduceAdd, Nat.reduceSub, Nat.reduceMul, Nat.reduceBEq, Int.reduceLT, Int.reduceLE, Int.reduceToNat, Int.reduceNeg, Int.reducePow, Int.reduceAdd, Int.reduceMul, Int.reduceSub, ↓Int.reduceNatCast', hxx, pload_nI, cr, hz, add_i]
        refine next_head (i + 1) (by omega) (by omega) ?_
        rw [hcn]
        rfl
    | false =>
      rw [hA, Bool.false_and] at hin
      by_cases hz : at' b i = 0
      · rw [if_pos hz, Nat.add_zero] at hcn
        simp (disch := first | omega | decide) only [push_cast, ↓wF_free, ↓reduceIte, Nat.reduceEqDiff, Nat.reduceLT, Nat.reduceLeDiff, Nat.reduceAdd, Nat.reduceSub, Nat.reduceMul, Nat.reduceBEq, Int.reduceLT, Int.reduceLE, Int.reduceToNat, Int.reduceNeg, Int.reducePow, Int.reduceAdd, Int.reduceMul, Int.reduceSub, ↓Int.reduceNatCast', hxx, pload_nI, hz, add_i]
        refine next_head (i + 1) (by omega) (by omega) ?_
        rw [hcn, hin]
        rfl
      · rw [if_neg hz] at hcn
        simp (disch := first | omega | decide) only [push_cast, ↓wF_free, ↓reduceIte, Nat.reduceEqDiff, Nat.reduceLT, Nat.reduceLeDiff, Nat.reduceAdd, Nat.reduceSub, Nat.reduceMul, Nat.reduceBEq, Int.reduceLT, Int.reduceLE, Int.reduceToNat, Int.reduceNeg, Int.reducePow, Int.reduceAdd, Int.reduceMul, Int.reduceSub, ↓Int.reduceNatCast', hxx, pload_nI, hz, add_i]
        refine next_head (i + 1) (by omega) (by omega) ?_
        rw [hcn, hin]
        rfl
  · have e : i = b.length := by omega
    subst e
    have ha := inA_all b
    rw [List.take_length]
    by_cases hc : chkE b = 0
    · rw [decide_eq_true hc] at ha
      rw [ha]
      have hs := sum_ok hc
      by_cases h0 : sumI b = 0
      · have e : netOut b = (pays b, 0) := by unfold netOut; rw [if_neg (by rw [hc]; simp), if_pos h0]
        have z1 : (sumE b).2 = 0 := Classical.byContradiction fun h => (hs.1 (.inl h)) h0
        have z2 : (sumE b).1 = 0 := Classical.byContradiction fun h => (hs.1 (.inr h)) h0
        rw [z1, z2, e]
        rw [e] at hle
        dsimp only at hle ⊢
        obtain ⟨n1, n2⟩ := net_check hc h0
        obtain ⟨_, _, n3, n4⟩ := pays_all hc
        have hfew := net_few b hc
        have cp := call_psettle b (pays b) (by omega)
        rw [n1] at cp
        have ck := call_pcheck2 b (pays b) (by omega)
        rw [n2] at ck
        have n3 := n3 h0
        generalize netEnd (paysX b) b = x at *
        simp (disch := first | omega | decide) only [push_cast, ↓wF_free, ↓reduceIte, Nat.reduceEqDiff, Nat.reduceLT, Nat.reduceLeDiff, Nat.reduceAdd, Nat.reduceSub, Nat.reduceMul, Nat.reduceBEq, Int.reduceLT, Int.reduceLE, Int.reduceToNat, Int.reduceNeg, Int.reducePow, Int.reduceAdd, Int.reduceMul, Int.reduceSub, ↓Int.reduceNatCast', cp, ck, n4]
        refine W_while (fun i : Nat => [(3, .slc (nz 3 ((pays b).map payD)) ((pays b).map payD) false), (8, .int .i64 (cnt b : Int)), (10, .slc (nz 1 (x.map nI)) (x.map nI) false), (12, .int .i64 (i : Int))]) (fun i => []) (fun i => i ≤ x.length) (fun i => x.length - i) 0 (by simp only [push_cast, ↓wF_free, ↓reduceIte, Nat.reduceEqDiff, Nat.reduceLT, Nat.reduceLeDiff, Nat.reduceAdd, Nat.reduceSub, Nat.reduceMul, Nat.reduceBEq, Int.reduceLT, Int.reduceLE, Int.reduceToNat, Int.reduceNeg, Int.reducePow, Int.reduceAdd, Int.reduceMul, Int.reduceSub, ↓Int.reduceNatCast'] <;> rfl) (Nat.zero_le _) ?_
        intro i hi
        unfold F_wagonpoollaw34_NettingSettles_L1
        simp (disch := first | omega | decide) only [push_cast, ↓wF_free, ↓reduceIte, Nat.reduceEqDiff, Nat.reduceLT, Nat.reduceLeDiff, Nat.reduceAdd, Nat.reduceSub, Nat.reduceMul, Nat.reduceBEq, Int.reduceLT, Int.reduceLE, Int.reduceToNat, Int.reduceNeg, Int.reducePow, Int.reduceAdd, Int.reduceMul, Int.reduceSub, ↓Int.reduceNatCast']
        refine ifD_split (fun h2 => ?_) (fun h2 => ?_)
        · have hxx := idxS_nz (st := []) 1 nI x false .i64 (i : Int) (by omega) (by omega)
          rw [Int.toNat_natCast] at hxx
          have hz := n3 _ (at_mem (x := x) (i := i) (by omega))
          unfold at' at hz
          rw [hz] at hxx
          simp (disch := first | omega | decide) only [push_cast, ↓wF_free, ↓reduceIte, Nat.reduceEqDiff, Nat.reduceLT, Nat.reduceLeDiff, Nat.reduceAdd, Nat.reduceSub, Nat.reduceMul, Nat.reduceBEq, Int.reduceLT, Int.reduceLE, Int.reduceToNat, Int.reduceNeg, Int.reducePow, Int.reduceAdd, Int.reduceMul, Int.reduceSub, ↓Int.reduceNatCast', hxx, pload_nI, add_i]
          refine next_head (i + 1) (by omega) (by omega) ?_
          rfl
        · rcases hfew with hf | ⟨hf1, hf2⟩
          · have hf' : ((pays b).length : Int) < (cnt b : Int) := by omega
            simp (disch := first | omega | decide) only [push_cast, ↓wF_free, ↓reduceIte, Nat.reduceEqDiff, Nat.reduceLT, Nat.reduceLeDiff, Nat.reduceAdd, Nat.reduceSub, Nat.reduceMul, Nat.reduceBEq, Int.reduceLT, Int.reduceLE, Int.reduceToNat, Int.reduceNeg, Int.reducePow, Int.reduceAdd, Int.reduceMul, Int.reduceSub, ↓Int.reduceNatCast', hf']
          · have e1 : ¬ ((pays b).length : Int) < (cnt b : Int) := by omega
            have e2 : decide ((cnt b : Int) = 0) = true := decide_eq_true (by omega)
            have e3 : decide (((pays b).length : Int) = 0) = true := decide_eq_true (by omega)
            simp (disch := first | omega | decide) only [push_cast, ↓wF_free, ↓reduceIte, Nat.reduceEqDiff, Nat.reduceLT, Nat.reduceLeDiff, Nat.reduceAdd, Nat.reduceSub, Nat.reduceMul, Nat.reduceBEq, Int.reduceLT, Int.reduceLE, Int.reduceToNat, Int.reduceNeg, Int.reducePow, Int.reduceAdd, Int.reduceMul, Int.reduceSub, ↓Int.reduceNatCast', e1, e2, e3]
      · have e : netOut b = ([], 340) := by unfold netOut; rw [if_neg (by rw [hc]; simp), if_neg h0]
        rw [e]
        have h340 : ¬ (340 : Int) = 0 := by decide
        by_cases z1 : (sumE b).2 = 0
        · have z2 : ¬ (sumE b).1 = 0 := (hs.2 h0).resolve_left (fun h => h z1)
          simp (disch := first | omega | decide) only [push_cast, ↓wF_free, ↓reduceIte, Nat.reduceEqDiff, Nat.reduceLT, Nat.reduceLeDiff, Nat.reduceAdd, Nat.reduceSub, Nat.reduceMul, Nat.reduceBEq, Int.reduceLT, Int.reduceLE, Int.reduceToNat, Int.reduceNeg, Int.reducePow, Int.reduceAdd, Int.reduceMul, Int.reduceSub, ↓Int.reduceNatCast', z1, z2, h340]
        · simp (disch := first | omega | decide) only [push_cast, ↓wF_free, ↓reduceIte, Nat.reduceEqDiff, Nat.reduceLT, Nat.reduceLeDiff, Nat.reduceAdd, Nat.reduceSub, Nat.reduceMul, Nat.reduceBEq, Int.reduceLT, Int.reduceLE, Int.reduceToNat, Int.reduceNeg, Int.reducePow, Int.reduceAdd, Int.reduceMul, Int.reduceSub, ↓Int.reduceNatCast', z1, h340]
    · rw [decide_eq_false hc] at ha
      rw [ha]
      have e : netOut b = ([], chkE b) := by unfold netOut; rw [if_pos hc]
      rw [e]
      simp (disch := first | omega | decide) only [push_cast, ↓wF_free, ↓reduceIte, Nat.reduceEqDiff, Nat.reduceLT, Nat.reduceLeDiff, Nat.reduceAdd, Nat.reduceSub, Nat.reduceMul, Nat.reduceBEq, Int.reduceLT, Int.reduceLE, Int.reduceToNat, Int.reduceNeg, Int.reducePow, Int.reduceAdd, Int.reduceMul, Int.reduceSub, ↓Int.reduceNatCast', hc]
theorem law_NettingSettles : Contract Try.prog GG 7 (lawSp [.slc (.int .i64)]) := by
  refine lawC tr_wagonpoollaw34_NettingSettles (T := tb [(9, sp_nsane), (15, sp_pnet), (11, sp_msum), (14, sp_rin), (10, sp_psettle), (13, sp_pcheck2)] []) (tb_ok (all_cons c_nsane (all_cons c_pnet (all_cons c_msum (all_cons c_rin (all_cons c_psettle (all_cons c_pcheck2 all_nil)))))) all_nil) ?_
  intro xs h
  obtain ⟨x0, xs, rfl, h0, h⟩ := hasAll_cons h
  obtain rfl := hasAll_nil h
  obtain ⟨y0, rfl, ya0⟩ := has_ints h0
  exact lw_NettingSettles y0 ya0
end Go.Proofs.Ytedchaaoemifbaa.PI
