/-
  tbox: the boxes of all cases, cuts, intersections, the box of a clause: of the program and of the reference.
  Conditions: none; these are lemmas.
-/
import Derived.Test.YtgppecaeegaooaaTbA
namespace Go.Proofs.Ytgppecaeegaooaa.PI
open Go
set_option linter.unusedSimpArgs false
set_option linter.unusedVariables false
def hiB (i : Nat) : Bx := ⟨List.replicate 16 0, List.replicate i 9007199254740992 ++ List.replicate (16 - i) 0⟩
theorem hiB_ok {i : Nat} (h : i ≤ 16) : (hiB i).ok := ⟨rfl, by simp [hiB]; omega⟩
theorem hiB_all : hiB 16 = allB := rfl
theorem hiB_next (i : Nat) (h : i < 16) : (⟨(hiB i).lo, (hiB i).hi.set i 9007199254740992⟩ : Bx) = hiB (i + 1) := by
  unfold hiB
  simp only [Bx.mk.injEq, true_and]
  rw [List.set_append, if_neg (by simp), List.length_replicate, Nat.sub_self, show 16 - i = (16 - (i + 1)) + 1 by omega, List.replicate_succ, List.set_cons_zero, List.replicate_succ', List.append_assoc]
  rfl
noncomputable def sp_pall : List D → Option D := spOf (α := Unit) (fun _ => []) (fun _ => True) (fun _ => bxD allB)
theorem call_pall : sp_pall [] = some (bxD allB) :=
  spOf_enc (fun _ _ _ => rfl) () trivial
set_option maxHeartbeats 4000000 in
set_option maxRecDepth 20000 in
theorem w_pall : @wW GG (tb [] []) F_tbox_all.code (argF []) [] ⟨retQ F_tbox_all.res (bxD allB)⟩ := by
  unfold F_tbox_all
  simp (disch := first | omega | decide) only [push_cast, ↓wF_free, ↓reduceIte, Nat.reduceEqDiff, Nat.reduceLT, Nat.reduceLeDiff, Nat.reduceAdd, Nat.reduceSub, Nat.reduceMul, Nat.reduceBEq, Int.reduceLT, Int.reduceLE, Int.reduceToNat, Int.reduceNeg, Int.reducePow, Int.reduceAdd, Int.reduceMul, Int.reduceSub, ↓Int.reduceNatCast']
  refine W_while (fun i : Nat => [(0, .ptr 0 0), (2, .int .i64 (i : Int))]) (fun i => [⟨false, 1, bxC (hiB i), false⟩]) (fun i => i ≤ 16) (fun i => 16 - i) 0 (by simp only [push_cast, ↓wF_free, ↓reduceIte, Nat.reduceEqDiff, Nat.reduceLT, Nat.reduceLeDiff, Nat.reduceAdd, Nat.reduceSub, Nat.reduceMul, Nat.reduceBEq, Int.reduceLT, Int.reduceLE, Int.reduceToNat, Int.reduceNeg, Int.reducePow, Int.reduceAdd, Int.reduceMul, Int.reduceSub, ↓Int.reduceNatCast'] <;> rfl) (Nat.zero_le _) ?_
  intro i hi
  unfold F_tbox_all_L0
  simp (disch := first | omega | decide) only [push_cast, ↓wF_free, ↓reduceIte, Nat.reduceEqDiff, Nat.reduceLT, Nat.reduceLeDiff, Nat.reduceAdd, Nat.reduceSub, Nat.reduceMul, Nat.reduceBEq, Int.reduceLT, Int.reduceLE, Int.reduceToNat, Int.reduceNeg, Int.reducePow, Int.reduceAdd, Int.reduceMul, Int.reduceSub, ↓Int.reduceNatCast']
  refine ifD_split (fun h2 => ?_) (fun h2 => ?_)
  · have hlt : i < 16 := by omega
    have hs := stB_hi 1 (hiB_ok hi) i 9007199254740992 hlt
    rw [hiB_next i hlt] at hs
    simp (disch := first | omega | decide) only [push_cast, ↓wF_free, ↓reduceIte, Nat.reduceEqDiff, Nat.reduceLT, Nat.reduceLeDiff, Nat.reduceAdd, Nat.reduceSub, Nat.reduceMul, Nat.reduceBEq, Int.reduceLT, Int.reduceLE, Int.reduceToNat, Int.reduceNeg, Int.reducePow, Int.reduceAdd, Int.reduceMul, Int.reduceSub, ↓Int.reduceNatCast', idxA_ptr, hs, add_i]
    refine next_head (i + 1) (by omega) (by omega) ?_
    simp only [push_cast, ↓wF_free, ↓reduceIte, Nat.reduceEqDiff, Nat.reduceLT, Nat.reduceLeDiff, Nat.reduceAdd, Nat.reduceSub, Nat.reduceMul, Nat.reduceBEq, Int.reduceLT, Int.reduceLE, Int.reduceToNat, Int.reduceNeg, Int.reducePow, Int.reduceAdd, Int.reduceMul, Int.reduceSub, ↓Int.reduceNatCast'] <;> rfl
  · obtain rfl : i = 16 := by omega
    simp (disch := first | omega | decide) only [push_cast, ↓wF_free, ↓reduceIte, Nat.reduceEqDiff, Nat.reduceLT, Nat.reduceLeDiff, Nat.reduceAdd, Nat.reduceSub, Nat.reduceMul, Nat.reduceBEq, Int.reduceLT, Int.reduceLE, Int.reduceToNat, Int.reduceNeg, Int.reducePow, Int.reduceAdd, Int.reduceMul, Int.reduceSub, ↓Int.reduceNatCast', hiB_all, ldB _ _ allB_ok, stB _ allB_ok allB_ok]
theorem c_pall : Contract Try.prog GG 54 sp_pall :=
  contract_of tr_tbox_all (tb_ok all_nil all_nil) (fun a h => w_pall )
noncomputable def sp_pcut : List D → Option D := spOf (α := Bx × Tst) (fun a => [bxD a.1, tstD a.2]) (fun a => a.1.ok ∧ okA a.2) (fun a => bxD (cutB a.1 a.2))
theorem call_pcut (b : Bx) (t : Tst) (h : b.ok ∧ okA t) : sp_pcut [bxD b, tstD t] = some (bxD (cutB b t)) :=
  spOf_encP (fun ⟨a0, a1⟩ ⟨b0, b1⟩ p q h => by dsimp only at p q h; simp only [List.cons.injEq, D.slc.injEq, D.int.injEq, D.bool.injEq, D.str.injEq, D.agg.injEq, digs_iff, dig_iff, digC_iff, bytes_iff, byte_iff, words_iff, word_iff, bsl_iff, true_and, and_true, ints_iff, nI_iff, tsts_iff, clss_iff, clsD_iff, tarD_iff, tstD_iff, ptD_iff, Int.ofNat_inj, bxD_cond, boxs_cond, p, q] at h; simp [h, Prod.ext_iff]) (b, t) h
set_option maxHeartbeats 4000000 in
set_option maxRecDepth 20000 in
theorem w_pcut (b : Bx) (t : Tst) (h : b.ok ∧ okA t) : @wW GG (tb [] []) F_tbox_box_cut.code (argF [bxD b, tstD t]) [] ⟨retQ F_tbox_box_cut.res (bxD (cutB b t))⟩ := by
  obtain ⟨hb, ht⟩ := h
  have ht' := ht
  obtain ⟨h1, h2⟩ := ht'
  have hl := ldB_lo 1 false hb t.a.toNat (by omega)
  have hs := stB_lo 1 hb t.a.toNat (max (at' b.lo t.a.toNat) t.lo) (by omega)
  have hb2 : (⟨b.lo.set t.a.toNat (max (at' b.lo t.a.toNat) t.lo), b.hi⟩ : Bx).ok := ⟨by simp [hb.1], hb.2⟩
  have hl2 := ldB_hi 1 false hb2 t.a.toNat (by omega)
  have hs2 := stB_hi 1 hb2 t.a.toNat (min (at' b.hi t.a.toNat) t.hi) (by omega)
  have hc := cutB_ok hb t
  have e : (⟨b.lo.set t.a.toNat (max (at' b.lo t.a.toNat) t.lo), b.hi.set t.a.toNat (min (at' b.hi t.a.toNat) t.hi)⟩ : Bx) = cutB b t := rfl
  rw [e] at hs2
  unfold F_tbox_box_cut
  simp (disch := first | omega | decide) only [push_cast, ↓wF_free, ↓reduceIte, Nat.reduceEqDiff, Nat.reduceLT, Nat.reduceLeDiff, Nat.reduceAdd, Nat.reduceSub, Nat.reduceMul, Nat.reduceBEq, Int.reduceLT, Int.reduceLE, Int.reduceToNat, Int.reduceNeg, Int.reducePow, Int.reduceAdd, Int.reduceMul, Int.reduceSub, ↓Int.reduceNatCast', idxA_ptr, hl, hs, hl2, hs2, ldB _ _ hc, stB _ zBx_ok hc]
theorem c_pcut : Contract Try.prog GG 55 sp_pcut :=
  contract_of tr_tbox_box_cut (tb_ok all_nil all_nil) (fun a h => w_pcut a.1 a.2 h)
def meetI (b c : Bx) (i : Nat) : Bx := ⟨(meetB b c).lo.take i ++ b.lo.drop i, (meetB b c).hi.take i ++ b.hi.drop i⟩
theorem meetI_ok {b c : Bx} (hb : b.ok) (hc : c.ok) (i : Nat) : (meetI b c i).ok := by
  have hm := meetB_ok hb hc
  exact ⟨by simp [meetI, hm.1, hb.1]; omega, by simp [meetI, hm.2, hb.2]; omega⟩
theorem meetI_zero {b c : Bx} : meetI b c 0 = b := by simp [meetI]
theorem meetI_all {b c : Bx} (hb : b.ok) (hc : c.ok) : meetI b c 16 = meetB b c := by
  have hm := meetB_ok hb hc
  have h1 := hm.1
  have h2 := hm.2
  unfold meetI
  rw [List.take_of_length_le (by omega), List.take_of_length_le (by omega), List.drop_of_length_le (by rw [hb.1]; omega), List.drop_of_length_le (by rw [hb.2]; omega), List.append_nil, List.append_nil]
theorem at_meetI {b c : Bx} (hb : b.ok) (hc : c.ok) {i : Nat} (hi : i ≤ 16) (j : Nat) : at' (meetI b c i).lo j = (if j < i then at' (meetB b c).lo j else at' b.lo j) ∧ at' (meetI b c i).hi j = if j < i then at' (meetB b c).hi j else at' b.hi j := by
  have hm := meetB_ok hb hc
  have h1 := hm.1
  have h2 := hm.2
  exact ⟨at_app _ _ i (by omega) j, at_app _ _ i (by omega) j⟩
theorem meetI_next {b c : Bx} (hb : b.ok) (hc : c.ok) (i : Nat) (h : i < 16) : (⟨(meetI b c i).lo.set i (max (at' b.lo i) (at' c.lo i)), (meetI b c i).hi.set i (min (at' b.hi i) (at' c.hi i))⟩ : Bx) = meetI b c (i + 1) := by
  have hk := meetI_ok hb hc i
  have k1 := hk.1
  have k2 := hk.2
  refine Bx_ext ⟨by simp [k1], by simp [k2]⟩ (meetI_ok hb hc _) (fun j hj => ?_) (fun j hj => ?_)
  · simp only
    rw [at_set _ _ _ _ (by omega), (at_meetI hb hc (by omega) j).1, (at_meetI hb hc (by omega) j).1]
    by_cases e : i = j
    · subst e
      rw [if_pos rfl, if_pos (by omega), meetB_lo hb hc _ h]
    · rw [if_neg e]
      by_cases e2 : j < i
      · rw [if_pos e2, if_pos (by omega)]
      · rw [if_neg e2, if_neg (by omega)]
  · simp only
    rw [at_set _ _ _ _ (by omega), (at_meetI hb hc (by omega) j).2, (at_meetI hb hc (by omega) j).2]
    by_cases e : i = j
    · subst e
      rw [if_pos rfl, if_pos (by omega), meetB_hi hb hc _ h]
    · rw [if_neg e]
      by_cases e2 : j < i
      · rw [if_pos e2, if_pos (by omega)]
      · rw [if_neg e2, if_neg (by omega)]
theorem meet_steps {b c : Bx} (hb : b.ok) (hc : c.ok) {i : Nat} (h : i < 16) :
    ldO (some ⟨false, 1, bxC (meetI b c i), false⟩) 1 false i = some (.int .i64 (at' b.lo i)) ∧
    stO (some ⟨false, 1, bxC (meetI b c i), false⟩) 1 i (.int .i64 (max (at' b.lo i) (at' c.lo i))) = some ⟨false, 1, bxC ⟨(meetI b c i).lo.set i (max (at' b.lo i) (at' c.lo i)), (meetI b c i).hi⟩, false⟩ ∧
    ldO (some ⟨false, 1, bxC ⟨(meetI b c i).lo.set i (max (at' b.lo i) (at' c.lo i)), (meetI b c i).hi⟩, false⟩) 1 false (16 + i) = some (.int .i64 (at' b.hi i)) ∧
    stO (some ⟨false, 1, bxC ⟨(meetI b c i).lo.set i (max (at' b.lo i) (at' c.lo i)), (meetI b c i).hi⟩, false⟩) 1 (16 + i) (.int .i64 (min (at' b.hi i) (at' c.hi i))) = some ⟨false, 1, bxC (meetI b c (i + 1)), false⟩ ∧
    ldO (some ⟨false, 1, bxC (meetI b c (i + 1)), false⟩) 1 false i = some (.int .i64 (at' (meetB b c).lo i)) ∧
    ldO (some ⟨false, 1, bxC (meetI b c (i + 1)), false⟩) 1 false (16 + i) = some (.int .i64 (at' (meetB b c).hi i)) := by
  have hk := meetI_ok hb hc i
  have hk1 := meetI_ok hb hc (i + 1)
  have k1 := hk.1
  have hk2 : (⟨(meetI b c i).lo.set i (max (at' b.lo i) (at' c.lo i)), (meetI b c i).hi⟩ : Bx).ok := ⟨by simp [k1], hk.2⟩
  have a1 := ldB_lo 1 false hk i h
  rw [(at_meetI hb hc (by omega) i).1, if_neg (by omega)] at a1
  have a2 := stB_lo 1 hk i (max (at' b.lo i) (at' c.lo i)) h
  have a3 := ldB_hi 1 false hk2 i h
  simp only at a3
  rw [(at_meetI hb hc (by omega) i).2, if_neg (by omega)] at a3
  have a4 := stB_hi 1 hk2 i (min (at' b.hi i) (at' c.hi i)) h
  simp only at a4
  rw [meetI_next hb hc i h] at a4
  have a5 := ldB_lo 1 false hk1 i h
  rw [(at_meetI hb hc (by omega) i).1, if_pos (by omega)] at a5
  have a6 := ldB_hi 1 false hk1 i h
  rw [(at_meetI hb hc (by omega) i).2, if_pos (by omega)] at a6
  exact ⟨a1, a2, a3, a4, a5, a6⟩
noncomputable def sp_pmeet : List D → Option D := spOf (α := Bx × Bx) (fun a => [bxD a.1, bxD a.2]) (fun a => a.1.ok ∧ a.2.ok) (fun a => .tup [bxD (meetB a.1 a.2), .bool (someB (meetB a.1 a.2))])
theorem call_pmeet (b : Bx) (c : Bx) (h : b.ok ∧ c.ok) : sp_pmeet [bxD b, bxD c] = some (.tup [bxD (meetB b c), .bool (someB (meetB b c))]) :=
  spOf_encP (fun ⟨a0, a1⟩ ⟨b0, b1⟩ p q h => by dsimp only at p q h; simp only [List.cons.injEq, D.slc.injEq, D.int.injEq, D.bool.injEq, D.str.injEq, D.agg.injEq, digs_iff, dig_iff, digC_iff, bytes_iff, byte_iff, words_iff, word_iff, bsl_iff, true_and, and_true, ints_iff, nI_iff, tsts_iff, clss_iff, clsD_iff, tarD_iff, tstD_iff, ptD_iff, Int.ofNat_inj, bxD_cond, boxs_cond, p, q] at h; simp [h, Prod.ext_iff]) (b, c) h
set_option maxHeartbeats 4000000 in
set_option maxRecDepth 20000 in
theorem w_pmeet (b : Bx) (c : Bx) (h : b.ok ∧ c.ok) : @wW GG (tb [] []) F_tbox_box_meet.code (argF [bxD b, bxD c]) [] ⟨retQ F_tbox_box_meet.res (.tup [bxD (meetB b c), .bool (someB (meetB b c))])⟩ := by
  obtain ⟨hb, hc⟩ := h
  unfold F_tbox_box_meet
  simp (disch := first | omega | decide) only [push_cast, ↓wF_free, ↓reduceIte, Nat.reduceEqDiff, Nat.reduceLT, Nat.reduceLeDiff, Nat.reduceAdd, Nat.reduceSub, Nat.reduceMul, Nat.reduceBEq, Int.reduceLT, Int.reduceLE, Int.reduceToNat, Int.reduceNeg, Int.reducePow, Int.reduceAdd, Int.reduceMul, Int.reduceSub, ↓Int.reduceNatCast']
  refine W_while (fun i : Nat => [(2, .ptr 0 0), (3, .ptr 1 0), (4, .ptr 2 0), (6, .bool (someF (meetB b c) i)), (8, .int .i64 (i : Int))]) (fun i => [⟨false, 1, bxC (meetI b c i), false⟩, ⟨false, 1, bxC c, false⟩, ⟨false, 1, bxC zBx, false⟩]) (fun i => i ≤ 16) (fun i => 16 - i) 0 (by simp only [push_cast, ↓wF_free, ↓reduceIte, Nat.reduceEqDiff, Nat.reduceLT, Nat.reduceLeDiff, Nat.reduceAdd, Nat.reduceSub, Nat.reduceMul, Nat.reduceBEq, Int.reduceLT, Int.reduceLE, Int.reduceToNat, Int.reduceNeg, Int.reducePow, Int.reduceAdd, Int.reduceMul, Int.reduceSub, ↓Int.reduceNatCast', meetI_zero] <;> rfl) (Nat.zero_le _) ?_
  intro i hi
  unfold F_tbox_box_meet_L0
  simp (disch := first | omega | decide) only [push_cast, ↓wF_free, ↓reduceIte, Nat.reduceEqDiff, Nat.reduceLT, Nat.reduceLeDiff, Nat.reduceAdd, Nat.reduceSub, Nat.reduceMul, Nat.reduceBEq, Int.reduceLT, Int.reduceLE, Int.reduceToNat, Int.reduceNeg, Int.reducePow, Int.reduceAdd, Int.reduceMul, Int.reduceSub, ↓Int.reduceNatCast']
  refine ifD_split (fun h2 => ?_) (fun h2 => ?_)
  · have hlt : i < 16 := by omega
    obtain ⟨a1, a2, a3, a4, a5, a6⟩ := meet_steps hb hc hlt
    have c1 := ldB_lo 1 false hc i hlt
    have c2 := ldB_hi 1 false hc i hlt
    have hn : someF (meetB b c) (i + 1) = (someF (meetB b c) i && decide (at' (meetB b c).lo i ≤ at' (meetB b c).hi i)) := rfl
    by_cases h3 : someF (meetB b c) i = true
    · rw [h3] at hn
      simp (disch := first | omega | decide) only [push_cast, ↓wF_free, ↓reduceIte, Nat.reduceEqDiff, Nat.reduceLT, Nat.reduceLeDiff, Nat.reduceAdd, Nat.reduceSub, Nat.reduceMul, Nat.reduceBEq, Int.reduceLT, Int.reduceLE, Int.reduceToNat, Int.reduceNeg, Int.reducePow, Int.reduceAdd, Int.reduceMul, Int.reduceSub, ↓Int.reduceNatCast', idxA_ptr, a1, a2, a3, a4, a5, a6, c1, c2, h3, add_i]
      refine next_head (i + 1) (by omega) (by omega) ?_
      rw [hn]
      simp only [push_cast, ↓wF_free, ↓reduceIte, Nat.reduceEqDiff, Nat.reduceLT, Nat.reduceLeDiff, Nat.reduceAdd, Nat.reduceSub, Nat.reduceMul, Nat.reduceBEq, Int.reduceLT, Int.reduceLE, Int.reduceToNat, Int.reduceNeg, Int.reducePow, Int.reduceAdd, Int.reduceMul, Int.reduceSub, ↓Int.reduceNatCast'] <;> rfl
    · rw [Bool.not_eq_true] at h3
      rw [h3] at hn
      simp (disch := first | omega | decide) only [push_cast, ↓wF_free, ↓reduceIte, Nat.reduceEqDiff, Nat.reduceLT, Nat.reduceLeDiff, Nat.reduceAdd, Nat.reduceSub, Nat.reduceMul, Nat.reduceBEq, Int.reduceLT, Int.reduceLE, Int.reduceToNat, Int.reduceNeg, Int.reducePow, Int.reduceAdd, Int.reduceMul, Int.reduceSub, ↓Int.reduceNatCast', idxA_ptr, a1, a2, a3, a4, a5, a6, c1, c2, h3, add_i]
      refine next_head (i + 1) (by omega) (by omega) ?_
      rw [hn]
      simp only [push_cast, ↓wF_free, ↓reduceIte, Nat.reduceEqDiff, Nat.reduceLT, Nat.reduceLeDiff, Nat.reduceAdd, Nat.reduceSub, Nat.reduceMul, Nat.reduceBEq, Int.reduceLT, Int.reduceLE, Int.reduceToNat, Int.reduceNeg, Int.reducePow, Int.reduceAdd, Int.reduceMul, Int.reduceSub, ↓Int.reduceNatCast'] <;> rfl
  · obtain rfl : i = 16 := by omega
    have hm := meetB_ok hb hc
    simp (disch := first | omega | decide) only [push_cast, ↓wF_free, ↓reduceIte, Nat.reduceEqDiff, Nat.reduceLT, Nat.reduceLeDiff, Nat.reduceAdd, Nat.reduceSub, Nat.reduceMul, Nat.reduceBEq, Int.reduceLT, Int.reduceLE, Int.reduceToNat, Int.reduceNeg, Int.reducePow, Int.reduceAdd, Int.reduceMul, Int.reduceSub, ↓Int.reduceNatCast', meetI_all hb hc, ldB _ _ hm, stB _ zBx_ok hm]
    rfl
theorem c_pmeet : Contract Try.prog GG 39 sp_pmeet :=
  contract_of tr_tbox_box_meet (tb_ok all_nil all_nil) (fun a h => w_pmeet a.1 a.2 h)
end Go.Proofs.Ytgppecaeegaooaa.PI
