/-
  netting: Net, of the program and of the reference; comparison of payments.
  Conditions: none; these are lemmas.
-/
import Derived.Test.YtedchaaoemifbaaNtH
namespace Go.Proofs.Ytedchaaoemifbaa.PI
open Go
set_option linter.unusedSimpArgs false
set_option linter.unusedVariables false

noncomputable def si_pays : List D → St → Option (D × St) := siOf (α := List Int × St) (fun a => ([.slc (nz 1 (a.1.map nI)) (a.1.map nI) false], a.2)) (fun _ => True) (fun a => (.clo 40 [.ptr a.2.length 0], a.2 ++ [boxB a.1 false]))
theorem call_pays (b : List Int) (st : St) : si_pays [.slc (nz 1 (b.map nI)) (b.map nI) false] st = some (.clo 40 [.ptr st.length 0], st ++ [boxB b false]) :=
  siOf_enc (fun a b e => by
    simp only [Prod.mk.injEq, List.cons.injEq, D.slc.injEq, ints_iff, and_true] at e
    rw [e.1.2, e.2]) ((b, st) : List Int × St) trivial rfl

theorem ci_pays : IContract Try.prog GG 33 si_pays := by
  refine icontract_keep (T := tb [] []) tr_netting_payments (tb_ok all_nil all_nil) ?_
  rintro ⟨b, st⟩ _
  unfold F_netting_payments
  simp (disch := first | omega | decide) only [push_cast, ↓wF_free, ↓reduceIte, Nat.reduceEqDiff, Nat.reduceLT, Nat.reduceLeDiff, Nat.reduceAdd, Nat.reduceSub, Nat.reduceMul, Nat.reduceBEq, Int.reduceLT, Int.reduceLE, Int.reduceToNat, Int.reduceNeg, Int.reducePow, Int.reduceAdd, Int.reduceMul, Int.reduceSub, ↓Int.reduceNatCast', boxB]

/-! ### Net -/
def netS (b x : List Int) : List Pay → St
  | [] => [⟨false, 1, [.slc 0 [] true], false⟩, boxB b false, rowI x]
  | p :: A => ⟨false, 1, [.row 4 (p :: A).length 0 (p :: A).length], false⟩ :: boxB b false :: rowI x :: boxP p :: ⟨true, 3, (p :: A).map payD, false⟩ :: A.map boxP
noncomputable def ntT : Tbl := tbr [(21, sp_pcheck), (11, sp_msum)] [(33, si_pays)] [(40, sy_pays)]
theorem apR_P (st : St) (A : List Pay) (p : Pay) (tot : Nat) (ht : A.length = tot) (lent t : Bool) (hl : tot + 1 ≤ 4294967296) : apR (some ⟨true, 3, A.map payD, lent⟩) 3 24 tot (elsOf st (.slc 3 [.agg [.int .i64 p.f, .int .i64 p.t, .int .i64 p.n]] t)) = some ⟨true, 3, (A ++ [p]).map payD, lent⟩ := by
  subst ht; exact apR_one payD 3 24 A p lent t st (by decide) (by omega) hl
theorem papp_fP (st : St) (sz0 : Nat) (p : Pay) (t : Bool) : papp st 3 24 (.slc sz0 [] true) (.slc 3 [.agg [.int .i64 p.f, .int .i64 p.t, .int .i64 p.n]] t) = some (.row st.length 1 0 1, st ++ [⟨true, 3, [payD p], false⟩]) :=
  papp_first1 payD st 3 sz0 24 p t (by decide) (by decide)
theorem set_left (S : St) (o v : Obj) (i : Nat) (h : i < S.length) : (S ++ [o]).set i v = S.set i v ++ [o] := by
  rw [List.set_append, if_pos h]
theorem set_last (S : St) (o v : Obj) : (S ++ [o]).set S.length v = S ++ [v] := by
  rw [List.set_append, if_neg (by omega)]; simp
set_option maxHeartbeats 4000000 in
set_option maxRecDepth 20000 in
theorem nt_round (b x : List Int) (A : List Pay) (p : Pay) (fr : Frame) (hA : A.length ≤ 1000000) (h2 : fr 2 = .ptr 0 0) (m : Nat) :
    roundY (F_netting_Net_L0.exec GG ntT m) (F_netting_Net_L1.exec GG ntT m) fr [26] [payD p] (netS b x A) = some (.bool true, netS b x (A ++ [p])) := by
  refine round_of rfl rfl rfl ?_ m
  unfold F_netting_Net_L0
  cases A with
  | nil =>
    unfold netS boxB rowI
    simp (disch := first | omega | decide) only [push_cast, ↓wF_free, ↓reduceIte, Nat.reduceEqDiff, Nat.reduceLT, Nat.reduceLeDiff, Nat.reduceAdd, Nat.reduceSub, Nat.reduceMul, Nat.reduceBEq, Int.reduceLT, Int.reduceLE, Int.reduceToNat, Int.reduceNeg, Int.reducePow, Int.reduceAdd, Int.reduceMul, Int.reduceSub, ↓Int.reduceNatCast', setP, h2, payD, payC]
    unfold F_netting_Net_L1
    simp (disch := first | omega | decide) only [push_cast, ↓wF_free, ↓reduceIte, Nat.reduceEqDiff, Nat.reduceLT, Nat.reduceLeDiff, Nat.reduceAdd, Nat.reduceSub, Nat.reduceMul, Nat.reduceBEq, Int.reduceLT, Int.reduceLE, Int.reduceToNat, Int.reduceNeg, Int.reducePow, Int.reduceAdd, Int.reduceMul, Int.reduceSub, ↓Int.reduceNatCast', setP, h2, papp_fP]
    rfl
  | cons q A =>
    have hS0 : (netS b x (q :: A))[0]? = some ⟨false, 1, [.row 4 (q :: A).length 0 (q :: A).length], false⟩ := rfl
    have hS4 : (netS b x (q :: A))[4]? = some ⟨true, 3, (q :: A).map payD, false⟩ := rfl
    have hl5 : 5 ≤ (netS b x (q :: A)).length := by simp [netS]
    have hfin : ((netS b x (q :: A)).set 4 ⟨true, 3, (q :: A ++ [p]).map payD, false⟩).set 0 ⟨false, 1, [.row 4 (q :: A ++ [p]).length 0 (q :: A ++ [p]).length], false⟩ ++ [boxP p] = netS b x (q :: A ++ [p]) := by
      simp [netS]
    have hlq : (q :: A).length = A.length + 1 := rfl
    generalize netS b x (q :: A) = S at *
    have k1 : ∀ o : Obj, (S ++ [o])[0]? = some ⟨false, 1, [.row 4 (q :: A).length 0 (q :: A).length], false⟩ := fun o => st_left hS0 [o]
    have k2 : ∀ o : Obj, (S ++ [o])[4]? = some ⟨true, 3, (q :: A).map payD, false⟩ := fun o => st_left hS4 [o]
    have k3 : ∀ o : Obj, (S ++ [o])[S.length]? = some o := fun o => st_last S o
    have k4 : ∀ o v : Obj, (S ++ [o]).set S.length v = S ++ [v] := fun o v => set_last S o v
    have k5 : ∀ o v : Obj, (S ++ [o]).set 4 v = S.set 4 v ++ [o] := fun o v => set_left S o v 4 (by omega)
    have k6 : ∀ o v w : Obj, (S.set 4 v ++ [o]).set 0 w = (S.set 4 v).set 0 w ++ [o] := fun o v w => set_left _ o w 0 (by rw [List.length_set]; omega)
    have k7 : ∀ o v : Obj, (S.set 4 v ++ [o])[0]? = some ⟨false, 1, [.row 4 (q :: A).length 0 (q :: A).length], false⟩ := fun o v => st_left (by rw [List.getElem?_set_ne (by decide)]; exact hS0) [o]
    have ka := fun (st : St) => apR_P st (q :: A) p (q :: A).length rfl false true (by omega)
    unfold boxP at hfin
    generalize hQ : q :: A = Q at *
    simp (disch := first | omega | decide) only [push_cast, ↓wF_free, ↓reduceIte, Nat.reduceEqDiff, Nat.reduceLT, Nat.reduceLeDiff, Nat.reduceAdd, Nat.reduceSub, Nat.reduceMul, Nat.reduceBEq, Int.reduceLT, Int.reduceLE, Int.reduceToNat, Int.reduceNeg, Int.reducePow, Int.reduceAdd, Int.reduceMul, Int.reduceSub, ↓Int.reduceNatCast', setP, h2, payD, payC, k3, k4]
    unfold F_netting_Net_L1
    simp (disch := first | omega | decide) only [push_cast, ↓wF_free, ↓reduceIte, Nat.reduceEqDiff, Nat.reduceLT, Nat.reduceLeDiff, Nat.reduceAdd, Nat.reduceSub, Nat.reduceMul, Nat.reduceBEq, Int.reduceLT, Int.reduceLE, Int.reduceToNat, Int.reduceNeg, Int.reducePow, Int.reduceAdd, Int.reduceMul, Int.reduceSub, ↓Int.reduceNatCast', setP, h2, k1, k2, k3, k4, k5, k6, k7, ka]
    exact hfin
theorem netS_set (b x x' : List Int) (A : List Pay) : (netS b x A).set 2 (rowI x') = netS b x' A := by
  cases A <;> rfl
theorem netS_row (b x : List Int) (A : List Pay) : (netS b x A)[2]? = some (rowI x) := by
  cases A <;> rfl
theorem nt_fold (b : List Int) (fr : Frame) (h2 : fr 2 = .ptr 0 0) (m : Nat) : ∀ (L : List (Pay × List Int)) (x : List Int) (A : List Pay), A.length + L.length ≤ 1000000 →
    FoldN (roundY (F_netting_Net_L0.exec GG ntT m) (F_netting_Net_L1.exec GG ntT m) fr [26]) 2 L (netS b x A) (netS b (netEnd L x) (A ++ L.map (·.1)))
  | [], x, A, _ => by simp only [netEnd, List.map_nil, List.append_nil]; exact .nil _
  | (p, x') :: L, x, A, h => by
    rw [List.length_cons] at h
    refine .cons (st1 := netS b x' (A ++ [p])) ?_ (netS_row _ _ _) ?_
    · rw [netS_set]
      exact nt_round b x' A p fr (by omega) h2 m
    · have := nt_fold b fr h2 m L x' (A ++ [p]) (by simp; omega)
      rw [List.append_assoc] at this
      exact this
def pays (b : List Int) : List Pay := (paysX b).map (·.1)
def netOut (b : List Int) : List Pay × Int := if chkE b ≠ 0 then ([], chkE b) else if sumI b = 0 then (pays b, 0) else ([], 340)
theorem pays_nil : pays [] = [] := rfl
theorem pays_length {b : List Int} (h : ∀ v ∈ b, inR v) : (pays b).length ≤ b.length := by
  have := (net_all (b.length + 1) b 0 0 (netI0 b) h (Nat.le_succ_of_le List.countP_le_length)).2.2.2.2.2
  have h2 : cnt b ≤ b.length := List.countP_le_length
  unfold pays paysX
  rw [List.length_map]
  omega
theorem sum_ok {b : List Int} (hc : chkE b = 0) : (¬ (sumE b).2 = 0 ∨ ¬ (sumE b).1 = 0) ↔ ¬ sumI b = 0 := by
  obtain ⟨h1, h2⟩ := chkE_ok hc
  have h3 := sumE_all (l := b) (fun j hj => h2 _ (at_mem hj))
  rw [h3]
  unfold rgL
  by_cases h4 : inR (sumI b)
  · rw [if_pos h4]; simp
  · rw [if_neg h4]
    unfold inR at h4
    simp
    omega
noncomputable def sp_pnet : List D → Option D := spOf (α := List Int) (fun a => [.slc (nz 1 (a.map nI)) (a.map nI) false]) (fun a => a.length ≤ 9223372036854775807) (fun a => .tup [.slc (nz 3 ((netOut a).1.map payD)) ((netOut a).1.map payD) false, .int .i64 (netOut a).2])
theorem call_pnet (b : List Int) (h : b.length ≤ 9223372036854775807) : sp_pnet [.slc (nz 1 (b.map nI)) (b.map nI) false] = some (.tup [.slc (nz 3 ((netOut b).1.map payD)) ((netOut b).1.map payD) false, .int .i64 (netOut b).2]) :=
  spOf_enc (fun a b h => by simp only [List.cons.injEq, D.slc.injEq, D.int.injEq, D.bool.injEq, D.str.injEq, D.agg.injEq, digs_iff, dig_iff, digC_iff, bytes_iff, byte_iff, words_iff, word_iff, bsl_iff, true_and, and_true, ints_iff, pays_iff, nI_iff, payD_iff, Int.ofNat_inj] at h; simp [h, Prod.ext_iff]) (b) h
set_option maxHeartbeats 4000000 in
set_option maxRecDepth 20000 in
theorem w_pnet (b : List Int) (h : b.length ≤ 9223372036854775807) : @wW GG ntT F_netting_Net.code (argF [.slc (nz 1 (b.map nI)) (b.map nI) false]) [] ⟨retQ F_netting_Net.res (.tup [.slc (nz 3 ((netOut b).1.map payD)) ((netOut b).1.map payD) false, .int .i64 (netOut b).2])⟩ := by
  unfold F_netting_Net
  have cc := call_pcheck b
  have cs := call_msum b h
  by_cases hc : chkE b = 0
  · have hs := sum_ok hc
    obtain ⟨hl, hin⟩ := chkE_ok hc
    rw [hc] at cc
    by_cases h0 : sumI b = 0
    · have e : netOut b = (pays b, 0) := by unfold netOut; rw [if_neg (by rw [hc]; simp), if_pos h0]
      have z1 : (sumE b).2 = 0 := Classical.byContradiction fun h => (hs.1 (.inl h)) h0
      have z2 : (sumE b).1 = 0 := Classical.byContradiction fun h => (hs.1 (.inr h)) h0
      rw [z1, z2] at cs
      have cp := call_pays b [⟨false, 1, [.slc 0 [] true], false⟩]
      have hpl := pays_length hin
      simp (disch := first | omega | decide) only [push_cast, ↓wF_free, ↓reduceIte, Nat.reduceEqDiff, Nat.reduceLT, Nat.reduceLeDiff, Nat.reduceAdd, Nat.reduceSub, Nat.reduceMul, Nat.reduceBEq, Int.reduceLT, Int.reduceLE, Int.reduceToNat, Int.reduceNeg, Int.reducePow, Int.reduceAdd, Int.reduceMul, Int.reduceSub, ↓Int.reduceNatCast', ntT, cc, cs, cp]
      by_cases hb : b = []
      · refine W_range (st' := [⟨false, 1, [.slc 0 [] true], false⟩, boxB b false]) (d := .tup []) (by simp only [push_cast, ↓wF_free, ↓reduceIte, Nat.reduceEqDiff, Nat.reduceLT, Nat.reduceLeDiff, Nat.reduceAdd, Nat.reduceSub, Nat.reduceMul, Nat.reduceBEq, Int.reduceLT, Int.reduceLE, Int.reduceToNat, Int.reduceNeg, Int.reducePow, Int.reduceAdd, Int.reduceMul, Int.reduceSub, ↓Int.reduceNatCast'] <;> rfl) (by decide) (by rfl) (fun m => ?_) ?_
        · refine syp_some ⟨1, b, false, rfl, rfl, hl, hin, rfl, ?_⟩
          rw [if_pos hb]
        · subst hb
          simp (disch := first | omega | decide) only [push_cast, ↓wF_free, ↓reduceIte, Nat.reduceEqDiff, Nat.reduceLT, Nat.reduceLeDiff, Nat.reduceAdd, Nat.reduceSub, Nat.reduceMul, Nat.reduceBEq, Int.reduceLT, Int.reduceLE, Int.reduceToNat, Int.reduceNeg, Int.reducePow, Int.reduceAdd, Int.reduceMul, Int.reduceSub, ↓Int.reduceNatCast', e, pays_nil, List.map_nil]
      · refine W_range (st' := netS b (netEnd (paysX b) b) (pays b)) (d := .tup []) (by simp only [push_cast, ↓wF_free, ↓reduceIte, Nat.reduceEqDiff, Nat.reduceLT, Nat.reduceLeDiff, Nat.reduceAdd, Nat.reduceSub, Nat.reduceMul, Nat.reduceBEq, Int.reduceLT, Int.reduceLE, Int.reduceToNat, Int.reduceNeg, Int.reducePow, Int.reduceAdd, Int.reduceMul, Int.reduceSub, ↓Int.reduceNatCast'] <;> rfl) (by decide) (by rfl) (fun m => ?_) ?_
        · refine syp_some ⟨1, b, false, rfl, rfl, hl, hin, rfl, ?_⟩
          rw [if_neg hb]
          have hpx : (paysX b).length = (pays b).length := by unfold pays; rw [List.length_map]
          exact nt_fold b _ rfl m (paysX b) b [] (by simp; omega)
        · rw [e]
          generalize pays b = Q at *
          generalize netEnd (paysX b) b = xE
          cases Q with
          | nil =>
            unfold netS
            simp (disch := first | omega | decide) only [push_cast, ↓wF_free, ↓reduceIte, Nat.reduceEqDiff, Nat.reduceLT, Nat.reduceLeDiff, Nat.reduceAdd, Nat.reduceSub, Nat.reduceMul, Nat.reduceBEq, Int.reduceLT, Int.reduceLE, Int.reduceToNat, Int.reduceNeg, Int.reducePow, Int.reduceAdd, Int.reduceMul, Int.reduceSub, ↓Int.reduceNatCast', List.map_nil]
          | cons q A =>
            have hr : reR (some ⟨true, 3, payD q :: A.map payD, false⟩) (A.length + 1) 0 (A.length + 1) = some (3, payD q :: A.map payD) := reR_all payD 3 (q :: A) false
            unfold netS
            simp (disch := first | omega | decide) only [push_cast, ↓wF_free, ↓reduceIte, Nat.reduceEqDiff, Nat.reduceLT, Nat.reduceLeDiff, Nat.reduceAdd, Nat.reduceSub, Nat.reduceMul, Nat.reduceBEq, Int.reduceLT, Int.reduceLE, Int.reduceToNat, Int.reduceNeg, Int.reducePow, Int.reduceAdd, Int.reduceMul, Int.reduceSub, ↓Int.reduceNatCast', hr]
    · have e : netOut b = ([], 340) := by unfold netOut; rw [if_neg (by rw [hc]; simp), if_neg h0]
      by_cases z1 : (sumE b).2 = 0
      · have z2 : ¬ (sumE b).1 = 0 := (hs.2 h0).resolve_left (fun h => h z1)
        simp (disch := first | omega | decide) only [push_cast, ↓wF_free, ↓reduceIte, Nat.reduceEqDiff, Nat.reduceLT, Nat.reduceLeDiff, Nat.reduceAdd, Nat.reduceSub, Nat.reduceMul, Nat.reduceBEq, Int.reduceLT, Int.reduceLE, Int.reduceToNat, Int.reduceNeg, Int.reducePow, Int.reduceAdd, Int.reduceMul, Int.reduceSub, ↓Int.reduceNatCast', ntT, cc, cs, z1, z2, e]
      · simp (disch := first | omega | decide) only [push_cast, ↓wF_free, ↓reduceIte, Nat.reduceEqDiff, Nat.reduceLT, Nat.reduceLeDiff, Nat.reduceAdd, Nat.reduceSub, Nat.reduceMul, Nat.reduceBEq, Int.reduceLT, Int.reduceLE, Int.reduceToNat, Int.reduceNeg, Int.reducePow, Int.reduceAdd, Int.reduceMul, Int.reduceSub, ↓Int.reduceNatCast', ntT, cc, cs, z1, e]
  · have e : netOut b = ([], chkE b) := by unfold netOut; rw [if_pos hc]
    simp (disch := first | omega | decide) only [push_cast, ↓wF_free, ↓reduceIte, Nat.reduceEqDiff, Nat.reduceLT, Nat.reduceLeDiff, Nat.reduceAdd, Nat.reduceSub, Nat.reduceMul, Nat.reduceBEq, Int.reduceLT, Int.reduceLE, Int.reduceToNat, Int.reduceNeg, Int.reducePow, Int.reduceAdd, Int.reduceMul, Int.reduceSub, ↓Int.reduceNatCast', ntT, cc, hc, e]
theorem c_pnet : Contract Try.prog GG 15 sp_pnet :=
  contract_of tr_netting_Net (tbr_ok (all_cons c_pcheck (all_cons c_msum all_nil)) (all_cons ci_pays all_nil) (all_cons cy_pays all_nil)) (fun a h => w_pnet a h)

/-! ### The reference's Net -/
theorem nx_idem (p : Int → Bool) (x : List Int) (i : Nat) (h : i ≤ x.length) : nx p x (nx p x i) = nx p x i := by
  have h1 := nx_le p x i h
  rcases Nat.lt_or_ge (nx p x i) x.length with h2 | h2
  · exact nx_yes p x _ h2 (nx_at p x _ i rfl h2)
  · exact nx_end p x _ h2
theorem sg_neg : sgP (-1) = neg' := rfl
theorem sg_pos : sgP 1 = pos' := rfl
noncomputable def sp_rnet : List D → Option D := spOf (α := List Int) (fun a => [.slc (nz 1 (a.map nI)) (a.map nI) false]) (fun a => a.length ≤ 9223372036854775807) (fun a => .tup [.slc (nz 3 ((netOut a).1.map payD)) ((netOut a).1.map payD) false, .int .i64 (netOut a).2])
theorem call_rnet (b : List Int) (h : b.length ≤ 9223372036854775807) : sp_rnet [.slc (nz 1 (b.map nI)) (b.map nI) false] = some (.tup [.slc (nz 3 ((netOut b).1.map payD)) ((netOut b).1.map payD) false, .int .i64 (netOut b).2]) :=
  spOf_enc (fun a b h => by simp only [List.cons.injEq, D.slc.injEq, D.int.injEq, D.bool.injEq, D.str.injEq, D.agg.injEq, digs_iff, dig_iff, digC_iff, bytes_iff, byte_iff, words_iff, word_iff, bsl_iff, true_and, and_true, ints_iff, pays_iff, nI_iff, payD_iff, Int.ofNat_inj] at h; simp [h, Prod.ext_iff]) (b) h
set_option maxHeartbeats 4000000 in
set_option maxRecDepth 20000 in
theorem w_rnet (b : List Int) (h : b.length ≤ 9223372036854775807) : @wW GG (tb [(34, sp_rvalid), (35, sp_rsum), (36, sp_rnext)] []) F_wagonpoolref34_Net.code (argF [.slc (nz 1 (b.map nI)) (b.map nI) false]) [] ⟨retQ F_wagonpoolref34_Net.res (.tup [.slc (nz 3 ((netOut b).1.map payD)) ((netOut b).1.map payD) false, .int .i64 (netOut b).2])⟩ := by
  unfold F_wagonpoolref34_Net
  have cc := call_rvalid b
  by_cases hc : chkE b = 0
  · have hs := sum_ok hc
    obtain ⟨hl, hin⟩ := chkE_ok hc
    have cs := call_rsum b (by omega)
    rw [hc] at cc
    by_cases h0 : sumI b = 0
    · have e : netOut b = (pays b, 0) := by unfold netOut; rw [if_neg (by rw [hc]; simp), if_pos h0]
      have z1 : (sumE b).2 = 0 := Classical.byContradiction fun h => (hs.1 (.inl h)) h0
      have z2 : (sumE b).1 = 0 := Classical.byContradiction fun h => (hs.1 (.inr h)) h0
      rw [z1, z2] at cs
      have hpl := pays_length hin
      have hnx : ∀ (x : List Int) (f : Nat), f ≤ x.length → x.length ≤ 336 → (∀ v ∈ x, inR v) → sp_rnext [.slc (nz 1 (x.map nI)) (x.map nI) false, .int .i64 (f : Int), .int .i64 (-1)] = some (.int .i64 (nx neg' x f : Int)) := fun x f h1 h2 h3 => call_rnext x f (-1) ⟨.inr rfl, h1, by omega, h3⟩
      have hnx2 : ∀ (x : List Int) (f : Nat), f ≤ x.length → x.length ≤ 336 → (∀ v ∈ x, inR v) → sp_rnext [.slc (nz 1 (x.map nI)) (x.map nI) false, .int .i64 (f : Int), .int .i64 1] = some (.int .i64 (nx pos' x f : Int)) := fun x f h1 h2 h3 => call_rnext x f 1 ⟨.inl rfl, h1, by omega, h3⟩
      have q1 := hnx b 0 (Nat.zero_le _) hl hin
      have q2 := hnx2 b 0 (Nat.zero_le _) hl hin
      simp only [Int.natCast_zero, Int.ofNat_zero, Int.cast_ofNat_Int] at q1 q2
      by_cases hb : b = []
      · subst hb
        have pk := fun st => papp_keep st 1 8 1 0 [] false (by decide)
        have n0 : nx neg' [] 0 = 0 := rfl
        have n1 : nx pos' [] 0 = 0 := rfl
        simp only [List.map_nil, nz_nil, n0, n1] at q1 q2 cc cs
        simp (disch := first | omega | decide) only [push_cast, ↓wF_free, ↓reduceIte, Nat.reduceEqDiff, Nat.reduceLT, Nat.reduceLeDiff, Nat.reduceAdd, Nat.reduceSub, Nat.reduceMul, Nat.reduceBEq, Int.reduceLT, Int.reduceLE, Int.reduceToNat, Int.reduceNeg, Int.reducePow, Int.reduceAdd, Int.reduceMul, Int.reduceSub, ↓Int.reduceNatCast', cc, cs, litD_nil1, pk, q1, q2, List.map_nil, nz_nil]
        refine W_while (fun i : Nat => [(7, .slc 1 [] true), (8, .slc 3 [] true), (9, .int .i64 0), (10, .int .i64 0)]) (fun i => []) (fun i => i = 0) (fun i => 0) 0 (by simp only [push_cast, ↓wF_free, ↓reduceIte, Nat.reduceEqDiff, Nat.reduceLT, Nat.reduceLeDiff, Nat.reduceAdd, Nat.reduceSub, Nat.reduceMul, Nat.reduceBEq, Int.reduceLT, Int.reduceLE, Int.reduceToNat, Int.reduceNeg, Int.reducePow, Int.reduceAdd, Int.reduceMul, Int.reduceSub, ↓Int.reduceNatCast'] <;> rfl) rfl ?_
        rintro i rfl
        unfold F_wagonpoolref34_Net_L0
        simp (disch := first | omega | decide) only [push_cast, ↓wF_free, ↓reduceIte, Nat.reduceEqDiff, Nat.reduceLT, Nat.reduceLeDiff, Nat.reduceAdd, Nat.reduceSub, Nat.reduceMul, Nat.reduceBEq, Int.reduceLT, Int.reduceLE, Int.reduceToNat, Int.reduceNeg, Int.reducePow, Int.reduceAdd, Int.reduceMul, Int.reduceSub, ↓Int.reduceNatCast', e, pays_nil, List.map_nil]
      · have hne : b.map nI ≠ [] := by simpa using hb
        have pf : papp [] 1 8 (.slc 1 [] true) (.slc (nz 1 (b.map nI)) (b.map nI) false) = some (.row 0 b.length 0 b.length, [⟨true, 1, b.map nI, false⟩]) := by
          rw [papp_first nI [] 1 1 8 b false (by decide) (by omega) (by omega), bufD_ne _ _ _ hne, bufS_ne _ _ hne, List.length_map]; rfl
        have hr := reR_nI b false b.length rfl
        simp (disch := first | omega | decide) only [push_cast, ↓wF_free, ↓reduceIte, Nat.reduceEqDiff, Nat.reduceLT, Nat.reduceLeDiff, Nat.reduceAdd, Nat.reduceSub, Nat.reduceMul, Nat.reduceBEq, Int.reduceLT, Int.reduceLE, Int.reduceToNat, Int.reduceNeg, Int.reducePow, Int.reduceAdd, Int.reduceMul, Int.reduceSub, ↓Int.reduceNatCast', cc, cs, litD_nil1, pf, hr, q1, q2]
        refine W_while (fun i : List Pay × List Int × Nat × Nat => [(7, .row 0 b.length 0 b.length), (8, bufD 3 1 (i.1.map payD)), (9, .int .i64 (nx neg' i.2.1 i.2.2.1 : Int)), (10, .int .i64 (nx pos' i.2.1 i.2.2.2 : Int))])
          (fun i => ⟨true, 1, i.2.1.map nI, false⟩ :: bufS 3 (i.1.map payD)) (fun i => i.2.1.length = b.length ∧ NetI i.2.1 i.2.2.1 i.2.2.2 ∧ (∀ v ∈ i.2.1, inR v) ∧ pays b = i.1 ++ (netF (i.2.1.length + 1) i.2.1 i.2.2.1 i.2.2.2).map (·.1) ∧ i.1.length + cnt i.2.1 ≤ b.length) (fun i => cnt i.2.1) ([], b, 0, 0) (by simp only [push_cast, ↓wF_free, ↓reduceIte, Nat.reduceEqDiff, Nat.reduceLT, Nat.reduceLeDiff, Nat.reduceAdd, Nat.reduceSub, Nat.reduceMul, Nat.reduceBEq, Int.reduceLT, Int.reduceLE, Int.reduceToNat, Int.reduceNeg, Int.reducePow, Int.reduceAdd, Int.reduceMul, Int.reduceSub, ↓Int.reduceNatCast'] <;> rfl) ⟨rfl, netI0 b, hin, rfl, by rw [List.length_nil, Nat.zero_add]; exact List.countP_le_length⟩ ?_
        rintro ⟨A, x, f, t⟩ ⟨hxl, hni, hxr, hpe, hAc⟩
        dsimp only at hxl hni hxr hpe hAc
        unfold F_wagonpoolref34_Net_L0
        have hF0 := nx_le neg' x f hni.ff
        have hT0 := nx_le pos' x t hni.tt
        have hli := liR_nI x false b.length hxl
        by_cases hgo : nx neg' x f < x.length ∧ nx pos' x t < x.length
        · have hpay := net_pay hni hgo.1 hgo.2
          have hnext := net_next hni hgo.1 hgo.2
          have hcnt := (net_cnt hpay).1
          rw [netF_fuel1 hni hgo] at hpe
          generalize nx neg' x f = F at *
          generalize nx pos' x t = T' at *
          have c1 : (F : Int) < (b.length : Int) := by omega
          have c2 : (T' : Int) < (b.length : Int) := by omega
          obtain ⟨n1, n2, n3, n4⟩ := hpay.n
          have r1 := hxr _ (at_mem hpay.a1)
          have r2 := hxr _ (at_mem hpay.a2)
          have hne' : F ≠ T' := by rintro rfl; have := hpay.v1; have := hpay.v2; omega
          have hnn : min (-(at' x F)) (at' x T') = (payF x F T').n := rfl
          have hma : moreA x (payF x F T') = at' x F + (payF x F T').n := rfl
          have hla : lessA x (payF x F T') = at' x T' - (payF x F T').n := rfl
          have hmv : movP x (payF x F T') = (x.set F (moreA x (payF x F T'))).set T' (lessA x (payF x F T')) := rfl
          have hxr2 : ∀ v ∈ movP x (payF x F T'), inR v := fun v hv => by
            rw [hmv] at hv
            unfold inR at r1 r2
            rcases List.mem_or_eq_of_mem_set hv with hv | rfl
            · rcases List.mem_or_eq_of_mem_set hv with hv | rfl
              · exact hxr v hv
              · rw [hma]; unfold inR; omega
            · rw [hla]; unfold inR; omega
          have hml := movP_length x (payF x F T')
          unfold inR at r1 r2
          have hx2 : (x.set F (moreA x (payF x F T'))).length = b.length := by rw [List.length_set]; exact hxl
          have s1 := stRI_row x b.length F (moreA x (payF x F T')) hxl (by omega)
          have s2 := stRI_row (x.set F (moreA x (payF x F T'))) b.length T' (lessA x (payF x F T')) hx2 (by omega)
          have hat2 : at' (x.set F (moreA x (payF x F T'))) T' = at' x T' := by rw [at_set _ _ _ _ (by omega), if_neg hne']
          have i1 := ixR_nI x false 0 b.length (F : Int) hxl (by omega) (by omega)
          have i2 := ixR_nI x false 0 b.length (T' : Int) hxl (by omega) (by omega)
          have i3 := ixR_nI (x.set F (moreA x (payF x F T'))) false 0 b.length (T' : Int) hx2 (by omega) (by omega)
          rw [Int.toNat_natCast] at i1 i2 i3
          have l1 := ldR_nI x false b.length F hxl (by omega)
          have l2 := ldR_nI x false b.length T' hxl (by omega)
          have l3 := ldR_nI (x.set F (moreA x (payF x F T'))) false b.length T' hx2 (by omega)
          rw [hat2] at l3
          rw [← hmv] at s2
          have hr2 := reR_nI (movP x (payF x F T')) false b.length (hml.trans hxl)
          have q3 := hnx (movP x (payF x F T')) F (by omega) (by omega) hxr2
          have q4 := hnx2 (movP x (payF x F T')) T' (by omega) (by omega) hxr2
          have hm2 : (A ++ [payF x F T']).map payD ≠ [] := by simp
          rw [List.map_cons] at hpe
          have hpe : pays b = (A ++ [payF x F T']) ++ (netF ((movP x (payF x F T')).length + 1) (movP x (payF x F T')) F T').map (·.1) := by rw [List.append_assoc]; exact hpe
          have ka := fun (st : St) => apR_P st A (payF x F T') A.length rfl false true (by omega)
          have hpc : payC (payF x F T') = [.int .i64 (F : Int), .int .i64 (T' : Int), .int .i64 (payF x F T').n] := rfl
          have k1 : (payF x F T').f = (F : Int) := rfl
          have k2 : (payF x F T').t = (T' : Int) := rfl
          rw [k1, k2] at ka
          by_cases hA : A = []
          · subst hA
            have kf := fun (st : St) => papp_fP st 3 (payF x F T') true
            rw [k1, k2] at kf
            simp (disch := first | omega | decide) only [push_cast, ↓wF_free, ↓reduceIte, Nat.reduceEqDiff, Nat.reduceLT, Nat.reduceLeDiff, Nat.reduceAdd, Nat.reduceSub, Nat.reduceMul, Nat.reduceBEq, Int.reduceLT, Int.reduceLE, Int.reduceToNat, Int.reduceNeg, Int.reducePow, Int.reduceAdd, Int.reduceMul, Int.reduceSub, ↓Int.reduceNatCast', hli, c1, c2]
            simp (disch := first | omega | decide) only [push_cast, ↓wF_free, ↓reduceIte, Nat.reduceEqDiff, Nat.reduceLT, Nat.reduceLeDiff, Nat.reduceAdd, Nat.reduceSub, Nat.reduceMul, Nat.reduceBEq, Int.reduceLT, Int.reduceLE, Int.reduceToNat, Int.reduceNeg, Int.reducePow, Int.reduceAdd, Int.reduceMul, Int.reduceSub, ↓Int.reduceNatCast', i1, l1, i2, l2, un_neg, hnn, fill_i3, litD_p1, bufD_nil, bufS_nil, List.map_nil, kf, add_i, sub_i, ← hma, ← hla, pstor_ri, s1, i3, l3, s2, hr2, q3, q4]
            refine next_head (([] : List Pay) ++ [payF x F T'], movP x (payF x F T'), F, T') (by exact ⟨hml.trans hxl, hnext, hxr2, hpe, by simp; omega⟩) (by dsimp only; omega) ?_
            dsimp only
            rw [bufD_ne _ _ _ hm2, bufS_ne _ _ hm2, List.length_map]
            all_goals (simp only [push_cast, ↓wF_free, ↓reduceIte, Nat.reduceEqDiff, Nat.reduceLT, Nat.reduceLeDiff, Nat.reduceAdd, Nat.reduceSub, Nat.reduceMul, Nat.reduceBEq, Int.reduceLT, Int.reduceLE, Int.reduceToNat, Int.reduceNeg, Int.reducePow, Int.reduceAdd, Int.reduceMul, Int.reduceSub, ↓Int.reduceNatCast'] <;> rfl)
          · have hA2 : A.map payD ≠ [] := by simpa using hA
            simp (disch := first | omega | decide) only [push_cast, ↓wF_free, ↓reduceIte, Nat.reduceEqDiff, Nat.reduceLT, Nat.reduceLeDiff, Nat.reduceAdd, Nat.reduceSub, Nat.reduceMul, Nat.reduceBEq, Int.reduceLT, Int.reduceLE, Int.reduceToNat, Int.reduceNeg, Int.reducePow, Int.reduceAdd, Int.reduceMul, Int.reduceSub, ↓Int.reduceNatCast', hli, c1, c2]
            simp (disch := first | omega | decide) only [push_cast, ↓wF_free, ↓reduceIte, Nat.reduceEqDiff, Nat.reduceLT, Nat.reduceLeDiff, Nat.reduceAdd, Nat.reduceSub, Nat.reduceMul, Nat.reduceBEq, Int.reduceLT, Int.reduceLE, Int.reduceToNat, Int.reduceNeg, Int.reducePow, Int.reduceAdd, Int.reduceMul, Int.reduceSub, ↓Int.reduceNatCast', i1, l1, i2, l2, un_neg, hnn, fill_i3, litD_p1, bufD_ne _ _ _ hA2, bufS_ne _ _ hA2, List.length_map, ka, add_i, sub_i, ← hma, ← hla, pstor_ri, s1, i3, l3, s2, hr2, q3, q4]
            refine next_head (A ++ [payF x F T'], movP x (payF x F T'), F, T') (by exact ⟨hml.trans hxl, hnext, hxr2, hpe, by simp; omega⟩) (by dsimp only; omega) ?_
            dsimp only
            rw [bufD_ne _ _ _ hm2, bufS_ne _ _ hm2, List.length_map]
            all_goals (simp only [push_cast, ↓wF_free, ↓reduceIte, Nat.reduceEqDiff, Nat.reduceLT, Nat.reduceLeDiff, Nat.reduceAdd, Nat.reduceSub, Nat.reduceMul, Nat.reduceBEq, Int.reduceLT, Int.reduceLE, Int.reduceToNat, Int.reduceNeg, Int.reducePow, Int.reduceAdd, Int.reduceMul, Int.reduceSub, ↓Int.reduceNatCast'] <;> rfl)
        · rw [netF_stop hgo, List.map_nil, List.append_nil] at hpe
          rw [e, hpe]
          by_cases c1 : (nx neg' x f : Int) < (b.length : Int)
          · have c2 : ¬ (nx pos' x t : Int) < (b.length : Int) := by omega
            simp (disch := first | omega | decide) only [push_cast, ↓wF_free, ↓reduceIte, Nat.reduceEqDiff, Nat.reduceLT, Nat.reduceLeDiff, Nat.reduceAdd, Nat.reduceSub, Nat.reduceMul, Nat.reduceBEq, Int.reduceLT, Int.reduceLE, Int.reduceToNat, Int.reduceNeg, Int.reducePow, Int.reduceAdd, Int.reduceMul, Int.reduceSub, ↓Int.reduceNatCast', hli, c1, c2]
          · simp (disch := first | omega | decide) only [push_cast, ↓wF_free, ↓reduceIte, Nat.reduceEqDiff, Nat.reduceLT, Nat.reduceLeDiff, Nat.reduceAdd, Nat.reduceSub, Nat.reduceMul, Nat.reduceBEq, Int.reduceLT, Int.reduceLE, Int.reduceToNat, Int.reduceNeg, Int.reducePow, Int.reduceAdd, Int.reduceMul, Int.reduceSub, ↓Int.reduceNatCast', hli, c1]
    · have e : netOut b = ([], 340) := by unfold netOut; rw [if_neg (by rw [hc]; simp), if_neg h0]
      by_cases z1 : (sumE b).2 = 0
      · have z2 : ¬ (sumE b).1 = 0 := (hs.2 h0).resolve_left (fun h => h z1)
        simp (disch := first | omega | decide) only [push_cast, ↓wF_free, ↓reduceIte, Nat.reduceEqDiff, Nat.reduceLT, Nat.reduceLeDiff, Nat.reduceAdd, Nat.reduceSub, Nat.reduceMul, Nat.reduceBEq, Int.reduceLT, Int.reduceLE, Int.reduceToNat, Int.reduceNeg, Int.reducePow, Int.reduceAdd, Int.reduceMul, Int.reduceSub, ↓Int.reduceNatCast', cc, cs, z1, z2, e]
      · simp (disch := first | omega | decide) only [push_cast, ↓wF_free, ↓reduceIte, Nat.reduceEqDiff, Nat.reduceLT, Nat.reduceLeDiff, Nat.reduceAdd, Nat.reduceSub, Nat.reduceMul, Nat.reduceBEq, Int.reduceLT, Int.reduceLE, Int.reduceToNat, Int.reduceNeg, Int.reducePow, Int.reduceAdd, Int.reduceMul, Int.reduceSub, ↓Int.reduceNatCast', cc, cs, z1, e]
  · have e : netOut b = ([], chkE b) := by unfold netOut; rw [if_pos hc]
    simp (disch := first | omega | decide) only [push_cast, ↓wF_free, ↓reduceIte, Nat.reduceEqDiff, Nat.reduceLT, Nat.reduceLeDiff, Nat.reduceAdd, Nat.reduceSub, Nat.reduceMul, Nat.reduceBEq, Int.reduceLT, Int.reduceLE, Int.reduceToNat, Int.reduceNeg, Int.reducePow, Int.reduceAdd, Int.reduceMul, Int.reduceSub, ↓Int.reduceNatCast', cc, hc, e]
theorem c_rnet : Contract Try.prog GG 16 sp_rnet :=
  contract_of tr_wagonpoolref34_Net (tb_ok (all_cons c_rvalid (all_cons c_rsum (all_cons c_rnext all_nil))) all_nil) (fun a h => w_rnet a h)
end Go.Proofs.Ytedchaaoemifbaa.PI
