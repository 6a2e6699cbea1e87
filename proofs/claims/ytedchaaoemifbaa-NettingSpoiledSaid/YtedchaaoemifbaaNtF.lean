/-
  netting: the reference's settling; checks of payments.
  Conditions: none; these are lemmas.
-/
import Derived.Test.YtedchaaoemifbaaNtE
namespace Go.Proofs.Ytedchaaoemifbaa.PI
open Go
set_option linter.unusedSimpArgs false
set_option linter.unusedVariables false

noncomputable def sp_rsettle : List D → Option D := spOf (α := List Int × List Pay) (fun a => [.slc (nz 1 (a.1.map nI)) (a.1.map nI) false, .slc (nz 3 (a.2.map payD)) (a.2.map payD) false]) (fun a => a.2.length ≤ 9223372036854775807) (fun a => .tup [.slc (nz 1 ((settleL a.1 a.2).1.map nI)) ((settleL a.1 a.2).1.map nI) false, .int .i64 (settleL a.1 a.2).2])
theorem call_rsettle (b : List Int) (l : List Pay) (h : l.length ≤ 9223372036854775807) : sp_rsettle [.slc (nz 1 (b.map nI)) (b.map nI) false, .slc (nz 3 (l.map payD)) (l.map payD) false] = some (.tup [.slc (nz 1 ((settleL b l).1.map nI)) ((settleL b l).1.map nI) false, .int .i64 (settleL b l).2]) :=
  spOf_enc (fun ⟨a0, a1⟩ ⟨b0, b1⟩ h => by simp only [List.cons.injEq, D.slc.injEq, D.int.injEq, D.bool.injEq, D.str.injEq, D.agg.injEq, digs_iff, dig_iff, digC_iff, bytes_iff, byte_iff, words_iff, word_iff, bsl_iff, true_and, and_true, ints_iff, pays_iff, nI_iff, payD_iff, Int.ofNat_inj] at h; simp [h, Prod.ext_iff]) (b, l) h
set_option maxHeartbeats 4000000 in
set_option maxRecDepth 20000 in
theorem w_rsettle (b : List Int) (l : List Pay) (h : l.length ≤ 9223372036854775807) : @wW GG (tb [(34, sp_rvalid), (14, sp_rin)] []) F_wagonpoolref34_Settle.code (argF [.slc (nz 1 (b.map nI)) (b.map nI) false, .slc (nz 3 (l.map payD)) (l.map payD) false]) [] ⟨retQ F_wagonpoolref34_Settle.res (.tup [.slc (nz 1 ((settleL b l).1.map nI)) ((settleL b l).1.map nI) false, .int .i64 (settleL b l).2])⟩ := by
  unfold F_wagonpoolref34_Settle
  by_cases hc : chkE b = 0
  · obtain ⟨hl1, hin⟩ := chkE_ok hc
    have e0 : settleL b l = settleF b l := by unfold settleL; rw [if_neg (by rw [hc]; simp)]
    by_cases hb : b = []
    · subst hb
      rw [e0, settle_nilE]
      have hcp := call_rvalid []
      simp only [List.map_nil, nz_nil, hc] at hcp
      have pk := fun st => papp_keep st 1 8 1 0 [] false (by decide)
      simp (disch := first | omega | decide) only [push_cast, ↓wF_free, ↓reduceIte, Nat.reduceEqDiff, Nat.reduceLT, Nat.reduceLeDiff, Nat.reduceAdd, Nat.reduceSub, Nat.reduceMul, Nat.reduceBEq, Int.reduceLT, Int.reduceLE, Int.reduceToNat, Int.reduceNeg, Int.reducePow, Int.reduceAdd, Int.reduceMul, Int.reduceSub, ↓Int.reduceNatCast', hcp, litD_nil1, pk]
      refine W_while (fun i : Nat => [(0, .slc 0 [] false), (1, .slc (nz 3 (l.map payD)) (l.map payD) false), (7, .slc 1 [] true), (8, .int .i64 (i : Int))]) (fun i => []) (fun i => i = 0) (fun i => 0) 0 (by simp only [push_cast, ↓wF_free, ↓reduceIte, Nat.reduceEqDiff, Nat.reduceLT, Nat.reduceLeDiff, Nat.reduceAdd, Nat.reduceSub, Nat.reduceMul, Nat.reduceBEq, Int.reduceLT, Int.reduceLE, Int.reduceToNat, Int.reduceNeg, Int.reducePow, Int.reduceAdd, Int.reduceMul, Int.reduceSub, ↓Int.reduceNatCast'] <;> rfl) rfl ?_
      rintro i rfl
      unfold F_wagonpoolref34_Settle_L0
      by_cases hl : l = []
      · subst hl
        simp (disch := first | omega | decide) only [push_cast, ↓wF_free, ↓reduceIte, Nat.reduceEqDiff, Nat.reduceLT, Nat.reduceLeDiff, Nat.reduceAdd, Nat.reduceSub, Nat.reduceMul, Nat.reduceBEq, Int.reduceLT, Int.reduceLE, Int.reduceToNat, Int.reduceNeg, Int.reducePow, Int.reduceAdd, Int.reduceMul, Int.reduceSub, ↓Int.reduceNatCast', List.map_nil]
      · have hl2 : 0 < l.length := List.length_pos_iff.2 hl
        have hl3 : (0 : Int) < (l.length : Int) := by omega
        have hix := idxS_nz (st := []) 3 payD l false .i64 0 (by decide) hl3
        generalize l.getD (0 : Int).toNat default = p at hix
        by_cases a1 : p.f < 0
        · simp (disch := first | omega | decide) only [push_cast, ↓wF_free, ↓reduceIte, Nat.reduceEqDiff, Nat.reduceLT, Nat.reduceLeDiff, Nat.reduceAdd, Nat.reduceSub, Nat.reduceMul, Nat.reduceBEq, Int.reduceLT, Int.reduceLE, Int.reduceToNat, Int.reduceNeg, Int.reducePow, Int.reduceAdd, Int.reduceMul, Int.reduceSub, ↓Int.reduceNatCast', hl3, hix, pld3, a1, hl]
        · have a2 : (0 : Int) ≤ p.f := by omega
          simp (disch := first | omega | decide) only [push_cast, ↓wF_free, ↓reduceIte, Nat.reduceEqDiff, Nat.reduceLT, Nat.reduceLeDiff, Nat.reduceAdd, Nat.reduceSub, Nat.reduceMul, Nat.reduceBEq, Int.reduceLT, Int.reduceLE, Int.reduceToNat, Int.reduceNeg, Int.reducePow, Int.reduceAdd, Int.reduceMul, Int.reduceSub, ↓Int.reduceNatCast', hl3, hix, pld3, a1, a2, hl]
    · have hcp := call_rvalid b
      rw [hc] at hcp
      have hb0 : 0 < b.length := List.length_pos_iff.2 hb
      have hne : b.map nI ≠ [] := by simpa using hb
      have pf : papp [] 1 8 (.slc 1 [] true) (.slc (nz 1 (b.map nI)) (b.map nI) false) = some (.row 0 b.length 0 b.length, [⟨true, 1, b.map nI, false⟩]) := by
        rw [papp_first nI [] 1 1 8 b false (by decide) (by omega) (by omega), bufD_ne _ _ _ hne, bufS_ne _ _ hne, List.length_map]; rfl
      simp (disch := first | omega | decide) only [push_cast, ↓wF_free, ↓reduceIte, Nat.reduceEqDiff, Nat.reduceLT, Nat.reduceLeDiff, Nat.reduceAdd, Nat.reduceSub, Nat.reduceMul, Nat.reduceBEq, Int.reduceLT, Int.reduceLE, Int.reduceToNat, Int.reduceNeg, Int.reducePow, Int.reduceAdd, Int.reduceMul, Int.reduceSub, ↓Int.reduceNatCast', hcp, litD_nil1, pf]
      refine W_while (fun i : Nat × List Int => [(0, .slc (nz 1 (b.map nI)) (b.map nI) false), (1, .slc (nz 3 (l.map payD)) (l.map payD) false), (7, .row 0 b.length 0 b.length), (8, .int .i64 (i.1 : Int))])
        (fun i => [⟨true, 1, i.2.map nI, false⟩]) (fun i => i.1 ≤ l.length ∧ i.2.length = b.length ∧ (∀ v ∈ i.2, inR v) ∧ settleF b l = settleF i.2 (l.drop i.1)) (fun i => l.length - i.1) (0, b) (by simp only [push_cast, ↓wF_free, ↓reduceIte, Nat.reduceEqDiff, Nat.reduceLT, Nat.reduceLeDiff, Nat.reduceAdd, Nat.reduceSub, Nat.reduceMul, Nat.reduceBEq, Int.reduceLT, Int.reduceLE, Int.reduceToNat, Int.reduceNeg, Int.reducePow, Int.reduceAdd, Int.reduceMul, Int.reduceSub, ↓Int.reduceNatCast'] <;> rfl) ⟨Nat.zero_le _, rfl, hin, rfl⟩ ?_
      rintro ⟨i, x⟩ ⟨hi, hxl, hxr, hse⟩
      dsimp only at hi hxl hxr hse
      unfold F_wagonpoolref34_Settle_L0
      simp (disch := first | omega | decide) only [push_cast, ↓wF_free, ↓reduceIte, Nat.reduceEqDiff, Nat.reduceLT, Nat.reduceLeDiff, Nat.reduceAdd, Nat.reduceSub, Nat.reduceMul, Nat.reduceBEq, Int.reduceLT, Int.reduceLE, Int.reduceToNat, Int.reduceNeg, Int.reducePow, Int.reduceAdd, Int.reduceMul, Int.reduceSub, ↓Int.reduceNatCast']
      refine ifD_split (fun h2 => ?_) (fun h2 => ?_)
      · have hlt : i < l.length := by omega
        rw [settle_drop x l i hlt] at hse
        simp (disch := first | omega | decide) only [push_cast, ↓wF_free, ↓reduceIte, Nat.reduceEqDiff, Nat.reduceLT, Nat.reduceLeDiff, Nat.reduceAdd, Nat.reduceSub, Nat.reduceMul, Nat.reduceBEq, Int.reduceLT, Int.reduceLE, Int.reduceToNat, Int.reduceNeg, Int.reducePow, Int.reduceAdd, Int.reduceMul, Int.reduceSub, ↓Int.reduceNatCast', idxS_nz, pld3]
        generalize l.getD i default = p at *
        by_cases hacc : badAcc x.length p
        · have e1 : settleF b l = ([], 310) := by rw [hse, settleF, if_pos hacc]
          have hacc' := hacc
          unfold badAcc at hacc'
          rw [hxl] at hacc'
          by_cases a1 : p.f < 0
          · simp (disch := first | omega | decide) only [push_cast, ↓wF_free, ↓reduceIte, Nat.reduceEqDiff, Nat.reduceLT, Nat.reduceLeDiff, Nat.reduceAdd, Nat.reduceSub, Nat.reduceMul, Nat.reduceBEq, Int.reduceLT, Int.reduceLE, Int.reduceToNat, Int.reduceNeg, Int.reducePow, Int.reduceAdd, Int.reduceMul, Int.reduceSub, ↓Int.reduceNatCast', a1, e0, e1]
          · by_cases a2 : (b.length : Int) ≤ p.f
            · simp (disch := first | omega | decide) only [push_cast, ↓wF_free, ↓reduceIte, Nat.reduceEqDiff, Nat.reduceLT, Nat.reduceLeDiff, Nat.reduceAdd, Nat.reduceSub, Nat.reduceMul, Nat.reduceBEq, Int.reduceLT, Int.reduceLE, Int.reduceToNat, Int.reduceNeg, Int.reducePow, Int.reduceAdd, Int.reduceMul, Int.reduceSub, ↓Int.reduceNatCast', a1, a2, e0, e1]
            · by_cases a3 : p.t < 0
              · simp (disch := first | omega | decide) only [push_cast, ↓wF_free, ↓reduceIte, Nat.reduceEqDiff, Nat.reduceLT, Nat.reduceLeDiff, Nat.reduceAdd, Nat.reduceSub, Nat.reduceMul, Nat.reduceBEq, Int.reduceLT, Int.reduceLE, Int.reduceToNat, Int.reduceNeg, Int.reducePow, Int.reduceAdd, Int.reduceMul, Int.reduceSub, ↓Int.reduceNatCast', a1, a2, a3, e0, e1]
              · by_cases a4 : (b.length : Int) ≤ p.t
                · simp (disch := first | omega | decide) only [push_cast, ↓wF_free, ↓reduceIte, Nat.reduceEqDiff, Nat.reduceLT, Nat.reduceLeDiff, Nat.reduceAdd, Nat.reduceSub, Nat.reduceMul, Nat.reduceBEq, Int.reduceLT, Int.reduceLE, Int.reduceToNat, Int.reduceNeg, Int.reducePow, Int.reduceAdd, Int.reduceMul, Int.reduceSub, ↓Int.reduceNatCast', a1, a2, a3, a4, e0, e1]
                · have a5 : decide (p.f = p.t) = true := decide_eq_true (by omega)
                  simp (disch := first | omega | decide) only [push_cast, ↓wF_free, ↓reduceIte, Nat.reduceEqDiff, Nat.reduceLT, Nat.reduceLeDiff, Nat.reduceAdd, Nat.reduceSub, Nat.reduceMul, Nat.reduceBEq, Int.reduceLT, Int.reduceLE, Int.reduceToNat, Int.reduceNeg, Int.reducePow, Int.reduceAdd, Int.reduceMul, Int.reduceSub, ↓Int.reduceNatCast', a1, a2, a3, a4, a5, e0, e1]
        · have hacc' := hacc
          unfold badAcc at hacc'
          rw [hxl] at hacc'
          have a1 : ¬ p.f < 0 := by omega
          have a2 : ¬ (b.length : Int) ≤ p.f := by omega
          have a3 : ¬ p.t < 0 := by omega
          have a4 : ¬ (b.length : Int) ≤ p.t := by omega
          have a5 : ¬ p.f = p.t := by omega
          simp (disch := first | omega | decide) only [push_cast, ↓wF_free, ↓reduceIte, Nat.reduceEqDiff, Nat.reduceLT, Nat.reduceLeDiff, Nat.reduceAdd, Nat.reduceSub, Nat.reduceMul, Nat.reduceBEq, Int.reduceLT, Int.reduceLE, Int.reduceToNat, Int.reduceNeg, Int.reducePow, Int.reduceAdd, Int.reduceMul, Int.reduceSub, ↓Int.reduceNatCast', a1, a2, a3, a4, a5]
          by_cases hamt : badAmt p
          · have e1 : settleF b l = ([], 1) := by rw [hse, settleF, if_neg hacc, if_pos hamt]
            unfold badAmt at hamt
            by_cases b1 : p.n < 1
            · simp (disch := first | omega | decide) only [push_cast, ↓wF_free, ↓reduceIte, Nat.reduceEqDiff, Nat.reduceLT, Nat.reduceLeDiff, Nat.reduceAdd, Nat.reduceSub, Nat.reduceMul, Nat.reduceBEq, Int.reduceLT, Int.reduceLE, Int.reduceToNat, Int.reduceNeg, Int.reducePow, Int.reduceAdd, Int.reduceMul, Int.reduceSub, ↓Int.reduceNatCast', b1, e0, e1]
            · have b2 : ¬ inR p.n := by unfold inR; omega
              simp (disch := first | omega | decide) only [push_cast, ↓wF_free, ↓reduceIte, Nat.reduceEqDiff, Nat.reduceLT, Nat.reduceLeDiff, Nat.reduceAdd, Nat.reduceSub, Nat.reduceMul, Nat.reduceBEq, Int.reduceLT, Int.reduceLE, Int.reduceToNat, Int.reduceNeg, Int.reducePow, Int.reduceAdd, Int.reduceMul, Int.reduceSub, ↓Int.reduceNatCast', b1, b2, call_rin, e0, e1]
          · have hamt' := hamt
            unfold badAmt at hamt'
            have b1 : ¬ p.n < 1 := by omega
            have b2 : inR p.n := by unfold inR; omega
            have r1 := hxr _ (at_mem (x := x) (i := p.f.toNat) (by omega))
            have r2 := hxr _ (at_mem (x := x) (i := p.t.toNat) (by omega))
            have i1 := ixR_nI x false 0 b.length p.f hxl (by omega) (by omega)
            have l1 := ldR_nI x false b.length p.f.toNat hxl (by omega)
            have hx2 : (x.set p.f.toNat (moreA x p)).length = b.length := by rw [List.length_set]; exact hxl
            have hx3 : (movP x p).length = b.length := (movP_length x p).trans hxl
            have i2 := ixR_nI (x.set p.f.toNat (moreA x p)) false 0 b.length p.t hx2 (by omega) (by omega)
            have l2 := ldR_nI (x.set p.f.toNat (moreA x p)) false b.length p.t.toNat hx2 (by omega)
            have hat2 : at' (x.set p.f.toNat (moreA x p)) p.t.toNat = at' x p.t.toNat := by rw [at_set _ _ _ _ (by omega), if_neg (by omega)]
            rw [hat2] at l2
            have s1 := stRI_row x b.length p.f.toNat (moreA x p) hxl (by omega)
            have s2 := stRI_row (x.set p.f.toNat (moreA x p)) b.length p.t.toNat (lessA x p) hx2 (by omega)
            have hmv : (x.set p.f.toNat (moreA x p)).set p.t.toNat (lessA x p) = movP x p := rfl
            rw [hmv] at s2
            have i3 := ixR_nI (movP x p) false 0 b.length p.f hx3 (by omega) (by omega)
            have i4 := ixR_nI (movP x p) false 0 b.length p.t hx3 (by omega) (by omega)
            have l3 := ldR_nI (movP x p) false b.length p.f.toNat hx3 (by omega)
            have l4 := ldR_nI (movP x p) false b.length p.t.toNat hx3 (by omega)
            have v3 : at' (movP x p) p.f.toNat = moreA x p := by unfold movP; rw [at_set _ _ _ _ (by rw [List.length_set]; omega), if_neg (by omega), at_set _ _ _ _ (by omega), if_pos rfl]
            have v4 : at' (movP x p) p.t.toNat = lessA x p := by unfold movP; rw [at_set _ _ _ _ (by rw [List.length_set]; omega), if_pos rfl]
            rw [v3] at l3
            rw [v4] at l4
            have hma : at' x p.f.toNat + p.n = moreA x p := rfl
            have hla : at' x p.t.toNat - p.n = lessA x p := rfl
            unfold inR at r1 r2 b2
            have b2' : inR p.n := by unfold inR; omega
            have c1 := call_rin p.n
            simp (disch := first | omega | decide) only [push_cast, ↓wF_free, ↓reduceIte, Nat.reduceEqDiff, Nat.reduceLT, Nat.reduceLeDiff, Nat.reduceAdd, Nat.reduceSub, Nat.reduceMul, Nat.reduceBEq, Int.reduceLT, Int.reduceLE, Int.reduceToNat, Int.reduceNeg, Int.reducePow, Int.reduceAdd, Int.reduceMul, Int.reduceSub, ↓Int.reduceNatCast', b1, b2', c1, i1, l1, i2, l2, add_i, sub_i, hma, hla, pstor_ri, s1, s2, i3, i4, l3, l4, call_rin]
            by_cases m1 : inR (moreA x p)
            · by_cases m2 : inR (lessA x p)
              · simp (disch := first | omega | decide) only [push_cast, ↓wF_free, ↓reduceIte, Nat.reduceEqDiff, Nat.reduceLT, Nat.reduceLeDiff, Nat.reduceAdd, Nat.reduceSub, Nat.reduceMul, Nat.reduceBEq, Int.reduceLT, Int.reduceLE, Int.reduceToNat, Int.reduceNeg, Int.reducePow, Int.reduceAdd, Int.reduceMul, Int.reduceSub, ↓Int.reduceNatCast', m1, m2, i3, i4, l3, l4, call_rin, add_i]
                refine next_head (i + 1, movP x p) (by exact ⟨by omega, hx3, fun v hv => by
                  unfold movP at hv
                  rcases List.mem_or_eq_of_mem_set hv with hv | rfl
                  · rcases List.mem_or_eq_of_mem_set hv with hv | rfl
                    · exact hxr v hv
                    · exact m1
                  · exact m2, by rw [hse]; exact settle_ok hacc hamt m1 m2⟩) (by dsimp only; omega) ?_
                simp only [push_cast, ↓wF_free, ↓reduceIte, Nat.reduceEqDiff, Nat.reduceLT, Nat.reduceLeDiff, Nat.reduceAdd, Nat.reduceSub, Nat.reduceMul, Nat.reduceBEq, Int.reduceLT, Int.reduceLE, Int.reduceToNat, Int.reduceNeg, Int.reducePow, Int.reduceAdd, Int.reduceMul, Int.reduceSub, ↓Int.reduceNatCast'] <;> rfl
              · have e1 : settleF b l = ([], 3) := by rw [hse, settleF, if_neg hacc, if_neg hamt, if_pos (.inr m2)]
                simp (disch := first | omega | decide) only [push_cast, ↓wF_free, ↓reduceIte, Nat.reduceEqDiff, Nat.reduceLT, Nat.reduceLeDiff, Nat.reduceAdd, Nat.reduceSub, Nat.reduceMul, Nat.reduceBEq, Int.reduceLT, Int.reduceLE, Int.reduceToNat, Int.reduceNeg, Int.reducePow, Int.reduceAdd, Int.reduceMul, Int.reduceSub, ↓Int.reduceNatCast', m1, m2, i3, i4, l3, l4, call_rin, e0, e1]
            · have e1 : settleF b l = ([], 3) := by rw [hse, settleF, if_neg hacc, if_neg hamt, if_pos (.inl m1)]
              simp (disch := first | omega | decide) only [push_cast, ↓wF_free, ↓reduceIte, Nat.reduceEqDiff, Nat.reduceLT, Nat.reduceLeDiff, Nat.reduceAdd, Nat.reduceSub, Nat.reduceMul, Nat.reduceBEq, Int.reduceLT, Int.reduceLE, Int.reduceToNat, Int.reduceNeg, Int.reducePow, Int.reduceAdd, Int.reduceMul, Int.reduceSub, ↓Int.reduceNatCast', m1, i3, i4, l3, l4, call_rin, e0, e1]
      · obtain rfl : i = l.length := by omega
        rw [List.drop_length] at hse
        have e1 : settleF b l = (x, 0) := hse
        have hr := reR_nI x false b.length hxl
        simp (disch := first | omega | decide) only [push_cast, ↓wF_free, ↓reduceIte, Nat.reduceEqDiff, Nat.reduceLT, Nat.reduceLeDiff, Nat.reduceAdd, Nat.reduceSub, Nat.reduceMul, Nat.reduceBEq, Int.reduceLT, Int.reduceLE, Int.reduceToNat, Int.reduceNeg, Int.reducePow, Int.reduceAdd, Int.reduceMul, Int.reduceSub, ↓Int.reduceNatCast', hr, e0, e1]
  · have e0 : settleL b l = ([], chkE b) := by unfold settleL; rw [if_pos hc]
    simp (disch := first | omega | decide) only [push_cast, ↓wF_free, ↓reduceIte, Nat.reduceEqDiff, Nat.reduceLT, Nat.reduceLeDiff, Nat.reduceAdd, Nat.reduceSub, Nat.reduceMul, Nat.reduceBEq, Int.reduceLT, Int.reduceLE, Int.reduceToNat, Int.reduceNeg, Int.reducePow, Int.reduceAdd, Int.reduceMul, Int.reduceSub, ↓Int.reduceNatCast', call_rvalid, hc, e0]
theorem c_rsettle : Contract Try.prog GG 17 sp_rsettle :=
  contract_of tr_wagonpoolref34_Settle (tb_ok (all_cons c_rvalid (all_cons c_rin all_nil)) all_nil) (fun a h => w_rsettle a.1 a.2 h)

/-! ### Checks -/
theorem pld_f (st : St) (p : Pay) : pload st 1 false (.eptr (payD p) 0) = some (.int .i64 p.f) := (rfl)
theorem pld_t (st : St) (p : Pay) : pload st 1 false (.eptr (payD p) 1) = some (.int .i64 p.t) := (rfl)
theorem pld_n (st : St) (p : Pay) : pload st 1 false (.eptr (payD p) 2) = some (.int .i64 p.n) := (rfl)
theorem settleL_ok {b : List Int} {l : List Pay} (h : (settleL b l).2 = 0) : chkE b = 0 ∧ settleF b l = ((settleL b l).1, 0) := by
  unfold settleL at h ⊢
  by_cases hc : chkE b = 0
  · rw [if_neg (by rw [hc]; simp)] at h ⊢
    exact ⟨hc, Prod.ext rfl h⟩
  · rw [if_pos hc] at h
    exact absurd h hc
theorem any_none {p : Pay → Bool} {l : List Pay} (h : ∀ j, j < l.length → p (l.getD j default) = false) : l.any p = false := by
  rw [Bool.eq_false_iff]
  intro h2
  rw [List.any_eq_true] at h2
  obtain ⟨v, hv, h3⟩ := h2
  obtain ⟨j, hj, rfl⟩ := List.getElem_of_mem hv
  have := h j hj
  rw [List.getD_eq_getElem?_getD, List.getElem?_eq_getElem hj] at this
  simp [h3] at this
theorem any_some {p : Pay → Bool} {l : List Pay} {i : Nat} (hi : i < l.length) (h : p (l.getD i default) = true) : l.any p = true := by
  rw [List.any_eq_true]
  refine ⟨_, ?_, h⟩
  rw [List.getD_eq_getElem?_getD, List.getElem?_eq_getElem hi]
  exact List.getElem_mem hi
theorem getD_memP {l : List Pay} {i : Nat} (hi : i < l.length) : l.getD i default ∈ l := by
  rw [List.getD_eq_getElem?_getD, List.getElem?_eq_getElem hi]
  exact List.getElem_mem hi
noncomputable def sp_rcheck : List D → Option D := spOf (α := List Int × List Pay) (fun a => [.slc (nz 1 (a.1.map nI)) (a.1.map nI) false, .slc (nz 3 (a.2.map payD)) (a.2.map payD) false]) (fun a => a.2.length ≤ 9223372036854775807) (fun a => .int .i64 (checkL a.1 a.2))
theorem call_rcheck (b : List Int) (l : List Pay) (h : l.length ≤ 9223372036854775807) : sp_rcheck [.slc (nz 1 (b.map nI)) (b.map nI) false, .slc (nz 3 (l.map payD)) (l.map payD) false] = some (.int .i64 (checkL b l)) :=
  spOf_enc (fun ⟨a0, a1⟩ ⟨b0, b1⟩ h => by simp only [List.cons.injEq, D.slc.injEq, D.int.injEq, D.bool.injEq, D.str.injEq, D.agg.injEq, digs_iff, dig_iff, digC_iff, bytes_iff, byte_iff, words_iff, word_iff, bsl_iff, true_and, and_true, ints_iff, pays_iff, nI_iff, payD_iff, Int.ofNat_inj] at h; simp [h, Prod.ext_iff]) (b, l) h
set_option maxHeartbeats 4000000 in
set_option maxRecDepth 20000 in
theorem w_rcheck (b : List Int) (l : List Pay) (h : l.length ≤ 9223372036854775807) : @wW GG (tb [(17, sp_rsettle)] []) F_wagonpoolref34_Check.code (argF [.slc (nz 1 (b.map nI)) (b.map nI) false, .slc (nz 3 (l.map payD)) (l.map payD) false]) [] ⟨retQ F_wagonpoolref34_Check.res (.int .i64 (checkL b l))⟩ := by
  unfold F_wagonpoolref34_Check
  have cs := call_rsettle b l h
  by_cases h0 : (settleL b l).2 = 0
  · obtain ⟨hc, hse⟩ := settleL_ok h0
    obtain ⟨hl1, hin⟩ := chkE_ok hc
    have ex : checkL b l = if l.any (wrongP b) || (settleL b l).1.any (fun x => decide (x ≠ 0)) then 340 else 0 := by unfold checkL; rw [if_neg (by rw [h0]; simp)]
    rw [h0] at cs
    generalize (settleL b l).1 = x at *
    obtain ⟨v1, _, _, v4⟩ := settle_val l b x hse
    simp (disch := first | omega | decide) only [push_cast, ↓wF_free, ↓reduceIte, Nat.reduceEqDiff, Nat.reduceLT, Nat.reduceLeDiff, Nat.reduceAdd, Nat.reduceSub, Nat.reduceMul, Nat.reduceBEq, Int.reduceLT, Int.reduceLE, Int.reduceToNat, Int.reduceNeg, Int.reducePow, Int.reduceAdd, Int.reduceMul, Int.reduceSub, ↓Int.reduceNatCast', cs]
    refine W_while (fun i : Nat => [(0, .slc (nz 1 (b.map nI)) (b.map nI) false), (1, .slc (nz 3 (l.map payD)) (l.map payD) false), (5, .slc (nz 1 (x.map nI)) (x.map nI) false), (7, .int .i64 (i : Int))]) (fun i => []) (fun i => i ≤ l.length ∧ ∀ j, j < i → wrongP b (l.getD j default) = false) (fun i => l.length - i) 0 (by simp only [push_cast, ↓wF_free, ↓reduceIte, Nat.reduceEqDiff, Nat.reduceLT, Nat.reduceLeDiff, Nat.reduceAdd, Nat.reduceSub, Nat.reduceMul, Nat.reduceBEq, Int.reduceLT, Int.reduceLE, Int.reduceToNat, Int.reduceNeg, Int.reducePow, Int.reduceAdd, Int.reduceMul, Int.reduceSub, ↓Int.reduceNatCast'] <;> rfl) ⟨Nat.zero_le _, fun j hj => by omega⟩ ?_
    rintro i ⟨hi, hp⟩
    unfold F_wagonpoolref34_Check_L0
    simp (disch := first | omega | decide) only [push_cast, ↓wF_free, ↓reduceIte, Nat.reduceEqDiff, Nat.reduceLT, Nat.reduceLeDiff, Nat.reduceAdd, Nat.reduceSub, Nat.reduceMul, Nat.reduceBEq, Int.reduceLT, Int.reduceLE, Int.reduceToNat, Int.reduceNeg, Int.reducePow, Int.reduceAdd, Int.reduceMul, Int.reduceSub, ↓Int.reduceNatCast']
    refine ifD_split (fun h2 => ?_) (fun h2 => ?_)
    · have hlt : i < l.length := by omega
      have hv := (v4 _ (getD_memP hlt)).1
      have hw : wrongP b (l.getD i default) = true → checkL b l = 340 := fun hw => by rw [ex, any_some hlt hw]; rfl
      have hg : wrongP b (l.getD i default) = false → ∀ j, j < i + 1 → wrongP b (l.getD j default) = false := fun hw j hj => by
        rcases Nat.lt_or_ge j i with h1 | h1
        · exact hp j h1
        · obtain rfl : j = i := by omega
          exact hw
      simp (disch := first | omega | decide) only [push_cast, ↓wF_free, ↓reduceIte, Nat.reduceEqDiff, Nat.reduceLT, Nat.reduceLeDiff, Nat.reduceAdd, Nat.reduceSub, Nat.reduceMul, Nat.reduceBEq, Int.reduceLT, Int.reduceLE, Int.reduceToNat, Int.reduceNeg, Int.reducePow, Int.reduceAdd, Int.reduceMul, Int.reduceSub, ↓Int.reduceNatCast', idxS_nz, pld_f, pld_t]
      generalize hpp : l.getD i default = p at *
      unfold badAcc at hv
      unfold wrongP at hw hg
      simp (disch := first | omega | decide) only [push_cast, ↓wF_free, ↓reduceIte, Nat.reduceEqDiff, Nat.reduceLT, Nat.reduceLeDiff, Nat.reduceAdd, Nat.reduceSub, Nat.reduceMul, Nat.reduceBEq, Int.reduceLT, Int.reduceLE, Int.reduceToNat, Int.reduceNeg, Int.reducePow, Int.reduceAdd, Int.reduceMul, Int.reduceSub, ↓Int.reduceNatCast', idxS_nz, pld_f, pld_t, hpp]
      by_cases k1 : 0 ≤ b.getD p.f.toNat default
      · have e := hw (by simp only [at', k1, decide_true, Bool.true_or])
        simp (disch := first | omega | decide) only [push_cast, ↓wF_free, ↓reduceIte, Nat.reduceEqDiff, Nat.reduceLT, Nat.reduceLeDiff, Nat.reduceAdd, Nat.reduceSub, Nat.reduceMul, Nat.reduceBEq, Int.reduceLT, Int.reduceLE, Int.reduceToNat, Int.reduceNeg, Int.reducePow, Int.reduceAdd, Int.reduceMul, Int.reduceSub, ↓Int.reduceNatCast', k1, e]
      · by_cases k2 : b.getD p.t.toNat default ≤ 0
        · have e := hw (by simp only [at', k1, k2, decide_true, decide_false, Bool.false_or])
          simp (disch := first | omega | decide) only [push_cast, ↓wF_free, ↓reduceIte, Nat.reduceEqDiff, Nat.reduceLT, Nat.reduceLeDiff, Nat.reduceAdd, Nat.reduceSub, Nat.reduceMul, Nat.reduceBEq, Int.reduceLT, Int.reduceLE, Int.reduceToNat, Int.reduceNeg, Int.reducePow, Int.reduceAdd, Int.reduceMul, Int.reduceSub, ↓Int.reduceNatCast', k1, k2, idxS_nz, pld_f, pld_t, hpp, e]
        · have hg2 := hg (by simp only [at', k1, k2, decide_false, Bool.false_or])
          simp (disch := first | omega | decide) only [push_cast, ↓wF_free, ↓reduceIte, Nat.reduceEqDiff, Nat.reduceLT, Nat.reduceLeDiff, Nat.reduceAdd, Nat.reduceSub, Nat.reduceMul, Nat.reduceBEq, Int.reduceLT, Int.reduceLE, Int.reduceToNat, Int.reduceNeg, Int.reducePow, Int.reduceAdd, Int.reduceMul, Int.reduceSub, ↓Int.reduceNatCast', k1, k2, idxS_nz, pld_f, pld_t, hpp, add_i]
          refine next_head (i + 1) (by exact ⟨by omega, by unfold wrongP; exact hg2⟩) (by omega) ?_
          simp only [push_cast, ↓wF_free, ↓reduceIte, Nat.reduceEqDiff, Nat.reduceLT, Nat.reduceLeDiff, Nat.reduceAdd, Nat.reduceSub, Nat.reduceMul, Nat.reduceBEq, Int.reduceLT, Int.reduceLE, Int.reduceToNat, Int.reduceNeg, Int.reducePow, Int.reduceAdd, Int.reduceMul, Int.reduceSub, ↓Int.reduceNatCast'] <;> rfl
    · obtain rfl : i = l.length := by omega
      have ea := any_none hp
      rw [ea, Bool.false_or] at ex
      simp (disch := first | omega | decide) only [push_cast, ↓wF_free, ↓reduceIte, Nat.reduceEqDiff, Nat.reduceLT, Nat.reduceLeDiff, Nat.reduceAdd, Nat.reduceSub, Nat.reduceMul, Nat.reduceBEq, Int.reduceLT, Int.reduceLE, Int.reduceToNat, Int.reduceNeg, Int.reducePow, Int.reduceAdd, Int.reduceMul, Int.reduceSub, ↓Int.reduceNatCast']
      refine W_while (fun i : Nat => [(5, .slc (nz 1 (x.map nI)) (x.map nI) false), (8, .int .i64 (i : Int))]) (fun i => []) (fun i => i ≤ x.length ∧ ∀ j, j < i → decide (at' x j ≠ 0) = false) (fun i => x.length - i) 0 (by simp only [push_cast, ↓wF_free, ↓reduceIte, Nat.reduceEqDiff, Nat.reduceLT, Nat.reduceLeDiff, Nat.reduceAdd, Nat.reduceSub, Nat.reduceMul, Nat.reduceBEq, Int.reduceLT, Int.reduceLE, Int.reduceToNat, Int.reduceNeg, Int.reducePow, Int.reduceAdd, Int.reduceMul, Int.reduceSub, ↓Int.reduceNatCast'] <;> rfl) ⟨Nat.zero_le _, fun j hj => by omega⟩ ?_
      rintro i ⟨hi2, hp2⟩
      unfold F_wagonpoolref34_Check_L1
      simp (disch := first | omega | decide) only [push_cast, ↓wF_free, ↓reduceIte, Nat.reduceEqDiff, Nat.reduceLT, Nat.reduceLeDiff, Nat.reduceAdd, Nat.reduceSub, Nat.reduceMul, Nat.reduceBEq, Int.reduceLT, Int.reduceLE, Int.reduceToNat, Int.reduceNeg, Int.reducePow, Int.reduceAdd, Int.reduceMul, Int.reduceSub, ↓Int.reduceNatCast']
      refine ifD_split (fun h3 => ?_) (fun h3 => ?_)
      · simp (disch := first | omega | decide) only [push_cast, ↓wF_free, ↓reduceIte, Nat.reduceEqDiff, Nat.reduceLT, Nat.reduceLeDiff, Nat.reduceAdd, Nat.reduceSub, Nat.reduceMul, Nat.reduceBEq, Int.reduceLT, Int.reduceLE, Int.reduceToNat, Int.reduceNeg, Int.reducePow, Int.reduceAdd, Int.reduceMul, Int.reduceSub, ↓Int.reduceNatCast', idxS_nz]
        by_cases k1 : x.getD i default = 0
        · have hg : ∀ j, j < i + 1 → decide (at' x j ≠ 0) = false := fun j hj => by
            rcases Nat.lt_or_ge j i with h1 | h1
            · exact hp2 j h1
            · obtain rfl : j = i := by omega
              exact decide_eq_false (fun h => h k1)
          simp (disch := first | omega | decide) only [push_cast, ↓wF_free, ↓reduceIte, Nat.reduceEqDiff, Nat.reduceLT, Nat.reduceLeDiff, Nat.reduceAdd, Nat.reduceSub, Nat.reduceMul, Nat.reduceBEq, Int.reduceLT, Int.reduceLE, Int.reduceToNat, Int.reduceNeg, Int.reducePow, Int.reduceAdd, Int.reduceMul, Int.reduceSub, ↓Int.reduceNatCast', k1, add_i]
          refine next_head (i + 1) (by exact ⟨by omega, hg⟩) (by omega) ?_
          simp only [push_cast, ↓wF_free, ↓reduceIte, Nat.reduceEqDiff, Nat.reduceLT, Nat.reduceLeDiff, Nat.reduceAdd, Nat.reduceSub, Nat.reduceMul, Nat.reduceBEq, Int.reduceLT, Int.reduceLE, Int.reduceToNat, Int.reduceNeg, Int.reducePow, Int.reduceAdd, Int.reduceMul, Int.reduceSub, ↓Int.reduceNatCast'] <;> rfl
        · have e : checkL b l = 340 := by
            rw [ex, if_pos]
            rw [List.any_eq_true]
            exact ⟨_, at_mem (x := x) (i := i) (by omega), decide_eq_true k1⟩
          simp (disch := first | omega | decide) only [push_cast, ↓wF_free, ↓reduceIte, Nat.reduceEqDiff, Nat.reduceLT, Nat.reduceLeDiff, Nat.reduceAdd, Nat.reduceSub, Nat.reduceMul, Nat.reduceBEq, Int.reduceLT, Int.reduceLE, Int.reduceToNat, Int.reduceNeg, Int.reducePow, Int.reduceAdd, Int.reduceMul, Int.reduceSub, ↓Int.reduceNatCast', k1, e]
      · obtain rfl : i = x.length := by omega
        have e : checkL b l = 0 := by
          have := idx_none (p := fun v => decide (v ≠ 0)) hp2
          rw [ex, this]; rfl
        simp (disch := first | omega | decide) only [push_cast, ↓wF_free, ↓reduceIte, Nat.reduceEqDiff, Nat.reduceLT, Nat.reduceLeDiff, Nat.reduceAdd, Nat.reduceSub, Nat.reduceMul, Nat.reduceBEq, Int.reduceLT, Int.reduceLE, Int.reduceToNat, Int.reduceNeg, Int.reducePow, Int.reduceAdd, Int.reduceMul, Int.reduceSub, ↓Int.reduceNatCast', e]
  · have e : checkL b l = (settleL b l).2 := by unfold checkL; rw [if_pos h0]
    simp (disch := first | omega | decide) only [push_cast, ↓wF_free, ↓reduceIte, Nat.reduceEqDiff, Nat.reduceLT, Nat.reduceLeDiff, Nat.reduceAdd, Nat.reduceSub, Nat.reduceMul, Nat.reduceBEq, Int.reduceLT, Int.reduceLE, Int.reduceToNat, Int.reduceNeg, Int.reducePow, Int.reduceAdd, Int.reduceMul, Int.reduceSub, ↓Int.reduceNatCast', cs, h0, e]
theorem c_rcheck : Contract Try.prog GG 19 sp_rcheck :=
  contract_of tr_wagonpoolref34_Check (tb_ok (all_cons c_rsettle all_nil) all_nil) (fun a h => w_rcheck a.1 a.2 h)
end Go.Proofs.Ytedchaaoemifbaa.PI
