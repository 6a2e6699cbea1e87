/-
  tbox: the program's gap.
  Conditions: none; these are lemmas.
-/
import Derived.Test.YtgppecaeegaooaaTbI
namespace Go.Proofs.Ytgppecaeegaooaa.PI
open Go
set_option linter.unusedSimpArgs false
set_option linter.unusedVariables false
theorem srch_nil (d : Bx) (m : Nat) (v : List Int) : srch d (m + 1) [] v = (v.take (15 - m) ++ d.lo.drop (15 - m), true) := by
  rw [srch]
  rfl
theorem srch_nil16 (d : Bx) (v : List Int) : srch d 16 [] v = (d.lo, true) := srch_nil d 15 v
noncomputable def sp_pgap : List D → Option D := spOf (α := Tar × List Tst) (fun a => [tarD a.1, .slc (nz 3 (a.2.map tstD)) (a.2.map tstD) false]) (fun a => a.2.length ≤ 9223372036854775807 ∧ ∀ c ∈ a.1.cl, c.wh.length ≤ 9223372036854775807) (fun a => .tup [envD (gapH a.1.cl a.2) (gapV a.1.cl a.2), .bool (gapB a.1.cl a.2), .int .i64 (gapE a.1.cl a.2)])
theorem call_pgap (t : Tar) (l : List Tst) (h : l.length ≤ 9223372036854775807 ∧ ∀ c ∈ t.cl, c.wh.length ≤ 9223372036854775807) : sp_pgap [tarD t, .slc (nz 3 (l.map tstD)) (l.map tstD) false] = some (.tup [envD (gapH t.cl l) (gapV t.cl l), .bool (gapB t.cl l), .int .i64 (gapE t.cl l)]) :=
  spOf_enc (fun ⟨a0, a1⟩ ⟨b0, b1⟩ h => by simp only [List.cons.injEq, D.slc.injEq, D.int.injEq, D.bool.injEq, D.str.injEq, D.agg.injEq, digs_iff, dig_iff, digC_iff, bytes_iff, byte_iff, words_iff, word_iff, bsl_iff, true_and, and_true, ints_iff, nI_iff, tsts_iff, clss_iff, clsD_iff, tarD_iff, tstD_iff, ptD_iff, Int.ofNat_inj] at h; simp [h, Prod.ext_iff]) (t, l) h
set_option maxHeartbeats 4000000 in
set_option maxRecDepth 20000 in
theorem w_pgap (t : Tar) (l : List Tst) (h : l.length ≤ 9223372036854775807 ∧ ∀ c ∈ t.cl, c.wh.length ≤ 9223372036854775807) : @wW GG (tb [(35, sp_preg), (34, sp_pof), (37, sp_penv)] [(36, si_unc)]) F_tbox_Gap.code (argF [tarD t, .slc (nz 3 (l.map tstD)) (l.map tstD) false]) [] ⟨retQ F_tbox_Gap.res (.tup [envD (gapH t.cl l) (gapV t.cl l), .bool (gapB t.cl l), .int .i64 (gapE t.cl l)])⟩ := by
  obtain ⟨hl, hw⟩ := h
  have cd := call_preg l hl
  have hdo := domD_ok l
  unfold F_tbox_Gap
  cases hb : domB l with
  | false =>
    obtain ⟨g1, g2, g3, g4⟩ := gapE_bad (cl := t.cl) hb
    rw [hb] at cd
    simp (disch := first | omega | decide) only [push_cast, ↓wF_free, ↓reduceIte, Nat.reduceEqDiff, Nat.reduceLT, Nat.reduceLeDiff, Nat.reduceAdd, Nat.reduceSub, Nat.reduceMul, Nat.reduceBEq, Int.reduceLT, Int.reduceLE, Int.reduceToNat, Int.reduceNeg, Int.reducePow, Int.reduceAdd, Int.reduceMul, Int.reduceSub, ↓Int.reduceNatCast', cd, stB _ zBx_ok hdo, fill_env0, stE _ z16_length z16_length, ldE _ _ z16_length, g1, g2, g3, g4]
  | true =>
    rw [hb] at cd
    by_cases h16 : 16 < t.cl.length
    · obtain ⟨g1, g2, g3, g4⟩ := gapE_many (cl := t.cl) hb h16
      have h16' : (16 : Int) < (t.cl.length : Int) := by omega
      simp (disch := first | omega | decide) only [push_cast, ↓wF_free, ↓reduceIte, Nat.reduceEqDiff, Nat.reduceLT, Nat.reduceLeDiff, Nat.reduceAdd, Nat.reduceSub, Nat.reduceMul, Nat.reduceBEq, Int.reduceLT, Int.reduceLE, Int.reduceToNat, Int.reduceNeg, Int.reducePow, Int.reduceAdd, Int.reduceMul, Int.reduceSub, ↓Int.reduceNatCast', cd, stB _ zBx_ok hdo, h16', fill_env0, stE _ z16_length z16_length, ldE _ _ z16_length, g1, g2, g3, g4]
    · obtain ⟨g1, g2⟩ := gapE_ok (cl := t.cl) hb h16
      have h16' : ¬ (16 : Int) < (t.cl.length : Int) := by omega
      simp (disch := first | omega | decide) only [push_cast, ↓wF_free, ↓reduceIte, Nat.reduceEqDiff, Nat.reduceLT, Nat.reduceLeDiff, Nat.reduceAdd, Nat.reduceSub, Nat.reduceMul, Nat.reduceBEq, Int.reduceLT, Int.reduceLE, Int.reduceToNat, Int.reduceNeg, Int.reducePow, Int.reduceAdd, Int.reduceMul, Int.reduceSub, ↓Int.reduceNatCast', cd, stB _ zBx_ok hdo, h16']
      rw [nil_bufD 3]
      refine W_while (fun i : Nat => [(4, .ptr 1 0), (7, .ptr 2 0), (9, bufD 0 3 ((bsF (t.cl.take i)).map bxD)), (29, .slc (nz 9 (t.cl.map clsD)) (t.cl.map clsD) false), (30, .int .i64 (t.cl.length : Int)), (31, .int .i64 (i : Int))])
        (fun i => ⟨false, 1, tarC t, false⟩ :: ⟨false, 1, envC 0 z16, false⟩ :: ⟨false, 1, bxC (domD l), false⟩ :: bufS 32 ((bsF (t.cl.take i)).map bxD)) (fun i => i ≤ t.cl.length) (fun i => t.cl.length - i) 0 (by simp only [push_cast, ↓wF_free, ↓reduceIte, Nat.reduceEqDiff, Nat.reduceLT, Nat.reduceLeDiff, Nat.reduceAdd, Nat.reduceSub, Nat.reduceMul, Nat.reduceBEq, Int.reduceLT, Int.reduceLE, Int.reduceToNat, Int.reduceNeg, Int.reducePow, Int.reduceAdd, Int.reduceMul, Int.reduceSub, ↓Int.reduceNatCast'] <;> rfl) (Nat.zero_le _) ?_
      intro i hi
      unfold F_tbox_Gap_L0
      simp (disch := first | omega | decide) only [push_cast, ↓wF_free, ↓reduceIte, Nat.reduceEqDiff, Nat.reduceLT, Nat.reduceLeDiff, Nat.reduceAdd, Nat.reduceSub, Nat.reduceMul, Nat.reduceBEq, Int.reduceLT, Int.reduceLE, Int.reduceToNat, Int.reduceNeg, Int.reducePow, Int.reduceAdd, Int.reduceMul, Int.reduceSub, ↓Int.reduceNatCast']
      refine ifD_split (fun h2 => ?_) (fun h2 => ?_)
      · have hlt : i < t.cl.length := by omega
        have hix := fun st => idxS_nz st 9 clsD t.cl false .i64 (i : Int) (by omega) (by omega)
        rw [Int.toNat_natCast] at hix
        have cc := call_pof (t.cl.getD i default) (hw _ (getD_memC hlt))
        have hbx := ofB_ok (t.cl.getD i default).wh
        have hbt := bsF_take t.cl i hlt
        have hbl := bsF_len (t.cl.take i)
        rw [List.length_take] at hbl
        by_cases hA : bsF (t.cl.take i) = []
        · rw [hA]
          rw [hA] at hbt
          simp only [List.map_nil, bufD_nil, bufS_nil]
          cases k : (ofB (t.cl.getD i default).wh).2 with
          | false =>
            rw [k] at cc hbt
            simp (disch := first | omega | decide) only [push_cast, ↓wF_free, ↓reduceIte, Nat.reduceEqDiff, Nat.reduceLT, Nat.reduceLeDiff, Nat.reduceAdd, Nat.reduceSub, Nat.reduceMul, Nat.reduceBEq, Int.reduceLT, Int.reduceLE, Int.reduceToNat, Int.reduceNeg, Int.reducePow, Int.reduceAdd, Int.reduceMul, Int.reduceSub, ↓Int.reduceNatCast', hix, cc, stB _ zBx_ok hbx, add_i]
            refine next_head (i + 1) (by omega) (by omega) ?_
            rw [hbt]
            simp only [push_cast, ↓wF_free, ↓reduceIte, Nat.reduceEqDiff, Nat.reduceLT, Nat.reduceLeDiff, Nat.reduceAdd, Nat.reduceSub, Nat.reduceMul, Nat.reduceBEq, Int.reduceLT, Int.reduceLE, Int.reduceToNat, Int.reduceNeg, Int.reducePow, Int.reduceAdd, Int.reduceMul, Int.reduceSub, ↓Int.reduceNatCast'] <;> rfl
          | true =>
            rw [k] at cc hbt
            have pf := fun st => papp_first1 bxD st 32 0 256 (ofB (t.cl.getD i default).wh).1 true (by decide) (by decide)
            simp (disch := first | omega | decide) only [push_cast, ↓wF_free, ↓reduceIte, Nat.reduceEqDiff, Nat.reduceLT, Nat.reduceLeDiff, Nat.reduceAdd, Nat.reduceSub, Nat.reduceMul, Nat.reduceBEq, Int.reduceLT, Int.reduceLE, Int.reduceToNat, Int.reduceNeg, Int.reducePow, Int.reduceAdd, Int.reduceMul, Int.reduceSub, ↓Int.reduceNatCast', hix, cc, stB _ zBx_ok hbx, ldB _ _ hbx, litD_bx hbx, pf, add_i]
            refine next_head (i + 1) (by omega) (by omega) ?_
            rw [hbt]
            simp only [push_cast, ↓wF_free, ↓reduceIte, Nat.reduceEqDiff, Nat.reduceLT, Nat.reduceLeDiff, Nat.reduceAdd, Nat.reduceSub, Nat.reduceMul, Nat.reduceBEq, Int.reduceLT, Int.reduceLE, Int.reduceToNat, Int.reduceNeg, Int.reducePow, Int.reduceAdd, Int.reduceMul, Int.reduceSub, ↓Int.reduceNatCast'] <;> rfl
        · have hA' : (bsF (t.cl.take i)).map bxD ≠ [] := by simpa using hA
          rw [bufD_ne _ _ _ hA', bufS_ne _ _ hA', List.length_map]
          cases k : (ofB (t.cl.getD i default).wh).2 with
          | false =>
            rw [k] at cc hbt
            simp (disch := first | omega | decide) only [push_cast, ↓wF_free, ↓reduceIte, Nat.reduceEqDiff, Nat.reduceLT, Nat.reduceLeDiff, Nat.reduceAdd, Nat.reduceSub, Nat.reduceMul, Nat.reduceBEq, Int.reduceLT, Int.reduceLE, Int.reduceToNat, Int.reduceNeg, Int.reducePow, Int.reduceAdd, Int.reduceMul, Int.reduceSub, ↓Int.reduceNatCast', hix, cc, stB _ zBx_ok hbx, add_i]
            refine next_head (i + 1) (by omega) (by omega) ?_
            rw [hbt]
            simp only [Bool.false_eq_true, if_false]
            rw [bufD_ne _ _ _ hA', bufS_ne _ _ hA', List.length_map]
            simp only [push_cast, ↓wF_free, ↓reduceIte, Nat.reduceEqDiff, Nat.reduceLT, Nat.reduceLeDiff, Nat.reduceAdd, Nat.reduceSub, Nat.reduceMul, Nat.reduceBEq, Int.reduceLT, Int.reduceLE, Int.reduceToNat, Int.reduceNeg, Int.reducePow, Int.reduceAdd, Int.reduceMul, Int.reduceSub, ↓Int.reduceNatCast'] <;> rfl
          | true =>
            rw [k] at cc hbt
            have pf := fun st => apR_one bxD 32 256 (bsF (t.cl.take i)) (ofB (t.cl.getD i default).wh).1 false true st (by decide) (by omega) (by omega)
            simp (disch := first | omega | decide) only [push_cast, ↓wF_free, ↓reduceIte, Nat.reduceEqDiff, Nat.reduceLT, Nat.reduceLeDiff, Nat.reduceAdd, Nat.reduceSub, Nat.reduceMul, Nat.reduceBEq, Int.reduceLT, Int.reduceLE, Int.reduceToNat, Int.reduceNeg, Int.reducePow, Int.reduceAdd, Int.reduceMul, Int.reduceSub, ↓Int.reduceNatCast', hix, cc, stB _ zBx_ok hbx, ldB _ _ hbx, litD_bx hbx, pf, add_i]
            refine next_head (i + 1) (by omega) (by omega) ?_
            rw [hbt]
            simp only [if_true]
            rw [bufD_snoc, bufS_snoc]
            simp only [push_cast, ↓wF_free, ↓reduceIte, Nat.reduceEqDiff, Nat.reduceLT, Nat.reduceLeDiff, Nat.reduceAdd, Nat.reduceSub, Nat.reduceMul, Nat.reduceBEq, Int.reduceLT, Int.reduceLE, Int.reduceToNat, Int.reduceNeg, Int.reducePow, Int.reduceAdd, Int.reduceMul, Int.reduceSub, ↓Int.reduceNatCast'] <;> rfl
      · obtain rfl : i = t.cl.length := by omega
        rw [List.take_length]
        have hdl := hdo.1
        by_cases hA : bsF t.cl = []
        · rw [hA]
          have c1 := call_unc1 t (domD l) (domD l).lo hdo hdl
          have gf : gapF t.cl l = ((domD l).lo, true) := by
            unfold gapF
            rw [hA]
            exact srch_nil16 (domD l) z16
          rw [gf] at g2
          obtain ⟨g3, g4⟩ := gap_yes g2
          rw [gf] at g4
          have ce := call_penv (domD l).lo hdl
          simp (disch := first | omega | decide) only [push_cast, ↓wF_free, ↓reduceIte, Nat.reduceEqDiff, Nat.reduceLT, Nat.reduceLeDiff, Nat.reduceAdd, Nat.reduceSub, Nat.reduceMul, Nat.reduceBEq, Int.reduceLT, Int.reduceLE, Int.reduceToNat, Int.reduceNeg, Int.reducePow, Int.reduceAdd, Int.reduceMul, Int.reduceSub, ↓Int.reduceNatCast', List.map_nil, bufD_nil, bufS_nil, ldB_l _ _ hdo, stP _ z16_length hdl, ldB _ _ hdo, c1, ldP _ _ hdl, ce, stE _ z16_length hdl, ldE _ _ hdl, g1, g2, g3, g4]
        · have hA' : (bsF t.cl).map bxD ≠ [] := by simpa using hA
          rw [bufD_ne _ _ _ hA', bufS_ne _ _ hA', List.length_map]
          have hbl := bsF_len t.cl
          have c2 := call_unc2 t (domD l) (bsF t.cl) (domD l).lo ⟨dom_dom hb, dom_lo hb, bsF_ok _, bsF_hi _, hA, by omega, hdl⟩
          obtain ⟨f1, f2⟩ := from_srch (dom_dom hb) (bs := bsF t.cl) (p := (domD l).lo) hdl
          have hfl := gapF_len (cl := t.cl) hb
          have gfd : srch (domD l) 16 (bsF t.cl) z16 = gapF t.cl l := by unfold gapF; rfl
          rw [gfd] at f1 f2
          rw [f1, ← g2] at c2
          rw [← g2] at f2
          cases k : gapB t.cl l with
          | false =>
            rw [k] at c2
            obtain ⟨g3, g4⟩ := gap_no k
            simp (disch := first | omega | decide) only [push_cast, ↓wF_free, ↓reduceIte, Nat.reduceEqDiff, Nat.reduceLT, Nat.reduceLeDiff, Nat.reduceAdd, Nat.reduceSub, Nat.reduceMul, Nat.reduceBEq, Int.reduceLT, Int.reduceLE, Int.reduceToNat, Int.reduceNeg, Int.reducePow, Int.reduceAdd, Int.reduceMul, Int.reduceSub, ↓Int.reduceNatCast', ldB_l _ _ hdo, stP _ z16_length hdl, ldB _ _ hdo, c2, fill_env0, stE _ z16_length z16_length, ldE _ _ z16_length, g1, g3, g4]
          | true =>
            rw [k] at c2
            rw [f2 k] at c2
            obtain ⟨g3, g4⟩ := gap_yes k
            have ce := call_penv (gapF t.cl l).1 hfl
            simp (disch := first | omega | decide) only [push_cast, ↓wF_free, ↓reduceIte, Nat.reduceEqDiff, Nat.reduceLT, Nat.reduceLeDiff, Nat.reduceAdd, Nat.reduceSub, Nat.reduceMul, Nat.reduceBEq, Int.reduceLT, Int.reduceLE, Int.reduceToNat, Int.reduceNeg, Int.reducePow, Int.reduceAdd, Int.reduceMul, Int.reduceSub, ↓Int.reduceNatCast', ldB_l _ _ hdo, stP _ z16_length hdl, ldB _ _ hdo, c2, ldP _ _ hfl, ce, stE _ z16_length hfl, ldE _ _ hfl, g1, g3, g4]
theorem c_pgap : Contract Try.prog GG 17 sp_pgap :=
  contract_of tr_tbox_Gap (tb_ok (all_cons c_preg (all_cons c_pof (all_cons c_penv all_nil))) (all_cons ci_unc all_nil)) (fun a h => w_pgap a.1 a.2 h)
end Go.Proofs.Ytgppecaeegaooaa.PI
