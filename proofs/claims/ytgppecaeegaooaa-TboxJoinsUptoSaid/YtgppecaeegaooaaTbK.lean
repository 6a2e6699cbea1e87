/-
  tbox: the reference's gap.
  Conditions: none; these are lemmas.
-/
import Derived.Test.YtgppecaeegaooaaTbJ
namespace Go.Proofs.Ytgppecaeegaooaa.PI
open Go
set_option linter.unusedSimpArgs false
set_option linter.unusedVariables false

noncomputable def sp_rgap : List D → Option D := spOf (α := Tar × List Tst) (fun a => [tarD a.1, .slc (nz 3 (a.2.map tstD)) (a.2.map tstD) false]) (fun a => a.2.length ≤ 4294967296 ∧ ∀ c ∈ a.1.cl, c.wh.length ≤ 4294967296) (fun a => .tup [envD (gapH a.1.cl a.2) (gapV a.1.cl a.2), .bool (gapB a.1.cl a.2), .int .i64 (gapE a.1.cl a.2)])
theorem call_rgap (t : Tar) (l : List Tst) (h : l.length ≤ 4294967296 ∧ ∀ c ∈ t.cl, c.wh.length ≤ 4294967296) : sp_rgap [tarD t, .slc (nz 3 (l.map tstD)) (l.map tstD) false] = some (.tup [envD (gapH t.cl l) (gapV t.cl l), .bool (gapB t.cl l), .int .i64 (gapE t.cl l)]) :=
  spOf_enc (fun ⟨a0, a1⟩ ⟨b0, b1⟩ h => by simp only [List.cons.injEq, D.slc.injEq, D.int.injEq, D.bool.injEq, D.str.injEq, D.agg.injEq, digs_iff, dig_iff, digC_iff, bytes_iff, byte_iff, words_iff, word_iff, bsl_iff, true_and, and_true, ints_iff, nI_iff, tsts_iff, clss_iff, clsD_iff, tarD_iff, tstD_iff, ptD_iff, Int.ofNat_inj] at h; simp [h, Prod.ext_iff]) (t, l) h
set_option maxHeartbeats 4000000 in
set_option maxRecDepth 20000 in
theorem w_rgap (t : Tar) (l : List Tst) (h : l.length ≤ 4294967296 ∧ ∀ c ∈ t.cl, c.wh.length ≤ 4294967296) : @wW GG (tb [(43, sp_rdom), (40, sp_rof), (29, sp_renv), (44, sp_srch17)] []) F_wagonpoolref19_Gap.code (argF [tarD t, .slc (nz 3 (l.map tstD)) (l.map tstD) false]) [] ⟨retQ F_wagonpoolref19_Gap.res (.tup [envD (gapH t.cl l) (gapV t.cl l), .bool (gapB t.cl l), .int .i64 (gapE t.cl l)])⟩ := by
  obtain ⟨hl, hw⟩ := h
  have cd := call_rdom l hl
  have hdo := domD_ok l
  unfold F_wagonpoolref19_Gap
  cases hb : domB l with
  | false =>
    obtain ⟨g1, g2, g3, g4⟩ := gapE_bad (cl := t.cl) hb
    have he : domE l = 1 := by unfold domE; rw [hb]; rfl
    rw [he] at cd
    simp (disch := first | omega | decide) only [push_cast, ↓wF_free, ↓reduceIte, Nat.reduceEqDiff, Nat.reduceLT, Nat.reduceLeDiff, Nat.reduceAdd, Nat.reduceSub, Nat.reduceMul, Nat.reduceBEq, Int.reduceLT, Int.reduceLE, Int.reduceToNat, Int.reduceNeg, Int.reducePow, Int.reduceAdd, Int.reduceMul, Int.reduceSub, ↓Int.reduceNatCast', show decide ((1 : Int) = 0) = false from rfl, cd, stB _ zBx_ok hdo, fill_env0, stE _ z16_length z16_length, ldE _ _ z16_length, g1, g2, g3, g4]
  | true =>
    have he : domE l = 0 := by unfold domE; rw [hb]; rfl
    rw [he] at cd
    by_cases h16 : 16 < t.cl.length
    · obtain ⟨g1, g2, g3, g4⟩ := gapE_many (cl := t.cl) hb h16
      have h16' : (16 : Int) < (t.cl.length : Int) := by omega
      simp (disch := first | omega | decide) only [push_cast, ↓wF_free, ↓reduceIte, Nat.reduceEqDiff, Nat.reduceLT, Nat.reduceLeDiff, Nat.reduceAdd, Nat.reduceSub, Nat.reduceMul, Nat.reduceBEq, Int.reduceLT, Int.reduceLE, Int.reduceToNat, Int.reduceNeg, Int.reducePow, Int.reduceAdd, Int.reduceMul, Int.reduceSub, ↓Int.reduceNatCast', cd, stB _ zBx_ok hdo, h16', fill_env0, stE _ z16_length z16_length, ldE _ _ z16_length, g1, g2, g3, g4]
    · obtain ⟨g1, g2⟩ := gapE_ok (cl := t.cl) hb h16
      have h16' : ¬ (16 : Int) < (t.cl.length : Int) := by omega
      simp (disch := first | omega | decide) only [push_cast, ↓wF_free, ↓reduceIte, Nat.reduceEqDiff, Nat.reduceLT, Nat.reduceLeDiff, Nat.reduceAdd, Nat.reduceSub, Nat.reduceMul, Nat.reduceBEq, Int.reduceLT, Int.reduceLE, Int.reduceToNat, Int.reduceNeg, Int.reducePow, Int.reduceAdd, Int.reduceMul, Int.reduceSub, ↓Int.reduceNatCast', cd, stB _ zBx_ok hdo, h16', imms_nil, litD_nil32]
      rw [nil_bufD1 32 3]
      refine W_while (fun i : Nat => [(2, .ptr 0 0), (4, .ptr 1 0), (7, .ptr 2 0), (9, bufD 32 3 ((bsF (t.cl.take i)).map bxD)), (10, .int .i64 (i : Int))])
        (fun i => ⟨false, 1, tarC t, false⟩ :: ⟨false, 1, envC 0 z16, false⟩ :: ⟨false, 1, bxC (domD l), false⟩ :: bufS 32 ((bsF (t.cl.take i)).map bxD)) (fun i => i ≤ t.cl.length) (fun i => t.cl.length - i) 0 (by simp only [push_cast, ↓wF_free, ↓reduceIte, Nat.reduceEqDiff, Nat.reduceLT, Nat.reduceLeDiff, Nat.reduceAdd, Nat.reduceSub, Nat.reduceMul, Nat.reduceBEq, Int.reduceLT, Int.reduceLE, Int.reduceToNat, Int.reduceNeg, Int.reducePow, Int.reduceAdd, Int.reduceMul, Int.reduceSub, ↓Int.reduceNatCast'] <;> rfl) (Nat.zero_le _) ?_
      intro i hi
      unfold F_wagonpoolref19_Gap_L0
      simp (disch := first | omega | decide) only [push_cast, ↓wF_free, ↓reduceIte, Nat.reduceEqDiff, Nat.reduceLT, Nat.reduceLeDiff, Nat.reduceAdd, Nat.reduceSub, Nat.reduceMul, Nat.reduceBEq, Int.reduceLT, Int.reduceLE, Int.reduceToNat, Int.reduceNeg, Int.reducePow, Int.reduceAdd, Int.reduceMul, Int.reduceSub, ↓Int.reduceNatCast']
      refine ifD_split (fun h2 => ?_) (fun h2 => ?_)
      · have hlt : i < t.cl.length := by omega
        have hix := fun st => idxS_nz st 9 clsD t.cl false .i64 (i : Int) (by omega) (by omega)
        rw [Int.toNat_natCast] at hix
        have cc := call_rof (t.cl.getD i default) (hw _ (getD_memC hlt))
        have hbx := ofB_ok (t.cl.getD i default).wh
        have hbt := bsF_take t.cl i hlt
        have hbl := bsF_len (t.cl.take i)
        rw [List.length_take] at hbl
        by_cases hA : bsF (t.cl.take i) = []
        · rw [hA]
          rw [hA] at hbt
          simp only [List.map_nil, bufD_nil, bufS_nil]
          cases k : (ofB (t.cl.getD i default).wh).2 with
          | false =>
            rw [k] at cc hbt
            simp (disch := first | omega | decide) only [push_cast, ↓wF_free, ↓reduceIte, Nat.reduceEqDiff, Nat.reduceLT, Nat.reduceLeDiff, Nat.reduceAdd, Nat.reduceSub, Nat.reduceMul, Nat.reduceBEq, Int.reduceLT, Int.reduceLE, Int.reduceToNat, Int.reduceNeg, Int.reducePow, Int.reduceAdd, Int.reduceMul, Int.reduceSub, ↓Int.reduceNatCast', hix, cc, stB _ zBx_ok hbx, add_i]
            refine next_head (i + 1) (by omega) (by omega) ?_
            rw [hbt]
            simp only [push_cast, ↓wF_free, ↓reduceIte, Nat.reduceEqDiff, Nat.reduceLT, Nat.reduceLeDiff, Nat.reduceAdd, Nat.reduceSub, Nat.reduceMul, Nat.reduceBEq, Int.reduceLT, Int.reduceLE, Int.reduceToNat, Int.reduceNeg, Int.reducePow, Int.reduceAdd, Int.reduceMul, Int.reduceSub, ↓Int.reduceNatCast'] <;> rfl
          | true =>
            rw [k] at cc hbt
            have pf := fun st => papp_first1 bxD st 32 32 256 (ofB (t.cl.getD i default).wh).1 true (by decide) (by decide)
            simp (disch := first | omega | decide) only [push_cast, ↓wF_free, ↓reduceIte, Nat.reduceEqDiff, Nat.reduceLT, Nat.reduceLeDiff, Nat.reduceAdd, Nat.reduceSub, Nat.reduceMul, Nat.reduceBEq, Int.reduceLT, Int.reduceLE, Int.reduceToNat, Int.reduceNeg, Int.reducePow, Int.reduceAdd, Int.reduceMul, Int.reduceSub, ↓Int.reduceNatCast', hix, cc, stB _ zBx_ok hbx, ldB _ _ hbx, litD_bx hbx, pf, add_i]
            refine next_head (i + 1) (by omega) (by omega) ?_
            rw [hbt]
            simp only [push_cast, ↓wF_free, ↓reduceIte, Nat.reduceEqDiff, Nat.reduceLT, Nat.reduceLeDiff, Nat.reduceAdd, Nat.reduceSub, Nat.reduceMul, Nat.reduceBEq, Int.reduceLT, Int.reduceLE, Int.reduceToNat, Int.reduceNeg, Int.reducePow, Int.reduceAdd, Int.reduceMul, Int.reduceSub, ↓Int.reduceNatCast'] <;> rfl
        · have hA' : (bsF (t.cl.take i)).map bxD ≠ [] := by simpa using hA
          rw [bufD_ne _ _ _ hA', bufS_ne _ _ hA', List.length_map]
          cases k : (ofB (t.cl.getD i default).wh).2 with
          | false =>
            rw [k] at cc hbt
            simp (disch := first | omega | decide) only [push_cast, ↓wF_free, ↓reduceIte, Nat.reduceEqDiff, Nat.reduceLT, Nat.reduceLeDiff, Nat.reduceAdd, Nat.reduceSub, Nat.reduceMul, Nat.reduceBEq, Int.reduceLT, Int.reduceLE, Int.reduceToNat, Int.reduceNeg, Int.reducePow, Int.reduceAdd, Int.reduceMul, Int.reduceSub, ↓Int.reduceNatCast', hix, cc, stB _ zBx_ok hbx, add_i]
            refine next_head (i + 1) (by omega) (by omega) ?_
            rw [hbt]
            simp only [Bool.false_eq_true, if_false]
            rw [bufD_ne _ _ _ hA', bufS_ne _ _ hA', List.length_map]
            simp only [push_cast, ↓wF_free, ↓reduceIte, Nat.reduceEqDiff, Nat.reduceLT, Nat.reduceLeDiff, Nat.reduceAdd, Nat.reduceSub, Nat.reduceMul, Nat.reduceBEq, Int.reduceLT, Int.reduceLE, Int.reduceToNat, Int.reduceNeg, Int.reducePow, Int.reduceAdd, Int.reduceMul, Int.reduceSub, ↓Int.reduceNatCast'] <;> rfl
          | true =>
            rw [k] at cc hbt
            have pf := fun st => apR_one bxD 32 256 (bsF (t.cl.take i)) (ofB (t.cl.getD i default).wh).1 false true st (by decide) (by omega) (by omega)
            simp (disch := first | omega | decide) only [push_cast, ↓wF_free, ↓reduceIte, Nat.reduceEqDiff, Nat.reduceLT, Nat.reduceLeDiff, Nat.reduceAdd, Nat.reduceSub, Nat.reduceMul, Nat.reduceBEq, Int.reduceLT, Int.reduceLE, Int.reduceToNat, Int.reduceNeg, Int.reducePow, Int.reduceAdd, Int.reduceMul, Int.reduceSub, ↓Int.reduceNatCast', hix, cc, stB _ zBx_ok hbx, ldB _ _ hbx, litD_bx hbx, pf, add_i]
            refine next_head (i + 1) (by omega) (by omega) ?_
            rw [hbt]
            simp only [if_true]
            rw [bufD_snoc, bufS_snoc]
            simp only [push_cast, ↓wF_free, ↓reduceIte, Nat.reduceEqDiff, Nat.reduceLT, Nat.reduceLeDiff, Nat.reduceAdd, Nat.reduceSub, Nat.reduceMul, Nat.reduceBEq, Int.reduceLT, Int.reduceLE, Int.reduceToNat, Int.reduceNeg, Int.reducePow, Int.reduceAdd, Int.reduceMul, Int.reduceSub, ↓Int.reduceNatCast'] <;> rfl
      · obtain rfl : i = t.cl.length := by omega
        rw [List.take_length]
        have hbl := bsF_len t.cl
        have hfl := gapF_len (cl := t.cl) hb
        have c1 : sp_srch17 _ = _ := call_srch 17 (domD l) (bsF t.cl) 0 z16 ⟨hdo, bsF_ok _, bsF_hi _, dom_dom hb, dom_lo hb, by omega, by omega, by omega, z16_length⟩ (by omega)
        rw [show ((16 : Int) - 0).toNat = 16 from rfl] at c1
        change sp_srch17 _ = some (.tup [ptD (gapF t.cl l).1, .bool (gapF t.cl l).2]) at c1
        rw [← g2] at c1
        have nr := pt_noRef2 (gapF t.cl l).1 (gapB t.cl l)
        have fz : fillD [.int .i64 0, .int .i64 0, .int .i64 0, .int .i64 0, .int .i64 0, .int .i64 0, .int .i64 0, .int .i64 0, .int .i64 0, .int .i64 0, .int .i64 0, .int .i64 0, .int .i64 0, .int .i64 0, .int .i64 0, .int .i64 0] [] = some (z16.map nI) := rfl
        by_cases hA : bsF t.cl = []
        · rw [hA] at c1 ⊢
          simp only [List.map_nil, nz_nil] at c1
          cases k : gapB t.cl l with
          | false =>
            rw [k] at c1 nr
            obtain ⟨g3, g4⟩ := gap_no k
            simp (disch := first | omega | decide) only [push_cast, ↓wF_free, ↓reduceIte, Nat.reduceEqDiff, Nat.reduceLT, Nat.reduceLeDiff, Nat.reduceAdd, Nat.reduceSub, Nat.reduceMul, Nat.reduceBEq, Int.reduceLT, Int.reduceLE, Int.reduceToNat, Int.reduceNeg, Int.reducePow, Int.reduceAdd, Int.reduceMul, Int.reduceSub, ↓Int.reduceNatCast', List.map_nil, bufD_nil, bufS_nil, ldB _ _ hdo, fz, c1, nr, stP _ z16_length hfl, fill_env0, stE _ z16_length z16_length, ldE _ _ z16_length, g1, g3, g4]
          | true =>
            rw [k] at c1 nr
            obtain ⟨g3, g4⟩ := gap_yes k
            have ce := call_renv (gapF t.cl l).1 hfl
            simp (disch := first | omega | decide) only [push_cast, ↓wF_free, ↓reduceIte, Nat.reduceEqDiff, Nat.reduceLT, Nat.reduceLeDiff, Nat.reduceAdd, Nat.reduceSub, Nat.reduceMul, Nat.reduceBEq, Int.reduceLT, Int.reduceLE, Int.reduceToNat, Int.reduceNeg, Int.reducePow, Int.reduceAdd, Int.reduceMul, Int.reduceSub, ↓Int.reduceNatCast', List.map_nil, bufD_nil, bufS_nil, ldB _ _ hdo, fz, c1, nr, stP _ z16_length hfl, ldP _ _ hfl, ce, stE _ z16_length hfl, ldE _ _ hfl, g1, g3, g4]
        · have hA' : (bsF t.cl).map bxD ≠ [] := by simpa using hA
          rw [bufD_ne _ _ _ hA', bufS_ne _ _ hA', List.length_map]
          cases k : gapB t.cl l with
          | false =>
            rw [k] at c1 nr
            obtain ⟨g3, g4⟩ := gap_no k
            simp (disch := first | omega | decide) only [push_cast, ↓wF_free, ↓reduceIte, Nat.reduceEqDiff, Nat.reduceLT, Nat.reduceLeDiff, Nat.reduceAdd, Nat.reduceSub, Nat.reduceMul, Nat.reduceBEq, Int.reduceLT, Int.reduceLE, Int.reduceToNat, Int.reduceNeg, Int.reducePow, Int.reduceAdd, Int.reduceMul, Int.reduceSub, ↓Int.reduceNatCast', ldB _ _ hdo, fz, c1, nr, stP _ z16_length hfl, fill_env0, stE _ z16_length z16_length, ldE _ _ z16_length, g1, g3, g4]
          | true =>
            rw [k] at c1 nr
            obtain ⟨g3, g4⟩ := gap_yes k
            have ce := call_renv (gapF t.cl l).1 hfl
            simp (disch := first | omega | decide) only [push_cast, ↓wF_free, ↓reduceIte, Nat.reduceEqDiff, Nat.reduceLT, Nat.reduceLeDiff, Nat.reduceAdd, Nat.reduceSub, Nat.reduceMul, Nat.reduceBEq, Int.reduceLT, Int.reduceLE, Int.reduceToNat, Int.reduceNeg, Int.reducePow, Int.reduceAdd, Int.reduceMul, Int.reduceSub, ↓Int.reduceNatCast', ldB _ _ hdo, fz, c1, nr, stP _ z16_length hfl, ldP _ _ hfl, ce, stE _ z16_length hfl, ldE _ _ hfl, g1, g3, g4]
theorem c_rgap : Contract Try.prog GG 26 sp_rgap :=
  contract_of tr_wagonpoolref19_Gap (tb_ok (all_cons c_rdom (all_cons c_rof (all_cons c_renv (all_cons c_srch17 all_nil)))) all_nil) (fun a h => w_rgap a.1 a.2 h)
end Go.Proofs.Ytgppecaeegaooaa.PI
