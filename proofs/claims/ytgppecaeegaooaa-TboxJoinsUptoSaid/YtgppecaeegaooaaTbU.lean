/-
  tbox: the box of the tests of two clauses.
  Conditions: the input's bulk is at most 1048576.
-/
import Derived.Test.YtgppecaeegaooaaTbN
namespace Go.Proofs.Ytgppecaeegaooaa.PI
open Go
set_option linter.unusedSimpArgs false
set_option linter.unusedVariables false

theorem wts_tst : ∀ l : List Tst, l.length ≤ wts (l.map tstD)
  | [] => Nat.zero_le _
  | x :: l => by
    have := wts_tst l
    have h : wt (tstD x) = 3 := rfl
    rw [List.map_cons, wts, h, List.length_cons]
    omega
theorem wt_cls (c : Cls) : c.wh.length ≤ wt (clsD c) := by
  have := wts_tst c.wh
  have e : wt (clsD c) = wts (clsC c) := rfl
  rw [e, clsC, wts, wts]
  have e2 : wt (.slc (nz 3 (c.wh.map tstD)) (c.wh.map tstD) false) = wts (c.wh.map tstD) + 1 := rfl
  omega
theorem ldI (l : List Int) (i : Nat) (h : i < l.length) : ldO (some ⟨false, 1, l.map nI, false⟩) 1 false i = some (.int .i64 (at' l i)) := ldO_map 1 false nI l i h
theorem stI (l : List Int) (i : Nat) (v : Int) (h : i < l.length) : stO (some ⟨false, 1, l.map nI, false⟩) 1 i (.int .i64 v) = some ⟨false, 1, (l.set i v).map nI, false⟩ := stO_set 1 nI (fun _ => rfl) l i v h
def clsY (k n : Nat) : List D := [.str [], .row k n 0 n, .int .i64 0, .int .i64 0, .int .i64 0, .int .i64 0, .int .i64 0, .int .i64 0, .slc 0 [] true]
theorem fill_cls0 : fillD [.str [], .slc 0 [] true, .int .i64 0, .int .i64 0, .int .i64 0, .int .i64 0, .int .i64 0, .int .i64 0, .slc 0 [] true] [] = some cls0 := (rfl)
theorem st_00 (sz : Nat) : stO (some ⟨false, sz, cls0, false⟩) 9 0 (.agg cls0) = some ⟨false, sz, cls0, false⟩ := stO_all sz _ _ 9 rfl rfl rfl
theorem ld_01 (sz : Nat) : ldO (some ⟨false, sz, cls0, false⟩) 1 false 1 = some (.slc 0 [] true) := (rfl)
theorem st_01 (sz k n : Nat) : stO (some ⟨false, sz, cls0, false⟩) 1 1 (.row k n 0 n) = some ⟨false, sz, clsY k n, false⟩ := (rfl)
theorem st_02 (sz : Nat) : stO (some ⟨false, sz, cls0, false⟩) 1 1 (.slc 0 [] true) = some ⟨false, sz, cls0, false⟩ := (rfl)
theorem ld_Y (sz k n : Nat) : ldO (some ⟨false, sz, clsY k n, false⟩) 9 true 0 = some (.agg (clsY k n)) := (rfl)
theorem ld_0 (sz : Nat) : ldO (some ⟨false, sz, cls0, false⟩) 9 true 0 = some (.agg cls0) := (rfl)
theorem imm_0 (st : St) : immL st cls0 = some (clsC (clsN [] [])) := (rfl)
theorem imm_Y (st : St) (L : List Tst) (lent : Bool) (n : Nat) (hn : n = L.length) (h3 : st[3]? = some ⟨true, 3, L.map tstD, lent⟩) : immL st (clsY 3 n) = some (clsC (clsN [] L)) := by
  subst hn
  have h1 : imm1 st (.row 3 L.length 0 L.length) = some (.slc (nz 3 (L.map tstD)) (L.map tstD) false) := by
    simp only [imm1, rowEls_eq, h3, reR_all, Option.map_some, nz_nz]
  unfold clsY
  simp only [immL]
  rw [h1]
  rfl
theorem nr_3 (p q : List Int) (b : Bool) : (D.tup [ptD p, ptD q, .bool b]).noRef = true := by
  have h : ∀ p : List Int, (p.map nI).all D.noRef1 = true := fun p => by
    simp only [List.all_eq_true, List.mem_map]
    rintro x ⟨a, _, rfl⟩
    rfl
  simp [ptD, D.noRef, D.noRef1, h]
theorem join_steps {b c : Bx} (hb : b.ok) (hc : c.ok) {i : Nat} (h : i < 16) :
    ldO (some ⟨false, 1, (meetI b c i).lo.map nI, false⟩) 1 false i = some (.int .i64 (at' b.lo i)) ∧
    stO (some ⟨false, 1, (meetI b c i).lo.map nI, false⟩) 1 i (.int .i64 (max (at' b.lo i) (at' c.lo i))) = some ⟨false, 1, (meetI b c (i + 1)).lo.map nI, false⟩ ∧
    ldO (some ⟨false, 1, (meetI b c i).hi.map nI, false⟩) 1 false i = some (.int .i64 (at' b.hi i)) ∧
    stO (some ⟨false, 1, (meetI b c i).hi.map nI, false⟩) 1 i (.int .i64 (min (at' b.hi i) (at' c.hi i))) = some ⟨false, 1, (meetI b c (i + 1)).hi.map nI, false⟩ ∧
    ldO (some ⟨false, 1, (meetI b c (i + 1)).lo.map nI, false⟩) 1 false i = some (.int .i64 (at' (meetB b c).lo i)) ∧
    ldO (some ⟨false, 1, (meetI b c (i + 1)).hi.map nI, false⟩) 1 false i = some (.int .i64 (at' (meetB b c).hi i)) := by
  have hk := meetI_ok hb hc i
  have hk1 := meetI_ok hb hc (i + 1)
  have k1 := hk.1
  have k2 := hk.2
  have k3 := hk1.1
  have k4 := hk1.2
  have nx := meetI_next hb hc i h
  have nx1 := congrArg Bx.lo nx
  have nx2 := congrArg Bx.hi nx
  dsimp only at nx1 nx2
  have a1 := ldI (meetI b c i).lo i (by omega)
  rw [(at_meetI hb hc (by omega) i).1, if_neg (by omega)] at a1
  have a2 := stI (meetI b c i).lo i (max (at' b.lo i) (at' c.lo i)) (by omega)
  rw [nx1] at a2
  have a3 := ldI (meetI b c i).hi i (by omega)
  rw [(at_meetI hb hc (by omega) i).2, if_neg (by omega)] at a3
  have a4 := stI (meetI b c i).hi i (min (at' b.hi i) (at' c.hi i)) (by omega)
  rw [nx2] at a4
  have a5 := ldI (meetI b c (i + 1)).lo i (by omega)
  rw [(at_meetI hb hc (by omega) i).1, if_pos (by omega)] at a5
  have a6 := ldI (meetI b c (i + 1)).hi i (by omega)
  rw [(at_meetI hb hc (by omega) i).2, if_pos (by omega)] at a6
  exact ⟨a1, a2, a3, a4, a5, a6⟩
theorem hkB_0 : cls0.flatMap hk = [] := (rfl)
theorem renB_0 (n : Nat) (σ : List Nat) : cls0.map (ren n σ) = cls0 := (rfl)
theorem hkB_Y (k m : Nat) : (clsY k m).flatMap hk = [k] := (rfl)
theorem renB_Y (n m : Nat) (σ : List Nat) (h : 3 < n) : (clsY 3 m).map (ren n σ) = clsY 3 m := by
  have : renK n σ 3 = some 3 := by unfold renK; rw [if_pos h]
  simp only [clsY, List.map_cons, List.map_nil, ren, ren1, ren0, this, orJunk]
attribute [push_cast] hkB_0 renB_0 hkB_Y renB_Y
theorem keys_Y3 (n : Nat) : keys (.agg (clsY 3 n)) = [3] := (rfl)
theorem keys_00 : keys (.agg cls0) = [] := (rfl)

set_option maxHeartbeats 4000000 in
set_option maxRecDepth 20000 in
theorem lw_TboxJoins (c : Cls) (d : Cls) (hw : wts [clsD c, clsD d] ≤ 1048576) : @wW GG (tb [(10, sp_lsane), (13, sp_pBox)] []) F_wagonpoollaw19_TboxJoins.code (argF [clsD c, clsD d]) [] ⟨retQ F_wagonpoollaw19_TboxJoins.res (.bool true)⟩ := by
  have cs := call_lsane
  have hc1 := wt_cls c
  have hd1 := wt_cls d
  simp only [wts] at hw
  unfold F_wagonpoollaw19_TboxJoins
  have b1 := call_pBox c (by omega)
  have b2 := call_pBox d (by omega)
  have b3 := call_pBox (clsN [] (c.wh ++ d.wh)) (by show (c.wh ++ d.wh).length ≤ _; rw [List.length_append]; omega)
  have e3 : (clsN [] (c.wh ++ d.wh)).wh = c.wh ++ d.wh := rfl
  rw [e3] at b3
  have o1 := ofB_ok c.wh
  have o2 := ofB_ok d.wh
  have o3 := ofB_ok (c.wh ++ d.wh)
  have hbo := meetB_ok o1 o2
  have hof := of_append c.wh d.wh
  generalize ofB c.wh = P at *
  generalize ofB d.wh = Q at *
  generalize ofB (c.wh ++ d.wh) = R at *
  obtain ⟨p, pb⟩ := P
  obtain ⟨q, qb⟩ := Q
  obtain ⟨r, rb⟩ := R
  dsimp only at b1 b2 b3 o1 o2 o3 hbo hof
  have r1 := o3.1
  have r2 := o3.2
  have hM1 := hbo.1
  have hM2 := hbo.2
  by_cases z1 : c.wh = []
  · have p1 : ∀ st, papp st 3 24 (.slc 0 [] true) (.slc (nz 3 (c.wh.map tstD)) (c.wh.map tstD) false) = some (.slc 0 [] true, st) := fun st => by rw [z1]; exact papp_keep st 3 24 0 0 [] false (by decide)
    by_cases z2 : d.wh = []
    · have p2 : ∀ st, papp st 3 24 (.slc 0 [] true) (.slc (nz 3 (d.wh.map tstD)) (d.wh.map tstD) false) = some (.slc 0 [] true, st) := fun st => by rw [z2]; exact papp_keep st 3 24 0 0 [] false (by decide)
      rw [z1, z2] at b3
      change sp_pBox [clsD (clsN [] [])] = _ at b3
      simp (disch := first | omega | decide) only [push_cast, ↓wF_free, ↓reduceIte, Nat.reduceEqDiff, Nat.reduceLT, Nat.reduceLeDiff, Nat.reduceAdd, Nat.reduceSub, Nat.reduceMul, Nat.reduceBEq, Int.reduceLT, Int.reduceLE, Int.reduceToNat, Int.reduceNeg, Int.reducePow, Int.reduceAdd, Int.reduceMul, Int.reduceSub, ↓Int.reduceNatCast', cs, fill_cls0, st_00, ld_01, st_01, st_02, ld_0, ld_Y, imm_0, keys_Y3, keys_00, nr_3, b1, b2, stP _ z16_length o1.1, stP _ z16_length o1.2, stP _ z16_length o2.1, stP _ z16_length o2.2, stP _ z16_length o3.1, stP _ z16_length o3.2, p1, p2, b3]
      obtain ⟨w0, hw0⟩ : ∃ w, w = (pb && qb) := ⟨_, rfl⟩
      have hof2 := hof
      cases pb <;> cases qb <;> (
        simp only [Bool.and_true, Bool.and_false, Bool.true_and, Bool.false_and] at hw0
        simp (disch := first | omega | decide) only [push_cast, ↓wF_free, ↓reduceIte, Nat.reduceEqDiff, Nat.reduceLT, Nat.reduceLeDiff, Nat.reduceAdd, Nat.reduceSub, Nat.reduceMul, Nat.reduceBEq, Int.reduceLT, Int.reduceLE, Int.reduceToNat, Int.reduceNeg, Int.reducePow, Int.reduceAdd, Int.reduceMul, Int.reduceSub, ↓Int.reduceNatCast']
        refine W_while (fun i : Nat => [(6, .ptr 3 0), (7, .ptr 4 0), (9, .ptr 5 0), (10, .ptr 6 0), (12, .ptr 7 0), (13, .ptr 8 0), (14, .bool rb), (15, .bool (w0 && someF (meetB p q) i)), (16, .int .i64 (i : Int))])
          (fun i => [⟨false, 1, clsC c, false⟩, ⟨false, 1, clsC d, false⟩, ⟨false, 1, cls0, false⟩, ⟨false, 1, (meetI p q i).lo.map nI, false⟩, ⟨false, 1, (meetI p q i).hi.map nI, false⟩, ⟨false, 1, q.lo.map nI, false⟩, ⟨false, 1, q.hi.map nI, false⟩, ⟨false, 1, r.lo.map nI, false⟩, ⟨false, 1, r.hi.map nI, false⟩])
          (fun i => i ≤ 16) (fun i => 16 - i) 0 (by rw [hw0]; simp only [push_cast, ↓wF_free, ↓reduceIte, Nat.reduceEqDiff, Nat.reduceLT, Nat.reduceLeDiff, Nat.reduceAdd, Nat.reduceSub, Nat.reduceMul, Nat.reduceBEq, Int.reduceLT, Int.reduceLE, Int.reduceToNat, Int.reduceNeg, Int.reducePow, Int.reduceAdd, Int.reduceMul, Int.reduceSub, ↓Int.reduceNatCast', meetI_zero, someF, Bool.and_true] <;> rfl) (Nat.zero_le _) ?_
        intro i hi
        unfold F_wagonpoollaw19_TboxJoins_L0
        simp (disch := first | omega | decide) only [push_cast, ↓wF_free, ↓reduceIte, Nat.reduceEqDiff, Nat.reduceLT, Nat.reduceLeDiff, Nat.reduceAdd, Nat.reduceSub, Nat.reduceMul, Nat.reduceBEq, Int.reduceLT, Int.reduceLE, Int.reduceToNat, Int.reduceNeg, Int.reducePow, Int.reduceAdd, Int.reduceMul, Int.reduceSub, ↓Int.reduceNatCast']
        refine ifD_split (fun h2 => ?_) (fun h2 => ?_)
        · have hlt : i < 16 := by omega
          obtain ⟨a1, a2, a3, a4, a5, a6⟩ := join_steps o1 o2 hlt
          have c1 := ldI q.lo i (by rw [o2.1]; exact hlt)
          have c2 := ldI q.hi i (by rw [o2.2]; exact hlt)
          have hn : someF (meetB p q) (i + 1) = (someF (meetB p q) i && decide (at' (meetB p q).lo i ≤ at' (meetB p q).hi i)) := rfl
          by_cases h3 : (w0 && someF (meetB p q) i) = true
          · have h4 : (w0 && someF (meetB p q) (i + 1)) = decide (at' (meetB p q).lo i ≤ at' (meetB p q).hi i) := by rw [hn, ← Bool.and_assoc, h3, Bool.true_and]
            rw [h3]
            simp (disch := first | omega | decide) only [push_cast, ↓wF_free, ↓reduceIte, Nat.reduceEqDiff, Nat.reduceLT, Nat.reduceLeDiff, Nat.reduceAdd, Nat.reduceSub, Nat.reduceMul, Nat.reduceBEq, Int.reduceLT, Int.reduceLE, Int.reduceToNat, Int.reduceNeg, Int.reducePow, Int.reduceAdd, Int.reduceMul, Int.reduceSub, ↓Int.reduceNatCast', idxA_ptr, a1, a2, a3, a4, a5, a6, c1, c2, add_i]
            refine next_head (i + 1) (by omega) (by omega) ?_
            rw [h4]
            simp only [push_cast, ↓wF_free, ↓reduceIte, Nat.reduceEqDiff, Nat.reduceLT, Nat.reduceLeDiff, Nat.reduceAdd, Nat.reduceSub, Nat.reduceMul, Nat.reduceBEq, Int.reduceLT, Int.reduceLE, Int.reduceToNat, Int.reduceNeg, Int.reducePow, Int.reduceAdd, Int.reduceMul, Int.reduceSub, ↓Int.reduceNatCast'] <;> rfl
          · rw [Bool.not_eq_true] at h3
            have h4 : (w0 && someF (meetB p q) (i + 1)) = false := by rw [hn, ← Bool.and_assoc, h3, Bool.false_and]
            rw [h3]
            simp (disch := first | omega | decide) only [push_cast, ↓wF_free, ↓reduceIte, Nat.reduceEqDiff, Nat.reduceLT, Nat.reduceLeDiff, Nat.reduceAdd, Nat.reduceSub, Nat.reduceMul, Nat.reduceBEq, Int.reduceLT, Int.reduceLE, Int.reduceToNat, Int.reduceNeg, Int.reducePow, Int.reduceAdd, Int.reduceMul, Int.reduceSub, ↓Int.reduceNatCast', idxA_ptr, a1, a2, a3, a4, a5, a6, c1, c2, add_i]
            refine next_head (i + 1) (by omega) (by omega) ?_
            rw [h4]
            simp only [push_cast, ↓wF_free, ↓reduceIte, Nat.reduceEqDiff, Nat.reduceLT, Nat.reduceLeDiff, Nat.reduceAdd, Nat.reduceSub, Nat.reduceMul, Nat.reduceBEq, Int.reduceLT, Int.reduceLE, Int.reduceToNat, Int.reduceNeg, Int.reducePow, Int.reduceAdd, Int.reduceMul, Int.reduceSub, ↓Int.reduceNatCast'] <;> rfl
        · obtain rfl : i = 16 := by omega
          rw [meetI_all o1 o2]
          rw [show someF (meetB p q) 16 = someB (meetB p q) from rfl]
          subst hw0
          cases h5 : someB (meetB p q) <;> (
            simp only [h5, Bool.false_eq_true, false_and, and_false, and_true, true_and, and_self, if_true, if_false, Prod.mk.injEq] at hof2
            obtain ⟨h6, h7⟩ := hof2
            subst h7
            subst h6
            simp (disch := first | omega | decide) only [push_cast, ↓wF_free, ↓reduceIte, Nat.reduceEqDiff, Nat.reduceLT, Nat.reduceLeDiff, Nat.reduceAdd, Nat.reduceSub, Nat.reduceMul, Nat.reduceBEq, Int.reduceLT, Int.reduceLE, Int.reduceToNat, Int.reduceNeg, Int.reducePow, Int.reduceAdd, Int.reduceMul, Int.reduceSub, ↓Int.reduceNatCast', Bool.and_true, Bool.and_false, Bool.true_and, Bool.false_and, ldP _ _ hM1, ldP _ _ hM2, ldP _ _ r1, ldP _ _ r2, aeq_pt _ _ _ hM1 hM1, aeq_pt _ _ _ hM2 hM2]))
    · have hne : d.wh.map tstD ≠ [] := by simpa using z2
      have p2 : ∀ st : St, papp st 3 24 (.slc 0 [] true) (.slc (nz 3 (d.wh.map tstD)) (d.wh.map tstD) false) = some (.row st.length d.wh.length 0 d.wh.length, st ++ [⟨true, 3, d.wh.map tstD, false⟩]) := fun st => by
        have := papp_first tstD st 3 0 24 d.wh false (by decide) (by omega) (by omega)
        rwa [bufD_ne _ _ _ hne, bufS_ne _ _ hne, List.length_map] at this
      have iy : ∀ (o0 o1 o2 o4 o5 o6 o7 : Obj) lent, immL [o0, o1, o2, ⟨true, 3, d.wh.map tstD, lent⟩, o4, o5, o6, o7] (clsY 3 d.wh.length) = some (clsC (clsN [] d.wh)) := fun _ _ _ _ _ _ _ _ => imm_Y _ _ _ _ rfl rfl
      rw [z1, List.nil_append] at b3
      simp (disch := first | omega | decide) only [push_cast, ↓wF_free, ↓reduceIte, Nat.reduceEqDiff, Nat.reduceLT, Nat.reduceLeDiff, Nat.reduceAdd, Nat.reduceSub, Nat.reduceMul, Nat.reduceBEq, Int.reduceLT, Int.reduceLE, Int.reduceToNat, Int.reduceNeg, Int.reducePow, Int.reduceAdd, Int.reduceMul, Int.reduceSub, ↓Int.reduceNatCast', cs, fill_cls0, st_00, ld_01, st_01, st_02, ld_0, ld_Y, imm_0, keys_Y3, keys_00, nr_3, b1, b2, stP _ z16_length o1.1, stP _ z16_length o1.2, stP _ z16_length o2.1, stP _ z16_length o2.2, stP _ z16_length o3.1, stP _ z16_length o3.2, p1, p2, b3, iy]
      obtain ⟨w0, hw0⟩ : ∃ w, w = (pb && qb) := ⟨_, rfl⟩
      have hof2 := hof
      cases pb <;> cases qb <;> (
        simp only [Bool.and_true, Bool.and_false, Bool.true_and, Bool.false_and] at hw0
        simp (disch := first | omega | decide) only [push_cast, ↓wF_free, ↓reduceIte, Nat.reduceEqDiff, Nat.reduceLT, Nat.reduceLeDiff, Nat.reduceAdd, Nat.reduceSub, Nat.reduceMul, Nat.reduceBEq, Int.reduceLT, Int.reduceLE, Int.reduceToNat, Int.reduceNeg, Int.reducePow, Int.reduceAdd, Int.reduceMul, Int.reduceSub, ↓Int.reduceNatCast']
        refine W_while (fun i : Nat => [(6, .ptr 4 0), (7, .ptr 5 0), (9, .ptr 6 0), (10, .ptr 7 0), (12, .ptr 8 0), (13, .ptr 9 0), (14, .bool rb), (15, .bool (w0 && someF (meetB p q) i)), (16, .int .i64 (i : Int))])
          (fun i => [⟨false, 1, clsC c, false⟩, ⟨false, 1, clsC d, false⟩, ⟨false, 1, clsY 3 d.wh.length, false⟩, ⟨true, 3, d.wh.map tstD, false⟩, ⟨false, 1, (meetI p q i).lo.map nI, false⟩, ⟨false, 1, (meetI p q i).hi.map nI, false⟩, ⟨false, 1, q.lo.map nI, false⟩, ⟨false, 1, q.hi.map nI, false⟩, ⟨false, 1, r.lo.map nI, false⟩, ⟨false, 1, r.hi.map nI, false⟩])
          (fun i => i ≤ 16) (fun i => 16 - i) 0 (by rw [hw0]; simp only [push_cast, ↓wF_free, ↓reduceIte, Nat.reduceEqDiff, Nat.reduceLT, Nat.reduceLeDiff, Nat.reduceAdd, Nat.reduceSub, Nat.reduceMul, Nat.reduceBEq, Int.reduceLT, Int.reduceLE, Int.reduceToNat, Int.reduceNeg, Int.reducePow, Int.reduceAdd, Int.reduceMul, Int.reduceSub, ↓Int.reduceNatCast', meetI_zero, someF, Bool.and_true] <;> rfl) (Nat.zero_le _) ?_
        intro i hi
        unfold F_wagonpoollaw19_TboxJoins_L0
        simp (disch := first | omega | decide) only [push_cast, ↓wF_free, ↓reduceIte, Nat.reduceEqDiff, Nat.reduceLT, Nat.reduceLeDiff, Nat.reduceAdd, Nat.reduceSub, Nat.reduceMul, Nat.reduceBEq, Int.reduceLT, Int.reduceLE, Int.reduceToNat, Int.reduceNeg, Int.reducePow, Int.reduceAdd, Int.reduceMul, Int.reduceSub, ↓Int.reduceNatCast']
        refine ifD_split (fun h2 => ?_) (fun h2 => ?_)
        · have hlt : i < 16 := by omega
          obtain ⟨a1, a2, a3, a4, a5, a6⟩ := join_steps o1 o2 hlt
          have c1 := ldI q.lo i (by rw [o2.1]; exact hlt)
          have c2 := ldI q.hi i (by rw [o2.2]; exact hlt)
          have hn : someF (meetB p q) (i + 1) = (someF (meetB p q) i && decide (at' (meetB p q).lo i ≤ at' (meetB p q).hi i)) := rfl
          by_cases h3 : (w0 && someF (meetB p q) i) = true
          · have h4 : (w0 && someF (meetB p q) (i + 1)) = decide (at' (meetB p q).lo i ≤ at' (meetB p q).hi i) := by rw [hn, ← Bool.and_assoc, h3, Bool.true_and]
            rw [h3]
            simp (disch := first | omega | decide) only [push_cast, ↓wF_free, ↓reduceIte, Nat.reduceEqDiff, Nat.reduceLT, Nat.reduceLeDiff, Nat.reduceAdd, Nat.reduceSub, Nat.reduceMul, Nat.reduceBEq, Int.reduceLT, Int.reduceLE, Int.reduceToNat, Int.reduceNeg, Int.reducePow, Int.reduceAdd, Int.reduceMul, Int.reduceSub, ↓Int.reduceNatCast', idxA_ptr, a1, a2, a3, a4, a5, a6, c1, c2, add_i]
            refine next_head (i + 1) (by omega) (by omega) ?_
            rw [h4]
            simp only [push_cast, ↓wF_free, ↓reduceIte, Nat.reduceEqDiff, Nat.reduceLT, Nat.reduceLeDiff, Nat.reduceAdd, Nat.reduceSub, Nat.reduceMul, Nat.reduceBEq, Int.reduceLT, Int.reduceLE, Int.reduceToNat, Int.reduceNeg, Int.reducePow, Int.reduceAdd, Int.reduceMul, Int.reduceSub, ↓Int.reduceNatCast'] <;> rfl
          · rw [Bool.not_eq_true] at h3
            have h4 : (w0 && someF (meetB p q) (i + 1)) = false := by rw [hn, ← Bool.and_assoc, h3, Bool.false_and]
            rw [h3]
            simp (disch := first | omega | decide) only [push_cast, ↓wF_free, ↓reduceIte, Nat.reduceEqDiff, Nat.reduceLT, Nat.reduceLeDiff, Nat.reduceAdd, Nat.reduceSub, Nat.reduceMul, Nat.reduceBEq, Int.reduceLT, Int.reduceLE, Int.reduceToNat, Int.reduceNeg, Int.reducePow, Int.reduceAdd, Int.reduceMul, Int.reduceSub, ↓Int.reduceNatCast', idxA_ptr, a1, a2, a3, a4, a5, a6, c1, c2, add_i]
            refine next_head (i + 1) (by omega) (by omega) ?_
            rw [h4]
            simp only [push_cast, ↓wF_free, ↓reduceIte, Nat.reduceEqDiff, Nat.reduceLT, Nat.reduceLeDiff, Nat.reduceAdd, Nat.reduceSub, Nat.reduceMul, Nat.reduceBEq, Int.reduceLT, Int.reduceLE, Int.reduceToNat, Int.reduceNeg, Int.reducePow, Int.reduceAdd, Int.reduceMul, Int.reduceSub, ↓Int.reduceNatCast'] <;> rfl
        · obtain rfl : i = 16 := by omega
          rw [meetI_all o1 o2]
          rw [show someF (meetB p q) 16 = someB (meetB p q) from rfl]
          subst hw0
          cases h5 : someB (meetB p q) <;> (
            simp only [h5, Bool.false_eq_true, false_and, and_false, and_true, true_and, and_self, if_true, if_false, Prod.mk.injEq] at hof2
            obtain ⟨h6, h7⟩ := hof2
            subst h7
            subst h6
            simp (disch := first | omega | decide) only [push_cast, ↓wF_free, ↓reduceIte, Nat.reduceEqDiff, Nat.reduceLT, Nat.reduceLeDiff, Nat.reduceAdd, Nat.reduceSub, Nat.reduceMul, Nat.reduceBEq, Int.reduceLT, Int.reduceLE, Int.reduceToNat, Int.reduceNeg, Int.reducePow, Int.reduceAdd, Int.reduceMul, Int.reduceSub, ↓Int.reduceNatCast', Bool.and_true, Bool.and_false, Bool.true_and, Bool.false_and, ldP _ _ hM1, ldP _ _ hM2, ldP _ _ r1, ldP _ _ r2, aeq_pt _ _ _ hM1 hM1, aeq_pt _ _ _ hM2 hM2]))
  · have hne : c.wh.map tstD ≠ [] := by simpa using z1
    have p1 : ∀ st : St, papp st 3 24 (.slc 0 [] true) (.slc (nz 3 (c.wh.map tstD)) (c.wh.map tstD) false) = some (.row st.length c.wh.length 0 c.wh.length, st ++ [⟨true, 3, c.wh.map tstD, false⟩]) := fun st => by
      have := papp_first tstD st 3 0 24 c.wh false (by decide) (by omega) (by omega)
      rwa [bufD_ne _ _ _ hne, bufS_ne _ _ hne, List.length_map] at this
    have p2 := fun lent st => apR_nz tstD 3 24 c.wh d.wh lent false st (by decide) (by omega) (by omega)
    have iy : ∀ (o0 o1 o2 o4 o5 o6 o7 : Obj) lent, immL [o0, o1, o2, ⟨true, 3, (c.wh ++ d.wh).map tstD, lent⟩, o4, o5, o6, o7] (clsY 3 (c.wh ++ d.wh).length) = some (clsC (clsN [] (c.wh ++ d.wh))) := fun _ _ _ _ _ _ _ _ => imm_Y _ _ _ _ rfl rfl
    simp (disch := first | omega | decide) only [push_cast, ↓wF_free, ↓reduceIte, Nat.reduceEqDiff, Nat.reduceLT, Nat.reduceLeDiff, Nat.reduceAdd, Nat.reduceSub, Nat.reduceMul, Nat.reduceBEq, Int.reduceLT, Int.reduceLE, Int.reduceToNat, Int.reduceNeg, Int.reducePow, Int.reduceAdd, Int.reduceMul, Int.reduceSub, ↓Int.reduceNatCast', cs, fill_cls0, st_00, ld_01, st_01, st_02, ld_0, ld_Y, imm_0, keys_Y3, keys_00, nr_3, b1, b2, stP _ z16_length o1.1, stP _ z16_length o1.2, stP _ z16_length o2.1, stP _ z16_length o2.2, stP _ z16_length o3.1, stP _ z16_length o3.2, p1, p2, b3, iy]
    obtain ⟨w0, hw0⟩ : ∃ w, w = (pb && qb) := ⟨_, rfl⟩
    have hof2 := hof
    cases pb <;> cases qb <;> (
      simp only [Bool.and_true, Bool.and_false, Bool.true_and, Bool.false_and] at hw0
      simp (disch := first | omega | decide) only [push_cast, ↓wF_free, ↓reduceIte, Nat.reduceEqDiff, Nat.reduceLT, Nat.reduceLeDiff, Nat.reduceAdd, Nat.reduceSub, Nat.reduceMul, Nat.reduceBEq, Int.reduceLT, Int.reduceLE, Int.reduceToNat, Int.reduceNeg, Int.reducePow, Int.reduceAdd, Int.reduceMul, Int.reduceSub, ↓Int.reduceNatCast']
      refine W_while (fun i : Nat => [(6, .ptr 4 0), (7, .ptr 5 0), (9, .ptr 6 0), (10, .ptr 7 0), (12, .ptr 8 0), (13, .ptr 9 0), (14, .bool rb), (15, .bool (w0 && someF (meetB p q) i)), (16, .int .i64 (i : Int))])
        (fun i => [⟨false, 1, clsC c, false⟩, ⟨false, 1, clsC d, false⟩, ⟨false, 1, clsY 3 (c.wh ++ d.wh).length, false⟩, ⟨true, 3, (c.wh ++ d.wh).map tstD, false⟩, ⟨false, 1, (meetI p q i).lo.map nI, false⟩, ⟨false, 1, (meetI p q i).hi.map nI, false⟩, ⟨false, 1, q.lo.map nI, false⟩, ⟨false, 1, q.hi.map nI, false⟩, ⟨false, 1, r.lo.map nI, false⟩, ⟨false, 1, r.hi.map nI, false⟩])
        (fun i => i ≤ 16) (fun i => 16 - i) 0 (by rw [hw0]; simp only [push_cast, ↓wF_free, ↓reduceIte, Nat.reduceEqDiff, Nat.reduceLT, Nat.reduceLeDiff, Nat.reduceAdd, Nat.reduceSub, Nat.reduceMul, Nat.reduceBEq, Int.reduceLT, Int.reduceLE, Int.reduceToNat, Int.reduceNeg, Int.reducePow, Int.reduceAdd, Int.reduceMul, Int.reduceSub, ↓Int.reduceNatCast', meetI_zero, someF, Bool.and_true] <;> rfl) (Nat.zero_le _) ?_
      intro i hi
      unfold F_wagonpoollaw19_TboxJoins_L0
      simp (disch := first | omega | decide) only [push_cast, ↓wF_free, ↓reduceIte, Nat.reduceEqDiff, Nat.reduceLT, Nat.reduceLeDiff, Nat.reduceAdd, Nat.reduceSub, Nat.reduceMul, Nat.reduceBEq, Int.reduceLT, Int.reduceLE, Int.reduceToNat, Int.reduceNeg, Int.reducePow, Int.reduceAdd, Int.reduceMul, Int.reduceSub, ↓Int.reduceNatCast']
      refine ifD_split (fun h2 => ?_) (fun h2 => ?_)
      · have hlt : i < 16 := by omega
        obtain ⟨a1, a2, a3, a4, a5, a6⟩ := join_steps o1 o2 hlt
        have c1 := ldI q.lo i (by rw [o2.1]; exact hlt)
        have c2 := ldI q.hi i (by rw [o2.2]; exact hlt)
        have hn : someF (meetB p q) (i + 1) = (someF (meetB p q) i && decide (at' (meetB p q).lo i ≤ at' (meetB p q).hi i)) := rfl
        by_cases h3 : (w0 && someF (meetB p q) i) = true
        · have h4 : (w0 && someF (meetB p q) (i + 1)) = decide (at' (meetB p q).lo i ≤ at' (meetB p q).hi i) := by rw [hn, ← Bool.and_assoc, h3, Bool.true_and]
          rw [h3]
          simp (disch := first | omega | decide) only [push_cast, ↓wF_free, ↓reduceIte, Nat.reduceEqDiff, Nat.reduceLT, Nat.reduceLeDiff, Nat.reduceAdd, Nat.reduceSub, Nat.reduceMul, Nat.reduceBEq, Int.reduceLT, Int.reduceLE, Int.reduceToNat, Int.reduceNeg, Int.reducePow, Int.reduceAdd, Int.reduceMul, Int.reduceSub, ↓Int.reduceNatCast', idxA_ptr, a1, a2, a3, a4, a5, a6, c1, c2, add_i]
          refine next_head (i + 1) (by omega) (by omega) ?_
          rw [h4]
          simp only [push_cast, ↓wF_free, ↓reduceIte, Nat.reduceEqDiff, Nat.reduceLT, Nat.reduceLeDiff, Nat.reduceAdd, Nat.reduceSub, Nat.reduceMul, Nat.reduceBEq, Int.reduceLT, Int.reduceLE, Int.reduceToNat, Int.reduceNeg, Int.reducePow, Int.reduceAdd, Int.reduceMul, Int.reduceSub, ↓Int.reduceNatCast'] <;> rfl
        · rw [Bool.not_eq_true] at h3
          have h4 : (w0 && someF (meetB p q) (i + 1)) = false := by rw [hn, ← Bool.and_assoc, h3, Bool.false_and]
          rw [h3]
          simp (disch := first | omega | decide) only [push_cast, ↓wF_free, ↓reduceIte, Nat.reduceEqDiff, Nat.reduceLT, Nat.reduceLeDiff, Nat.reduceAdd, Nat.reduceSub, Nat.reduceMul, Nat.reduceBEq, Int.reduceLT, Int.reduceLE, Int.reduceToNat, Int.reduceNeg, Int.reducePow, Int.reduceAdd, Int.reduceMul, Int.reduceSub, ↓Int.reduceNatCast', idxA_ptr, a1, a2, a3, a4, a5, a6, c1, c2, add_i]
          refine next_head (i + 1) (by omega) (by omega) ?_
          rw [h4]
          simp only [push_cast, ↓wF_free, ↓reduceIte, Nat.reduceEqDiff, Nat.reduceLT, Nat.reduceLeDiff, Nat.reduceAdd, Nat.reduceSub, Nat.reduceMul, Nat.reduceBEq, Int.reduceLT, Int.reduceLE, Int.reduceToNat, Int.reduceNeg, Int.reducePow, Int.reduceAdd, Int.reduceMul, Int.reduceSub, ↓Int.reduceNatCast'] <;> rfl
      · obtain rfl : i = 16 := by omega
        rw [meetI_all o1 o2]
        rw [show someF (meetB p q) 16 = someB (meetB p q) from rfl]
        subst hw0
        cases h5 : someB (meetB p q) <;> (
          simp only [h5, Bool.false_eq_true, false_and, and_false, and_true, true_and, and_self, if_true, if_false, Prod.mk.injEq] at hof2
          obtain ⟨h6, h7⟩ := hof2
          subst h7
          subst h6
          simp (disch := first | omega | decide) only [push_cast, ↓wF_free, ↓reduceIte, Nat.reduceEqDiff, Nat.reduceLT, Nat.reduceLeDiff, Nat.reduceAdd, Nat.reduceSub, Nat.reduceMul, Nat.reduceBEq, Int.reduceLT, Int.reduceLE, Int.reduceToNat, Int.reduceNeg, Int.reducePow, Int.reduceAdd, Int.reduceMul, Int.reduceSub, ↓Int.reduceNatCast', Bool.and_true, Bool.and_false, Bool.true_and, Bool.false_and, ldP _ _ hM1, ldP _ _ hM2, ldP _ _ r1, ldP _ _ r2, aeq_pt _ _ _ hM1 hM1, aeq_pt _ _ _ hM2 hM2]))
theorem law_TboxJoins : Contract Try.prog GG 6 (lawSpU [tyCls4, tyCls4] 1048576) := by
  refine lawCU tr_wagonpoollaw19_TboxJoins (T := tb [(10, sp_lsane), (13, sp_pBox)] []) (tb_ok (all_cons c_lsane (all_cons c_pBox all_nil)) all_nil) ?_
  intro xs h hw
  obtain ⟨x0, xs, rfl, h0, h⟩ := hasAll_cons h
  obtain ⟨x1, xs, rfl, h1, h⟩ := hasAll_cons h
  obtain rfl := hasAll_nil h
  obtain ⟨y0, rfl, ya0⟩ := has_cls4 h0
  obtain ⟨y1, rfl, ya1⟩ := has_cls4 h1
  exact lw_TboxJoins y0 y1 hw
end Go.Proofs.Ytgppecaeegaooaa.PI
