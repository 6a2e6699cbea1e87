/-
  tbox: the box of a clause, cases, the order of cases, the first pair that overlaps: of the program and of the reference.
  Conditions: none; these are lemmas.
-/
import Derived.Test.YtgppecaeegaooaaTbB
namespace Go.Proofs.Ytgppecaeegaooaa.PI
open Go
set_option linter.unusedSimpArgs false
set_option linter.unusedVariables false
def stRW (o : Option Obj) (n tot i : Nat) (x : D) : Option Obj := o.bind fun o => if o.row && !o.lent && o.els.length == tot then (o.els[i]?).bind fun el => (setEl el 0 x.cells).bind fun el' => if x.cells.length = n then some { o with els := o.els.set i el' } else none else none
theorem pstor_rw (st : St) (n key tot i : Nat) (x : D) (h : solid x = true) : pstor st n (.rptr key tot i 0) x = (stRW st[key]? n tot i x).map fun o => st.set key o := by
  simp only [pstor, stRW, solid_imm st h, solid_keys h, List.isEmpty_nil, Bool.and_true]
  cases st[key]? with
  | none => rfl
  | some o =>
    simp only [Option.bind_some]
    split
    · cases o.els[i]? with
      | none => rfl
      | some el =>
        simp only [Option.bind_some]
        cases setEl el 0 x.cells with
        | none => rfl
        | some y =>
          simp only [Option.bind_some]
          split <;> rfl
    · rfl
theorem pstor_rbx (st : St) (key tot i : Nat) (b : Bx) : pstor st 32 (.rptr key tot i 0) (bxD b) = (stRW st[key]? 32 tot i (bxD b)).map fun o => st.set key o := pstor_rw st 32 key tot i _ (bxC_solid b)
theorem pstor_rb (st : St) (key tot i : Nat) (b : Bool) : pstor st 1 (.rptr key tot i 0) (.bool b) = (stRW st[key]? 1 tot i (.bool b)).map fun o => st.set key o := pstor_rw st 1 key tot i _ rfl
theorem stRW_bx (A : List Bx) (tot i : Nat) (b : Bx) (hA : okL A) (hb : b.ok) (ht : A.length = tot) (h : i < tot) : stRW (some ⟨true, 32, A.map bxD, false⟩) 32 tot i (bxD b) = some ⟨true, 32, (A.set i b).map bxD, false⟩ := by
  subst ht
  have h1 : setEl (bxD A[i]) 0 (bxC b) = some (bxD b) := by
    have hl := bxC_length (hA _ (List.getElem_mem h))
    have hl2 := bxC_length hb
    simp only [setEl, bxD]
    rw [if_pos (by omega), splice_all _ _ (by omega)]
  have h2 : (bxD b).cells = bxC b := rfl
  simp [stRW, h, h2, h1, List.map_set, bxC_length hb]
theorem stRW_b (A : List Bool) (tot i : Nat) (b : Bool) (ht : A.length = tot) (h : i < tot) : stRW (some ⟨true, 1, A.map D.bool, false⟩) 1 tot i (.bool b) = some ⟨true, 1, (A.set i b).map D.bool, false⟩ := by
  subst ht
  simp [stRW, h, D.cells, List.map_set, setEl]
theorem ixR_map {α : Type} (f : α → D) (sz : Nat) (A : List α) (lent : Bool) (key tot : Nat) (j : Int) (ht : A.length = tot) (h0 : 0 ≤ j) (h1 : j < (tot : Int)) : ixR (some ⟨true, sz, A.map f, lent⟩) sz key tot 0 tot j = some (.rptr key tot j.toNat 0) := by
  subst ht
  have := ixR_row f sz A lent key 0 A.length j h0 h1
  rwa [Nat.zero_add] at this
theorem liR_map {α : Type} (f : α → D) (sz : Nat) (A : List α) (lent : Bool) (tot : Nat) (ht : A.length = tot) : liR (some ⟨true, sz, A.map f, lent⟩) tot = true := by
  subst ht; exact liR_row f sz A lent
theorem ldR_bx (A : List Bx) (lent : Bool) (tot i : Nat) (hA : okL A) (ht : A.length = tot) (h : i < tot) : ldR (some ⟨true, 32, A.map bxD, lent⟩) 32 true tot i 0 = some (bxD (A.getD i default)) := by
  subst ht
  have hl := bxC_length (hA _ (List.getElem_mem h))
  have : (bxD A[i]).cells = bxC A[i] := rfl
  simp [ldR, h, this, hl, D.mk, List.getD_eq_getElem?_getD]
  rw [List.take_of_length_le (by omega)]
  rfl
theorem ldR_b (A : List Bool) (lent : Bool) (tot i : Nat) (ht : A.length = tot) (h : i < tot) : ldR (some ⟨true, 1, A.map D.bool, lent⟩) 1 false tot i 0 = some (.bool (A.getD i default)) := by
  subst ht; exact ldR_cell D.bool (fun _ => rfl) 1 A lent i h
def cls0 : List D := [.str [], .slc 0 [] true, .int .i64 0, .int .i64 0, .int .i64 0, .int .i64 0, .int .i64 0, .int .i64 0, .slc 0 [] true]
theorem zero_cls : boxD (.agg [.str [], .slc 0 [] true, .int .i64 0, .int .i64 0, .int .i64 0, .int .i64 0, .int .i64 0, .int .i64 0, .slc 0 [] true]) = some cls0 := (rfl)
theorem st_cls0 (sz : Nat) (c : Cls) : stO (some ⟨false, sz, cls0, false⟩) 9 0 (clsD c) = some ⟨false, sz, clsC c, false⟩ := stO_all sz _ _ 9 rfl rfl (clsC_cell c)
theorem extD_3 (a b c d : D) : extD (.tup [a, b, c, d]) 3 = some d := (rfl)
attribute [push_cast] pstor_rbx pstor_rb zero_cls st_cls0 extD_3
theorem run_drop (b : Bx) (l : List Tst) (i : Nat) (h : i < l.length) : runT b (l.drop i) = if okA (l.getD i default) then runT (cutB b (l.getD i default)) (l.drop (i + 1)) else none := by
  rw [drop_getD l i h, runT]
theorem ofB_none {l : List Tst} (h : runT allB l = none) : ofB l = (zBx, false) := by unfold ofB; rw [h]
theorem ofB_some {l : List Tst} {b : Bx} (h : runT allB l = some b) : ofB l = if someB b then (b, true) else (zBx, false) := by unfold ofB; rw [h]
noncomputable def sp_pof : List D → Option D := spOf (α := Cls) (fun a => [clsD a]) (fun a => a.wh.length ≤ 9223372036854775807) (fun a => .tup [bxD (ofB a.wh).1, .bool (ofB a.wh).2])
theorem call_pof (c : Cls) (h : c.wh.length ≤ 9223372036854775807) : sp_pof [clsD c] = some (.tup [bxD (ofB c.wh).1, .bool (ofB c.wh).2]) :=
  spOf_enc (fun a b h => by simp only [List.cons.injEq, D.slc.injEq, D.int.injEq, D.bool.injEq, D.str.injEq, D.agg.injEq, digs_iff, dig_iff, digC_iff, bytes_iff, byte_iff, words_iff, word_iff, bsl_iff, true_and, and_true, ints_iff, nI_iff, tsts_iff, clss_iff, clsD_iff, tarD_iff, tstD_iff, ptD_iff, Int.ofNat_inj] at h; simp [h, Prod.ext_iff]) (c) h
set_option maxHeartbeats 4000000 in
set_option maxRecDepth 20000 in
theorem w_pof (c : Cls) (h : c.wh.length ≤ 9223372036854775807) : @wW GG (tb [(54, sp_pall), (55, sp_pcut), (39, sp_pmeet)] []) F_tbox_of.code (argF [clsD c]) [] ⟨retQ F_tbox_of.res (.tup [bxD (ofB c.wh).1, .bool (ofB c.wh).2])⟩ := by
  have ca := call_pall
  unfold F_tbox_of
  simp (disch := first | omega | decide) only [push_cast, ↓wF_free, ↓reduceIte, Nat.reduceEqDiff, Nat.reduceLT, Nat.reduceLeDiff, Nat.reduceAdd, Nat.reduceSub, Nat.reduceMul, Nat.reduceBEq, Int.reduceLT, Int.reduceLE, Int.reduceToNat, Int.reduceNeg, Int.reducePow, Int.reduceAdd, Int.reduceMul, Int.reduceSub, ↓Int.reduceNatCast', ca, stB _ zBx_ok allB_ok]
  generalize hl : c.wh = l at *
  refine W_while (fun i : Nat × Bx => [(2, .ptr 1 0), (4, .ptr 2 0), (11, .slc (nz 3 (l.map tstD)) (l.map tstD) false), (12, .int .i64 (l.length : Int)), (13, .int .i64 (i.1 : Int))]) (fun i => [⟨false, 1, clsC c, false⟩, ⟨false, 1, bxC zBx, false⟩, ⟨false, 1, bxC i.2, false⟩]) (fun i => i.1 ≤ l.length ∧ i.2.ok ∧ runT allB l = runT i.2 (l.drop i.1)) (fun i => l.length - i.1) (0, allB) (by simp only [push_cast, ↓wF_free, ↓reduceIte, Nat.reduceEqDiff, Nat.reduceLT, Nat.reduceLeDiff, Nat.reduceAdd, Nat.reduceSub, Nat.reduceMul, Nat.reduceBEq, Int.reduceLT, Int.reduceLE, Int.reduceToNat, Int.reduceNeg, Int.reducePow, Int.reduceAdd, Int.reduceMul, Int.reduceSub, ↓Int.reduceNatCast'] <;> rfl) ⟨Nat.zero_le _, allB_ok, rfl⟩ ?_
  rintro ⟨i, b⟩ ⟨hi, hb, hr⟩
  dsimp only at hi hb hr
  unfold F_tbox_of_L0
  simp (disch := first | omega | decide) only [push_cast, ↓wF_free, ↓reduceIte, Nat.reduceEqDiff, Nat.reduceLT, Nat.reduceLeDiff, Nat.reduceAdd, Nat.reduceSub, Nat.reduceMul, Nat.reduceBEq, Int.reduceLT, Int.reduceLE, Int.reduceToNat, Int.reduceNeg, Int.reducePow, Int.reduceAdd, Int.reduceMul, Int.reduceSub, ↓Int.reduceNatCast']
  refine ifD_split (fun h2 => ?_) (fun h2 => ?_)
  · have hlt : i < l.length := by omega
    rw [run_drop b l i hlt] at hr
    simp (disch := first | omega | decide) only [push_cast, ↓wF_free, ↓reduceIte, Nat.reduceEqDiff, Nat.reduceLT, Nat.reduceLeDiff, Nat.reduceAdd, Nat.reduceSub, Nat.reduceMul, Nat.reduceBEq, Int.reduceLT, Int.reduceLE, Int.reduceToNat, Int.reduceNeg, Int.reducePow, Int.reduceAdd, Int.reduceMul, Int.reduceSub, ↓Int.reduceNatCast', idxS_nz]
    generalize l.getD i default = t at *
    by_cases ht : okA t
    · have ht' := ht
      unfold okA at ht'
      rw [if_pos ht] at hr
      have a1 : ¬ t.a < 0 := by omega
      have a2 : ¬ (16 : Int) ≤ t.a := by omega
      have hc := cutB_ok hb t
      have cc := call_pcut b t ⟨hb, ht⟩
      simp (disch := first | omega | decide) only [push_cast, ↓wF_free, ↓reduceIte, Nat.reduceEqDiff, Nat.reduceLT, Nat.reduceLeDiff, Nat.reduceAdd, Nat.reduceSub, Nat.reduceMul, Nat.reduceBEq, Int.reduceLT, Int.reduceLE, Int.reduceToNat, Int.reduceNeg, Int.reducePow, Int.reduceAdd, Int.reduceMul, Int.reduceSub, ↓Int.reduceNatCast', a1, a2, ldB _ _ hb, cc, stB _ hb hc, add_i]
      refine next_head (i + 1, cutB b t) (by exact ⟨by omega, hc, hr⟩) (by dsimp only; omega) ?_
      simp only [push_cast, ↓wF_free, ↓reduceIte, Nat.reduceEqDiff, Nat.reduceLT, Nat.reduceLeDiff, Nat.reduceAdd, Nat.reduceSub, Nat.reduceMul, Nat.reduceBEq, Int.reduceLT, Int.reduceLE, Int.reduceToNat, Int.reduceNeg, Int.reducePow, Int.reduceAdd, Int.reduceMul, Int.reduceSub, ↓Int.reduceNatCast'] <;> rfl
    · have ht' := ht
      unfold okA at ht'
      rw [if_neg ht] at hr
      have e := ofB_none hr
      by_cases a1 : t.a < 0
      · simp (disch := first | omega | decide) only [push_cast, ↓wF_free, ↓reduceIte, Nat.reduceEqDiff, Nat.reduceLT, Nat.reduceLeDiff, Nat.reduceAdd, Nat.reduceSub, Nat.reduceMul, Nat.reduceBEq, Int.reduceLT, Int.reduceLE, Int.reduceToNat, Int.reduceNeg, Int.reducePow, Int.reduceAdd, Int.reduceMul, Int.reduceSub, ↓Int.reduceNatCast', a1, stB _ zBx_ok zBx_ok, ldB _ _ zBx_ok, e]
      · have a2 : (16 : Int) ≤ t.a := by omega
        simp (disch := first | omega | decide) only [push_cast, ↓wF_free, ↓reduceIte, Nat.reduceEqDiff, Nat.reduceLT, Nat.reduceLeDiff, Nat.reduceAdd, Nat.reduceSub, Nat.reduceMul, Nat.reduceBEq, Int.reduceLT, Int.reduceLE, Int.reduceToNat, Int.reduceNeg, Int.reducePow, Int.reduceAdd, Int.reduceMul, Int.reduceSub, ↓Int.reduceNatCast', a1, a2, stB _ zBx_ok zBx_ok, ldB _ _ zBx_ok, e]
  · obtain rfl : i = l.length := by omega
    rw [List.drop_length] at hr
    have e := ofB_some hr
    have cm := call_pmeet b b ⟨hb, hb⟩
    rw [meet_self hb] at cm
    by_cases h3 : someB b = true
    · rw [if_pos h3] at e
      rw [h3] at cm
      simp (disch := first | omega | decide) only [push_cast, ↓wF_free, ↓reduceIte, Nat.reduceEqDiff, Nat.reduceLT, Nat.reduceLeDiff, Nat.reduceAdd, Nat.reduceSub, Nat.reduceMul, Nat.reduceBEq, Int.reduceLT, Int.reduceLE, Int.reduceToNat, Int.reduceNeg, Int.reducePow, Int.reduceAdd, Int.reduceMul, Int.reduceSub, ↓Int.reduceNatCast', ldB _ _ hb, cm, stB _ zBx_ok hb, e]
    · rw [if_neg h3] at e
      rw [Bool.not_eq_true] at h3
      rw [h3] at cm
      simp (disch := first | omega | decide) only [push_cast, ↓wF_free, ↓reduceIte, Nat.reduceEqDiff, Nat.reduceLT, Nat.reduceLeDiff, Nat.reduceAdd, Nat.reduceSub, Nat.reduceMul, Nat.reduceBEq, Int.reduceLT, Int.reduceLE, Int.reduceToNat, Int.reduceNeg, Int.reducePow, Int.reduceAdd, Int.reduceMul, Int.reduceSub, ↓Int.reduceNatCast', ldB _ _ hb, cm, stB _ zBx_ok hb, stB _ zBx_ok zBx_ok, ldB _ _ zBx_ok, e]
theorem c_pof : Contract Try.prog GG 34 sp_pof :=
  contract_of tr_tbox_of (tb_ok (all_cons c_pall (all_cons c_pcut (all_cons c_pmeet all_nil))) all_nil) (fun a h => w_pof a h)
noncomputable def sp_pBox : List D → Option D := spOf (α := Cls) (fun a => [clsD a]) (fun a => a.wh.length ≤ 9223372036854775807) (fun a => .tup [ptD (ofB a.wh).1.lo, ptD (ofB a.wh).1.hi, .bool (ofB a.wh).2])
theorem call_pBox (c : Cls) (h : c.wh.length ≤ 9223372036854775807) : sp_pBox [clsD c] = some (.tup [ptD (ofB c.wh).1.lo, ptD (ofB c.wh).1.hi, .bool (ofB c.wh).2]) :=
  spOf_enc (fun a b h => by simp only [List.cons.injEq, D.slc.injEq, D.int.injEq, D.bool.injEq, D.str.injEq, D.agg.injEq, digs_iff, dig_iff, digC_iff, bytes_iff, byte_iff, words_iff, word_iff, bsl_iff, true_and, and_true, ints_iff, nI_iff, tsts_iff, clss_iff, clsD_iff, tarD_iff, tstD_iff, ptD_iff, Int.ofNat_inj] at h; simp [h, Prod.ext_iff]) (c) h
set_option maxHeartbeats 4000000 in
set_option maxRecDepth 20000 in
theorem w_pBox (c : Cls) (h : c.wh.length ≤ 9223372036854775807) : @wW GG (tb [(34, sp_pof)] []) F_tbox_Box.code (argF [clsD c]) [] ⟨retQ F_tbox_Box.res (.tup [ptD (ofB c.wh).1.lo, ptD (ofB c.wh).1.hi, .bool (ofB c.wh).2])⟩ := by
  have hb := ofB_ok c.wh
  have cc := call_pof c h
  unfold F_tbox_Box
  simp (disch := first | omega | decide) only [push_cast, ↓wF_free, ↓reduceIte, Nat.reduceEqDiff, Nat.reduceLT, Nat.reduceLeDiff, Nat.reduceAdd, Nat.reduceSub, Nat.reduceMul, Nat.reduceBEq, Int.reduceLT, Int.reduceLE, Int.reduceToNat, Int.reduceNeg, Int.reducePow, Int.reduceAdd, Int.reduceMul, Int.reduceSub, ↓Int.reduceNatCast', cc, stB _ zBx_ok hb, ldB_l _ _ hb, ldB_h _ _ hb, stP _ z16_length hb.1, stP _ z16_length hb.2, ldP _ _ hb.1, ldP _ _ hb.2]
theorem c_pBox : Contract Try.prog GG 13 sp_pBox :=
  contract_of tr_tbox_Box (tb_ok (all_cons c_pof all_nil) all_nil) (fun a h => w_pBox a h)
noncomputable def sp_penv : List D → Option D := spOf (α := List Int) (fun a => [ptD a]) (fun a => a.length = 16) (fun a => envD 65535 a)
theorem call_penv (p : List Int) (h : p.length = 16) : sp_penv [ptD p] = some (envD 65535 p) :=
  spOf_enc (fun a b h => by simp only [List.cons.injEq, D.slc.injEq, D.int.injEq, D.bool.injEq, D.str.injEq, D.agg.injEq, digs_iff, dig_iff, digC_iff, bytes_iff, byte_iff, words_iff, word_iff, bsl_iff, true_and, and_true, ints_iff, nI_iff, tsts_iff, clss_iff, clsD_iff, tarD_iff, tstD_iff, ptD_iff, Int.ofNat_inj] at h; simp [h, Prod.ext_iff]) (p) h
set_option maxHeartbeats 4000000 in
set_option maxRecDepth 20000 in
theorem w_penv (p : List Int) (h : p.length = 16) : @wW GG (tb [] []) F_tbox_env.code (argF [ptD p]) [] ⟨retQ F_tbox_env.res (envD 65535 p)⟩ := by
  unfold F_tbox_env
  simp (disch := first | omega | decide) only [push_cast, ↓wF_free, ↓reduceIte, Nat.reduceEqDiff, Nat.reduceLT, Nat.reduceLeDiff, Nat.reduceAdd, Nat.reduceSub, Nat.reduceMul, Nat.reduceBEq, Int.reduceLT, Int.reduceLE, Int.reduceToNat, Int.reduceNeg, Int.reducePow, Int.reduceAdd, Int.reduceMul, Int.reduceSub, ↓Int.reduceNatCast', ldP _ _ h, fill_env 65535 h, stE _ z16_length h, ldE _ _ h]
theorem c_penv : Contract Try.prog GG 37 sp_penv :=
  contract_of tr_tbox_env (tb_ok all_nil all_nil) (fun a h => w_penv a h)
noncomputable def sp_renv : List D → Option D := spOf (α := List Int) (fun a => [ptD a]) (fun a => a.length = 16) (fun a => envD 65535 a)
theorem call_renv (p : List Int) (h : p.length = 16) : sp_renv [ptD p] = some (envD 65535 p) :=
  spOf_enc (fun a b h => by simp only [List.cons.injEq, D.slc.injEq, D.int.injEq, D.bool.injEq, D.str.injEq, D.agg.injEq, digs_iff, dig_iff, digC_iff, bytes_iff, byte_iff, words_iff, word_iff, bsl_iff, true_and, and_true, ints_iff, nI_iff, tsts_iff, clss_iff, clsD_iff, tarD_iff, tstD_iff, ptD_iff, Int.ofNat_inj] at h; simp [h, Prod.ext_iff]) (p) h
set_option maxHeartbeats 4000000 in
set_option maxRecDepth 20000 in
theorem w_renv (p : List Int) (h : p.length = 16) : @wW GG (tb [] []) F_wagonpoolref19_Env.code (argF [ptD p]) [] ⟨retQ F_wagonpoolref19_Env.res (envD 65535 p)⟩ := by
  unfold F_wagonpoolref19_Env
  simp (disch := first | omega | decide) only [push_cast, ↓wF_free, ↓reduceIte, Nat.reduceEqDiff, Nat.reduceLT, Nat.reduceLeDiff, Nat.reduceAdd, Nat.reduceSub, Nat.reduceMul, Nat.reduceBEq, Int.reduceLT, Int.reduceLE, Int.reduceToNat, Int.reduceNeg, Int.reducePow, Int.reduceAdd, Int.reduceMul, Int.reduceSub, ↓Int.reduceNatCast', ldP _ _ h, fill_env 65535 h, stE _ z16_length h, ldE _ _ h]
theorem c_renv : Contract Try.prog GG 29 sp_renv :=
  contract_of tr_wagonpoolref19_Env (tb_ok all_nil all_nil) (fun a h => w_renv a h)
theorem envD_inj {a b : Int × List Int} (h : envD a.1 a.2 = envD b.1 b.2) : a = b := by
  simp only [envD, envC, List.map_cons, D.agg.injEq, List.cons.injEq, nI_iff, ints_iff] at h
  exact Prod.ext h.1 h.2
theorem env_iff {a b : Int} {x y : List Int} : envD a x = envD b y ↔ a = b ∧ x = y := by
  constructor
  · intro h
    have := envD_inj (a := (a, x)) (b := (b, y)) h
    simpa using this
  · rintro ⟨rfl, rfl⟩; rfl
theorem ldEv (sz : Nat) (lent : Bool) (k : Int) (v : List Int) (hv : v.length = 16) (i : Nat) (h : i < 16) : ldO (some ⟨false, sz, envC k v, lent⟩) 1 false (1 + i) = some (.int .i64 (at' v i)) := by
  have := ldO_map sz lent nI (k :: v) (1 + i) (by simp [hv]; omega)
  rw [show (k :: v).getD (1 + i) default = at' v i by rw [Nat.add_comm, List.getD_cons_succ]] at this
  exact this
end Go.Proofs.Ytgppecaeegaooaa.PI
