/-
  tbox: gaps, against teval.
  Conditions: none.
-/
import Derived.Test.YtgppecaeegaooaaTbX
namespace Go.Proofs.Ytgppecaeegaooaa.PI
open Go
set_option linter.unusedSimpArgs false
set_option linter.unusedVariables false
noncomputable def sp_amt0 : List D → Option D := spOf (α := Tar × (Int × List Int)) (fun a => [tarD a.1, envD (Prod.fst a.2) (Prod.snd a.2)]) (fun a => a.2.1 = 65535 ∧ caseV a.2.2 ∧ a.1.cl.length ≤ 65536 ∧ ∀ c ∈ a.1.cl, c.wh.length ≤ 9223372036854775807 ∧ holdsF a.2.2 c.wh = (false, 0)) (fun a => .tup [.int .i64 0, .int .i64 0, .int .i64 180])
theorem call_amt0 (t : Tar) (v : Int × List Int) (h : v.1 = 65535 ∧ caseV v.2 ∧ t.cl.length ≤ 65536 ∧ ∀ c ∈ t.cl, c.wh.length ≤ 9223372036854775807 ∧ holdsF v.2 c.wh = (false, 0)) : sp_amt0 [tarD t, envD (Prod.fst v) (Prod.snd v)] = some (.tup [.int .i64 0, .int .i64 0, .int .i64 180]) :=
  spOf_enc (fun ⟨a0, a1⟩ ⟨b0, b1⟩ h => by simp only [List.cons.injEq, D.slc.injEq, D.int.injEq, D.bool.injEq, D.str.injEq, D.agg.injEq, digs_iff, dig_iff, digC_iff, bytes_iff, byte_iff, words_iff, word_iff, bsl_iff, true_and, and_true, ints_iff, nI_iff, tsts_iff, clss_iff, clsD_iff, tarD_iff, tstD_iff, ptD_iff, Int.ofNat_inj, env_iff] at h; simp [h, Prod.ext_iff]) (t, v) h
set_option maxHeartbeats 4000000 in
set_option maxRecDepth 20000 in
theorem w_amt0 (t : Tar) (v : Int × List Int) (h : v.1 = 65535 ∧ caseV v.2 ∧ t.cl.length ≤ 65536 ∧ ∀ c ∈ t.cl, c.wh.length ≤ 9223372036854775807 ∧ holdsF v.2 c.wh = (false, 0)) : @wW GG (tb [(12, sp_pholds)] []) F_teval_Amount.code (argF [tarD t, envD (Prod.fst v) (Prod.snd v)]) [] ⟨retQ F_teval_Amount.res (.tup [.int .i64 0, .int .i64 0, .int .i64 180])⟩ := by
  obtain ⟨k, v⟩ := v
  obtain ⟨h1, hcv, h2, h3⟩ := h
  dsimp only at h1 hcv h3
  subst h1
  have hv := hcv.1
  unfold F_teval_Amount
  simp (disch := first | omega | decide) only [push_cast, ↓wF_free, ↓reduceIte, Nat.reduceEqDiff, Nat.reduceLT, Nat.reduceLeDiff, Nat.reduceAdd, Nat.reduceSub, Nat.reduceMul, Nat.reduceBEq, Int.reduceLT, Int.reduceLE, Int.reduceToNat, Int.reduceNeg, Int.reducePow, Int.reduceAdd, Int.reduceMul, Int.reduceSub, ↓Int.reduceNatCast']
  refine W_while (fun i : Nat => [(3, .ptr 1 0), (12, .slc (nz 9 (t.cl.map clsD)) (t.cl.map clsD) false), (13, .int .i64 (t.cl.length : Int)), (14, .int .i64 (i : Int))]) (fun _ => [⟨false, 1, tarC t, false⟩, ⟨false, 1, envC 65535 v, false⟩]) (fun i => i ≤ t.cl.length) (fun i => t.cl.length - i) 0 (by simp only [push_cast, ↓wF_free, ↓reduceIte, Nat.reduceEqDiff, Nat.reduceLT, Nat.reduceLeDiff, Nat.reduceAdd, Nat.reduceSub, Nat.reduceMul, Nat.reduceBEq, Int.reduceLT, Int.reduceLE, Int.reduceToNat, Int.reduceNeg, Int.reducePow, Int.reduceAdd, Int.reduceMul, Int.reduceSub, ↓Int.reduceNatCast'] <;> rfl) (Nat.zero_le _) ?_
  intro i hi
  unfold F_teval_Amount_L0
  simp (disch := first | omega | decide) only [push_cast, ↓wF_free, ↓reduceIte, Nat.reduceEqDiff, Nat.reduceLT, Nat.reduceLeDiff, Nat.reduceAdd, Nat.reduceSub, Nat.reduceMul, Nat.reduceBEq, Int.reduceLT, Int.reduceLE, Int.reduceToNat, Int.reduceNeg, Int.reducePow, Int.reduceAdd, Int.reduceMul, Int.reduceSub, ↓Int.reduceNatCast']
  refine ifD_split (fun h4 => ?_) (fun h4 => ?_)
  · have hlt : i < t.cl.length := by omega
    have hix : ∀ st : St, pidxS st 9 (.slc (nz 9 (t.cl.map clsD)) (t.cl.map clsD) false) (.int .i64 (i : Int)) = some (.eptr (clsD (t.cl.getD i default)) 0) := fun st => by
      have := idxS_nz st 9 clsD t.cl false .i64 (i : Int) (by omega) (by omega)
      rwa [Int.toNat_natCast] at this
    obtain ⟨q1, q2⟩ := h3 _ (getD_memC hlt)
    have cc : sp_pholds [clsD (t.cl.getD i default), envD 65535 v] = some (.tup [.bool (holdsF v (t.cl.getD i default).wh).1, .int .i64 (holdsF v (t.cl.getD i default).wh).2]) := call_pholds _ (_, _) ⟨rfl, hcv, q1⟩
    rw [q2] at cc
    simp (disch := first | omega | decide) only [push_cast, ↓wF_free, ↓reduceIte, Nat.reduceEqDiff, Nat.reduceLT, Nat.reduceLeDiff, Nat.reduceAdd, Nat.reduceSub, Nat.reduceMul, Nat.reduceBEq, Int.reduceLT, Int.reduceLE, Int.reduceToNat, Int.reduceNeg, Int.reducePow, Int.reduceAdd, Int.reduceMul, Int.reduceSub, ↓Int.reduceNatCast', hix, zero_cls, st_cls0, cc, ldE _ _ hv, add_i]
    refine next_head (i + 1) (by omega) (by omega) ?_
    simp only [push_cast, ↓wF_free, ↓reduceIte, Nat.reduceEqDiff, Nat.reduceLT, Nat.reduceLeDiff, Nat.reduceAdd, Nat.reduceSub, Nat.reduceMul, Nat.reduceBEq, Int.reduceLT, Int.reduceLE, Int.reduceToNat, Int.reduceNeg, Int.reducePow, Int.reduceAdd, Int.reduceMul, Int.reduceSub, ↓Int.reduceNatCast'] <;> rfl
  · simp (disch := first | omega | decide) only [push_cast, ↓wF_free, ↓reduceIte, Nat.reduceEqDiff, Nat.reduceLT, Nat.reduceLeDiff, Nat.reduceAdd, Nat.reduceSub, Nat.reduceMul, Nat.reduceBEq, Int.reduceLT, Int.reduceLE, Int.reduceToNat, Int.reduceNeg, Int.reducePow, Int.reduceAdd, Int.reduceMul, Int.reduceSub, ↓Int.reduceNatCast']
theorem c_amt0 : Contract Try.prog GG 19 sp_amt0 :=
  contract_of tr_teval_Amount (tb_ok (all_cons c_pholds all_nil) all_nil) (fun a h => w_amt0 a.1 a.2 h)
theorem mem_bsF {cl : List Cls} {c : Cls} (h : c ∈ cl) (hs : (ofB c.wh).2 = true) : (ofB c.wh).1 ∈ bsF cl := by
  unfold bsF
  rw [List.mem_filterMap]
  exact ⟨c, h, by rw [if_pos hs]⟩
theorem holds_not {cl : List Cls} {v : List Int} (hv : caseV v) (hg : ∀ b ∈ bsF cl, ¬ cov 0 b v) {c : Cls} (h : c ∈ cl) : (holdsF v c.wh).1 = false := by
  cases hb : (holdsF v c.wh).1 with
  | false => rfl
  | true =>
    obtain ⟨h1, h2⟩ := (box_holds hv c.wh).1 hb
    exact absurd h2 (hg _ (mem_bsF h h1))
theorem holds_valid (v : List Int) : ∀ l : List Tst, (∀ t ∈ l, okA t) → (holdsF v l).2 = 0
  | [], _ => rfl
  | t :: l, h => by
    have ht := h t (by simp)
    unfold okA at ht
    simp only [holdsF]
    rw [if_neg (by omega)]
    split
    · rfl
    · exact holds_valid v l fun x hx => h x (by simp [hx])
theorem dom_of {l : List Tst} (h : domB l = true) : ofB l = (domD l, true) := by
  rw [ofB_some (dom_run (domB_some h)), if_pos]
  exact (someF_iff _ 16).2 (dom_dom h).ne
theorem good_case {cl : List Cls} {l : List Tst} (h : domB l = true) {w : List Int} (hg : Good (domD l) (bsF cl) 0 z16 w) : caseV w ∧ (holdsF w l).1 = true ∧ ∀ c ∈ cl, (holdsF w c.wh).1 = false := by
  have hc : caseV w := by
    refine ⟨hg.len, fun i hi => ?_⟩
    have := hg.dom i (Nat.zero_le _) hi
    have := dom_lo h i hi
    have := (dom_dom h).hi i hi
    omega
  refine ⟨hc, (box_holds hc l).2 ?_, fun c hcl => holds_not hc hg.out hcl⟩
  rw [dom_of h]
  exact ⟨rfl, hg.dom⟩
theorem good_of {cl : List Cls} {l : List Tst} (h : domB l = true) {v : List Int} (hv : caseV v) (h1 : (holdsF v l).1 = true) (h2 : ∀ c ∈ cl, (holdsF v c.wh).1 = false) : Good (domD l) (bsF cl) 0 z16 v := by
  have h3 := (box_holds hv l).1 h1
  rw [dom_of h] at h3
  refine ⟨hv.1, fun i hi => absurd hi (Nat.not_lt_zero _), h3.2, fun b hb hcov => ?_⟩
  unfold bsF at hb
  rw [List.mem_filterMap] at hb
  obtain ⟨c, hc, he⟩ := hb
  split at he
  · rename_i hs
    simp only [Option.some.injEq] at he
    subst he
    have := (box_holds hv c.wh).2 ⟨hs, hcov⟩
    rw [h2 c hc] at this
    cases this
  · cases he
theorem gap_spec' {cl : List Cls} {l : List Tst} (hd : domB l = true) : if (gapF cl l).2 then Least (domD l) (bsF cl) 0 z16 (gapF cl l).1 else ∀ w, ¬ Good (domD l) (bsF cl) 0 z16 w :=
  (srch_spec (dom_dom hd) 16 (Nat.le_refl _) (bsF cl) z16 z16_length).2
theorem gap_law {cl : List Cls} {l : List Tst} (h6 : cl.length ≤ 6) : (gapE cl l = 1 ∧ gapB cl l = false) ∨
    (gapE cl l = 0 ∧ (gapB cl l = true → gapH cl l = 65535 ∧ caseV (gapV cl l) ∧ (holdsF (gapV cl l) l).1 = true ∧ ∀ c ∈ cl, (holdsF (gapV cl l) c.wh).1 = false) ∧
      ∀ v, caseV v → (holdsF v l).1 = true → (∀ c ∈ cl, (holdsF v c.wh).1 = false) → gapB cl l = true ∧ less v (gapV cl l) = false) := by
  cases hd : domB l with
  | false => exact .inl ⟨(gapE_bad hd).1, (gapE_bad hd).2.1⟩
  | true =>
    obtain ⟨e1, e2⟩ := gapE_ok (cl := cl) hd (by omega)
    have hs := gap_spec' (cl := cl) hd
    refine .inr ⟨e1, fun hb => ?_, fun v hv h1 h2 => ?_⟩
    · rw [e2] at hb
      rw [if_pos hb] at hs
      obtain ⟨g1, g2⟩ := gap_yes (cl := cl) (l := l) (e2.trans hb)
      rw [g2]
      exact ⟨g1, good_case hd hs.1⟩
    · have hg := good_of hd hv h1 h2
      cases hb : (gapF cl l).2 with
      | false =>
        rw [hb] at hs
        exact absurd hg (hs v)
      | true =>
        rw [if_pos hb] at hs
        have hb2 := e2.trans hb
        refine ⟨hb2, ?_⟩
        rw [(gap_yes hb2).2]
        cases hl : less v (gapF cl l).1 with
        | false => rfl
        | true => exact absurd (hs.2 v hg) fun h4 => lexLt_irr ((less_iff _ _).1 hl) h4
theorem st_0i (L : List Tst) : fillD [.str [], .slc 0 [] true, .int .i64 0, .int .i64 0, .int .i64 0, .int .i64 0, .int .i64 0, .int .i64 0, .slc 0 [] true] [(1, 1, .slc (nz 3 (L.map tstD)) (L.map tstD) false)] = some [.str [], .slc (nz 3 (L.map tstD)) (L.map tstD) false, .int .i64 0, .int .i64 0, .int .i64 0, .int .i64 0, .int .i64 0, .int .i64 0, .slc 0 [] true] := (rfl)
def clsT (L : List Tst) : List D := [.str [], .slc (nz 3 (L.map tstD)) (L.map tstD) false, .int .i64 0, .int .i64 0, .int .i64 0, .int .i64 0, .int .i64 0, .int .i64 0, .slc 0 [] true]
theorem box_cls0 : boxD (.agg [.str [], .slc 0 [] true, .int .i64 0, .int .i64 0, .int .i64 0, .int .i64 0, .int .i64 0, .int .i64 0, .slc 0 [] true]) = some cls0 := (rfl)
theorem st_clsT (L : List Tst) : stO (some ⟨false, 1, cls0, false⟩) 9 0 (.agg [.str [], .slc (nz 3 (L.map tstD)) (L.map tstD) false, .int .i64 0, .int .i64 0, .int .i64 0, .int .i64 0, .int .i64 0, .int .i64 0, .slc 0 [] true]) = some ⟨false, 1, clsT L, false⟩ := stO_all 1 _ _ 9 rfl rfl rfl
theorem ld_clsT (L : List Tst) : ldO (some ⟨false, 1, clsT L, false⟩) 9 true 0 = some (.agg (clsT L)) := (rfl)
theorem imm_clsT (L : List Tst) (st : St) : imm st (.agg (clsT L)) = some (clsD (clsN [] L)) := by
  simp only [imm, clsT, immL, imm1, nz_nz]
  rfl
theorem keys_clsT (L : List Tst) : keys (.agg (clsT L)) = [] := (rfl)
theorem hkB_clsT (L : List Tst) : (clsT L).flatMap hk = [] := (rfl)
theorem renB_clsT (n : Nat) (σ : List Nat) (L : List Tst) : (clsT L).map (ren n σ) = clsT L := (rfl)
theorem forall_getD {α : Type} [Inhabited α] {l : List α} {p : α → Prop} (h : ∀ m, m < l.length → p (l.getD m default)) : ∀ x ∈ l, p x := by
  intro x hx
  obtain ⟨m, hm, e⟩ := List.getElem_of_mem hx
  have := h m hm
  rw [List.getD_eq_getElem?_getD, List.getElem?_eq_getElem hm] at this
  simp only [Option.getD_some] at this
  rwa [e] at this
attribute [push_cast] hkB_clsT renB_clsT
set_option maxHeartbeats 4000000 in
set_option maxRecDepth 20000 in
theorem lw_TboxGaps (t : Tar) (ht : tarOk t) (l : List Tst) (hl : l.length ≤ maxLen) (v : Int × List Int) (hv : v.2.length = 16) : @wW GG (tb [(10, sp_lsane), (15, sp_few), (11, sp_isc), (17, sp_pgap), (19, sp_amt0), (20, sp_lholds), (18, sp_rless)] []) F_wagonpoollaw19_TboxGaps.code (argF [tarD t, .slc (nz 3 (l.map tstD)) (l.map tstD) false, envD (Prod.fst v) (Prod.snd v)]) [] ⟨retQ F_wagonpoollaw19_TboxGaps.res (.bool true)⟩ := by
  have cs := call_lsane
  have hm := maxLen_le
  have cf := call_few t l (fewOk ht hl)
  obtain ⟨kh, v⟩ := v
  dsimp only at hv
  have ci : sp_isc [envD kh v] = some (.bool (caseB kh v)) := call_isc (kh, v) hv
  unfold F_wagonpoollaw19_TboxGaps
  by_cases h6 : (6 : Int) < (t.cl.length : Int)
  · simp (disch := first | omega | decide) only [push_cast, ↓wF_free, ↓reduceIte, Nat.reduceEqDiff, Nat.reduceLT, Nat.reduceLeDiff, Nat.reduceAdd, Nat.reduceSub, Nat.reduceMul, Nat.reduceBEq, Int.reduceLT, Int.reduceLE, Int.reduceToNat, Int.reduceNeg, Int.reducePow, Int.reduceAdd, Int.reduceMul, Int.reduceSub, ↓Int.reduceNatCast', cs, h6]
  · by_cases h40 : (40 : Int) < (l.length : Int)
    · simp (disch := first | omega | decide) only [push_cast, ↓wF_free, ↓reduceIte, Nat.reduceEqDiff, Nat.reduceLT, Nat.reduceLeDiff, Nat.reduceAdd, Nat.reduceSub, Nat.reduceMul, Nat.reduceBEq, Int.reduceLT, Int.reduceLE, Int.reduceToNat, Int.reduceNeg, Int.reducePow, Int.reduceAdd, Int.reduceMul, Int.reduceSub, ↓Int.reduceNatCast', cs, h6, h40]
    · cases hf : fewB t.cl l with
      | false =>
        rw [hf] at cf
        simp (disch := first | omega | decide) only [push_cast, ↓wF_free, ↓reduceIte, Nat.reduceEqDiff, Nat.reduceLT, Nat.reduceLeDiff, Nat.reduceAdd, Nat.reduceSub, Nat.reduceMul, Nat.reduceBEq, Int.reduceLT, Int.reduceLE, Int.reduceToNat, Int.reduceNeg, Int.reducePow, Int.reduceAdd, Int.reduceMul, Int.reduceSub, ↓Int.reduceNatCast', cs, cf, h6, h40]
      | true =>
        rw [hf] at cf
        obtain ⟨f1, f2, f3⟩ := few_max hf
        have w3 : ∀ c ∈ t.cl, c.wh.length ≤ 9223372036854775807 := fun c hc => by have := f3 c hc; omega
        have hix : ∀ (st : St) (i : Nat), i < t.cl.length → pidxS st 9 (.slc (nz 9 (t.cl.map clsD)) (t.cl.map clsD) false) (.int .i64 (i : Int)) = some (.eptr (clsD (t.cl.getD i default)) 0) := fun st i hi => by
          have := idxS_nz st 9 clsD t.cl false .i64 (i : Int) (by omega) (by omega)
          rwa [Int.toNat_natCast] at this
        simp (disch := first | omega | decide) only [push_cast, ↓wF_free, ↓reduceIte, Nat.reduceEqDiff, Nat.reduceLT, Nat.reduceLeDiff, Nat.reduceAdd, Nat.reduceSub, Nat.reduceMul, Nat.reduceBEq, Int.reduceLT, Int.reduceLE, Int.reduceToNat, Int.reduceNeg, Int.reducePow, Int.reduceAdd, Int.reduceMul, Int.reduceSub, ↓Int.reduceNatCast', cs, cf, h6, h40]
        refine W_while (fun k : Nat => [(1, .slc (nz 3 (l.map tstD)) (l.map tstD) false), (3, .ptr 0 0), (5, .ptr 1 0), (7, .int .i64 (k : Int))]) (fun _ => [⟨false, 1, tarC t, false⟩, ⟨false, 1, envC kh v, false⟩]) (fun k => k ≤ t.cl.length ∧ ∀ m, m < k → ∀ x ∈ (t.cl.getD m default).wh, okA x) (fun k => t.cl.length - k) 0 (by simp only [push_cast, ↓wF_free, ↓reduceIte, Nat.reduceEqDiff, Nat.reduceLT, Nat.reduceLeDiff, Nat.reduceAdd, Nat.reduceSub, Nat.reduceMul, Nat.reduceBEq, Int.reduceLT, Int.reduceLE, Int.reduceToNat, Int.reduceNeg, Int.reducePow, Int.reduceAdd, Int.reduceMul, Int.reduceSub, ↓Int.reduceNatCast'] <;> rfl) ⟨Nat.zero_le _, fun m hm => absurd hm (Nat.not_lt_zero _)⟩ ?_
        rintro k ⟨hk, hko⟩
        unfold F_wagonpoollaw19_TboxGaps_L1
        simp (disch := first | omega | decide) only [push_cast, ↓wF_free, ↓reduceIte, Nat.reduceEqDiff, Nat.reduceLT, Nat.reduceLeDiff, Nat.reduceAdd, Nat.reduceSub, Nat.reduceMul, Nat.reduceBEq, Int.reduceLT, Int.reduceLE, Int.reduceToNat, Int.reduceNeg, Int.reducePow, Int.reduceAdd, Int.reduceMul, Int.reduceSub, ↓Int.reduceNatCast']
        refine ifD_split (fun h2 => ?_) (fun h2 => ?_)
        · have hkl : k < t.cl.length := by omega
          have ik := fun st => hix st k hkl
          have hc := f3 _ (getD_memC hkl)
          simp (disch := first | omega | decide) only [push_cast, ↓wF_free, ↓reduceIte, Nat.reduceEqDiff, Nat.reduceLT, Nat.reduceLeDiff, Nat.reduceAdd, Nat.reduceSub, Nat.reduceMul, Nat.reduceBEq, Int.reduceLT, Int.reduceLE, Int.reduceToNat, Int.reduceNeg, Int.reducePow, Int.reduceAdd, Int.reduceMul, Int.reduceSub, ↓Int.reduceNatCast']
          generalize hwe : (t.cl.getD k default).wh = W at *
          have iw : ∀ (st : St) (i : Nat), i < W.length → pidxS st 3 (.slc (nz 3 (W.map tstD)) (W.map tstD) false) (.int .i64 (i : Int)) = some (.eptr (tstD (W.getD i default)) 0) := fun st i hi => by
            have := idxS_nz st 3 tstD W false .i64 (i : Int) (by omega) (by omega)
            rwa [Int.toNat_natCast] at this
          refine W_while (fun j : Nat => [(1, .slc (nz 3 (l.map tstD)) (l.map tstD) false), (3, .ptr 0 0), (5, .ptr 1 0), (7, .int .i64 (k : Int)), (8, .int .i64 (j : Int))]) (fun _ => [⟨false, 1, tarC t, false⟩, ⟨false, 1, envC kh v, false⟩]) (fun j => j ≤ W.length ∧ ∀ m, m < j → okA (W.getD m default)) (fun j => W.length - j) 0 (by simp only [push_cast, ↓wF_free, ↓reduceIte, Nat.reduceEqDiff, Nat.reduceLT, Nat.reduceLeDiff, Nat.reduceAdd, Nat.reduceSub, Nat.reduceMul, Nat.reduceBEq, Int.reduceLT, Int.reduceLE, Int.reduceToNat, Int.reduceNeg, Int.reducePow, Int.reduceAdd, Int.reduceMul, Int.reduceSub, ↓Int.reduceNatCast'] <;> rfl) ⟨Nat.zero_le _, fun m hm => absurd hm (Nat.not_lt_zero _)⟩ ?_
          rintro j ⟨hj, hjo⟩
          unfold F_wagonpoollaw19_TboxGaps_L0
          simp (disch := first | omega | decide) only [push_cast, ↓wF_free, ↓reduceIte, Nat.reduceEqDiff, Nat.reduceLT, Nat.reduceLeDiff, Nat.reduceAdd, Nat.reduceSub, Nat.reduceMul, Nat.reduceBEq, Int.reduceLT, Int.reduceLE, Int.reduceToNat, Int.reduceNeg, Int.reducePow, Int.reduceAdd, Int.reduceMul, Int.reduceSub, ↓Int.reduceNatCast', ik, hwe]
          refine ifD_split (fun h3 => ?_) (fun h3 => ?_)
          · have hjl : j < W.length := by omega
            have ij := fun st => iw st j hjl
            have hnx : okA (W.getD j default) → ∀ m, m < j + 1 → okA (W.getD m default) := fun h m hm => by
              rcases Nat.lt_or_ge m j with h5 | h5
              · exact hjo m h5
              · obtain rfl : m = j := by omega
                exact h
            generalize W.getD j default = x at *
            by_cases a1 : x.a < 0
            · simp (disch := first | omega | decide) only [push_cast, ↓wF_free, ↓reduceIte, Nat.reduceEqDiff, Nat.reduceLT, Nat.reduceLeDiff, Nat.reduceAdd, Nat.reduceSub, Nat.reduceMul, Nat.reduceBEq, Int.reduceLT, Int.reduceLE, Int.reduceToNat, Int.reduceNeg, Int.reducePow, Int.reduceAdd, Int.reduceMul, Int.reduceSub, ↓Int.reduceNatCast', ik, hwe, ij, a1]
            · by_cases a2 : (16 : Int) ≤ x.a
              · simp (disch := first | omega | decide) only [push_cast, ↓wF_free, ↓reduceIte, Nat.reduceEqDiff, Nat.reduceLT, Nat.reduceLeDiff, Nat.reduceAdd, Nat.reduceSub, Nat.reduceMul, Nat.reduceBEq, Int.reduceLT, Int.reduceLE, Int.reduceToNat, Int.reduceNeg, Int.reducePow, Int.reduceAdd, Int.reduceMul, Int.reduceSub, ↓Int.reduceNatCast', ik, hwe, ij, a1, a2]
              · simp (disch := first | omega | decide) only [push_cast, ↓wF_free, ↓reduceIte, Nat.reduceEqDiff, Nat.reduceLT, Nat.reduceLeDiff, Nat.reduceAdd, Nat.reduceSub, Nat.reduceMul, Nat.reduceBEq, Int.reduceLT, Int.reduceLE, Int.reduceToNat, Int.reduceNeg, Int.reducePow, Int.reduceAdd, Int.reduceMul, Int.reduceSub, ↓Int.reduceNatCast', ik, hwe, ij, a1, a2, add_i]
                refine next_head (j + 1) (by exact ⟨by omega, hnx (by unfold okA; omega)⟩) (by omega) ?_
                simp only [push_cast, ↓wF_free, ↓reduceIte, Nat.reduceEqDiff, Nat.reduceLT, Nat.reduceLeDiff, Nat.reduceAdd, Nat.reduceSub, Nat.reduceMul, Nat.reduceBEq, Int.reduceLT, Int.reduceLE, Int.reduceToNat, Int.reduceNeg, Int.reducePow, Int.reduceAdd, Int.reduceMul, Int.reduceSub, ↓Int.reduceNatCast'] <;> rfl
          · obtain rfl : j = W.length := by omega
            simp (disch := first | omega | decide) only [push_cast, ↓wF_free, ↓reduceIte, Nat.reduceEqDiff, Nat.reduceLT, Nat.reduceLeDiff, Nat.reduceAdd, Nat.reduceSub, Nat.reduceMul, Nat.reduceBEq, Int.reduceLT, Int.reduceLE, Int.reduceToNat, Int.reduceNeg, Int.reducePow, Int.reduceAdd, Int.reduceMul, Int.reduceSub, ↓Int.reduceNatCast', add_i]
            refine next_head (k + 1) (by
              refine ⟨by omega, fun m hm => ?_⟩
              rcases Nat.lt_or_ge m k with h5 | h5
              · exact hko m h5
              · obtain rfl : m = k := by omega
                rw [hwe]
                exact forall_getD hjo) (by omega) ?_
            simp only [push_cast, ↓wF_free, ↓reduceIte, Nat.reduceEqDiff, Nat.reduceLT, Nat.reduceLeDiff, Nat.reduceAdd, Nat.reduceSub, Nat.reduceMul, Nat.reduceBEq, Int.reduceLT, Int.reduceLE, Int.reduceToNat, Int.reduceNeg, Int.reducePow, Int.reduceAdd, Int.reduceMul, Int.reduceSub, ↓Int.reduceNatCast'] <;> rfl
        · obtain rfl : k = t.cl.length := by omega
          have hall : ∀ c ∈ t.cl, ∀ x ∈ c.wh, okA x := forall_getD hko
          have hg := gap_law (cl := t.cl) (l := l) (by omega)
          have g1 := call_pgap t l ⟨by omega, w3⟩
          have hgl := gapV_len t.cl l
          generalize gapE t.cl l = E at *
          generalize gapB t.cl l = B at *
          generalize gapV t.cl l = w at *
          generalize gapH t.cl l = HH at *
          rcases hg with ⟨rfl, rfl⟩ | ⟨rfl, hy, hn⟩
          · have n10 : ((1 : Int) = 0) = False := by decide
            simp (disch := first | omega | decide) only [push_cast, ↓wF_free, ↓reduceIte, Nat.reduceEqDiff, Nat.reduceLT, Nat.reduceLeDiff, Nat.reduceAdd, Nat.reduceSub, Nat.reduceMul, Nat.reduceBEq, Int.reduceLT, Int.reduceLE, Int.reduceToNat, Int.reduceNeg, Int.reducePow, Int.reduceAdd, Int.reduceMul, Int.reduceSub, ↓Int.reduceNatCast', g1, stE _ z16_length hgl, n10]
          · have hin : ∀ u : List Int, caseV u → sp_lholds [clsD (clsN [] l), envD 65535 u] = some (.bool (holdsF u l).1) := fun u hu => call_lholds (clsN [] l) (_, u) ⟨rfl, hu, by show l.length ≤ _; omega⟩
            have hld : ∀ (u : List Int) (i : Nat), caseV u → i < t.cl.length → sp_lholds [clsD (t.cl.getD i default), envD 65535 u] = some (.bool (holdsF u (t.cl.getD i default).wh).1) := fun u i hu hi =>
              call_lholds (t.cl.getD i default) (_, u) ⟨rfl, hu, w3 _ (getD_memC hi)⟩
            cases B with
            | false =>
              cases hb : caseB kh v with
              | false =>
                rw [hb] at ci
                simp (disch := first | omega | decide) only [push_cast, ↓wF_free, ↓reduceIte, Nat.reduceEqDiff, Nat.reduceLT, Nat.reduceLeDiff, Nat.reduceAdd, Nat.reduceSub, Nat.reduceMul, Nat.reduceBEq, Int.reduceLT, Int.reduceLE, Int.reduceToNat, Int.reduceNeg, Int.reducePow, Int.reduceAdd, Int.reduceMul, Int.reduceSub, ↓Int.reduceNatCast', g1, stE _ z16_length hgl, ldE _ _ hv, st_0i, box_cls0, st_clsT, ci]
              | true =>
                obtain ⟨rfl, hcv⟩ := caseB_spec hv hb
                rw [hb] at ci
                have lv := hin v hcv
                cases hi : (holdsF v l).1 with
                | false =>
                  rw [hi] at lv
                  simp (disch := first | omega | decide) only [push_cast, ↓wF_free, ↓reduceIte, Nat.reduceEqDiff, Nat.reduceLT, Nat.reduceLeDiff, Nat.reduceAdd, Nat.reduceSub, Nat.reduceMul, Nat.reduceBEq, Int.reduceLT, Int.reduceLE, Int.reduceToNat, Int.reduceNeg, Int.reducePow, Int.reduceAdd, Int.reduceMul, Int.reduceSub, ↓Int.reduceNatCast', g1, stE _ z16_length hgl, ldE _ _ hv, st_0i, box_cls0, st_clsT, ci, ld_clsT, imm_clsT, keys_clsT, lv]
                | true =>
                  rw [hi] at lv
                  simp (disch := first | omega | decide) only [push_cast, ↓wF_free, ↓reduceIte, Nat.reduceEqDiff, Nat.reduceLT, Nat.reduceLeDiff, Nat.reduceAdd, Nat.reduceSub, Nat.reduceMul, Nat.reduceBEq, Int.reduceLT, Int.reduceLE, Int.reduceToNat, Int.reduceNeg, Int.reducePow, Int.reduceAdd, Int.reduceMul, Int.reduceSub, ↓Int.reduceNatCast', g1, stE _ z16_length hgl, ldE _ _ hv, st_0i, box_cls0, st_clsT, ci, ld_clsT, imm_clsT, keys_clsT, lv]
                  refine W_while (fun k : Nat => [(3, .ptr 0 0), (5, .ptr 1 0), (9, .ptr 2 0), (10, .bool false), (16, .int .i64 (k : Int))]) (fun _ => [⟨false, 1, tarC t, false⟩, ⟨false, 1, envC 65535 v, false⟩, ⟨false, 1, envC HH w, false⟩, ⟨false, 1, clsT l, false⟩]) (fun k => k ≤ t.cl.length ∧ ∀ m, m < k → (holdsF v (t.cl.getD m default).wh).1 = false) (fun k => t.cl.length - k) 0 (by simp only [push_cast, ↓wF_free, ↓reduceIte, Nat.reduceEqDiff, Nat.reduceLT, Nat.reduceLeDiff, Nat.reduceAdd, Nat.reduceSub, Nat.reduceMul, Nat.reduceBEq, Int.reduceLT, Int.reduceLE, Int.reduceToNat, Int.reduceNeg, Int.reducePow, Int.reduceAdd, Int.reduceMul, Int.reduceSub, ↓Int.reduceNatCast'] <;> rfl) ⟨Nat.zero_le _, fun m hm => absurd hm (Nat.not_lt_zero _)⟩ ?_
                  rintro k ⟨hk, hkn⟩
                  unfold F_wagonpoollaw19_TboxGaps_L2
                  simp (disch := first | omega | decide) only [push_cast, ↓wF_free, ↓reduceIte, Nat.reduceEqDiff, Nat.reduceLT, Nat.reduceLeDiff, Nat.reduceAdd, Nat.reduceSub, Nat.reduceMul, Nat.reduceBEq, Int.reduceLT, Int.reduceLE, Int.reduceToNat, Int.reduceNeg, Int.reducePow, Int.reduceAdd, Int.reduceMul, Int.reduceSub, ↓Int.reduceNatCast']
                  refine ifD_split (fun h2 => ?_) (fun h2 => ?_)
                  · have hkl : k < t.cl.length := by omega
                    have ik := fun st => hix st k hkl
                    have lk := hld v k hcv hkl
                    cases hbk : (holdsF v (t.cl.getD k default).wh).1 with
                    | true =>
                      rw [hbk] at lk
                      simp (disch := first | omega | decide) only [push_cast, ↓wF_free, ↓reduceIte, Nat.reduceEqDiff, Nat.reduceLT, Nat.reduceLeDiff, Nat.reduceAdd, Nat.reduceSub, Nat.reduceMul, Nat.reduceBEq, Int.reduceLT, Int.reduceLE, Int.reduceToNat, Int.reduceNeg, Int.reducePow, Int.reduceAdd, Int.reduceMul, Int.reduceSub, ↓Int.reduceNatCast', ik, lk, ldE _ _ hv]
                    | false =>
                      rw [hbk] at lk
                      simp (disch := first | omega | decide) only [push_cast, ↓wF_free, ↓reduceIte, Nat.reduceEqDiff, Nat.reduceLT, Nat.reduceLeDiff, Nat.reduceAdd, Nat.reduceSub, Nat.reduceMul, Nat.reduceBEq, Int.reduceLT, Int.reduceLE, Int.reduceToNat, Int.reduceNeg, Int.reducePow, Int.reduceAdd, Int.reduceMul, Int.reduceSub, ↓Int.reduceNatCast', ik, lk, ldE _ _ hv, add_i]
                      refine next_head (k + 1) (by
                        refine ⟨by omega, fun m hm => ?_⟩
                        rcases Nat.lt_or_ge m k with h5 | h5
                        · exact hkn m h5
                        · obtain rfl : m = k := by omega
                          exact hbk) (by omega) ?_
                      simp only [push_cast, ↓wF_free, ↓reduceIte, Nat.reduceEqDiff, Nat.reduceLT, Nat.reduceLeDiff, Nat.reduceAdd, Nat.reduceSub, Nat.reduceMul, Nat.reduceBEq, Int.reduceLT, Int.reduceLE, Int.reduceToNat, Int.reduceNeg, Int.reducePow, Int.reduceAdd, Int.reduceMul, Int.reduceSub, ↓Int.reduceNatCast'] <;> rfl
                  · obtain rfl : k = t.cl.length := by omega
                    exact absurd (hn v hcv hi (forall_getD hkn)).1 (by decide)
            | true =>
              obtain ⟨rfl, hcw, hiw, how⟩ := hy rfl
              have ciw : sp_isc [envD 65535 w] = some (.bool true) := by
                have := call_isc (65535, w) hgl
                dsimp only at this
                rwa [caseB_of hcw] at this
              have am : sp_amt0 [tarD t, envD 65535 w] = some (.tup [.int .i64 0, .int .i64 0, .int .i64 180]) := call_amt0 t (_, w) ⟨rfl, hcw, by omega, fun c hc => ⟨w3 c hc, Prod.ext (how c hc) (holds_valid w c.wh (hall c hc))⟩⟩
              have lw := hin w hcw
              rw [hiw] at lw
              cases hb : caseB kh v with
              | false =>
                rw [hb] at ci
                simp (disch := first | omega | decide) only [push_cast, ↓wF_free, ↓reduceIte, Nat.reduceEqDiff, Nat.reduceLT, Nat.reduceLeDiff, Nat.reduceAdd, Nat.reduceSub, Nat.reduceMul, Nat.reduceBEq, Int.reduceLT, Int.reduceLE, Int.reduceToNat, Int.reduceNeg, Int.reducePow, Int.reduceAdd, Int.reduceMul, Int.reduceSub, ↓Int.reduceNatCast', g1, stE _ z16_length hgl, ldE _ _ hv, ldE _ _ hgl, st_0i, box_cls0, st_clsT, ci, am, ciw, ld_clsT, imm_clsT, keys_clsT, lw]
              | true =>
                obtain ⟨rfl, hcv⟩ := caseB_spec hv hb
                rw [hb] at ci
                have lv := hin v hcv
                cases hi : (holdsF v l).1 with
                | false =>
                  rw [hi] at lv
                  simp (disch := first | omega | decide) only [push_cast, ↓wF_free, ↓reduceIte, Nat.reduceEqDiff, Nat.reduceLT, Nat.reduceLeDiff, Nat.reduceAdd, Nat.reduceSub, Nat.reduceMul, Nat.reduceBEq, Int.reduceLT, Int.reduceLE, Int.reduceToNat, Int.reduceNeg, Int.reducePow, Int.reduceAdd, Int.reduceMul, Int.reduceSub, ↓Int.reduceNatCast', g1, stE _ z16_length hgl, ldE _ _ hv, ldE _ _ hgl, st_0i, box_cls0, st_clsT, ci, am, ciw, ld_clsT, imm_clsT, keys_clsT, lw, lv]
                | true =>
                  rw [hi] at lv
                  simp (disch := first | omega | decide) only [push_cast, ↓wF_free, ↓reduceIte, Nat.reduceEqDiff, Nat.reduceLT, Nat.reduceLeDiff, Nat.reduceAdd, Nat.reduceSub, Nat.reduceMul, Nat.reduceBEq, Int.reduceLT, Int.reduceLE, Int.reduceToNat, Int.reduceNeg, Int.reducePow, Int.reduceAdd, Int.reduceMul, Int.reduceSub, ↓Int.reduceNatCast', g1, stE _ z16_length hgl, ldE _ _ hv, ldE _ _ hgl, st_0i, box_cls0, st_clsT, ci, am, ciw, ld_clsT, imm_clsT, keys_clsT, lw, lv]
                  refine W_while (fun k : Nat => [(3, .ptr 0 0), (5, .ptr 1 0), (9, .ptr 2 0), (10, .bool true), (16, .int .i64 (k : Int))]) (fun _ => [⟨false, 1, tarC t, false⟩, ⟨false, 1, envC 65535 v, false⟩, ⟨false, 1, envC 65535 w, false⟩, ⟨false, 1, clsT l, false⟩]) (fun k => k ≤ t.cl.length ∧ ∀ m, m < k → (holdsF v (t.cl.getD m default).wh).1 = false) (fun k => t.cl.length - k) 0 (by simp only [push_cast, ↓wF_free, ↓reduceIte, Nat.reduceEqDiff, Nat.reduceLT, Nat.reduceLeDiff, Nat.reduceAdd, Nat.reduceSub, Nat.reduceMul, Nat.reduceBEq, Int.reduceLT, Int.reduceLE, Int.reduceToNat, Int.reduceNeg, Int.reducePow, Int.reduceAdd, Int.reduceMul, Int.reduceSub, ↓Int.reduceNatCast'] <;> rfl) ⟨Nat.zero_le _, fun m hm => absurd hm (Nat.not_lt_zero _)⟩ ?_
                  rintro k ⟨hk, hkn⟩
                  unfold F_wagonpoollaw19_TboxGaps_L2
                  simp (disch := first | omega | decide) only [push_cast, ↓wF_free, ↓reduceIte, Nat.reduceEqDiff, Nat.reduceLT, Nat.reduceLeDiff, Nat.reduceAdd, Nat.reduceSub, Nat.reduceMul, Nat.reduceBEq, Int.reduceLT, Int.reduceLE, Int.reduceToNat, Int.reduceNeg, Int.reducePow, Int.reduceAdd, Int.reduceMul, Int.reduceSub, ↓Int.reduceNatCast']
                  refine ifD_split (fun h2 => ?_) (fun h2 => ?_)
                  · have hkl : k < t.cl.length := by omega
                    have ik := fun st => hix st k hkl
                    have lk := hld v k hcv hkl
                    cases hbk : (holdsF v (t.cl.getD k default).wh).1 with
                    | true =>
                      rw [hbk] at lk
                      simp (disch := first | omega | decide) only [push_cast, ↓wF_free, ↓reduceIte, Nat.reduceEqDiff, Nat.reduceLT, Nat.reduceLeDiff, Nat.reduceAdd, Nat.reduceSub, Nat.reduceMul, Nat.reduceBEq, Int.reduceLT, Int.reduceLE, Int.reduceToNat, Int.reduceNeg, Int.reducePow, Int.reduceAdd, Int.reduceMul, Int.reduceSub, ↓Int.reduceNatCast', ik, lk, ldE _ _ hv]
                    | false =>
                      rw [hbk] at lk
                      simp (disch := first | omega | decide) only [push_cast, ↓wF_free, ↓reduceIte, Nat.reduceEqDiff, Nat.reduceLT, Nat.reduceLeDiff, Nat.reduceAdd, Nat.reduceSub, Nat.reduceMul, Nat.reduceBEq, Int.reduceLT, Int.reduceLE, Int.reduceToNat, Int.reduceNeg, Int.reducePow, Int.reduceAdd, Int.reduceMul, Int.reduceSub, ↓Int.reduceNatCast', ik, lk, ldE _ _ hv, add_i]
                      refine next_head (k + 1) (by
                        refine ⟨by omega, fun m hm => ?_⟩
                        rcases Nat.lt_or_ge m k with h5 | h5
                        · exact hkn m h5
                        · obtain rfl : m = k := by omega
                          exact hbk) (by omega) ?_
                      simp only [push_cast, ↓wF_free, ↓reduceIte, Nat.reduceEqDiff, Nat.reduceLT, Nat.reduceLeDiff, Nat.reduceAdd, Nat.reduceSub, Nat.reduceMul, Nat.reduceBEq, Int.reduceLT, Int.reduceLE, Int.reduceToNat, Int.reduceNeg, Int.reducePow, Int.reduceAdd, Int.reduceMul, Int.reduceSub, ↓Int.reduceNatCast'] <;> rfl
                  · obtain rfl : k = t.cl.length := by omega
                    have hl2 := (hn v hcv hi (forall_getD hkn)).2
                    have les : sp_rless [envD 65535 v, envD 65535 w] = some (.bool (less v w)) := call_rless (_, _) (_, _) ⟨hv, hgl⟩
                    rw [hl2] at les
                    simp (disch := first | omega | decide) only [push_cast, ↓wF_free, ↓reduceIte, Nat.reduceEqDiff, Nat.reduceLT, Nat.reduceLeDiff, Nat.reduceAdd, Nat.reduceSub, Nat.reduceMul, Nat.reduceBEq, Int.reduceLT, Int.reduceLE, Int.reduceToNat, Int.reduceNeg, Int.reducePow, Int.reduceAdd, Int.reduceMul, Int.reduceSub, ↓Int.reduceNatCast', ldE _ _ hv, ldE _ _ hgl, les]
theorem law_TboxGaps : Contract Try.prog GG 5 (lawSp [tyTar, .slc tyT, tyEnv]) := by
  refine lawC tr_wagonpoollaw19_TboxGaps (T := tb [(10, sp_lsane), (15, sp_few), (11, sp_isc), (17, sp_pgap), (19, sp_amt0), (20, sp_lholds), (18, sp_rless)] []) (tb_ok (all_cons c_lsane (all_cons c_few (all_cons c_isc (all_cons c_pgap (all_cons c_amt0 (all_cons c_lholds (all_cons c_rless all_nil))))))) all_nil) ?_
  intro xs h
  obtain ⟨x0, xs, rfl, h0, h⟩ := hasAll_cons h
  obtain ⟨x1, xs, rfl, h1, h⟩ := hasAll_cons h
  obtain ⟨x2, xs, rfl, h2, h⟩ := hasAll_cons h
  obtain rfl := hasAll_nil h
  obtain ⟨y0, rfl, ya0⟩ := has_tar h0
  obtain ⟨y1, rfl, ya1⟩ := has_dom h1
  obtain ⟨y2, rfl, ya2⟩ := has_env h2
  exact lw_TboxGaps y0 ya0 y1 ya1 y2 ya2
end Go.Proofs.Ytgppecaeegaooaa.PI
