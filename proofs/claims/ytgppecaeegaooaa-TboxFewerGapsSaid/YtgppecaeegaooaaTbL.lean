/-
  tbox: the order of cases, bounds, and the makers of clauses and tariffs.
  Conditions: none; these are lemmas.
-/
import Derived.Test.YtgppecaeegaooaaTbK
namespace Go.Proofs.Ytgppecaeegaooaa.PI
open Go
set_option linter.unusedSimpArgs false
set_option linter.unusedVariables false
noncomputable def sp_rless : List D → Option D := spOf (α := (Int × List Int) × (Int × List Int)) (fun a => [envD (Prod.fst a.1) (Prod.snd a.1), envD (Prod.fst a.2) (Prod.snd a.2)]) (fun a => a.1.2.length = 16 ∧ a.2.2.length = 16) (fun a => .bool (less a.1.2 a.2.2))
theorem call_rless (x : Int × List Int) (y : Int × List Int) (h : x.2.length = 16 ∧ y.2.length = 16) : sp_rless [envD (Prod.fst x) (Prod.snd x), envD (Prod.fst y) (Prod.snd y)] = some (.bool (less x.2 y.2)) :=
  spOf_enc (fun ⟨a0, a1⟩ ⟨b0, b1⟩ h => by simp only [List.cons.injEq, D.slc.injEq, D.int.injEq, D.bool.injEq, D.str.injEq, D.agg.injEq, digs_iff, dig_iff, digC_iff, bytes_iff, byte_iff, words_iff, word_iff, bsl_iff, true_and, and_true, ints_iff, nI_iff, tsts_iff, clss_iff, clsD_iff, tarD_iff, tstD_iff, ptD_iff, Int.ofNat_inj, env_iff] at h; simp [h, Prod.ext_iff]) (x, y) h
set_option maxHeartbeats 4000000 in
set_option maxRecDepth 20000 in
theorem w_rless (x : Int × List Int) (y : Int × List Int) (h : x.2.length = 16 ∧ y.2.length = 16) : @wW GG (tb [] []) F_wagonpoolref19_Less.code (argF [envD (Prod.fst x) (Prod.snd x), envD (Prod.fst y) (Prod.snd y)]) [] ⟨retQ F_wagonpoolref19_Less.res (.bool (less x.2 y.2))⟩ := by
  obtain ⟨hx, hy⟩ := h
  obtain ⟨k, v⟩ := x
  obtain ⟨m, w⟩ := y
  dsimp only at hx hy ⊢
  unfold F_wagonpoolref19_Less
  simp (disch := first | omega | decide) only [push_cast, ↓wF_free, ↓reduceIte, Nat.reduceEqDiff, Nat.reduceLT, Nat.reduceLeDiff, Nat.reduceAdd, Nat.reduceSub, Nat.reduceMul, Nat.reduceBEq, Int.reduceLT, Int.reduceLE, Int.reduceToNat, Int.reduceNeg, Int.reducePow, Int.reduceAdd, Int.reduceMul, Int.reduceSub, ↓Int.reduceNatCast']
  refine W_while (fun i : Nat => [(2, .ptr 0 0), (3, .ptr 1 0), (5, .int .i64 (i : Int))]) (fun i => [⟨false, 1, envC k v, false⟩, ⟨false, 1, envC m w, false⟩]) (fun i => i ≤ 16 ∧ less v w = lessF v w (16 - i) i) (fun i => 16 - i) 0 (by simp only [push_cast, ↓wF_free, ↓reduceIte, Nat.reduceEqDiff, Nat.reduceLT, Nat.reduceLeDiff, Nat.reduceAdd, Nat.reduceSub, Nat.reduceMul, Nat.reduceBEq, Int.reduceLT, Int.reduceLE, Int.reduceToNat, Int.reduceNeg, Int.reducePow, Int.reduceAdd, Int.reduceMul, Int.reduceSub, ↓Int.reduceNatCast'] <;> rfl) ⟨Nat.zero_le _, rfl⟩ ?_
  rintro i ⟨hi, hr⟩
  unfold F_wagonpoolref19_Less_L0
  simp (disch := first | omega | decide) only [push_cast, ↓wF_free, ↓reduceIte, Nat.reduceEqDiff, Nat.reduceLT, Nat.reduceLeDiff, Nat.reduceAdd, Nat.reduceSub, Nat.reduceMul, Nat.reduceBEq, Int.reduceLT, Int.reduceLE, Int.reduceToNat, Int.reduceNeg, Int.reducePow, Int.reduceAdd, Int.reduceMul, Int.reduceSub, ↓Int.reduceNatCast']
  refine ifD_split (fun h2 => ?_) (fun h2 => ?_)
  · have hlt : i < 16 := by omega
    have l1 := ldEv 1 false k v hx i hlt
    have l2 := ldEv 1 false m w hy i hlt
    have hr2 := hr
    rw [show 16 - i = (15 - i) + 1 by omega, lessF] at hr2
    by_cases e : at' v i = at' w i
    · rw [if_pos e] at hr2
      have hr3 : less v w = lessF v w (16 - (i + 1)) (i + 1) := by rw [hr2, show 16 - (i + 1) = 15 - i by omega]
      simp (disch := first | omega | decide) only [push_cast, ↓wF_free, ↓reduceIte, Nat.reduceEqDiff, Nat.reduceLT, Nat.reduceLeDiff, Nat.reduceAdd, Nat.reduceSub, Nat.reduceMul, Nat.reduceBEq, Int.reduceLT, Int.reduceLE, Int.reduceToNat, Int.reduceNeg, Int.reducePow, Int.reduceAdd, Int.reduceMul, Int.reduceSub, ↓Int.reduceNatCast', idxA_ptr, l1, l2, e, add_i]
      refine next_head (i + 1) (by exact ⟨by omega, hr3⟩) (by omega) ?_
      simp only [push_cast, ↓wF_free, ↓reduceIte, Nat.reduceEqDiff, Nat.reduceLT, Nat.reduceLeDiff, Nat.reduceAdd, Nat.reduceSub, Nat.reduceMul, Nat.reduceBEq, Int.reduceLT, Int.reduceLE, Int.reduceToNat, Int.reduceNeg, Int.reducePow, Int.reduceAdd, Int.reduceMul, Int.reduceSub, ↓Int.reduceNatCast'] <;> rfl
    · rw [if_neg e] at hr2
      simp (disch := first | omega | decide) only [push_cast, ↓wF_free, ↓reduceIte, Nat.reduceEqDiff, Nat.reduceLT, Nat.reduceLeDiff, Nat.reduceAdd, Nat.reduceSub, Nat.reduceMul, Nat.reduceBEq, Int.reduceLT, Int.reduceLE, Int.reduceToNat, Int.reduceNeg, Int.reducePow, Int.reduceAdd, Int.reduceMul, Int.reduceSub, ↓Int.reduceNatCast', idxA_ptr, l1, l2, e, hr2]
  · obtain rfl : i = 16 := by omega
    rw [Nat.sub_self, lessF] at hr
    simp (disch := first | omega | decide) only [push_cast, ↓wF_free, ↓reduceIte, Nat.reduceEqDiff, Nat.reduceLT, Nat.reduceLeDiff, Nat.reduceAdd, Nat.reduceSub, Nat.reduceMul, Nat.reduceBEq, Int.reduceLT, Int.reduceLE, Int.reduceToNat, Int.reduceNeg, Int.reducePow, Int.reduceAdd, Int.reduceMul, Int.reduceSub, ↓Int.reduceNatCast', hr]
theorem c_rless : Contract Try.prog GG 18 sp_rless :=
  contract_of tr_wagonpoolref19_Less (tb_ok all_nil all_nil) (fun a h => w_rless a.1 a.2 h)
def fewB (cl : List Cls) (l : List Tst) : Bool := decide (cl.length ≤ 70) && decide (l.length ≤ 40) && cl.all (fun c => decide (c.wh.length ≤ 40))
theorem few_max {cl : List Cls} {l : List Tst} (h : fewB cl l = true) : cl.length ≤ 70 ∧ l.length ≤ 40 ∧ ∀ c ∈ cl, c.wh.length ≤ 40 := by
  simp only [fewB, Bool.and_eq_true, decide_eq_true_eq, List.all_eq_true] at h
  exact ⟨h.1.1, h.1.2, h.2⟩
noncomputable def sp_few : List D → Option D := spOf (α := Tar × List Tst) (fun a => [tarD a.1, .slc (nz 3 (a.2.map tstD)) (a.2.map tstD) false]) (fun a => a.1.cl.length ≤ 9223372036854775807 ∧ a.2.length ≤ 9223372036854775807 ∧ ∀ c ∈ a.1.cl, c.wh.length ≤ 9223372036854775807) (fun a => .bool (fewB a.1.cl a.2))
theorem call_few (t : Tar) (l : List Tst) (h : t.cl.length ≤ 9223372036854775807 ∧ l.length ≤ 9223372036854775807 ∧ ∀ c ∈ t.cl, c.wh.length ≤ 9223372036854775807) : sp_few [tarD t, .slc (nz 3 (l.map tstD)) (l.map tstD) false] = some (.bool (fewB t.cl l)) :=
  spOf_enc (fun ⟨a0, a1⟩ ⟨b0, b1⟩ h => by simp only [List.cons.injEq, D.slc.injEq, D.int.injEq, D.bool.injEq, D.str.injEq, D.agg.injEq, digs_iff, dig_iff, digC_iff, bytes_iff, byte_iff, words_iff, word_iff, bsl_iff, true_and, and_true, ints_iff, nI_iff, tsts_iff, clss_iff, clsD_iff, tarD_iff, tstD_iff, ptD_iff, Int.ofNat_inj] at h; simp [h, Prod.ext_iff]) (t, l) h
set_option maxHeartbeats 4000000 in
set_option maxRecDepth 20000 in
theorem w_few (t : Tar) (l : List Tst) (h : t.cl.length ≤ 9223372036854775807 ∧ l.length ≤ 9223372036854775807 ∧ ∀ c ∈ t.cl, c.wh.length ≤ 9223372036854775807) : @wW GG (tb [] []) F_wagonpoollaw19_few.code (argF [tarD t, .slc (nz 3 (l.map tstD)) (l.map tstD) false]) [] ⟨retQ F_wagonpoollaw19_few.res (.bool (fewB t.cl l))⟩ := by
  obtain ⟨h1, h2, h3⟩ := h
  unfold F_wagonpoollaw19_few
  by_cases a1 : (70 : Int) < (t.cl.length : Int)
  · have e : fewB t.cl l = false := by unfold fewB; rw [decide_eq_false (by omega)]; rfl
    simp (disch := first | omega | decide) only [push_cast, ↓wF_free, ↓reduceIte, Nat.reduceEqDiff, Nat.reduceLT, Nat.reduceLeDiff, Nat.reduceAdd, Nat.reduceSub, Nat.reduceMul, Nat.reduceBEq, Int.reduceLT, Int.reduceLE, Int.reduceToNat, Int.reduceNeg, Int.reducePow, Int.reduceAdd, Int.reduceMul, Int.reduceSub, ↓Int.reduceNatCast', a1, e]
  · by_cases a2 : (40 : Int) < (l.length : Int)
    · have e : fewB t.cl l = false := by unfold fewB; rw [decide_eq_false (p := l.length ≤ 40) (by omega), Bool.and_false]; rfl
      simp (disch := first | omega | decide) only [push_cast, ↓wF_free, ↓reduceIte, Nat.reduceEqDiff, Nat.reduceLT, Nat.reduceLeDiff, Nat.reduceAdd, Nat.reduceSub, Nat.reduceMul, Nat.reduceBEq, Int.reduceLT, Int.reduceLE, Int.reduceToNat, Int.reduceNeg, Int.reducePow, Int.reduceAdd, Int.reduceMul, Int.reduceSub, ↓Int.reduceNatCast', a1, a2, e]
    · have e0 : fewB t.cl l = t.cl.all (fun c => decide (c.wh.length ≤ 40)) := by unfold fewB; rw [decide_eq_true (p := l.length ≤ 40) (by omega), decide_eq_true (by omega)]; simp
      simp (disch := first | omega | decide) only [push_cast, ↓wF_free, ↓reduceIte, Nat.reduceEqDiff, Nat.reduceLT, Nat.reduceLeDiff, Nat.reduceAdd, Nat.reduceSub, Nat.reduceMul, Nat.reduceBEq, Int.reduceLT, Int.reduceLE, Int.reduceToNat, Int.reduceNeg, Int.reducePow, Int.reduceAdd, Int.reduceMul, Int.reduceSub, ↓Int.reduceNatCast', a1, a2]
      refine W_while (fun i : Nat => [(2, .ptr 0 0), (5, .int .i64 (i : Int))]) (fun i => [⟨false, 1, tarC t, false⟩]) (fun i => i ≤ t.cl.length ∧ ∀ j, j < i → (t.cl.getD j default).wh.length ≤ 40) (fun i => t.cl.length - i) 0 (by simp only [push_cast, ↓wF_free, ↓reduceIte, Nat.reduceEqDiff, Nat.reduceLT, Nat.reduceLeDiff, Nat.reduceAdd, Nat.reduceSub, Nat.reduceMul, Nat.reduceBEq, Int.reduceLT, Int.reduceLE, Int.reduceToNat, Int.reduceNeg, Int.reducePow, Int.reduceAdd, Int.reduceMul, Int.reduceSub, ↓Int.reduceNatCast'] <;> rfl) ⟨Nat.zero_le _, fun j hj => absurd hj (Nat.not_lt_zero _)⟩ ?_
      rintro i ⟨hi, hp⟩
      unfold F_wagonpoollaw19_few_L0
      simp (disch := first | omega | decide) only [push_cast, ↓wF_free, ↓reduceIte, Nat.reduceEqDiff, Nat.reduceLT, Nat.reduceLeDiff, Nat.reduceAdd, Nat.reduceSub, Nat.reduceMul, Nat.reduceBEq, Int.reduceLT, Int.reduceLE, Int.reduceToNat, Int.reduceNeg, Int.reducePow, Int.reduceAdd, Int.reduceMul, Int.reduceSub, ↓Int.reduceNatCast']
      refine ifD_split (fun h2 => ?_) (fun h2 => ?_)
      · have hlt : i < t.cl.length := by omega
        have hix := fun st => idxS_nz st 9 clsD t.cl false .i64 (i : Int) (by omega) (by omega)
        rw [Int.toNat_natCast] at hix
        have hm := h3 _ (getD_memC hlt)
        simp (disch := first | omega | decide) only [push_cast, ↓wF_free, ↓reduceIte, Nat.reduceEqDiff, Nat.reduceLT, Nat.reduceLeDiff, Nat.reduceAdd, Nat.reduceSub, Nat.reduceMul, Nat.reduceBEq, Int.reduceLT, Int.reduceLE, Int.reduceToNat, Int.reduceNeg, Int.reducePow, Int.reduceAdd, Int.reduceMul, Int.reduceSub, ↓Int.reduceNatCast', hix]
        refine ifD_split (fun h4 => ?_) (fun h4 => ?_)
        · have e : fewB t.cl l = false := by
            rw [e0]
            refine Bool.eq_false_iff.2 fun hc => ?_
            have := List.all_eq_true.1 hc _ (getD_memC hlt)
            have := of_decide_eq_true this
            omega
          simp (disch := first | omega | decide) only [push_cast, ↓wF_free, ↓reduceIte, Nat.reduceEqDiff, Nat.reduceLT, Nat.reduceLeDiff, Nat.reduceAdd, Nat.reduceSub, Nat.reduceMul, Nat.reduceBEq, Int.reduceLT, Int.reduceLE, Int.reduceToNat, Int.reduceNeg, Int.reducePow, Int.reduceAdd, Int.reduceMul, Int.reduceSub, ↓Int.reduceNatCast', e]
        · simp (disch := first | omega | decide) only [push_cast, ↓wF_free, ↓reduceIte, Nat.reduceEqDiff, Nat.reduceLT, Nat.reduceLeDiff, Nat.reduceAdd, Nat.reduceSub, Nat.reduceMul, Nat.reduceBEq, Int.reduceLT, Int.reduceLE, Int.reduceToNat, Int.reduceNeg, Int.reducePow, Int.reduceAdd, Int.reduceMul, Int.reduceSub, ↓Int.reduceNatCast', add_i]
          have hp2 : ∀ j, j < i + 1 → (t.cl.getD j default).wh.length ≤ 40 := fun j hj => by
            rcases Nat.lt_or_ge j i with h5 | h5
            · exact hp j h5
            · obtain rfl : j = i := by omega
              omega
          refine next_head (i + 1) (by exact ⟨by omega, hp2⟩) (by omega) ?_
          simp only [push_cast, ↓wF_free, ↓reduceIte, Nat.reduceEqDiff, Nat.reduceLT, Nat.reduceLeDiff, Nat.reduceAdd, Nat.reduceSub, Nat.reduceMul, Nat.reduceBEq, Int.reduceLT, Int.reduceLE, Int.reduceToNat, Int.reduceNeg, Int.reducePow, Int.reduceAdd, Int.reduceMul, Int.reduceSub, ↓Int.reduceNatCast'] <;> rfl
      · obtain rfl : i = t.cl.length := by omega
        have e : fewB t.cl l = true := by
          rw [e0]
          refine List.all_eq_true.2 fun c hc => decide_eq_true ?_
          obtain ⟨j, hj, rfl⟩ := List.mem_iff_getElem.1 hc
          have := hp j hj
          rwa [List.getD_eq_getElem?_getD, List.getElem?_eq_getElem hj] at this
        simp (disch := first | omega | decide) only [push_cast, ↓wF_free, ↓reduceIte, Nat.reduceEqDiff, Nat.reduceLT, Nat.reduceLeDiff, Nat.reduceAdd, Nat.reduceSub, Nat.reduceMul, Nat.reduceBEq, Int.reduceLT, Int.reduceLE, Int.reduceToNat, Int.reduceNeg, Int.reducePow, Int.reduceAdd, Int.reduceMul, Int.reduceSub, ↓Int.reduceNatCast', e]
theorem c_few : Contract Try.prog GG 15 sp_few :=
  contract_of tr_wagonpoollaw19_few (tb_ok all_nil all_nil) (fun a h => w_few a.1 a.2 h)
def clsR (s : List UInt8) (l : List Tst) : List D := [.str s, .slc (nz 3 (l.map tstD)) (l.map tstD) false, .int .i64 0, .int .i64 0, .int .i64 0, .int .i64 0, .int .i64 0, .int .i64 0, .slc 0 [] true]
def clsN (s : List UInt8) (l : List Tst) : Cls := ⟨s, l, 0, 0, 0, 0, 0, 0, []⟩
theorem fill_cls (s : List UInt8) (l : List Tst) : fillD [.str [], .slc 0 [] true, .int .i64 0, .int .i64 0, .int .i64 0, .int .i64 0, .int .i64 0, .int .i64 0, .slc 0 [] true] [(0, 1, .str s), (1, 1, .slc (nz 3 (l.map tstD)) (l.map tstD) false)] = some (clsR s l) := (rfl)
theorem fill_cls1 (l : List Tst) : fillD [.str [], .slc 0 [] true, .int .i64 0, .int .i64 0, .int .i64 0, .int .i64 0, .int .i64 0, .int .i64 0, .slc 0 [] true] [(1, 1, .slc (nz 3 (l.map tstD)) (l.map tstD) false)] = some (clsR [] l) := (rfl)
theorem st_clsR (sz : Nat) (s : List UInt8) (l : List Tst) : stO (some ⟨false, sz, cls0, false⟩) 9 0 (.agg (clsR s l)) = some ⟨false, sz, clsR s l, false⟩ := stO_all sz _ _ 9 rfl rfl rfl
theorem ld_clsR (sz : Nat) (lent : Bool) (s : List UInt8) (l : List Tst) : ldO (some ⟨false, sz, clsR s l, lent⟩) 9 true 0 = some (.agg (clsR s l)) := ldO_all sz lent _ 9 rfl
theorem imm_clsR (st : St) (s : List UInt8) (l : List Tst) : immL st (clsR s l) = some (clsC (clsN s l)) := by
  simp only [clsR, immL, imm1, D.pure1, if_true, nz_nz, clsC, clsN]
  rfl
theorem fill_tar (l : List Cls) : fillD [.str [], .int .i64 0, .slc 0 [] true] [(2, 1, .slc (nz 9 (l.map clsD)) (l.map clsD) false)] = some (tarC ⟨[], 0, l⟩) := (rfl)
def tar0 : List D := [.str [], .int .i64 0, .slc 0 [] true]
theorem zero_tar : boxD (.agg [.str [], .int .i64 0, .slc 0 [] true]) = some tar0 := (rfl)
theorem st_tar0 (sz : Nat) (t : Tar) : stO (some ⟨false, sz, tar0, false⟩) 3 0 (tarD t) = some ⟨false, sz, tarC t, false⟩ := stO_all sz _ _ 3 rfl rfl (tarC_cell t)
theorem tarD_eq (t : Tar) : D.agg (tarC t) = tarD t := (rfl)
theorem clsD_eq (c : Cls) : D.agg (clsC c) = clsD c := (rfl)
theorem fill_tst (a b : Int) : fillD [.int .i64 0, .int .i64 0, .int .i64 0] [(0, 1, .int .i64 4), (1, 1, .int .i64 a), (2, 1, .int .i64 b)] = some [.int .i64 4, .int .i64 a, .int .i64 b] := (rfl)
theorem tst_eq3 (a b c : Int) : D.agg [.int .i64 a, .int .i64 b, .int .i64 c] = tstD ⟨a, b, c⟩ := (rfl)
theorem zero_tst : boxD (tstD ⟨0, 0, 0⟩) = some [.int .i64 0, .int .i64 0, .int .i64 0] := (rfl)
attribute [push_cast] fill_cls fill_cls1 st_clsR ld_clsR imm_clsR fill_tar zero_tar st_tar0 tarD_eq clsD_eq fill_tst tst_eq3 zero_tst
noncomputable def sp_mkcls : List D → Option D := spOf (α := List Tst) (fun a => [.slc (nz 3 (a.map tstD)) (a.map tstD) false]) (fun a => True) (fun a => clsD (clsN [97] a))
theorem call_mkcls (l : List Tst) : sp_mkcls [.slc (nz 3 (l.map tstD)) (l.map tstD) false] = some (clsD (clsN [97] l)) :=
  spOf_enc (fun a b h => by simp only [List.cons.injEq, D.slc.injEq, D.int.injEq, D.bool.injEq, D.str.injEq, D.agg.injEq, digs_iff, dig_iff, digC_iff, bytes_iff, byte_iff, words_iff, word_iff, bsl_iff, true_and, and_true, ints_iff, nI_iff, tsts_iff, clss_iff, clsD_iff, tarD_iff, tstD_iff, ptD_iff, Int.ofNat_inj] at h; simp [h, Prod.ext_iff]) (l) trivial
set_option maxHeartbeats 4000000 in
set_option maxRecDepth 20000 in
theorem w_mkcls (l : List Tst) : @wW GG (tb [] []) F_wagonpoollaw19_clause.code (argF [.slc (nz 3 (l.map tstD)) (l.map tstD) false]) [] ⟨retQ F_wagonpoollaw19_clause.res (clsD (clsN [97] l))⟩ := by
  unfold F_wagonpoollaw19_clause
  simp (disch := first | omega | decide) only [push_cast, ↓wF_free, ↓reduceIte, Nat.reduceEqDiff, Nat.reduceLT, Nat.reduceLeDiff, Nat.reduceAdd, Nat.reduceSub, Nat.reduceMul, Nat.reduceBEq, Int.reduceLT, Int.reduceLE, Int.reduceToNat, Int.reduceNeg, Int.reducePow, Int.reduceAdd, Int.reduceMul, Int.reduceSub, ↓Int.reduceNatCast']
theorem c_mkcls : Contract Try.prog GG 27 sp_mkcls :=
  contract_of tr_wagonpoollaw19_clause (tb_ok all_nil all_nil) (fun a h => w_mkcls a)
noncomputable def sp_mktar : List D → Option D := spOf (α := List Cls) (fun a => [.slc (nz 9 (a.map clsD)) (a.map clsD) false]) (fun a => True) (fun a => tarD ⟨[], 0, a⟩)
theorem call_mktar (l : List Cls) : sp_mktar [.slc (nz 9 (l.map clsD)) (l.map clsD) false] = some (tarD ⟨[], 0, l⟩) :=
  spOf_enc (fun a b h => by simp only [List.cons.injEq, D.slc.injEq, D.int.injEq, D.bool.injEq, D.str.injEq, D.agg.injEq, digs_iff, dig_iff, digC_iff, bytes_iff, byte_iff, words_iff, word_iff, bsl_iff, true_and, and_true, ints_iff, nI_iff, tsts_iff, clss_iff, clsD_iff, tarD_iff, tstD_iff, ptD_iff, Int.ofNat_inj] at h; simp [h, Prod.ext_iff]) (l) trivial
set_option maxHeartbeats 4000000 in
set_option maxRecDepth 20000 in
theorem w_mktar (l : List Cls) : @wW GG (tb [] []) F_wagonpoollaw19_tariff.code (argF [.slc (nz 9 (l.map clsD)) (l.map clsD) false]) [] ⟨retQ F_wagonpoollaw19_tariff.res (tarD ⟨[], 0, l⟩)⟩ := by
  unfold F_wagonpoollaw19_tariff
  simp (disch := first | omega | decide) only [push_cast, ↓wF_free, ↓reduceIte, Nat.reduceEqDiff, Nat.reduceLT, Nat.reduceLeDiff, Nat.reduceAdd, Nat.reduceSub, Nat.reduceMul, Nat.reduceBEq, Int.reduceLT, Int.reduceLE, Int.reduceToNat, Int.reduceNeg, Int.reducePow, Int.reduceAdd, Int.reduceMul, Int.reduceSub, ↓Int.reduceNatCast']
theorem c_mktar : Contract Try.prog GG 16 sp_mktar :=
  contract_of tr_wagonpoollaw19_tariff (tb_ok all_nil all_nil) (fun a h => w_mktar a)
noncomputable def sp_mktst : List D → Option D := spOf (α := Int × Int) (fun a => [.int .i64 a.1, .int .i64 a.2]) (fun a => True) (fun a => tstD ⟨4, a.1, a.2⟩)
theorem call_mktst (a : Int) (b : Int) : sp_mktst [.int .i64 a, .int .i64 b] = some (tstD ⟨4, a, b⟩) :=
  spOf_enc (fun ⟨a0, a1⟩ ⟨b0, b1⟩ h => by simp only [List.cons.injEq, D.slc.injEq, D.int.injEq, D.bool.injEq, D.str.injEq, D.agg.injEq, digs_iff, dig_iff, digC_iff, bytes_iff, byte_iff, words_iff, word_iff, bsl_iff, true_and, and_true, ints_iff, nI_iff, tsts_iff, clss_iff, clsD_iff, tarD_iff, tstD_iff, ptD_iff, Int.ofNat_inj] at h; simp [h, Prod.ext_iff]) (a, b) trivial
set_option maxHeartbeats 4000000 in
set_option maxRecDepth 20000 in
theorem w_mktst (a : Int) (b : Int) : @wW GG (tb [] []) F_wagonpoollaw19_class.code (argF [.int .i64 a, .int .i64 b]) [] ⟨retQ F_wagonpoollaw19_class.res (tstD ⟨4, a, b⟩)⟩ := by
  unfold F_wagonpoollaw19_class
  simp (disch := first | omega | decide) only [push_cast, ↓wF_free, ↓reduceIte, Nat.reduceEqDiff, Nat.reduceLT, Nat.reduceLeDiff, Nat.reduceAdd, Nat.reduceSub, Nat.reduceMul, Nat.reduceBEq, Int.reduceLT, Int.reduceLE, Int.reduceToNat, Int.reduceNeg, Int.reducePow, Int.reduceAdd, Int.reduceMul, Int.reduceSub, ↓Int.reduceNatCast']
theorem c_mktst : Contract Try.prog GG 28 sp_mktst :=
  contract_of tr_wagonpoollaw19_class (tb_ok all_nil all_nil) (fun a h => w_mktst a.1 a.2)
end Go.Proofs.Ytgppecaeegaooaa.PI
