/-
  tbox and teval: a clause's tests all hold exactly if the case lies in its box; overlaps.
  Conditions: none.
-/
import Derived.Test.YtgppecaeegaooaaTbV
namespace Go.Proofs.Ytgppecaeegaooaa.PI
open Go
set_option linter.unusedSimpArgs false
set_option linter.unusedVariables false
def caseN (v : List Int) : Nat → Bool
  | 0 => true
  | n + 1 => caseN v n && (decide (0 ≤ at' v n) && decide (at' v n ≤ 9007199254740992))
def caseB (h : Int) (v : List Int) : Bool := caseN v 16 && decide (h = 65535)
theorem caseN_iff (v : List Int) : ∀ n, caseN v n = true ↔ ∀ i, i < n → 0 ≤ at' v i ∧ at' v i ≤ 9007199254740992
  | 0 => by simp [caseN]
  | n + 1 => by
    simp only [caseN, Bool.and_eq_true, decide_eq_true_eq, caseN_iff v n]
    constructor
    · rintro ⟨h1, h2⟩ i hi
      rcases Nat.lt_or_ge i n with h | h
      · exact h1 i h
      · obtain rfl : i = n := by omega
        exact h2
    · exact fun h => ⟨fun i hi => h i (by omega), h n (by omega)⟩
theorem caseB_spec {h : Int} {v : List Int} (hl : v.length = 16) (hb : caseB h v = true) : h = 65535 ∧ caseV v := by
  simp only [caseB, Bool.and_eq_true, decide_eq_true_eq, caseN_iff] at hb
  exact ⟨hb.2, hl, hb.1⟩
theorem caseB_of {v : List Int} (h : caseV v) : caseB 65535 v = true := by
  simp only [caseB, Bool.and_eq_true, decide_eq_true_eq, caseN_iff]
  exact ⟨h.2, trivial⟩
def covN (b : Bx) (v : List Int) : Nat → Bool
  | 0 => true
  | n + 1 => covN b v n && (decide (at' b.lo n ≤ at' v n) && decide (at' v n ≤ at' b.hi n))
def covQ (b : Bx) (v : List Int) : Bool := covN b v 16
theorem covN_iff (b : Bx) (v : List Int) : ∀ n, covN b v n = true ↔ ∀ i, i < n → at' b.lo i ≤ at' v i ∧ at' v i ≤ at' b.hi i
  | 0 => by simp [covN]
  | n + 1 => by
    simp only [covN, Bool.and_eq_true, decide_eq_true_eq, covN_iff b v n]
    constructor
    · rintro ⟨h1, h2⟩ i hi
      rcases Nat.lt_or_ge i n with h | h
      · exact h1 i h
      · obtain rfl : i = n := by omega
        exact h2
    · exact fun h => ⟨fun i hi => h i (by omega), h n (by omega)⟩
theorem covQ_iff (b : Bx) (v : List Int) : covQ b v = true ↔ cov 0 b v := by
  simp only [covQ, covN_iff, cov]
  exact ⟨fun h i _ hi => h i hi, fun h i hi => h i (Nat.zero_le _) hi⟩
def inT (v : List Int) (t : Tst) : Prop := okA t ∧ t.lo ≤ at' v t.a.toNat ∧ at' v t.a.toNat ≤ t.hi
theorem holds_iff (v : List Int) : ∀ l : List Tst, (holdsF v l).1 = true ↔ ∀ t ∈ l, inT v t
  | [] => by simp [holdsF]
  | t :: l => by
    simp only [holdsF, List.forall_mem_cons, inT, okA]
    split
    · exact ⟨fun h => (by cases h), fun h => by have := h.1; omega⟩
    · split
      · exact ⟨fun h => (by cases h), fun h => by have := h.1; omega⟩
      · rw [holds_iff v l]
        simp only [inT, okA]
        constructor
        · exact fun h => ⟨by omega, h⟩
        · exact fun h => h.2
theorem holds_two (v : List Int) : ∀ l : List Tst, ((holdsF v l).1 = true → (holdsF v l).2 = 0) ∧ ((holdsF v l).2 = 0 ∨ (holdsF v l).2 = 1)
  | [] => by simp [holdsF]
  | t :: l => by
    simp only [holdsF]
    split
    · simp
    · split
      · simp
      · exact holds_two v l
theorem run_cov {v : List Int} : ∀ {l : List Tst} {b c : Bx}, b.ok → runT b l = some c → (cov 0 c v ↔ cov 0 b v ∧ ∀ t ∈ l, inT v t)
  | [], b, c, hb, h => by
    simp only [runT, Option.some.injEq] at h
    subst h
    simp
  | t :: l, b, c, hb, h => by
    simp only [runT] at h
    split at h
    case isFalse => cases h
    rename_i ht
    rw [run_cov (cutB_ok hb t) h]
    simp only [List.forall_mem_cons]
    have key : cov 0 (cutB b t) v ↔ cov 0 b v ∧ inT v t := by
      have hh := ht
      unfold okA at hh
      constructor
      · intro hc
        refine ⟨fun i h0 hi => ?_, ht, ?_⟩
        · have := hc i h0 hi
          rw [cutB_lo hb ht, cutB_hi hb ht] at this
          split at this
          · omega
          · exact this
        · have := hc t.a.toNat (Nat.zero_le _) (by omega)
          rw [cutB_lo hb ht, cutB_hi hb ht, if_pos rfl, if_pos rfl] at this
          omega
      · rintro ⟨h1, _, h2, h3⟩ i h0 hi
        have := h1 i h0 hi
        rw [cutB_lo hb ht, cutB_hi hb ht]
        split
        · rename_i e
          subst e
          omega
        · exact this
    rw [key, and_assoc]
theorem run_okA : ∀ {l : List Tst} (b : Bx), (∀ t ∈ l, okA t) → ∃ c, runT b l = some c
  | [], b, _ => ⟨b, rfl⟩
  | t :: l, b, h => by
    simp only [runT]
    rw [if_pos (h t (by simp))]
    exact run_okA _ fun x hx => h x (by simp [hx])
theorem cov_all {v : List Int} (hv : caseV v) : cov 0 allB v := by
  intro i _ hi
  have := hv.2 i hi
  have e1 : at' allB.lo i = 0 := at_rep 16 0 i hi
  have e2 : at' allB.hi i = 9007199254740992 := at_rep 16 _ i hi
  omega
theorem cov_some {b : Bx} {v : List Int} (h : cov 0 b v) : someB b = true := (someB_iff b).2 fun i hi => by have := h i (Nat.zero_le _) hi; omega
theorem box_holds {v : List Int} (hv : caseV v) (l : List Tst) : (holdsF v l).1 = true ↔ (ofB l).2 = true ∧ cov 0 (ofB l).1 v := by
  rw [holds_iff]
  constructor
  · intro h
    obtain ⟨c, hc⟩ := run_okA (l := l) allB fun t ht => (h t ht).1
    have hcv := (run_cov allB_ok hc).2 ⟨cov_all hv, h⟩
    rw [ofB_some hc, if_pos (cov_some hcv)]
    exact ⟨rfl, hcv⟩
  · rintro ⟨h1, h2⟩
    cases hr : runT allB l with
    | none => rw [ofB_none hr] at h1; cases h1
    | some c =>
      rw [ofB_some hr] at h1 h2
      split at h1
      · rename_i hs
        rw [if_pos hs] at h2
        exact ((run_cov allB_ok hr).1 h2).2
      · cases h1
theorem of_none (l : List Tst) (h : (ofB l).2 = false) : (ofB l).1 = zBx := by
  cases hr : runT allB l with
  | none => rw [ofB_none hr]
  | some c =>
    rw [ofB_some hr] at h ⊢
    split
    · rename_i hs; rw [if_pos hs] at h; cases h
    · rfl
noncomputable def sp_isc : List D → Option D := spOf (α := (Int × List Int)) (fun a => [envD (Prod.fst a) (Prod.snd a)]) (fun a => a.2.length = 16) (fun a => .bool (caseB a.1 a.2))
theorem call_isc (v : Int × List Int) (h : v.2.length = 16) : sp_isc [envD (Prod.fst v) (Prod.snd v)] = some (.bool (caseB v.1 v.2)) :=
  spOf_enc (fun a b h => by simp only [List.cons.injEq, D.slc.injEq, D.int.injEq, D.bool.injEq, D.str.injEq, D.agg.injEq, digs_iff, dig_iff, digC_iff, bytes_iff, byte_iff, words_iff, word_iff, bsl_iff, true_and, and_true, ints_iff, nI_iff, tsts_iff, clss_iff, clsD_iff, tarD_iff, tstD_iff, ptD_iff, Int.ofNat_inj, env_iff] at h; simp [h, Prod.ext_iff]) (v) h
set_option maxHeartbeats 4000000 in
set_option maxRecDepth 20000 in
theorem w_isc (v : Int × List Int) (h : v.2.length = 16) : @wW GG (tb [] []) F_wagonpoolref19_IsCase.code (argF [envD (Prod.fst v) (Prod.snd v)]) [] ⟨retQ F_wagonpoolref19_IsCase.res (.bool (caseB v.1 v.2))⟩ := by
  obtain ⟨k, v⟩ := v
  dsimp only at h ⊢
  unfold F_wagonpoolref19_IsCase
  simp (disch := first | omega | decide) only [push_cast, ↓wF_free, ↓reduceIte, Nat.reduceEqDiff, Nat.reduceLT, Nat.reduceLeDiff, Nat.reduceAdd, Nat.reduceSub, Nat.reduceMul, Nat.reduceBEq, Int.reduceLT, Int.reduceLE, Int.reduceToNat, Int.reduceNeg, Int.reducePow, Int.reduceAdd, Int.reduceMul, Int.reduceSub, ↓Int.reduceNatCast']
  refine W_while (fun i : Nat => [(1, .ptr 0 0), (3, .int .i64 (i : Int))]) (fun i => [⟨false, 1, envC k v, false⟩]) (fun i => i ≤ 16 ∧ caseN v i = true) (fun i => 16 - i) 0 (by simp only [push_cast, ↓wF_free, ↓reduceIte, Nat.reduceEqDiff, Nat.reduceLT, Nat.reduceLeDiff, Nat.reduceAdd, Nat.reduceSub, Nat.reduceMul, Nat.reduceBEq, Int.reduceLT, Int.reduceLE, Int.reduceToNat, Int.reduceNeg, Int.reducePow, Int.reduceAdd, Int.reduceMul, Int.reduceSub, ↓Int.reduceNatCast'] <;> rfl) ⟨Nat.zero_le _, rfl⟩ ?_
  rintro i ⟨hi, hr⟩
  unfold F_wagonpoolref19_IsCase_L0
  simp (disch := first | omega | decide) only [push_cast, ↓wF_free, ↓reduceIte, Nat.reduceEqDiff, Nat.reduceLT, Nat.reduceLeDiff, Nat.reduceAdd, Nat.reduceSub, Nat.reduceMul, Nat.reduceBEq, Int.reduceLT, Int.reduceLE, Int.reduceToNat, Int.reduceNeg, Int.reducePow, Int.reduceAdd, Int.reduceMul, Int.reduceSub, ↓Int.reduceNatCast']
  refine ifD_split (fun h2 => ?_) (fun h2 => ?_)
  · have hlt : i < 16 := by omega
    have l1 := ldEv 1 false k v h i hlt
    by_cases e1 : at' v i < 0
    · have e : caseB k v = false := by
        cases hc : caseB k v with
        | false => rfl
        | true => have := (caseB_spec h hc).2.2 i hlt; omega
      simp (disch := first | omega | decide) only [push_cast, ↓wF_free, ↓reduceIte, Nat.reduceEqDiff, Nat.reduceLT, Nat.reduceLeDiff, Nat.reduceAdd, Nat.reduceSub, Nat.reduceMul, Nat.reduceBEq, Int.reduceLT, Int.reduceLE, Int.reduceToNat, Int.reduceNeg, Int.reducePow, Int.reduceAdd, Int.reduceMul, Int.reduceSub, ↓Int.reduceNatCast', idxA_ptr, l1, e1, e]
    · by_cases e2 : 9007199254740992 < at' v i
      · have e : caseB k v = false := by
          cases hc : caseB k v with
          | false => rfl
          | true => have := (caseB_spec h hc).2.2 i hlt; omega
        simp (disch := first | omega | decide) only [push_cast, ↓wF_free, ↓reduceIte, Nat.reduceEqDiff, Nat.reduceLT, Nat.reduceLeDiff, Nat.reduceAdd, Nat.reduceSub, Nat.reduceMul, Nat.reduceBEq, Int.reduceLT, Int.reduceLE, Int.reduceToNat, Int.reduceNeg, Int.reducePow, Int.reduceAdd, Int.reduceMul, Int.reduceSub, ↓Int.reduceNatCast', idxA_ptr, l1, e1, e2, e]
      · have hn : caseN v (i + 1) = true := by
          simp only [caseN, hr, Bool.true_and, Bool.and_eq_true, decide_eq_true_eq]
          omega
        simp (disch := first | omega | decide) only [push_cast, ↓wF_free, ↓reduceIte, Nat.reduceEqDiff, Nat.reduceLT, Nat.reduceLeDiff, Nat.reduceAdd, Nat.reduceSub, Nat.reduceMul, Nat.reduceBEq, Int.reduceLT, Int.reduceLE, Int.reduceToNat, Int.reduceNeg, Int.reducePow, Int.reduceAdd, Int.reduceMul, Int.reduceSub, ↓Int.reduceNatCast', idxA_ptr, l1, e1, e2, add_i]
        refine next_head (i + 1) (by exact ⟨by omega, hn⟩) (by omega) ?_
        simp only [push_cast, ↓wF_free, ↓reduceIte, Nat.reduceEqDiff, Nat.reduceLT, Nat.reduceLeDiff, Nat.reduceAdd, Nat.reduceSub, Nat.reduceMul, Nat.reduceBEq, Int.reduceLT, Int.reduceLE, Int.reduceToNat, Int.reduceNeg, Int.reducePow, Int.reduceAdd, Int.reduceMul, Int.reduceSub, ↓Int.reduceNatCast'] <;> rfl
  · obtain rfl : i = 16 := by omega
    have e : caseB k v = decide (k = 65535) := by unfold caseB; rw [hr, Bool.true_and]
    have l0 : ldO (some ⟨false, 1, envC k v, false⟩) 1 false 0 = some (.int .i64 k) := (rfl)
    simp (disch := first | omega | decide) only [push_cast, ↓wF_free, ↓reduceIte, Nat.reduceEqDiff, Nat.reduceLT, Nat.reduceLeDiff, Nat.reduceAdd, Nat.reduceSub, Nat.reduceMul, Nat.reduceBEq, Int.reduceLT, Int.reduceLE, Int.reduceToNat, Int.reduceNeg, Int.reducePow, Int.reduceAdd, Int.reduceMul, Int.reduceSub, ↓Int.reduceNatCast', l0, e]
theorem c_isc : Contract Try.prog GG 11 sp_isc :=
  contract_of tr_wagonpoolref19_IsCase (tb_ok all_nil all_nil) (fun a h => w_isc a h)
noncomputable def sp_cont : List D → Option D := spOf (α := Bx × (Int × List Int)) (fun a => [bxD a.1, envD (Prod.fst a.2) (Prod.snd a.2)]) (fun a => a.1.ok ∧ a.2.2.length = 16) (fun a => .bool (covQ a.1 a.2.2))
theorem call_cont (b : Bx) (v : Int × List Int) (h : b.ok ∧ v.2.length = 16) : sp_cont [bxD b, envD (Prod.fst v) (Prod.snd v)] = some (.bool (covQ b v.2)) :=
  spOf_encP (fun ⟨a0, a1⟩ ⟨b0, b1⟩ p q h => by dsimp only at p q h; simp only [List.cons.injEq, D.slc.injEq, D.int.injEq, D.bool.injEq, D.str.injEq, D.agg.injEq, digs_iff, dig_iff, digC_iff, bytes_iff, byte_iff, words_iff, word_iff, bsl_iff, true_and, and_true, ints_iff, nI_iff, tsts_iff, clss_iff, clsD_iff, tarD_iff, tstD_iff, ptD_iff, Int.ofNat_inj, env_iff, bxD_cond, boxs_cond, p, q] at h; simp [h, Prod.ext_iff]) (b, v) h
set_option maxHeartbeats 4000000 in
set_option maxRecDepth 20000 in
theorem w_cont (b : Bx) (v : Int × List Int) (h : b.ok ∧ v.2.length = 16) : @wW GG (tb [] []) F_wagonpoolref19_Contains.code (argF [bxD b, envD (Prod.fst v) (Prod.snd v)]) [] ⟨retQ F_wagonpoolref19_Contains.res (.bool (covQ b v.2))⟩ := by
  obtain ⟨k, v⟩ := v
  obtain ⟨hb, h⟩ := h
  dsimp only at h ⊢
  unfold F_wagonpoolref19_Contains
  simp (disch := first | omega | decide) only [push_cast, ↓wF_free, ↓reduceIte, Nat.reduceEqDiff, Nat.reduceLT, Nat.reduceLeDiff, Nat.reduceAdd, Nat.reduceSub, Nat.reduceMul, Nat.reduceBEq, Int.reduceLT, Int.reduceLE, Int.reduceToNat, Int.reduceNeg, Int.reducePow, Int.reduceAdd, Int.reduceMul, Int.reduceSub, ↓Int.reduceNatCast']
  refine W_while (fun i : Nat => [(2, .ptr 0 0), (3, .ptr 1 0), (5, .int .i64 (i : Int))]) (fun i => [⟨false, 1, bxC b, false⟩, ⟨false, 1, envC k v, false⟩]) (fun i => i ≤ 16 ∧ covN b v i = true) (fun i => 16 - i) 0 (by simp only [push_cast, ↓wF_free, ↓reduceIte, Nat.reduceEqDiff, Nat.reduceLT, Nat.reduceLeDiff, Nat.reduceAdd, Nat.reduceSub, Nat.reduceMul, Nat.reduceBEq, Int.reduceLT, Int.reduceLE, Int.reduceToNat, Int.reduceNeg, Int.reducePow, Int.reduceAdd, Int.reduceMul, Int.reduceSub, ↓Int.reduceNatCast'] <;> rfl) ⟨Nat.zero_le _, rfl⟩ ?_
  rintro i ⟨hi, hr⟩
  unfold F_wagonpoolref19_Contains_L0
  simp (disch := first | omega | decide) only [push_cast, ↓wF_free, ↓reduceIte, Nat.reduceEqDiff, Nat.reduceLT, Nat.reduceLeDiff, Nat.reduceAdd, Nat.reduceSub, Nat.reduceMul, Nat.reduceBEq, Int.reduceLT, Int.reduceLE, Int.reduceToNat, Int.reduceNeg, Int.reducePow, Int.reduceAdd, Int.reduceMul, Int.reduceSub, ↓Int.reduceNatCast']
  refine ifD_split (fun h2 => ?_) (fun h2 => ?_)
  · have hlt : i < 16 := by omega
    have l1 := ldEv 1 false k v h i hlt
    have l2 := ldB_lo 1 false hb i hlt
    have l3 := ldB_hi 1 false hb i hlt
    by_cases e1 : at' v i < at' b.lo i
    · have e : covQ b v = false := by
        cases hc : covQ b v with
        | false => rfl
        | true => have := (covQ_iff b v).1 hc i (Nat.zero_le _) hlt; omega
      simp (disch := first | omega | decide) only [push_cast, ↓wF_free, ↓reduceIte, Nat.reduceEqDiff, Nat.reduceLT, Nat.reduceLeDiff, Nat.reduceAdd, Nat.reduceSub, Nat.reduceMul, Nat.reduceBEq, Int.reduceLT, Int.reduceLE, Int.reduceToNat, Int.reduceNeg, Int.reducePow, Int.reduceAdd, Int.reduceMul, Int.reduceSub, ↓Int.reduceNatCast', idxA_ptr, l1, l2, l3, e1, e]
    · by_cases e2 : at' b.hi i < at' v i
      · have e : covQ b v = false := by
          cases hc : covQ b v with
          | false => rfl
          | true => have := (covQ_iff b v).1 hc i (Nat.zero_le _) hlt; omega
        simp (disch := first | omega | decide) only [push_cast, ↓wF_free, ↓reduceIte, Nat.reduceEqDiff, Nat.reduceLT, Nat.reduceLeDiff, Nat.reduceAdd, Nat.reduceSub, Nat.reduceMul, Nat.reduceBEq, Int.reduceLT, Int.reduceLE, Int.reduceToNat, Int.reduceNeg, Int.reducePow, Int.reduceAdd, Int.reduceMul, Int.reduceSub, ↓Int.reduceNatCast', idxA_ptr, l1, l2, l3, e1, e2, e]
      · have hn : covN b v (i + 1) = true := by
          simp only [covN, hr, Bool.true_and, Bool.and_eq_true, decide_eq_true_eq]
          omega
        simp (disch := first | omega | decide) only [push_cast, ↓wF_free, ↓reduceIte, Nat.reduceEqDiff, Nat.reduceLT, Nat.reduceLeDiff, Nat.reduceAdd, Nat.reduceSub, Nat.reduceMul, Nat.reduceBEq, Int.reduceLT, Int.reduceLE, Int.reduceToNat, Int.reduceNeg, Int.reducePow, Int.reduceAdd, Int.reduceMul, Int.reduceSub, ↓Int.reduceNatCast', idxA_ptr, l1, l2, l3, e1, e2, add_i]
        refine next_head (i + 1) (by exact ⟨by omega, hn⟩) (by omega) ?_
        simp only [push_cast, ↓wF_free, ↓reduceIte, Nat.reduceEqDiff, Nat.reduceLT, Nat.reduceLeDiff, Nat.reduceAdd, Nat.reduceSub, Nat.reduceMul, Nat.reduceBEq, Int.reduceLT, Int.reduceLE, Int.reduceToNat, Int.reduceNeg, Int.reducePow, Int.reduceAdd, Int.reduceMul, Int.reduceSub, ↓Int.reduceNatCast'] <;> rfl
  · obtain rfl : i = 16 := by omega
    have e : covQ b v = true := hr
    simp (disch := first | omega | decide) only [push_cast, ↓wF_free, ↓reduceIte, Nat.reduceEqDiff, Nat.reduceLT, Nat.reduceLeDiff, Nat.reduceAdd, Nat.reduceSub, Nat.reduceMul, Nat.reduceBEq, Int.reduceLT, Int.reduceLE, Int.reduceToNat, Int.reduceNeg, Int.reducePow, Int.reduceAdd, Int.reduceMul, Int.reduceSub, ↓Int.reduceNatCast', e]
theorem c_cont : Contract Try.prog GG 14 sp_cont :=
  contract_of tr_wagonpoolref19_Contains (tb_ok all_nil all_nil) (fun a h => w_cont a.1 a.2 h)
noncomputable def sp_lholds : List D → Option D := spOf (α := Cls × (Int × List Int)) (fun a => [clsD a.1, envD (Prod.fst a.2) (Prod.snd a.2)]) (fun a => a.2.1 = 65535 ∧ caseV a.2.2 ∧ a.1.wh.length ≤ 9223372036854775807) (fun a => .bool (holdsF a.2.2 a.1.wh).1)
theorem call_lholds (c : Cls) (v : Int × List Int) (h : v.1 = 65535 ∧ caseV v.2 ∧ c.wh.length ≤ 9223372036854775807) : sp_lholds [clsD c, envD (Prod.fst v) (Prod.snd v)] = some (.bool (holdsF v.2 c.wh).1) :=
  spOf_enc (fun ⟨a0, a1⟩ ⟨b0, b1⟩ h => by simp only [List.cons.injEq, D.slc.injEq, D.int.injEq, D.bool.injEq, D.str.injEq, D.agg.injEq, digs_iff, dig_iff, digC_iff, bytes_iff, byte_iff, words_iff, word_iff, bsl_iff, true_and, and_true, ints_iff, nI_iff, tsts_iff, clss_iff, clsD_iff, tarD_iff, tstD_iff, ptD_iff, Int.ofNat_inj, env_iff] at h; simp [h, Prod.ext_iff]) (c, v) h
set_option maxHeartbeats 4000000 in
set_option maxRecDepth 20000 in
theorem w_lholds (c : Cls) (v : Int × List Int) (h : v.1 = 65535 ∧ caseV v.2 ∧ c.wh.length ≤ 9223372036854775807) : @wW GG (tb [(12, sp_pholds)] []) F_wagonpoollaw19_holds.code (argF [clsD c, envD (Prod.fst v) (Prod.snd v)]) [] ⟨retQ F_wagonpoollaw19_holds.res (.bool (holdsF v.2 c.wh).1)⟩ := by
  obtain ⟨k, v⟩ := v
  obtain ⟨h1, h2, h3⟩ := h
  dsimp only at h1 h2 ⊢
  subst h1
  have hl := h2.1
  have cc : sp_pholds [clsD c, envD 65535 v] = some (.tup [.bool (holdsF v c.wh).1, .int .i64 (holdsF v c.wh).2]) := call_pholds c (_, _) ⟨rfl, h2, h3⟩
  obtain ⟨k1, k2⟩ := holds_two v c.wh
  generalize (holdsF v c.wh).2 = E at *
  cases hb : (holdsF v c.wh).1 with
  | false =>
    rw [hb] at cc
    unfold F_wagonpoollaw19_holds
    simp (disch := first | omega | decide) only [push_cast, ↓wF_free, ↓reduceIte, Nat.reduceEqDiff, Nat.reduceLT, Nat.reduceLeDiff, Nat.reduceAdd, Nat.reduceSub, Nat.reduceMul, Nat.reduceBEq, Int.reduceLT, Int.reduceLE, Int.reduceToNat, Int.reduceNeg, Int.reducePow, Int.reduceAdd, Int.reduceMul, Int.reduceSub, ↓Int.reduceNatCast', ldE _ _ hl, cc]
  | true =>
    have := k1 hb
    subst this
    rw [hb] at cc
    unfold F_wagonpoollaw19_holds
    simp (disch := first | omega | decide) only [push_cast, ↓wF_free, ↓reduceIte, Nat.reduceEqDiff, Nat.reduceLT, Nat.reduceLeDiff, Nat.reduceAdd, Nat.reduceSub, Nat.reduceMul, Nat.reduceBEq, Int.reduceLT, Int.reduceLE, Int.reduceToNat, Int.reduceNeg, Int.reducePow, Int.reduceAdd, Int.reduceMul, Int.reduceSub, ↓Int.reduceNatCast', ldE _ _ hl, cc]
theorem c_lholds : Contract Try.prog GG 20 sp_lholds :=
  contract_of tr_wagonpoollaw19_holds (tb_ok (all_cons c_pholds all_nil) all_nil) (fun a h => w_lholds a.1 a.2 h)
theorem zBx_lo : zBx.lo = z16 := rfl
theorem zBx_hi : zBx.hi = z16 := rfl
theorem fill_pt0 : fillD [D.int .i64 0, .int .i64 0, .int .i64 0, .int .i64 0, .int .i64 0, .int .i64 0, .int .i64 0, .int .i64 0, .int .i64 0, .int .i64 0, .int .i64 0, .int .i64 0, .int .i64 0, .int .i64 0, .int .i64 0, .int .i64 0] [] = some (z16.map nI) := (rfl)
theorem fill_bx2 {p q : List Int} (hp : p.length = 16) (hq : q.length = 16) : fillD [D.int .i64 0, .int .i64 0, .int .i64 0, .int .i64 0, .int .i64 0, .int .i64 0, .int .i64 0, .int .i64 0, .int .i64 0, .int .i64 0, .int .i64 0, .int .i64 0, .int .i64 0, .int .i64 0, .int .i64 0, .int .i64 0, .int .i64 0, .int .i64 0, .int .i64 0, .int .i64 0, .int .i64 0, .int .i64 0, .int .i64 0, .int .i64 0, .int .i64 0, .int .i64 0, .int .i64 0, .int .i64 0, .int .i64 0, .int .i64 0, .int .i64 0, .int .i64 0] [(0, 16, ptD p), (16, 16, ptD q)] = some (bxC ⟨p, q⟩) := by
  have s1 : ∀ l, fillD [D.int .i64 0, .int .i64 0, .int .i64 0, .int .i64 0, .int .i64 0, .int .i64 0, .int .i64 0, .int .i64 0, .int .i64 0, .int .i64 0, .int .i64 0, .int .i64 0, .int .i64 0, .int .i64 0, .int .i64 0, .int .i64 0, .int .i64 0, .int .i64 0, .int .i64 0, .int .i64 0, .int .i64 0, .int .i64 0, .int .i64 0, .int .i64 0, .int .i64 0, .int .i64 0, .int .i64 0, .int .i64 0, .int .i64 0, .int .i64 0, .int .i64 0, .int .i64 0] l = fillD ((z16 ++ z16).map nI) l := fun _ => (rfl)
  rw [s1]
  have e1 : splice ((z16 ++ z16).map nI) 0 (p.map nI) = (p ++ z16).map nI := by
    rw [splice]; simp [hp, z16_length]
  have e2 : splice ((p ++ z16).map nI) 16 (q.map nI) = (p ++ q).map nI := by
    rw [splice]; simp [hp, hq, z16_length]
  have z32 : (z16 ++ z16).length = 32 := rfl
  simp only [fillD, ptD, D.cells, ints_cell, e1, e2, List.length_map, hp, hq, z32, List.length_append, z16_length]
  rfl
set_option maxHeartbeats 4000000 in
set_option maxRecDepth 20000 in
theorem lw_TboxBox (c : Cls) (hc : c.wh.length ≤ maxLen) (v : Int × List Int) (hv : v.2.length = 16) : @wW GG (tb [(10, sp_lsane), (11, sp_isc), (12, sp_pholds), (13, sp_pBox), (14, sp_cont)] []) F_wagonpoollaw19_TboxBox.code (argF [clsD c, envD (Prod.fst v) (Prod.snd v)]) [] ⟨retQ F_wagonpoollaw19_TboxBox.res (.bool true)⟩ := by
  have cs := call_lsane
  obtain ⟨k, v⟩ := v
  dsimp only at hv
  have ci : sp_isc [envD k v] = some (.bool (caseB k v)) := call_isc (k, v) hv
  unfold F_wagonpoollaw19_TboxBox
  cases hb : caseB k v with
  | false =>
    rw [hb] at ci
    simp (disch := first | omega | decide) only [push_cast, ↓wF_free, ↓reduceIte, Nat.reduceEqDiff, Nat.reduceLT, Nat.reduceLeDiff, Nat.reduceAdd, Nat.reduceSub, Nat.reduceMul, Nat.reduceBEq, Int.reduceLT, Int.reduceLE, Int.reduceToNat, Int.reduceNeg, Int.reducePow, Int.reduceAdd, Int.reduceMul, Int.reduceSub, ↓Int.reduceNatCast', cs, ci, ldE _ _ hv]
  | true =>
    obtain ⟨rfl, hcv⟩ := caseB_spec hv hb
    rw [hb] at ci
    have hm := maxLen_le
    have cc : sp_pholds [clsD c, envD 65535 v] = some (.tup [.bool (holdsF v c.wh).1, .int .i64 (holdsF v c.wh).2]) := call_pholds c (_, _) ⟨rfl, hcv, by omega⟩
    have cb := call_pBox c (by omega)
    have hbx := box_holds hcv c.wh
    have ho := ofB_ok c.wh
    have hz := of_none c.wh
    obtain ⟨k1, k2⟩ := holds_two v c.wh
    have ct : sp_cont [bxD (ofB c.wh).1, envD 65535 v] = some (.bool (covQ (ofB c.wh).1 v)) := call_cont (ofB c.wh).1 (_, _) ⟨ho, hv⟩
    have hq := covQ_iff (ofB c.wh).1 v
    generalize ofB c.wh = P at *
    obtain ⟨b, s⟩ := P
    dsimp only at *
    generalize covQ b v = C at *
    generalize (holdsF v c.wh).2 = E at *
    generalize (holdsF v c.wh).1 = B at *
    rcases k2 with rfl | rfl
    · cases s with
      | false =>
        have := hz rfl
        subst this
        have hB : B = false := by
          cases B with
          | false => rfl
          | true => exact absurd (hbx.1 rfl).1 (by simp)
        subst hB
        simp (disch := first | omega | decide) only [push_cast, ↓wF_free, ↓reduceIte, Nat.reduceEqDiff, Nat.reduceLT, Nat.reduceLeDiff, Nat.reduceAdd, Nat.reduceSub, Nat.reduceMul, Nat.reduceBEq, Int.reduceLT, Int.reduceLE, Int.reduceToNat, Int.reduceNeg, Int.reducePow, Int.reduceAdd, Int.reduceMul, Int.reduceSub, ↓Int.reduceNatCast', cs, ci, cc, cb, ldE _ _ hv, stP _ z16_length z16_length, ldP _ _ z16_length, zBx_lo, zBx_hi, fill_pt0, aeq_pt _ _ _ z16_length z16_length]
      | true =>
        have hB : B = C := by
          cases B <;> cases C <;> simp_all
        subst hB
        simp (disch := first | omega | decide) only [push_cast, ↓wF_free, ↓reduceIte, Nat.reduceEqDiff, Nat.reduceLT, Nat.reduceLeDiff, Nat.reduceAdd, Nat.reduceSub, Nat.reduceMul, Nat.reduceBEq, Int.reduceLT, Int.reduceLE, Int.reduceToNat, Int.reduceNeg, Int.reducePow, Int.reduceAdd, Int.reduceMul, Int.reduceSub, ↓Int.reduceNatCast', cs, ci, cc, cb, ct, ldE _ _ hv, stP _ z16_length ho.1, stP _ z16_length ho.2, ldP _ _ ho.1, ldP _ _ ho.2, fill_bx2 ho.1 ho.2]
    · have n10 : ((1 : Int) = 0) = False := by decide
      simp (disch := first | omega | decide) only [push_cast, ↓wF_free, ↓reduceIte, Nat.reduceEqDiff, Nat.reduceLT, Nat.reduceLeDiff, Nat.reduceAdd, Nat.reduceSub, Nat.reduceMul, Nat.reduceBEq, Int.reduceLT, Int.reduceLE, Int.reduceToNat, Int.reduceNeg, Int.reducePow, Int.reduceAdd, Int.reduceMul, Int.reduceSub, ↓Int.reduceNatCast', cs, ci, cc, ldE _ _ hv, n10]
theorem law_TboxBox : Contract Try.prog GG 3 (lawSp [tyCls4, tyEnv]) := by
  refine lawC tr_wagonpoollaw19_TboxBox (T := tb [(10, sp_lsane), (11, sp_isc), (12, sp_pholds), (13, sp_pBox), (14, sp_cont)] []) (tb_ok (all_cons c_lsane (all_cons c_isc (all_cons c_pholds (all_cons c_pBox (all_cons c_cont all_nil))))) all_nil) ?_
  intro xs h
  obtain ⟨x0, xs, rfl, h0, h⟩ := hasAll_cons h
  obtain ⟨x1, xs, rfl, h1, h⟩ := hasAll_cons h
  obtain rfl := hasAll_nil h
  obtain ⟨y0, rfl, ya0⟩ := has_cls4 h0
  obtain ⟨y1, rfl, ya1⟩ := has_env h1
  exact lw_TboxBox y0 ya0 y1 ya1
end Go.Proofs.Ytgppecaeegaooaa.PI
