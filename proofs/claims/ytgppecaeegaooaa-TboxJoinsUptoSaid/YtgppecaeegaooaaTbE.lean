/-
  tbox: domains; the reference's search.
  Conditions: none; these are lemmas.
-/
import Derived.Test.YtgppecaeegaooaaTbD
namespace Go.Proofs.Ytgppecaeegaooaa.PI
open Go
set_option linter.unusedSimpArgs false
set_option linter.unusedVariables false

/-! ### Domains -/
def okD (t : Tst) : Prop := okA t ∧ 0 ≤ t.lo ∧ t.lo ≤ t.hi ∧ t.hi ≤ 9007199254740992
instance (t : Tst) : Decidable (okD t) := by unfold okD; infer_instance
def seenB : List Tst → Nat → Int → Bool
  | _, 0, _ => false
  | l, i + 1, x => seenB l i x || decide ((l.getD i default).a = x)
theorem seen_iff (l : List Tst) (x : Int) : ∀ i, seenB l i x = true ↔ ∃ k, k < i ∧ (l.getD k default).a = x
  | 0 => by simp [seenB]
  | i + 1 => by
    simp only [seenB, Bool.or_eq_true, seen_iff l x i, decide_eq_true_eq]
    constructor
    · rintro (⟨k, h1, h2⟩ | h)
      · exact ⟨k, by omega, h2⟩
      · exact ⟨i, by omega, h⟩
    · rintro ⟨k, h1, h2⟩
      rcases Nat.lt_or_ge k i with h | h
      · exact .inl ⟨k, h, h2⟩
      · obtain rfl : k = i := by omega
        exact .inr h2
def regF (l : List Tst) : Nat → Nat → Bx → Option Bx
  | 0, _, b => some b
  | k + 1, i, b => if okD (l.getD i default) then (if seenB l i (l.getD i default).a then none else regF l k (i + 1) (cutB b (l.getD i default))) else none
def domF (l : List Tst) : Option Bx := regF l l.length 0 allB
theorem reg_run (l : List Tst) : ∀ (k i : Nat) (b c : Bx), k + i = l.length → regF l k i b = some c → runT b (l.drop i) = some c
  | 0, i, b, c, hk, h => by
    rw [List.drop_of_length_le (by omega)]
    exact h
  | k + 1, i, b, c, hk, h => by
    rw [run_drop b l i (by omega)]
    simp only [regF] at h
    split at h
    · rename_i ho
      rw [if_pos ho.1]
      split at h
      · cases h
      · exact reg_run l k (i + 1) _ c (by omega) h
    · cases h
structure DomI (l : List Tst) (i : Nat) (b : Bx) : Prop where
  ok : b.ok
  rg : ∀ j : Nat, j < 16 → 0 ≤ at' b.lo j ∧ at' b.lo j ≤ at' b.hi j ∧ at' b.hi j ≤ 9007199254740992
  ns : ∀ j : Nat, j < 16 → seenB l i (j : Int) = false → at' b.lo j = 0 ∧ at' b.hi j = 9007199254740992
theorem domI_start (l : List Tst) : DomI l 0 allB := by
  have h : ∀ j, j < 16 → at' allB.lo j = 0 ∧ at' allB.hi j = 9007199254740992 := fun j hj => ⟨at_rep _ _ _ hj, at_rep _ _ _ hj⟩
  exact ⟨allB_ok, fun j hj => by obtain ⟨a, b⟩ := h j hj; omega, fun j hj _ => h j hj⟩
theorem domI_next {l : List Tst} {i : Nat} {b : Bx} (h : DomI l i b) (ho : okD (l.getD i default)) (hs : seenB l i (l.getD i default).a = false) : DomI l (i + 1) (cutB b (l.getD i default)) := by
  obtain ⟨ha, h1, h2, h3⟩ := ho
  have ha' := ha
  obtain ⟨a1, a2⟩ := ha'
  have hn := h.ns (l.getD i default).a.toNat (by omega) (by rw [Int.toNat_of_nonneg a1]; exact hs)
  refine ⟨cutB_ok h.ok _, fun j hj => ?_, fun j hj hsj => ?_⟩
  · rw [cutB_lo h.ok ha, cutB_hi h.ok ha]
    have := h.rg j hj
    split
    · rename_i e; subst e; omega
    · exact this
  · simp only [seenB, Bool.or_eq_false_iff, decide_eq_false_iff_not] at hsj
    rw [cutB_lo h.ok ha, cutB_hi h.ok ha, if_neg (by omega), if_neg (by omega)]
    exact h.ns j hj hsj.1
theorem reg_dom (l : List Tst) : ∀ (k i : Nat) (b c : Bx), k + i = l.length → DomI l i b → regF l k i b = some c → Dom c
  | 0, i, b, c, hk, hI, h => by
    simp only [regF, Option.some.injEq] at h
    subst h
    exact ⟨hI.ok, fun j hj => (hI.rg j hj).2.1, fun j hj => (hI.rg j hj).2.2⟩
  | k + 1, i, b, c, hk, hI, h => by
    simp only [regF] at h
    split at h
    · rename_i ho
      split at h
      · cases h
      · rename_i hs
        exact reg_dom l k (i + 1) _ c (by omega) (domI_next hI ho (by simpa using hs)) h
    · cases h
theorem dom_ok {l : List Tst} {d : Bx} (h : domF l = some d) : Dom d := reg_dom l l.length 0 allB d rfl (domI_start l) h
theorem dom_run {l : List Tst} {d : Bx} (h : domF l = some d) : runT allB l = some d := reg_run l l.length 0 allB d rfl h
def domD (l : List Tst) : Bx := match domF l with
  | some d => d
  | none => zBx
def domB (l : List Tst) : Bool := (domF l).isSome
theorem domD_ok (l : List Tst) : (domD l).ok := by
  unfold domD
  split
  · rename_i d h; exact (dom_ok h).ok
  · exact zBx_ok
theorem dom_none {l : List Tst} (h : domF l = none) : domD l = zBx ∧ domB l = false := by unfold domD domB; rw [h]; exact ⟨rfl, rfl⟩
theorem dom_some {l : List Tst} {d : Bx} (h : domF l = some d) : domD l = d ∧ domB l = true := by unfold domD domB; rw [h]; exact ⟨rfl, rfl⟩
def snL (l : List Tst) (i : Nat) : List Bool := (List.range 16).map fun (x : Nat) => seenB l i (x : Int)
theorem snL_zero (l : List Tst) : [D.bool false, .bool false, .bool false, .bool false, .bool false, .bool false, .bool false, .bool false, .bool false, .bool false, .bool false, .bool false, .bool false, .bool false, .bool false, .bool false] = (snL l 0).map D.bool := (rfl)
theorem snL_length (l : List Tst) (i : Nat) : (snL l i).length = 16 := by simp [snL]
theorem snL_at (l : List Tst) (i j : Nat) (h : j < 16) : (snL l i).getD j default = seenB l i (j : Int) := by simp [snL, List.getD_eq_getElem?_getD, h]
theorem snL_set (l : List Tst) (i : Nat) (h0 : 0 ≤ (l.getD i default).a) (h1 : (l.getD i default).a < 16) : (snL l i).set (l.getD i default).a.toNat true = snL l (i + 1) := by
  apply List.ext_getElem (by simp [snL])
  intro j h2 h3
  rw [List.getElem_set]
  simp only [snL, List.getElem_map, List.getElem_range, seenB]
  by_cases e : (l.getD i default).a = (j : Int)
  · rw [if_pos (by omega)]; simp only [e, decide_true, Bool.or_true]
  · rw [if_neg (by omega)]; simp only [e, decide_false, Bool.or_false]
theorem box_bools (l : List Bool) : boxD (.agg (l.map D.bool)) = some (l.map D.bool) := by
  simp only [boxD, D.cells, map_cells D.bool (fun _ => rfl), if_true]
theorem hkB_bools (l : List Bool) : (l.map D.bool).flatMap hk = [] := hkB_solid (map_solid D.bool (fun _ => rfl) l)
theorem renB_bools (n : Nat) (σ : List Nat) (l : List Bool) : (l.map D.bool).map (ren n σ) = l.map D.bool := renB_solid n σ (map_solid D.bool (fun _ => rfl) l)
attribute [push_cast] box_bools hkB_bools renB_bools
noncomputable def sp_preg : List D → Option D := spOf (α := List Tst) (fun a => [.slc (nz 3 (a.map tstD)) (a.map tstD) false]) (fun a => a.length ≤ 4294967296) (fun a => .tup [bxD (domD a), .bool (domB a)])
theorem call_preg (l : List Tst) (h : l.length ≤ 4294967296) : sp_preg [.slc (nz 3 (l.map tstD)) (l.map tstD) false] = some (.tup [bxD (domD l), .bool (domB l)]) :=
  spOf_enc (fun a b h => by simp only [List.cons.injEq, D.slc.injEq, D.int.injEq, D.bool.injEq, D.str.injEq, D.agg.injEq, digs_iff, dig_iff, digC_iff, bytes_iff, byte_iff, words_iff, word_iff, bsl_iff, true_and, and_true, ints_iff, nI_iff, tsts_iff, clss_iff, clsD_iff, tarD_iff, tstD_iff, ptD_iff, Int.ofNat_inj] at h; simp [h, Prod.ext_iff]) (l) h
set_option maxHeartbeats 4000000 in
set_option maxRecDepth 20000 in
theorem w_preg (l : List Tst) (h : l.length ≤ 4294967296) : @wW GG (tb [(54, sp_pall), (55, sp_pcut)] []) F_tbox_region.code (argF [.slc (nz 3 (l.map tstD)) (l.map tstD) false]) [] ⟨retQ F_tbox_region.res (.tup [bxD (domD l), .bool (domB l)])⟩ := by
  have ca := call_pall
  unfold F_tbox_region
  simp (disch := first | omega | decide) only [push_cast, ↓wF_free, ↓reduceIte, Nat.reduceEqDiff, Nat.reduceLT, Nat.reduceLeDiff, Nat.reduceAdd, Nat.reduceSub, Nat.reduceMul, Nat.reduceBEq, Int.reduceLT, Int.reduceLE, Int.reduceToNat, Int.reduceNeg, Int.reducePow, Int.reduceAdd, Int.reduceMul, Int.reduceSub, ↓Int.reduceNatCast', ca, stB _ zBx_ok allB_ok, snL_zero l]
  refine W_while (fun i : Nat × Bx => [(2, .ptr 0 0), (4, .ptr 1 0), (5, .ptr 2 0), (9, .slc (nz 3 (l.map tstD)) (l.map tstD) false), (10, .int .i64 (l.length : Int)), (11, .int .i64 (i.1 : Int))]) (fun i => [⟨false, 1, bxC zBx, false⟩, ⟨false, 1, bxC i.2, false⟩, ⟨false, 1, (snL l i.1).map D.bool, false⟩]) (fun i => i.1 ≤ l.length ∧ i.2.ok ∧ domF l = regF l (l.length - i.1) i.1 i.2) (fun i => l.length - i.1) (0, allB) (by simp only [push_cast, ↓wF_free, ↓reduceIte, Nat.reduceEqDiff, Nat.reduceLT, Nat.reduceLeDiff, Nat.reduceAdd, Nat.reduceSub, Nat.reduceMul, Nat.reduceBEq, Int.reduceLT, Int.reduceLE, Int.reduceToNat, Int.reduceNeg, Int.reducePow, Int.reduceAdd, Int.reduceMul, Int.reduceSub, ↓Int.reduceNatCast', snL_zero l] <;> rfl) ⟨Nat.zero_le _, allB_ok, rfl⟩ ?_
  rintro ⟨i, b⟩ ⟨hi, hb, hr⟩
  dsimp only at hi hb hr
  unfold F_tbox_region_L0
  simp (disch := first | omega | decide) only [push_cast, ↓wF_free, ↓reduceIte, Nat.reduceEqDiff, Nat.reduceLT, Nat.reduceLeDiff, Nat.reduceAdd, Nat.reduceSub, Nat.reduceMul, Nat.reduceBEq, Int.reduceLT, Int.reduceLE, Int.reduceToNat, Int.reduceNeg, Int.reducePow, Int.reduceAdd, Int.reduceMul, Int.reduceSub, ↓Int.reduceNatCast']
  refine ifD_split (fun h2 => ?_) (fun h2 => ?_)
  · have hlt : i < l.length := by omega
    rw [show l.length - i = (l.length - (i + 1)) + 1 by omega, regF] at hr
    have hset := snL_set l i
    simp (disch := first | omega | decide) only [push_cast, ↓wF_free, ↓reduceIte, Nat.reduceEqDiff, Nat.reduceLT, Nat.reduceLeDiff, Nat.reduceAdd, Nat.reduceSub, Nat.reduceMul, Nat.reduceBEq, Int.reduceLT, Int.reduceLE, Int.reduceToNat, Int.reduceNeg, Int.reducePow, Int.reduceAdd, Int.reduceMul, Int.reduceSub, ↓Int.reduceNatCast', idxS_nz]
    generalize l.getD i default = t at *
    by_cases ht : okD t
    · obtain ⟨hta, b1, b2, b3⟩ := ht
      have ht' := hta
      obtain ⟨a1', a2'⟩ := ht'
      have hset' := hset a1' a2'
      rw [if_pos ⟨hta, b1, b2, b3⟩] at hr
      have a1 : ¬ t.a < 0 := by omega
      have a2 : ¬ (16 : Int) ≤ t.a := by omega
      have a3 : ¬ t.lo < 0 := by omega
      have a4 : ¬ t.hi < t.lo := by omega
      have a5 : ¬ 9007199254740992 < t.hi := by omega
      have hl := ldO_map 1 false D.bool (snL l i) t.a.toNat (by rw [snL_length]; omega)
      rw [snL_at l i _ (by omega), Int.toNat_of_nonneg a1'] at hl
      have hs := stO_set 1 D.bool (fun _ => rfl) (snL l i) t.a.toNat true (by rw [snL_length]; omega)
      rw [hset'] at hs
      cases k : seenB l i t.a with
      | true =>
        rw [k] at hl hr
        have e := dom_none hr
        simp (disch := first | omega | decide) only [push_cast, ↓wF_free, ↓reduceIte, Nat.reduceEqDiff, Nat.reduceLT, Nat.reduceLeDiff, Nat.reduceAdd, Nat.reduceSub, Nat.reduceMul, Nat.reduceBEq, Int.reduceLT, Int.reduceLE, Int.reduceToNat, Int.reduceNeg, Int.reducePow, Int.reduceAdd, Int.reduceMul, Int.reduceSub, ↓Int.reduceNatCast', a1, a2, idxA_ptr, hl, stB _ zBx_ok zBx_ok, ldB _ _ zBx_ok, e.1, e.2]
      | false =>
        rw [k] at hl hr
        have hc := cutB_ok hb t
        have cc := call_pcut b t ⟨hb, hta⟩
        simp (disch := first | omega | decide) only [push_cast, ↓wF_free, ↓reduceIte, Nat.reduceEqDiff, Nat.reduceLT, Nat.reduceLeDiff, Nat.reduceAdd, Nat.reduceSub, Nat.reduceMul, Nat.reduceBEq, Int.reduceLT, Int.reduceLE, Int.reduceToNat, Int.reduceNeg, Int.reducePow, Int.reduceAdd, Int.reduceMul, Int.reduceSub, ↓Int.reduceNatCast', a1, a2, a3, a4, a5, idxA_ptr, hl, hs, ldB _ _ hb, cc, stB _ hb hc, add_i]
        refine next_head (i + 1, cutB b t) (by exact ⟨by omega, hc, hr⟩) (by dsimp only; omega) ?_
        simp only [push_cast, ↓wF_free, ↓reduceIte, Nat.reduceEqDiff, Nat.reduceLT, Nat.reduceLeDiff, Nat.reduceAdd, Nat.reduceSub, Nat.reduceMul, Nat.reduceBEq, Int.reduceLT, Int.reduceLE, Int.reduceToNat, Int.reduceNeg, Int.reducePow, Int.reduceAdd, Int.reduceMul, Int.reduceSub, ↓Int.reduceNatCast'] <;> rfl
    · have ht' := ht
      unfold okD okA at ht'
      rw [if_neg ht] at hr
      have e := dom_none hr
      by_cases a1 : t.a < 0
      · simp (disch := first | omega | decide) only [push_cast, ↓wF_free, ↓reduceIte, Nat.reduceEqDiff, Nat.reduceLT, Nat.reduceLeDiff, Nat.reduceAdd, Nat.reduceSub, Nat.reduceMul, Nat.reduceBEq, Int.reduceLT, Int.reduceLE, Int.reduceToNat, Int.reduceNeg, Int.reducePow, Int.reduceAdd, Int.reduceMul, Int.reduceSub, ↓Int.reduceNatCast', a1, stB _ zBx_ok zBx_ok, ldB _ _ zBx_ok, e.1, e.2]
      · by_cases a2 : (16 : Int) ≤ t.a
        · simp (disch := first | omega | decide) only [push_cast, ↓wF_free, ↓reduceIte, Nat.reduceEqDiff, Nat.reduceLT, Nat.reduceLeDiff, Nat.reduceAdd, Nat.reduceSub, Nat.reduceMul, Nat.reduceBEq, Int.reduceLT, Int.reduceLE, Int.reduceToNat, Int.reduceNeg, Int.reducePow, Int.reduceAdd, Int.reduceMul, Int.reduceSub, ↓Int.reduceNatCast', a1, a2, stB _ zBx_ok zBx_ok, ldB _ _ zBx_ok, e.1, e.2]
        · have hl := ldO_map 1 false D.bool (snL l i) t.a.toNat (by rw [snL_length]; omega)
          cases k : (snL l i).getD t.a.toNat default with
          | true =>
            rw [k] at hl
            simp (disch := first | omega | decide) only [push_cast, ↓wF_free, ↓reduceIte, Nat.reduceEqDiff, Nat.reduceLT, Nat.reduceLeDiff, Nat.reduceAdd, Nat.reduceSub, Nat.reduceMul, Nat.reduceBEq, Int.reduceLT, Int.reduceLE, Int.reduceToNat, Int.reduceNeg, Int.reducePow, Int.reduceAdd, Int.reduceMul, Int.reduceSub, ↓Int.reduceNatCast', a1, a2, idxA_ptr, hl, stB _ zBx_ok zBx_ok, ldB _ _ zBx_ok, e.1, e.2]
          | false =>
            rw [k] at hl
            by_cases a3 : t.lo < 0
            · simp (disch := first | omega | decide) only [push_cast, ↓wF_free, ↓reduceIte, Nat.reduceEqDiff, Nat.reduceLT, Nat.reduceLeDiff, Nat.reduceAdd, Nat.reduceSub, Nat.reduceMul, Nat.reduceBEq, Int.reduceLT, Int.reduceLE, Int.reduceToNat, Int.reduceNeg, Int.reducePow, Int.reduceAdd, Int.reduceMul, Int.reduceSub, ↓Int.reduceNatCast', a1, a2, a3, idxA_ptr, hl, stB _ zBx_ok zBx_ok, ldB _ _ zBx_ok, e.1, e.2]
            · by_cases a4 : t.hi < t.lo
              · simp (disch := first | omega | decide) only [push_cast, ↓wF_free, ↓reduceIte, Nat.reduceEqDiff, Nat.reduceLT, Nat.reduceLeDiff, Nat.reduceAdd, Nat.reduceSub, Nat.reduceMul, Nat.reduceBEq, Int.reduceLT, Int.reduceLE, Int.reduceToNat, Int.reduceNeg, Int.reducePow, Int.reduceAdd, Int.reduceMul, Int.reduceSub, ↓Int.reduceNatCast', a1, a2, a3, a4, idxA_ptr, hl, stB _ zBx_ok zBx_ok, ldB _ _ zBx_ok, e.1, e.2]
              · have a5 : 9007199254740992 < t.hi := by omega
                simp (disch := first | omega | decide) only [push_cast, ↓wF_free, ↓reduceIte, Nat.reduceEqDiff, Nat.reduceLT, Nat.reduceLeDiff, Nat.reduceAdd, Nat.reduceSub, Nat.reduceMul, Nat.reduceBEq, Int.reduceLT, Int.reduceLE, Int.reduceToNat, Int.reduceNeg, Int.reducePow, Int.reduceAdd, Int.reduceMul, Int.reduceSub, ↓Int.reduceNatCast', a1, a2, a3, a4, a5, idxA_ptr, hl, stB _ zBx_ok zBx_ok, ldB _ _ zBx_ok, e.1, e.2]
  · obtain rfl : i = l.length := by omega
    rw [Nat.sub_self, regF] at hr
    have e := dom_some hr
    simp (disch := first | omega | decide) only [push_cast, ↓wF_free, ↓reduceIte, Nat.reduceEqDiff, Nat.reduceLT, Nat.reduceLeDiff, Nat.reduceAdd, Nat.reduceSub, Nat.reduceMul, Nat.reduceBEq, Int.reduceLT, Int.reduceLE, Int.reduceToNat, Int.reduceNeg, Int.reducePow, Int.reduceAdd, Int.reduceMul, Int.reduceSub, ↓Int.reduceNatCast', ldB _ _ hb, stB _ zBx_ok hb, e.1, e.2]
theorem c_preg : Contract Try.prog GG 35 sp_preg :=
  contract_of tr_tbox_region (tb_ok (all_cons c_pall (all_cons c_pcut all_nil)) all_nil) (fun a h => w_preg a h)
def domE (l : List Tst) : Int := if domB l then 0 else 1
noncomputable def sp_rdom : List D → Option D := spOf (α := List Tst) (fun a => [.slc (nz 3 (a.map tstD)) (a.map tstD) false]) (fun a => a.length ≤ 4294967296) (fun a => .tup [bxD (domD a), .int .i64 (domE a)])
theorem call_rdom (l : List Tst) (h : l.length ≤ 4294967296) : sp_rdom [.slc (nz 3 (l.map tstD)) (l.map tstD) false] = some (.tup [bxD (domD l), .int .i64 (domE l)]) :=
  spOf_enc (fun a b h => by simp only [List.cons.injEq, D.slc.injEq, D.int.injEq, D.bool.injEq, D.str.injEq, D.agg.injEq, digs_iff, dig_iff, digC_iff, bytes_iff, byte_iff, words_iff, word_iff, bsl_iff, true_and, and_true, ints_iff, nI_iff, tsts_iff, clss_iff, clsD_iff, tarD_iff, tstD_iff, ptD_iff, Int.ofNat_inj] at h; simp [h, Prod.ext_iff]) (l) h
set_option maxHeartbeats 4000000 in
set_option maxRecDepth 20000 in
theorem w_rdom (l : List Tst) (h : l.length ≤ 4294967296) : @wW GG (tb [(59, sp_rwhole), (60, sp_rnarrow)] []) F_wagonpoolref19_Domain.code (argF [.slc (nz 3 (l.map tstD)) (l.map tstD) false]) [] ⟨retQ F_wagonpoolref19_Domain.res (.tup [bxD (domD l), .int .i64 (domE l)])⟩ := by
  have ca := call_rwhole
  unfold F_wagonpoolref19_Domain
  simp (disch := first | omega | decide) only [push_cast, ↓wF_free, ↓reduceIte, Nat.reduceEqDiff, Nat.reduceLT, Nat.reduceLeDiff, Nat.reduceAdd, Nat.reduceSub, Nat.reduceMul, Nat.reduceBEq, Int.reduceLT, Int.reduceLE, Int.reduceToNat, Int.reduceNeg, Int.reducePow, Int.reduceAdd, Int.reduceMul, Int.reduceSub, ↓Int.reduceNatCast', ca, stB _ zBx_ok allB_ok]
  refine W_while (fun i : Nat × Bx => [(0, .slc (nz 3 (l.map tstD)) (l.map tstD) false), (2, .ptr 0 0), (4, .ptr 1 0), (5, .int .i64 (i.1 : Int))]) (fun i => [⟨false, 1, bxC zBx, false⟩, ⟨false, 1, bxC i.2, false⟩]) (fun i => i.1 ≤ l.length ∧ i.2.ok ∧ domF l = regF l (l.length - i.1) i.1 i.2) (fun i => l.length - i.1) (0, allB) (by simp only [push_cast, ↓wF_free, ↓reduceIte, Nat.reduceEqDiff, Nat.reduceLT, Nat.reduceLeDiff, Nat.reduceAdd, Nat.reduceSub, Nat.reduceMul, Nat.reduceBEq, Int.reduceLT, Int.reduceLE, Int.reduceToNat, Int.reduceNeg, Int.reducePow, Int.reduceAdd, Int.reduceMul, Int.reduceSub, ↓Int.reduceNatCast'] <;> rfl) ⟨Nat.zero_le _, allB_ok, rfl⟩ ?_
  rintro ⟨i, b⟩ ⟨hi, hb, hr⟩
  dsimp only at hi hb hr
  unfold F_wagonpoolref19_Domain_L1
  simp (disch := first | omega | decide) only [push_cast, ↓wF_free, ↓reduceIte, Nat.reduceEqDiff, Nat.reduceLT, Nat.reduceLeDiff, Nat.reduceAdd, Nat.reduceSub, Nat.reduceMul, Nat.reduceBEq, Int.reduceLT, Int.reduceLE, Int.reduceToNat, Int.reduceNeg, Int.reducePow, Int.reduceAdd, Int.reduceMul, Int.reduceSub, ↓Int.reduceNatCast']
  refine ifD_split (fun h2 => ?_) (fun h2 => ?_)
  · have hlt : i < l.length := by omega
    rw [show l.length - i = (l.length - (i + 1)) + 1 by omega, regF] at hr
    have hsn := seen_iff l (l.getD i default).a i
    simp (disch := first | omega | decide) only [push_cast, ↓wF_free, ↓reduceIte, Nat.reduceEqDiff, Nat.reduceLT, Nat.reduceLeDiff, Nat.reduceAdd, Nat.reduceSub, Nat.reduceMul, Nat.reduceBEq, Int.reduceLT, Int.reduceLE, Int.reduceToNat, Int.reduceNeg, Int.reducePow, Int.reduceAdd, Int.reduceMul, Int.reduceSub, ↓Int.reduceNatCast', idxS_nz]
    generalize l.getD i default = t at *
    by_cases ht : okD t
    · obtain ⟨hta, b1, b2, b3⟩ := ht
      have ht' := hta
      obtain ⟨a1', a2'⟩ := ht'
      rw [if_pos ⟨hta, b1, b2, b3⟩] at hr
      have a1 : ¬ t.a < 0 := by omega
      have a2 : ¬ (16 : Int) ≤ t.a := by omega
      have a3 : ¬ t.lo < 0 := by omega
      have a4 : ¬ t.hi < t.lo := by omega
      have a5 : ¬ 9007199254740992 < t.hi := by omega
      simp (disch := first | omega | decide) only [push_cast, ↓wF_free, ↓reduceIte, Nat.reduceEqDiff, Nat.reduceLT, Nat.reduceLeDiff, Nat.reduceAdd, Nat.reduceSub, Nat.reduceMul, Nat.reduceBEq, Int.reduceLT, Int.reduceLE, Int.reduceToNat, Int.reduceNeg, Int.reducePow, Int.reduceAdd, Int.reduceMul, Int.reduceSub, ↓Int.reduceNatCast', a1, a2, a3, a4, a5]
      refine W_while (fun k : Nat => [(0, .slc (nz 3 (l.map tstD)) (l.map tstD) false), (2, .ptr 0 0), (4, .ptr 1 0), (5, .int .i64 (i : Int)), (6, .ptr 2 0), (7, .int .i64 (k : Int))]) (fun k => [⟨false, 1, bxC zBx, false⟩, ⟨false, 1, bxC b, false⟩, ⟨false, 1, [.int .i64 t.a, .int .i64 t.lo, .int .i64 t.hi], false⟩]) (fun k => k ≤ i ∧ ∀ j, j < k → (l.getD j default).a ≠ t.a) (fun k => i - k) 0 (by simp only [push_cast, ↓wF_free, ↓reduceIte, Nat.reduceEqDiff, Nat.reduceLT, Nat.reduceLeDiff, Nat.reduceAdd, Nat.reduceSub, Nat.reduceMul, Nat.reduceBEq, Int.reduceLT, Int.reduceLE, Int.reduceToNat, Int.reduceNeg, Int.reducePow, Int.reduceAdd, Int.reduceMul, Int.reduceSub, ↓Int.reduceNatCast'] <;> rfl) ⟨Nat.zero_le _, fun j hj => by omega⟩ ?_
      rintro k ⟨hk, hp⟩
      unfold F_wagonpoolref19_Domain_L0
      simp (disch := first | omega | decide) only [push_cast, ↓wF_free, ↓reduceIte, Nat.reduceEqDiff, Nat.reduceLT, Nat.reduceLeDiff, Nat.reduceAdd, Nat.reduceSub, Nat.reduceMul, Nat.reduceBEq, Int.reduceLT, Int.reduceLE, Int.reduceToNat, Int.reduceNeg, Int.reducePow, Int.reduceAdd, Int.reduceMul, Int.reduceSub, ↓Int.reduceNatCast']
      refine ifD_split (fun h3 => ?_) (fun h3 => ?_)
      · have hx := hsn.2
        have hix := fun st => idxS_nz st 3 tstD l false .i64 (k : Int) (by omega) (by omega)
        rw [Int.toNat_natCast] at hix
        by_cases e1 : (l.getD k default).a = t.a
        · rw [hx ⟨k, by omega, e1⟩] at hr
          have e := dom_none hr
          simp (disch := first | omega | decide) only [push_cast, ↓wF_free, ↓reduceIte, Nat.reduceEqDiff, Nat.reduceLT, Nat.reduceLeDiff, Nat.reduceAdd, Nat.reduceSub, Nat.reduceMul, Nat.reduceBEq, Int.reduceLT, Int.reduceLE, Int.reduceToNat, Int.reduceNeg, Int.reducePow, Int.reduceAdd, Int.reduceMul, Int.reduceSub, ↓Int.reduceNatCast', hix, e1, stB _ zBx_ok zBx_ok, ldB _ _ zBx_ok, e.1, e.2, domE]
        · simp (disch := first | omega | decide) only [push_cast, ↓wF_free, ↓reduceIte, Nat.reduceEqDiff, Nat.reduceLT, Nat.reduceLeDiff, Nat.reduceAdd, Nat.reduceSub, Nat.reduceMul, Nat.reduceBEq, Int.reduceLT, Int.reduceLE, Int.reduceToNat, Int.reduceNeg, Int.reducePow, Int.reduceAdd, Int.reduceMul, Int.reduceSub, ↓Int.reduceNatCast', hix, e1, add_i]
          refine next_head (k + 1) (by exact ⟨by omega, fun j hj => by
            rcases Nat.lt_or_ge j k with h4 | h4
            · exact hp j h4
            · obtain rfl : j = k := by omega
              exact e1⟩) (by omega) ?_
          simp only [push_cast, ↓wF_free, ↓reduceIte, Nat.reduceEqDiff, Nat.reduceLT, Nat.reduceLeDiff, Nat.reduceAdd, Nat.reduceSub, Nat.reduceMul, Nat.reduceBEq, Int.reduceLT, Int.reduceLE, Int.reduceToNat, Int.reduceNeg, Int.reducePow, Int.reduceAdd, Int.reduceMul, Int.reduceSub, ↓Int.reduceNatCast'] <;> rfl
      · obtain rfl : k = i := by omega
        have hns : seenB l k t.a = false := by
          rw [Bool.eq_false_iff]
          intro h
          obtain ⟨j, hj, e⟩ := hsn.1 h
          exact hp j hj e
        rw [hns] at hr
        have hc := cutB_ok hb t
        have cc := call_rnarrow b t ⟨hb, hta⟩
        simp (disch := first | omega | decide) only [push_cast, ↓wF_free, ↓reduceIte, Nat.reduceEqDiff, Nat.reduceLT, Nat.reduceLeDiff, Nat.reduceAdd, Nat.reduceSub, Nat.reduceMul, Nat.reduceBEq, Int.reduceLT, Int.reduceLE, Int.reduceToNat, Int.reduceNeg, Int.reducePow, Int.reduceAdd, Int.reduceMul, Int.reduceSub, ↓Int.reduceNatCast', ldB _ _ hb, cc, stB _ hb hc, add_i]
        refine next_head (k + 1, cutB b t) (by exact ⟨by omega, hc, hr⟩) (by dsimp only; omega) ?_
        simp only [push_cast, ↓wF_free, ↓reduceIte, Nat.reduceEqDiff, Nat.reduceLT, Nat.reduceLeDiff, Nat.reduceAdd, Nat.reduceSub, Nat.reduceMul, Nat.reduceBEq, Int.reduceLT, Int.reduceLE, Int.reduceToNat, Int.reduceNeg, Int.reducePow, Int.reduceAdd, Int.reduceMul, Int.reduceSub, ↓Int.reduceNatCast'] <;> rfl
    · have ht' := ht
      unfold okD okA at ht'
      rw [if_neg ht] at hr
      have e := dom_none hr
      by_cases a1 : t.a < 0
      · simp (disch := first | omega | decide) only [push_cast, ↓wF_free, ↓reduceIte, Nat.reduceEqDiff, Nat.reduceLT, Nat.reduceLeDiff, Nat.reduceAdd, Nat.reduceSub, Nat.reduceMul, Nat.reduceBEq, Int.reduceLT, Int.reduceLE, Int.reduceToNat, Int.reduceNeg, Int.reducePow, Int.reduceAdd, Int.reduceMul, Int.reduceSub, ↓Int.reduceNatCast', a1, stB _ zBx_ok zBx_ok, ldB _ _ zBx_ok, e.1, e.2, domE]
      · by_cases a2 : (16 : Int) ≤ t.a
        · simp (disch := first | omega | decide) only [push_cast, ↓wF_free, ↓reduceIte, Nat.reduceEqDiff, Nat.reduceLT, Nat.reduceLeDiff, Nat.reduceAdd, Nat.reduceSub, Nat.reduceMul, Nat.reduceBEq, Int.reduceLT, Int.reduceLE, Int.reduceToNat, Int.reduceNeg, Int.reducePow, Int.reduceAdd, Int.reduceMul, Int.reduceSub, ↓Int.reduceNatCast', a1, a2, stB _ zBx_ok zBx_ok, ldB _ _ zBx_ok, e.1, e.2, domE]
        · by_cases a3 : t.lo < 0
          · simp (disch := first | omega | decide) only [push_cast, ↓wF_free, ↓reduceIte, Nat.reduceEqDiff, Nat.reduceLT, Nat.reduceLeDiff, Nat.reduceAdd, Nat.reduceSub, Nat.reduceMul, Nat.reduceBEq, Int.reduceLT, Int.reduceLE, Int.reduceToNat, Int.reduceNeg, Int.reducePow, Int.reduceAdd, Int.reduceMul, Int.reduceSub, ↓Int.reduceNatCast', a1, a2, a3, stB _ zBx_ok zBx_ok, ldB _ _ zBx_ok, e.1, e.2, domE]
          · by_cases a4 : t.hi < t.lo
            · simp (disch := first | omega | decide) only [push_cast, ↓wF_free, ↓reduceIte, Nat.reduceEqDiff, Nat.reduceLT, Nat.reduceLeDiff, Nat.reduceAdd, Nat.reduceSub, Nat.reduceMul, Nat.reduceBEq, Int.reduceLT, Int.reduceLE, Int.reduceToNat, Int.reduceNeg, Int.reducePow, Int.reduceAdd, Int.reduceMul, Int.reduceSub, ↓Int.reduceNatCast', a1, a2, a3, a4, stB _ zBx_ok zBx_ok, ldB _ _ zBx_ok, e.1, e.2, domE]
            · have a5 : 9007199254740992 < t.hi := by omega
              simp (disch := first | omega | decide) only [push_cast, ↓wF_free, ↓reduceIte, Nat.reduceEqDiff, Nat.reduceLT, Nat.reduceLeDiff, Nat.reduceAdd, Nat.reduceSub, Nat.reduceMul, Nat.reduceBEq, Int.reduceLT, Int.reduceLE, Int.reduceToNat, Int.reduceNeg, Int.reducePow, Int.reduceAdd, Int.reduceMul, Int.reduceSub, ↓Int.reduceNatCast', a1, a2, a3, a4, a5, stB _ zBx_ok zBx_ok, ldB _ _ zBx_ok, e.1, e.2, domE]
  · obtain rfl : i = l.length := by omega
    rw [Nat.sub_self, regF] at hr
    have e := dom_some hr
    simp (disch := first | omega | decide) only [push_cast, ↓wF_free, ↓reduceIte, Nat.reduceEqDiff, Nat.reduceLT, Nat.reduceLeDiff, Nat.reduceAdd, Nat.reduceSub, Nat.reduceMul, Nat.reduceBEq, Int.reduceLT, Int.reduceLE, Int.reduceToNat, Int.reduceNeg, Int.reducePow, Int.reduceAdd, Int.reduceMul, Int.reduceSub, ↓Int.reduceNatCast', ldB _ _ hb, stB _ zBx_ok hb, e.1, e.2, domE]
theorem c_rdom : Contract Try.prog GG 43 sp_rdom :=
  contract_of tr_wagonpoolref19_Domain (tb_ok (all_cons c_rwhole (all_cons c_rnarrow all_nil)) all_nil) (fun a h => w_rdom a h)

/-! ### The reference's search -/
theorem pldB {b : Bx} (hb : b.ok) (st : St) : pload st 32 true (.eptr (bxD b) 0) = some (bxD b) := by
  have h : (bxD b).cells = bxC b := rfl
  have := bxC_length hb
  simp [pload_eptr, h, this, D.mk]
  rw [List.take_of_length_le (by omega)]
  rfl
theorem pldB_lo {b : Bx} (hb : b.ok) (st : St) (i : Nat) (h : i < 16) : pload st 1 false (.eptr (bxD b) i) = some (.int .i64 (at' b.lo i)) := by
  have := pload_emap st nI (bxL b) i (by rw [bxL_length hb]; omega)
  rw [at_low b i (by rw [hb.1]; exact h)] at this
  exact this
theorem pldB_hi {b : Bx} (hb : b.ok) (st : St) (i : Nat) (h : i < 16) : pload st 1 false (.eptr (bxD b) (16 + i)) = some (.int .i64 (at' b.hi i)) := by
  have := pload_emap st nI (bxL b) (16 + i) (by rw [bxL_length hb]; omega)
  rw [at_high hb i] at this
  exact this
theorem okL_at {l : List Bx} (h : okL l) (i : Nat) (hi : i < l.length) : (l.getD i default).ok := by
  rw [List.getD_eq_getElem?_getD, List.getElem?_eq_getElem hi]
  exact h _ (List.getElem_mem hi)
theorem atL_take (l : List Bx) (a : Nat) (n : Int) (i : Nat) (h : i < l.length) : atL (l.take (i + 1)) a n = if at' (l.getD i default).lo a ≤ n ∧ n ≤ at' (l.getD i default).hi a then atL (l.take i) a n ++ [l.getD i default] else atL (l.take i) a n := by
  rw [take_getD l i h]
  unfold atL
  rw [List.filter_append]
  by_cases h1 : at' (l.getD i default).lo a ≤ n ∧ n ≤ at' (l.getD i default).hi a
  · rw [if_pos h1, List.filter_cons, if_pos (by simp only [h1.1, h1.2, decide_true, Bool.and_self])]; rfl
  · rw [if_neg h1, List.filter_cons, if_neg (by simp only [Bool.and_eq_true, decide_eq_true_eq]; exact h1), List.filter_nil, List.append_nil]
theorem atL_len (l : List Bx) (a : Nat) (n : Int) : (atL l a n).length ≤ l.length := List.length_filter_le _ _
theorem atL_ok {l : List Bx} (h : okL l) (a : Nat) (n : Int) : okL (atL l a n) := fun b hb => h b (List.mem_filter.1 hb).1
theorem litD_bx {b : Bx} (hb : b.ok) : litD 32 [bxD b] = some (.slc 32 [bxD b] true) := by
  have : (bxD b).cells.length = 32 := bxC_length hb
  simp [litD, this]
noncomputable def sp_rat : List D → Option D := spOf (α := List Bx × Int × Int) (fun a => [.slc (nz 32 (a.1.map bxD)) (a.1.map bxD) false, .int .i64 a.2.1, .int .i64 a.2.2]) (fun a => a.1.length ≤ 65536 ∧ okL a.1 ∧ 0 ≤ a.2.1 ∧ a.2.1 < 16) (fun a => .slc (nz 32 ((atL a.1 a.2.1.toNat a.2.2).map bxD)) ((atL a.1 a.2.1.toNat a.2.2).map bxD) false)
theorem call_rat (l : List Bx) (a : Int) (n : Int) (h : l.length ≤ 65536 ∧ okL l ∧ 0 ≤ a ∧ a < 16) : sp_rat [.slc (nz 32 (l.map bxD)) (l.map bxD) false, .int .i64 a, .int .i64 n] = some (.slc (nz 32 ((atL l a.toNat n).map bxD)) ((atL l a.toNat n).map bxD) false) :=
  spOf_encP (fun ⟨a0, a1, a2⟩ ⟨b0, b1, b2⟩ p q h => by dsimp only at p q h; simp only [List.cons.injEq, D.slc.injEq, D.int.injEq, D.bool.injEq, D.str.injEq, D.agg.injEq, digs_iff, dig_iff, digC_iff, bytes_iff, byte_iff, words_iff, word_iff, bsl_iff, true_and, and_true, ints_iff, nI_iff, tsts_iff, clss_iff, clsD_iff, tarD_iff, tstD_iff, ptD_iff, Int.ofNat_inj, bxD_cond, boxs_cond, p, q] at h; simp [h, Prod.ext_iff]) (l, a, n) h
set_option maxHeartbeats 4000000 in
set_option maxRecDepth 20000 in
theorem w_rat (l : List Bx) (a : Int) (n : Int) (h : l.length ≤ 65536 ∧ okL l ∧ 0 ≤ a ∧ a < 16) : @wW GG (tb [] []) F_wagonpoolref19_at.code (argF [.slc (nz 32 (l.map bxD)) (l.map bxD) false, .int .i64 a, .int .i64 n]) [] ⟨retQ F_wagonpoolref19_at.res (.slc (nz 32 ((atL l a.toNat n).map bxD)) ((atL l a.toNat n).map bxD) false)⟩ := by
  obtain ⟨hl, hok, ha0, ha1⟩ := h
  have hw : atL l a.toNat n = atL (l.take l.length) a.toNat n := by rw [List.take_length]
  unfold F_wagonpoolref19_at
  simp (disch := first | omega | decide) only [push_cast, ↓wF_free, ↓reduceIte, Nat.reduceEqDiff, Nat.reduceLT, Nat.reduceLeDiff, Nat.reduceAdd, Nat.reduceSub, Nat.reduceMul, Nat.reduceBEq, Int.reduceLT, Int.reduceLE, Int.reduceToNat, Int.reduceNeg, Int.reducePow, Int.reduceAdd, Int.reduceMul, Int.reduceSub, ↓Int.reduceNatCast', imms_nil, litD_nil32]
  rw [nil_bufD1 32 0]
  refine W_while (fun i : Nat => [(0, .slc (nz 32 (l.map bxD)) (l.map bxD) false), (1, .int .i64 a), (2, .int .i64 n), (7, bufD 32 0 ((atL (l.take i) a.toNat n).map bxD)), (8, .int .i64 (i : Int))]) (fun i => bufS 32 ((atL (l.take i) a.toNat n).map bxD)) (fun i => i ≤ l.length) (fun i => l.length - i) 0 (by simp only [push_cast, ↓wF_free, ↓reduceIte, Nat.reduceEqDiff, Nat.reduceLT, Nat.reduceLeDiff, Nat.reduceAdd, Nat.reduceSub, Nat.reduceMul, Nat.reduceBEq, Int.reduceLT, Int.reduceLE, Int.reduceToNat, Int.reduceNeg, Int.reducePow, Int.reduceAdd, Int.reduceMul, Int.reduceSub, ↓Int.reduceNatCast'] <;> rfl) (Nat.zero_le _) ?_
  intro i hi
  unfold F_wagonpoolref19_at_L0
  simp (disch := first | omega | decide) only [push_cast, ↓wF_free, ↓reduceIte, Nat.reduceEqDiff, Nat.reduceLT, Nat.reduceLeDiff, Nat.reduceAdd, Nat.reduceSub, Nat.reduceMul, Nat.reduceBEq, Int.reduceLT, Int.reduceLE, Int.reduceToNat, Int.reduceNeg, Int.reducePow, Int.reduceAdd, Int.reduceMul, Int.reduceSub, ↓Int.reduceNatCast']
  refine ifD_split (fun h2 => ?_) (fun h2 => ?_)
  · have hlt : i < l.length := by omega
    have hb := okL_at hok i hlt
    have ht := atL_take l a.toNat n i hlt
    have hle := atL_len (l.take i) a.toNat n
    rw [List.length_take] at hle
    have hix := fun st => idxS_nz st 32 bxD l false .i64 (i : Int) (by omega) (by omega)
    rw [Int.toNat_natCast] at hix
    generalize l.getD i default = b at *
    have p1 := fun st => pldB_lo hb st a.toNat (by omega)
    have p2 := fun st => pldB_hi hb st a.toNat (by omega)
    have po := papp_o0 bxD 32 32 256 (atL (l.take i) a.toNat n) b true (by decide) (by omega) (by omega)
    by_cases k1 : at' b.lo a.toNat ≤ n
    · by_cases k2 : n ≤ at' b.hi a.toNat
      · rw [if_pos ⟨k1, k2⟩] at ht
        simp (disch := first | omega | decide) only [push_cast, ↓wF_free, ↓reduceIte, Nat.reduceEqDiff, Nat.reduceLT, Nat.reduceLeDiff, Nat.reduceAdd, Nat.reduceSub, Nat.reduceMul, Nat.reduceBEq, Int.reduceLT, Int.reduceLE, Int.reduceToNat, Int.reduceNeg, Int.reducePow, Int.reduceAdd, Int.reduceMul, Int.reduceSub, ↓Int.reduceNatCast', hix, idxA_eptr, p1, p2, k1, k2, pldB hb, litD_bx hb, po, add_i]
        refine next_head (i + 1) (by omega) (by omega) ?_
        rw [ht]
        simp only [push_cast, ↓wF_free, ↓reduceIte, Nat.reduceEqDiff, Nat.reduceLT, Nat.reduceLeDiff, Nat.reduceAdd, Nat.reduceSub, Nat.reduceMul, Nat.reduceBEq, Int.reduceLT, Int.reduceLE, Int.reduceToNat, Int.reduceNeg, Int.reducePow, Int.reduceAdd, Int.reduceMul, Int.reduceSub, ↓Int.reduceNatCast'] <;> rfl
      · rw [if_neg (fun h => k2 h.2)] at ht
        simp (disch := first | omega | decide) only [push_cast, ↓wF_free, ↓reduceIte, Nat.reduceEqDiff, Nat.reduceLT, Nat.reduceLeDiff, Nat.reduceAdd, Nat.reduceSub, Nat.reduceMul, Nat.reduceBEq, Int.reduceLT, Int.reduceLE, Int.reduceToNat, Int.reduceNeg, Int.reducePow, Int.reduceAdd, Int.reduceMul, Int.reduceSub, ↓Int.reduceNatCast', hix, idxA_eptr, p1, p2, k1, k2, add_i]
        refine next_head (i + 1) (by omega) (by omega) ?_
        rw [ht]
        simp only [push_cast, ↓wF_free, ↓reduceIte, Nat.reduceEqDiff, Nat.reduceLT, Nat.reduceLeDiff, Nat.reduceAdd, Nat.reduceSub, Nat.reduceMul, Nat.reduceBEq, Int.reduceLT, Int.reduceLE, Int.reduceToNat, Int.reduceNeg, Int.reducePow, Int.reduceAdd, Int.reduceMul, Int.reduceSub, ↓Int.reduceNatCast'] <;> rfl
    · rw [if_neg (fun h => k1 h.1)] at ht
      simp (disch := first | omega | decide) only [push_cast, ↓wF_free, ↓reduceIte, Nat.reduceEqDiff, Nat.reduceLT, Nat.reduceLeDiff, Nat.reduceAdd, Nat.reduceSub, Nat.reduceMul, Nat.reduceBEq, Int.reduceLT, Int.reduceLE, Int.reduceToNat, Int.reduceNeg, Int.reducePow, Int.reduceAdd, Int.reduceMul, Int.reduceSub, ↓Int.reduceNatCast', hix, idxA_eptr, p1, p2, k1, add_i]
      refine next_head (i + 1) (by omega) (by omega) ?_
      rw [ht]
      simp only [push_cast, ↓wF_free, ↓reduceIte, Nat.reduceEqDiff, Nat.reduceLT, Nat.reduceLeDiff, Nat.reduceAdd, Nat.reduceSub, Nat.reduceMul, Nat.reduceBEq, Int.reduceLT, Int.reduceLE, Int.reduceToNat, Int.reduceNeg, Int.reducePow, Int.reduceAdd, Int.reduceMul, Int.reduceSub, ↓Int.reduceNatCast'] <;> rfl
  · obtain rfl : i = l.length := by omega
    rw [hw]
    simp (disch := first | omega | decide) only [push_cast, ↓wF_free, ↓reduceIte, Nat.reduceEqDiff, Nat.reduceLT, Nat.reduceLeDiff, Nat.reduceAdd, Nat.reduceSub, Nat.reduceMul, Nat.reduceBEq, Int.reduceLT, Int.reduceLE, Int.reduceToNat, Int.reduceNeg, Int.reducePow, Int.reduceAdd, Int.reduceMul, Int.reduceSub, ↓Int.reduceNatCast']
theorem c_rat : Contract Try.prog GG 62 sp_rat :=
  contract_of tr_wagonpoolref19_at (tb_ok all_nil all_nil) (fun a h => w_rat a.1 a.2.1 a.2.2 h)
theorem afterL_take (a : Nat) (n : Int) : ∀ (l : List Bx) (b : Bx) (x : Int), afterL (l ++ [b]) a n x = if n ≤ at' b.hi a then min (afterL l a n x) (at' b.hi a + 1) else afterL l a n x
  | [], b, x => rfl
  | c :: l, b, x => by
    simp only [List.cons_append, afterL]
    exact afterL_take a n l b _
def hiL (l : List Bx) : Prop := ∀ b ∈ l, ∀ i, i < 16 → at' b.hi i ≤ 9007199254740992
theorem hiL_at {l : List Bx} (h : hiL l) (i : Nat) (hi : i < l.length) : ∀ j, j < 16 → at' (l.getD i default).hi j ≤ 9007199254740992 := by
  rw [List.getD_eq_getElem?_getD, List.getElem?_eq_getElem hi]
  exact h _ (List.getElem_mem hi)
theorem hiL_atL {l : List Bx} (h : hiL l) (a : Nat) (n : Int) : hiL (atL l a n) := fun b hb => h b (List.mem_filter.1 hb).1
noncomputable def sp_rafter : List D → Option D := spOf (α := List Bx × Int × Int) (fun a => [.slc (nz 32 (a.1.map bxD)) (a.1.map bxD) false, .int .i64 a.2.1, .int .i64 a.2.2]) (fun a => a.1.length ≤ 65536 ∧ okL a.1 ∧ hiL a.1 ∧ 0 ≤ a.2.1 ∧ a.2.1 < 16 ∧ 0 ≤ a.2.2 ∧ a.2.2 ≤ 9007199254740992) (fun a => .int .i64 (afterL a.1 a.2.1.toNat a.2.2 maxA1))
theorem call_rafter (l : List Bx) (a : Int) (n : Int) (h : l.length ≤ 65536 ∧ okL l ∧ hiL l ∧ 0 ≤ a ∧ a < 16 ∧ 0 ≤ n ∧ n ≤ 9007199254740992) : sp_rafter [.slc (nz 32 (l.map bxD)) (l.map bxD) false, .int .i64 a, .int .i64 n] = some (.int .i64 (afterL l a.toNat n maxA1)) :=
  spOf_encP (fun ⟨a0, a1, a2⟩ ⟨b0, b1, b2⟩ p q h => by dsimp only at p q h; simp only [List.cons.injEq, D.slc.injEq, D.int.injEq, D.bool.injEq, D.str.injEq, D.agg.injEq, digs_iff, dig_iff, digC_iff, bytes_iff, byte_iff, words_iff, word_iff, bsl_iff, true_and, and_true, ints_iff, nI_iff, tsts_iff, clss_iff, clsD_iff, tarD_iff, tstD_iff, ptD_iff, Int.ofNat_inj, bxD_cond, boxs_cond, p, q] at h; simp [h, Prod.ext_iff]) (l, a, n) h
set_option maxHeartbeats 4000000 in
set_option maxRecDepth 20000 in
theorem w_rafter (l : List Bx) (a : Int) (n : Int) (h : l.length ≤ 65536 ∧ okL l ∧ hiL l ∧ 0 ≤ a ∧ a < 16 ∧ 0 ≤ n ∧ n ≤ 9007199254740992) : @wW GG (tb [] []) F_wagonpoolref19_after.code (argF [.slc (nz 32 (l.map bxD)) (l.map bxD) false, .int .i64 a, .int .i64 n]) [] ⟨retQ F_wagonpoolref19_after.res (.int .i64 (afterL l a.toNat n maxA1))⟩ := by
  obtain ⟨hl, hok, hhi, ha0, ha1, hn0, hn⟩ := h
  have hw : afterL l a.toNat n maxA1 = afterL (l.take l.length) a.toNat n maxA1 := by rw [List.take_length]
  unfold F_wagonpoolref19_after
  simp (disch := first | omega | decide) only [push_cast, ↓wF_free, ↓reduceIte, Nat.reduceEqDiff, Nat.reduceLT, Nat.reduceLeDiff, Nat.reduceAdd, Nat.reduceSub, Nat.reduceMul, Nat.reduceBEq, Int.reduceLT, Int.reduceLE, Int.reduceToNat, Int.reduceNeg, Int.reducePow, Int.reduceAdd, Int.reduceMul, Int.reduceSub, ↓Int.reduceNatCast']
  refine W_while (fun i : Nat => [(0, .slc (nz 32 (l.map bxD)) (l.map bxD) false), (1, .int .i64 a), (2, .int .i64 n), (7, .int .i64 (afterL (l.take i) a.toNat n maxA1)), (8, .int .i64 (i : Int))]) (fun i => []) (fun i => i ≤ l.length) (fun i => l.length - i) 0 (by simp only [push_cast, ↓wF_free, ↓reduceIte, Nat.reduceEqDiff, Nat.reduceLT, Nat.reduceLeDiff, Nat.reduceAdd, Nat.reduceSub, Nat.reduceMul, Nat.reduceBEq, Int.reduceLT, Int.reduceLE, Int.reduceToNat, Int.reduceNeg, Int.reducePow, Int.reduceAdd, Int.reduceMul, Int.reduceSub, ↓Int.reduceNatCast'] <;> rfl) (Nat.zero_le _) ?_
  intro i hi
  have hs := afterL_spec a.toNat n (l.take i) maxA1 (by unfold maxA1; omega)
  have hsl : n < afterL (l.take i) a.toNat n maxA1 ∧ afterL (l.take i) a.toNat n maxA1 ≤ 9007199254740993 := ⟨hs.1, hs.2.1⟩
  unfold F_wagonpoolref19_after_L0
  simp (disch := first | omega | decide) only [push_cast, ↓wF_free, ↓reduceIte, Nat.reduceEqDiff, Nat.reduceLT, Nat.reduceLeDiff, Nat.reduceAdd, Nat.reduceSub, Nat.reduceMul, Nat.reduceBEq, Int.reduceLT, Int.reduceLE, Int.reduceToNat, Int.reduceNeg, Int.reducePow, Int.reduceAdd, Int.reduceMul, Int.reduceSub, ↓Int.reduceNatCast']
  refine ifD_split (fun h2 => ?_) (fun h2 => ?_)
  · have hlt : i < l.length := by omega
    have hb := okL_at hok i hlt
    have ht : afterL (l.take (i + 1)) a.toNat n maxA1 = if n ≤ at' (l.getD i default).hi a.toNat then min (afterL (l.take i) a.toNat n maxA1) (at' (l.getD i default).hi a.toNat + 1) else afterL (l.take i) a.toNat n maxA1 := by rw [take_getD l i hlt, afterL_take]
    have hix := fun st => idxS_nz st 32 bxD l false .i64 (i : Int) (by omega) (by omega)
    rw [Int.toNat_natCast] at hix
    have hrg := hiL_at hhi i hlt
    generalize l.getD i default = b at *
    have p2 := fun st => pldB_hi hb st a.toNat (by omega)
    by_cases k2 : n ≤ at' b.hi a.toNat
    · rw [if_pos k2] at ht
      have := hrg a.toNat (by omega)
      simp (disch := first | omega | decide) only [push_cast, ↓wF_free, ↓reduceIte, Nat.reduceEqDiff, Nat.reduceLT, Nat.reduceLeDiff, Nat.reduceAdd, Nat.reduceSub, Nat.reduceMul, Nat.reduceBEq, Int.reduceLT, Int.reduceLE, Int.reduceToNat, Int.reduceNeg, Int.reducePow, Int.reduceAdd, Int.reduceMul, Int.reduceSub, ↓Int.reduceNatCast', hix, idxA_eptr, p2, k2, add_i]
      refine next_head (i + 1) (by omega) (by omega) ?_
      rw [ht]
      simp only [push_cast, ↓wF_free, ↓reduceIte, Nat.reduceEqDiff, Nat.reduceLT, Nat.reduceLeDiff, Nat.reduceAdd, Nat.reduceSub, Nat.reduceMul, Nat.reduceBEq, Int.reduceLT, Int.reduceLE, Int.reduceToNat, Int.reduceNeg, Int.reducePow, Int.reduceAdd, Int.reduceMul, Int.reduceSub, ↓Int.reduceNatCast'] <;> rfl
    · rw [if_neg k2] at ht
      simp (disch := first | omega | decide) only [push_cast, ↓wF_free, ↓reduceIte, Nat.reduceEqDiff, Nat.reduceLT, Nat.reduceLeDiff, Nat.reduceAdd, Nat.reduceSub, Nat.reduceMul, Nat.reduceBEq, Int.reduceLT, Int.reduceLE, Int.reduceToNat, Int.reduceNeg, Int.reducePow, Int.reduceAdd, Int.reduceMul, Int.reduceSub, ↓Int.reduceNatCast', hix, idxA_eptr, p2, k2, add_i]
      refine next_head (i + 1) (by omega) (by omega) ?_
      rw [ht]
      simp only [push_cast, ↓wF_free, ↓reduceIte, Nat.reduceEqDiff, Nat.reduceLT, Nat.reduceLeDiff, Nat.reduceAdd, Nat.reduceSub, Nat.reduceMul, Nat.reduceBEq, Int.reduceLT, Int.reduceLE, Int.reduceToNat, Int.reduceNeg, Int.reducePow, Int.reduceAdd, Int.reduceMul, Int.reduceSub, ↓Int.reduceNatCast'] <;> rfl
  · obtain rfl : i = l.length := by omega
    rw [hw]
    simp (disch := first | omega | decide) only [push_cast, ↓wF_free, ↓reduceIte, Nat.reduceEqDiff, Nat.reduceLT, Nat.reduceLeDiff, Nat.reduceAdd, Nat.reduceSub, Nat.reduceMul, Nat.reduceBEq, Int.reduceLT, Int.reduceLE, Int.reduceToNat, Int.reduceNeg, Int.reducePow, Int.reduceAdd, Int.reduceMul, Int.reduceSub, ↓Int.reduceNatCast']
theorem c_rafter : Contract Try.prog GG 61 sp_rafter :=
  contract_of tr_wagonpoolref19_after (tb_ok all_nil all_nil) (fun a h => w_rafter a.1 a.2.1 a.2.2 h)
end Go.Proofs.Ytgppecaeegaooaa.PI
