/-
  tbox: domains; the reference's search.
  Conditions: none; these are lemmas.
-/
import Derived.Test.YtgppecaeegaooaaTbD
namespace Go.Proofs.Ytgppecaeegaooaa.PI
open Go
set_option linter.unusedSimpArgs false
set_option linter.unusedVariables false
def okD (t : Tst) : Prop := okA t ∧ 0 ≤ t.lo ∧ t.lo ≤ t.hi ∧ t.hi ≤ 9007199254740992
instance (t : Tst) : Decidable (okD t) := by unfold okD; infer_instance
def seenB : List Tst → Nat → Int → Bool
  | _, 0, _ => false
  | l, i + 1, x => seenB l i x || decide ((l.getD i default).a = x)
def regF (l : List Tst) : Nat → Nat → Bx → Option Bx
  | 0, _, b => some b
  | k + 1, i, b => if okD (l.getD i default) then (if seenB l i (l.getD i default).a then none else regF l k (i + 1) (cutB b (l.getD i default))) else none
def domF (l : List Tst) : Option Bx := regF l l.length 0 allB
theorem reg_run (l : List Tst) : ∀ (k i : Nat) (b c : Bx), k + i = l.length → regF l k i b = some c → runT b (l.drop i) = some c
  | 0, i, b, c, hk, h => by
    rw [List.drop_of_length_le (by omega)]
    exact h
  | k + 1, i, b, c, hk, h => by
    rw [run_drop b l i (by omega)]
    simp only [regF] at h
    split at h
    · rename_i ho
      rw [if_pos ho.1]
      split at h
      · cases h
      · exact reg_run l k (i + 1) _ c (by omega) h
    · cases h
structure DomI (l : List Tst) (i : Nat) (b : Bx) : Prop where
  ok : b.ok
  rg : ∀ j : Nat, j < 16 → 0 ≤ at' b.lo j ∧ at' b.lo j ≤ at' b.hi j ∧ at' b.hi j ≤ 9007199254740992
  ns : ∀ j : Nat, j < 16 → seenB l i (j : Int) = false → at' b.lo j = 0 ∧ at' b.hi j = 9007199254740992
theorem domI_start (l : List Tst) : DomI l 0 allB := by
  have h : ∀ j, j < 16 → at' allB.lo j = 0 ∧ at' allB.hi j = 9007199254740992 := fun j hj => ⟨at_rep _ _ _ hj, at_rep _ _ _ hj⟩
  exact ⟨allB_ok, fun j hj => by obtain ⟨a, b⟩ := h j hj; omega, fun j hj _ => h j hj⟩
theorem domI_next {l : List Tst} {i : Nat} {b : Bx} (h : DomI l i b) (ho : okD (l.getD i default)) (hs : seenB l i (l.getD i default).a = false) : DomI l (i + 1) (cutB b (l.getD i default)) := by
  obtain ⟨ha, h1, h2, h3⟩ := ho
  have ha' := ha
  obtain ⟨a1, a2⟩ := ha'
  have hn := h.ns (l.getD i default).a.toNat (by omega) (by rw [Int.toNat_of_nonneg a1]; exact hs)
  refine ⟨cutB_ok h.ok _, fun j hj => ?_, fun j hj hsj => ?_⟩
  · rw [cutB_lo h.ok ha, cutB_hi h.ok ha]
    have := h.rg j hj
    split
    · rename_i e; subst e; omega
    · exact this
  · simp only [seenB, Bool.or_eq_false_iff, decide_eq_false_iff_not] at hsj
    rw [cutB_lo h.ok ha, cutB_hi h.ok ha, if_neg (by omega), if_neg (by omega)]
    exact h.ns j hj hsj.1
theorem reg_dom (l : List Tst) : ∀ (k i : Nat) (b c : Bx), k + i = l.length → DomI l i b → regF l k i b = some c → Dom c
  | 0, i, b, c, hk, hI, h => by
    simp only [regF, Option.some.injEq] at h
    subst h
    exact ⟨hI.ok, fun j hj => (hI.rg j hj).2.1, fun j hj => (hI.rg j hj).2.2⟩
  | k + 1, i, b, c, hk, hI, h => by
    simp only [regF] at h
    split at h
    · rename_i ho
      split at h
      · cases h
      · rename_i hs
        exact reg_dom l k (i + 1) _ c (by omega) (domI_next hI ho (by simpa using hs)) h
    · cases h
theorem dom_ok {l : List Tst} {d : Bx} (h : domF l = some d) : Dom d := reg_dom l l.length 0 allB d rfl (domI_start l) h
theorem dom_run {l : List Tst} {d : Bx} (h : domF l = some d) : runT allB l = some d := reg_run l l.length 0 allB d rfl h
def domD (l : List Tst) : Bx := match domF l with
  | some d => d
  | none => zBx
def domB (l : List Tst) : Bool := (domF l).isSome
theorem domD_ok (l : List Tst) : (domD l).ok := by
  unfold domD
  split
  · rename_i d h; exact (dom_ok h).ok
  · exact zBx_ok
theorem dom_none {l : List Tst} (h : domF l = none) : domD l = zBx ∧ domB l = false := by unfold domD domB; rw [h]; exact ⟨rfl, rfl⟩
theorem dom_some {l : List Tst} {d : Bx} (h : domF l = some d) : domD l = d ∧ domB l = true := by unfold domD domB; rw [h]; exact ⟨rfl, rfl⟩
def snL (l : List Tst) (i : Nat) : List Bool := (List.range 16).map fun (x : Nat) => seenB l i (x : Int)
theorem snL_zero (l : List Tst) : [D.bool false, .bool false, .bool false, .bool false, .bool false, .bool false, .bool false, .bool false, .bool false, .bool false, .bool false, .bool false, .bool false, .bool false, .bool false, .bool false] = (snL l 0).map D.bool := (rfl)
theorem snL_length (l : List Tst) (i : Nat) : (snL l i).length = 16 := by simp [snL]
theorem snL_at (l : List Tst) (i j : Nat) (h : j < 16) : (snL l i).getD j default = seenB l i (j : Int) := by simp [snL, List.getD_eq_getElem?_getD, h]
theorem snL_set (l : List Tst) (i : Nat) (h0 : 0 ≤ (l.getD i default).a) (h1 : (l.getD i default).a < 16) : (snL l i).set (l.getD i default).a.toNat true = snL l (i + 1) := by
  apply List.ext_getElem (by simp [snL])
  intro j h2 h3
  rw [List.getElem_set]
  simp only [snL, List.getElem_map, List.getElem_range, seenB]
  by_cases e : (l.getD i default).a = (j : Int)
  · rw [if_pos (by omega)]; simp only [e, decide_true, Bool.or_true]
  · rw [if_neg (by omega)]; simp only [e, decide_false, Bool.or_false]
theorem box_bools (l : List Bool) : boxD (.agg (l.map D.bool)) = some (l.map D.bool) := by
  simp only [boxD, D.cells, map_cells D.bool (fun _ => rfl), if_true]
theorem hkB_bools (l : List Bool) : (l.map D.bool).flatMap hk = [] := hkB_solid (map_solid D.bool (fun _ => rfl) l)
theorem renB_bools (n : Nat) (σ : List Nat) (l : List Bool) : (l.map D.bool).map (ren n σ) = l.map D.bool := renB_solid n σ (map_solid D.bool (fun _ => rfl) l)
attribute [push_cast] box_bools hkB_bools renB_bools
noncomputable def sp_preg : List D → Option D := spOf (α := List Tst) (fun a => [.slc (nz 3 (a.map tstD)) (a.map tstD) false]) (fun a => a.length ≤ 9223372036854775807) (fun a => .tup [bxD (domD a), .bool (domB a)])
theorem call_preg (l : List Tst) (h : l.length ≤ 9223372036854775807) : sp_preg [.slc (nz 3 (l.map tstD)) (l.map tstD) false] = some (.tup [bxD (domD l), .bool (domB l)]) :=
  spOf_enc (fun a b h => by simp only [List.cons.injEq, D.slc.injEq, D.int.injEq, D.bool.injEq, D.str.injEq, D.agg.injEq, digs_iff, dig_iff, digC_iff, bytes_iff, byte_iff, words_iff, word_iff, bsl_iff, true_and, and_true, ints_iff, nI_iff, tsts_iff, clss_iff, clsD_iff, tarD_iff, tstD_iff, ptD_iff, Int.ofNat_inj] at h; simp [h, Prod.ext_iff]) (l) h
set_option maxHeartbeats 4000000 in
set_option maxRecDepth 20000 in
theorem w_preg (l : List Tst) (h : l.length ≤ 9223372036854775807) : @wW GG (tb [(54, sp_pall), (55, sp_pcut)] []) F_tbox_region.code (argF [.slc (nz 3 (l.map tstD)) (l.map tstD) false]) [] ⟨retQ F_tbox_region.res (.tup [bxD (domD l), .bool (domB l)])⟩ := by
  have ca := call_pall
  unfold F_tbox_region
  simp (disch := first | omega | decide) only [push_cast, ↓wF_free, ↓reduceIte, Nat.reduceEqDiff, Nat.reduceLT, Nat.reduceLeDiff, Nat.reduceAdd, Nat.reduceSub, Nat.reduceMul, Nat.reduceBEq, Int.reduceLT, Int.reduceLE, Int.reduceToNat, Int.reduceNeg, Int.reducePow, Int.reduceAdd, Int.reduceMul, Int.reduceSub, ↓Int.reduceNatCast', ca, stB _ zBx_ok allB_ok, snL_zero l]
  refine W_while (fun i : Nat × Bx => [(2, .ptr 0 0), (4, .ptr 1 0), (5, .ptr 2 0), (9, .slc (nz 3 (l.map tstD)) (l.map tstD) false), (10, .int .i64 (l.length : Int)), (11, .int .i64 (i.1 : Int))]) (fun i => [⟨false, 1, bxC zBx, false⟩, ⟨false, 1, bxC i.2, false⟩, ⟨false, 1, (snL l i.1).map D.bool, false⟩]) (fun i => i.1 ≤ l.length ∧ i.2.ok ∧ domF l = regF l (l.length - i.1) i.1 i.2) (fun i => l.length - i.1) (0, allB) (by simp only [push_cast, ↓wF_free, ↓reduceIte, Nat.reduceEqDiff, Nat.reduceLT, Nat.reduceLeDiff, Nat.reduceAdd, Nat.reduceSub, Nat.reduceMul, Nat.reduceBEq, Int.reduceLT, Int.reduceLE, Int.reduceToNat, Int.reduceNeg, Int.reducePow, Int.reduceAdd, Int.reduceMul, Int.reduceSub, ↓Int.reduceNatCast', snL_zero l] <;> rfl) ⟨Nat.zero_le _, allB_ok, rfl⟩ ?_
  rintro ⟨i, b⟩ ⟨hi, hb, hr⟩
  dsimp only at hi hb hr
  unfold F_tbox_region_L0
  simp (disch := first | omega | decide) only [push_cast, ↓wF_free, ↓reduceIte, Nat.reduceEqDiff, Nat.reduceLT, Nat.reduceLeDiff, Nat.reduceAdd, Nat.reduceSub, Nat.reduceMul, Nat.reduceBEq, Int.reduceLT, Int.reduceLE, Int.reduceToNat, Int.reduceNeg, Int.reducePow, Int.reduceAdd, Int.reduceMul, Int.reduceSub, ↓Int.reduceNatCast']
  refine ifD_split (fun h2 => ?_) (fun h2 => ?_)
  · have hlt : i < l.length := by omega
    rw [show l.length - i = (l.length - (i + 1)) + 1 by omega, regF] at hr
    have hset := snL_set l i
    simp (disch := first | omega | decide) only [push_cast, ↓wF_free, ↓reduceIte, Nat.reduceEqDiff, Nat.reduceLT, Nat.reduceLeDiff, Nat.reduceAdd, Nat.reduceSub, Nat.reduceMul, Nat.reduceBEq, Int.reduceLT, Int.reduceLE, Int.reduceToNat, Int.reduceNeg, Int.reducePow, Int.reduceAdd, Int.reduceMul, Int.reduceSub, ↓Int.reduceNatCast', idxS_nz]
    generalize l.getD i default = t at *
    by_cases ht : okD t
    · obtain ⟨hta, b1, b2, b3⟩ := ht
      have ht' := hta
      obtain ⟨a1', a2'⟩ := ht'
      have hset' := hset a1' a2'
      rw [if_pos ⟨hta, b1, b2, b3⟩] at hr
      have a1 : ¬ t.a < 0 := by omega
      have a2 : ¬ (16 : Int) ≤ t.a := by omega
      have a3 : ¬ t.lo < 0 := by omega
      have a4 : ¬ t.hi < t.lo := by omega
      have a5 : ¬ 9007199254740992 < t.hi := by omega
      have hl := ldO_map 1 false D.bool (snL l i) t.a.toNat (by rw [snL_length]; omega)
      rw [snL_at l i _ (by omega), Int.toNat_of_nonneg a1'] at hl
      have hs := stO_set 1 D.bool (fun _ => rfl) (snL l i) t.a.toNat true (by rw [snL_length]; omega)
      rw [hset'] at hs
      cases k : seenB l i t.a with
      | true =>
        rw [k] at hl hr
        have e := dom_none hr
        simp (disch := first | omega | decide) only [push_cast, ↓wF_free, ↓reduceIte, Nat.reduceEqDiff, Nat.reduceLT, Nat.reduceLeDiff, Nat.reduceAdd, Nat.reduceSub, Nat.reduceMul, Nat.reduceBEq, Int.reduceLT, Int.reduceLE, Int.reduceToNat, Int.reduceNeg, Int.reducePow, Int.reduceAdd, Int.reduceMul, Int.reduceSub, ↓Int.reduceNatCast', a1, a2, idxA_ptr, hl, stB _ zBx_ok zBx_ok, ldB _ _ zBx_ok, e.1, e.2]
      | false =>
        rw [k] at hl hr
        have hc := cutB_ok hb t
        have cc := call_pcut b t ⟨hb, hta⟩
        simp (disch := first | omega | decide) only [push_cast, ↓wF_free, ↓reduceIte, Nat.reduceEqDiff, Nat.reduceLT, Nat.reduceLeDiff, Nat.reduceAdd, Nat.reduceSub, Nat.reduceMul, Nat.reduceBEq, Int.reduceLT, Int.reduceLE, Int.reduceToNat, Int.reduceNeg, Int.reducePow, Int.reduceAdd, Int.reduceMul, Int.reduceSub, ↓Int.reduceNatCast', a1, a2, a3, a4, a5, idxA_ptr, hl, hs, ldB _ _ hb, cc, stB _ hb hc, add_i]
        refine next_head (i + 1, cutB b t) (by exact ⟨by omega, hc, hr⟩) (by dsimp only; omega) ?_
        simp only [push_cast, ↓wF_free, ↓reduceIte, Nat.reduceEqDiff, Nat.reduceLT, Nat.reduceLeDiff, Nat.reduceAdd, Nat.reduceSub, Nat.reduceMul, Nat.reduceBEq, Int.reduceLT, Int.reduceLE, Int.reduceToNat, Int.reduceNeg, Int.reducePow, Int.reduceAdd, Int.reduceMul, Int.reduceSub, ↓Int.reduceNatCast'] <;> rfl
    · have ht' := ht
      unfold okD okA at ht'
      rw [if_neg ht] at hr
      have e := dom_none hr
      by_cases a1 : t.a < 0
      · simp (disch := first | omega | decide) only [push_cast, ↓wF_free, ↓reduceIte, Nat.reduceEqDiff, Nat.reduceLT, Nat.reduceLeDiff, Nat.reduceAdd, Nat.reduceSub, Nat.reduceMul, Nat.reduceBEq, Int.reduceLT, Int.reduceLE, Int.reduceToNat, Int.reduceNeg, Int.reducePow, Int.reduceAdd, Int.reduceMul, Int.reduceSub, ↓Int.reduceNatCast', a1, stB _ zBx_ok zBx_ok, ldB _ _ zBx_ok, e.1, e.2]
      · by_cases a2 : (16 : Int) ≤ t.a
        · simp (disch := first | omega | decide) only [push_cast, ↓wF_free, ↓reduceIte, Nat.reduceEqDiff, Nat.reduceLT, Nat.reduceLeDiff, Nat.reduceAdd, Nat.reduceSub, Nat.reduceMul, Nat.reduceBEq, Int.reduceLT, Int.reduceLE, Int.reduceToNat, Int.reduceNeg, Int.reducePow, Int.reduceAdd, Int.reduceMul, Int.reduceSub, ↓Int.reduceNatCast', a1, a2, stB _ zBx_ok zBx_ok, ldB _ _ zBx_ok, e.1, e.2]
        · have hl := ldO_map 1 false D.bool (snL l i) t.a.toNat (by rw [snL_length]; omega)
          cases k : (snL l i).getD t.a.toNat default with
          | true =>
            rw [k] at hl
            simp (disch := first | omega | decide) only [push_cast, ↓wF_free, ↓reduceIte, Nat.reduceEqDiff, Nat.reduceLT, Nat.reduceLeDiff, Nat.reduceAdd, Nat.reduceSub, Nat.reduceMul, Nat.reduceBEq, Int.reduceLT, Int.reduceLE, Int.reduceToNat, Int.reduceNeg, Int.reducePow, Int.reduceAdd, Int.reduceMul, Int.reduceSub, ↓Int.reduceNatCast', a1, a2, idxA_ptr, hl, stB _ zBx_ok zBx_ok, ldB _ _ zBx_ok, e.1, e.2]
          | false =>
            rw [k] at hl
            by_cases a3 : t.lo < 0
            · simp (disch := first | omega | decide) only [push_cast, ↓wF_free, ↓reduceIte, Nat.reduceEqDiff, Nat.reduceLT, Nat.reduceLeDiff, Nat.reduceAdd, Nat.reduceSub, Nat.reduceMul, Nat.reduceBEq, Int.reduceLT, Int.reduceLE, Int.reduceToNat, Int.reduceNeg, Int.reducePow, Int.reduceAdd, Int.reduceMul, Int.reduceSub, ↓Int.reduceNatCast', a1, a2, a3, idxA_ptr, hl, stB _ zBx_ok zBx_ok, ldB _ _ zBx_ok, e.1, e.2]
            · by_cases a4 : t.hi < t.lo
              · simp (disch := first | omega | decide) only [push_cast, ↓wF_free, ↓reduceIte, Nat.reduceEqDiff, Nat.reduceLT, Nat.reduceLeDiff, Nat.reduceAdd, Nat.reduceSub, Nat.reduceMul, Nat.reduceBEq, Int.reduceLT, Int.reduceLE, Int.reduceToNat, Int.reduceNeg, Int.reducePow, Int.reduceAdd, Int.reduceMul, Int.reduceSub, ↓Int.reduceNatCast', a1, a2, a3, a4, idxA_ptr, hl, stB _ zBx_ok zBx_ok, ldB _ _ zBx_ok, e.1, e.2]
              · have a5 : 9007199254740992 < t.hi := by omega
                simp (disch := first | omega | decide) only [push_cast, ↓wF_free, ↓reduceIte, Nat.reduceEqDiff, Nat.reduceLT, Nat.reduceLeDiff, Nat.reduceAdd, Nat.reduceSub, Nat.reduceMul, Nat.reduceBEq, Int.reduceLT, Int.reduceLE, Int.reduceToNat, Int.reduceNeg, Int.reducePow, Int.reduceAdd, Int.reduceMul, Int.reduceSub, ↓Int.reduceNatCast', a1, a2, a3, a4, a5, idxA_ptr, hl, stB _ zBx_ok zBx_ok, ldB _ _ zBx_ok, e.1, e.2]
  · obtain rfl : i = l.length := by omega
    rw [Nat.sub_self, regF] at hr
    have e := dom_some hr
    simp (disch := first | omega | decide) only [push_cast, ↓wF_free, ↓reduceIte, Nat.reduceEqDiff, Nat.reduceLT, Nat.reduceLeDiff, Nat.reduceAdd, Nat.reduceSub, Nat.reduceMul, Nat.reduceBEq, Int.reduceLT, Int.reduceLE, Int.reduceToNat, Int.reduceNeg, Int.reducePow, Int.reduceAdd, Int.reduceMul, Int.reduceSub, ↓Int.reduceNatCast', ldB _ _ hb, stB _ zBx_ok hb, e.1, e.2]
theorem c_preg : Contract Try.prog GG 35 sp_preg :=
  contract_of tr_tbox_region (tb_ok (all_cons c_pall (all_cons c_pcut all_nil)) all_nil) (fun a h => w_preg a h)
theorem okL_at {l : List Bx} (h : okL l) (i : Nat) (hi : i < l.length) : (l.getD i default).ok := by
  rw [List.getD_eq_getElem?_getD, List.getElem?_eq_getElem hi]
  exact h _ (List.getElem_mem hi)
theorem litD_bx {b : Bx} (hb : b.ok) : litD 32 [bxD b] = some (.slc 32 [bxD b] true) := by
  have : (bxD b).cells.length = 32 := bxC_length hb
  simp [litD, this]
theorem afterL_take (a : Nat) (n : Int) : ∀ (l : List Bx) (b : Bx) (x : Int), afterL (l ++ [b]) a n x = if n ≤ at' b.hi a then min (afterL l a n x) (at' b.hi a + 1) else afterL l a n x
  | [], b, x => rfl
  | c :: l, b, x => by
    simp only [List.cons_append, afterL]
    exact afterL_take a n l b _
def hiL (l : List Bx) : Prop := ∀ b ∈ l, ∀ i, i < 16 → at' b.hi i ≤ 9007199254740992
theorem hiL_at {l : List Bx} (h : hiL l) (i : Nat) (hi : i < l.length) : ∀ j, j < 16 → at' (l.getD i default).hi j ≤ 9007199254740992 := by
  rw [List.getD_eq_getElem?_getD, List.getElem?_eq_getElem hi]
  exact h _ (List.getElem_mem hi)
end Go.Proofs.Ytgppecaeegaooaa.PI
