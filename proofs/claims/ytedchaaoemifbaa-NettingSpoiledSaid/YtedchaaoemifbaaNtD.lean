/-
  netting: searches by a function; checks of balances; copies.
  Conditions: none; these are lemmas.
-/
import Derived.Test.YtedchaaoemifbaaNtC
namespace Go.Proofs.Ytedchaaoemifbaa.PI
open Go
set_option linter.unusedSimpArgs false
set_option linter.unusedVariables false

/-! ### Searches among numbers -/
def prI (b : Bool) (x : Int) : Bool := if b then decide ¬ inR x else !decide (x = 0)
def cloI (b : Bool) : D := if b then .clo 37 [] else .clo 32 []
theorem cloI_inj {a b : Bool} (h : cloI a = cloI b) : a = b := by
  cases a <;> cases b <;> first | rfl | (simp [cloI] at h)
def idxL (p : Int → Bool) (l : List Int) : Int := if l.any p then (l.findIdx p : Int) else -1
noncomputable def si_ixI : List D → St → Option (D × St) := siOf (α := Bool × List Int × St) (fun a => ([.slc (nz 1 (a.2.1.map nI)) (a.2.1.map nI) false, cloI a.1], a.2.2)) (fun a => a.2.1.length ≤ 9223372036854775807) (fun a => (.int .i64 (idxL (prI a.1) a.2.1), a.2.2))
theorem ixI_inj : ∀ a b : Bool × List Int × St, (fun a : Bool × List Int × St => (([.slc (nz 1 (a.2.1.map nI)) (a.2.1.map nI) false, cloI a.1] : List D), a.2.2)) a = (fun a : Bool × List Int × St => (([.slc (nz 1 (a.2.1.map nI)) (a.2.1.map nI) false, cloI a.1] : List D), a.2.2)) b → a = b := by
  rintro ⟨a, b, c⟩ ⟨a', b', c'⟩ h
  simp only [Prod.mk.injEq, List.cons.injEq, D.slc.injEq, ints_iff, and_true] at h
  obtain ⟨⟨⟨_, rfl⟩, h⟩, rfl⟩ := h
  rw [cloI_inj h]
theorem call_ixI (c : Bool) (l : List Int) (st : St) (h : l.length ≤ 9223372036854775807) : si_ixI [.slc (nz 1 (l.map nI)) (l.map nI) false, cloI c] st = some (.int .i64 (idxL (prI c) l), st) :=
  siOf_enc (fun a b e => by rw [ixI_inj a b e]) ((c, l, st) : Bool × List Int × St) h rfl




theorem idx_none {p : Int → Bool} {l : List Int} (h : ∀ j, j < l.length → p (at' l j) = false) : l.any p = false := by
  rw [Bool.eq_false_iff]
  intro h2
  rw [List.any_eq_true] at h2
  obtain ⟨v, hv, h3⟩ := h2
  obtain ⟨j, hj, rfl⟩ := mem_at hv
  rw [h j hj] at h3
  cases h3
theorem idx_some {p : Int → Bool} {l : List Int} {i : Nat} (hi : i < l.length) (hp : p (at' l i) = true) (h : ∀ j, j < i → p (at' l j) = false) : idxL p l = (i : Int) := by
  have h1 : l.any p = true := by rw [List.any_eq_true]; exact ⟨_, at_mem hi, hp⟩
  unfold idxL
  rw [if_pos h1]
  have h2 : l.findIdx p = i := by
    have hg : ∀ j (hj : j < l.length), at' l j = l[j] := fun j hj => by unfold at'; simp [List.getD_eq_getElem?_getD, List.getElem?_eq_getElem hj]
    refine (List.findIdx_eq hi).2 ⟨by rw [← hg i hi]; exact hp, fun j hj => ?_⟩
    rw [← hg j (by omega)]
    exact h j hj
  rw [h2]
set_option maxHeartbeats 4000000 in
theorem ci_ixI : IContract Try.prog GG 39 si_ixI := by
  refine icontract_keep (T := tb [] [(37, si_ck1), (32, si_ck2)]) tr_slices_IndexFunc_int_int (tb_ok all_nil (all_cons ci_ck1 (all_cons ci_ck2 all_nil))) ?_
  rintro ⟨c, l, st⟩ hlen
  dsimp only at hlen ⊢
  have hcall : ∀ x : Int, ∃ sp, cloD (tb [] [(37, si_ck1), (32, si_ck2)]) (cloI c) = some (sp, []) ∧ sp [.int .i64 x] st = some (.bool (prI c x), st) := by
    intro x
    cases c with
    | true => exact ⟨si_ck1, by simp only [push_cast, ↓wF_free, ↓reduceIte, Nat.reduceEqDiff, Nat.reduceLT, Nat.reduceLeDiff, Nat.reduceAdd, Nat.reduceSub, Nat.reduceMul, Nat.reduceBEq, Int.reduceLT, Int.reduceLE, Int.reduceToNat, Int.reduceNeg, Int.reducePow, Int.reduceAdd, Int.reduceMul, Int.reduceSub, ↓Int.reduceNatCast', cloI], call_ck1 x st⟩
    | false => exact ⟨si_ck2, by simp only [push_cast, ↓wF_free, ↓reduceIte, Nat.reduceEqDiff, Nat.reduceLT, Nat.reduceLeDiff, Nat.reduceAdd, Nat.reduceSub, Nat.reduceMul, Nat.reduceBEq, Int.reduceLT, Int.reduceLE, Int.reduceToNat, Int.reduceNeg, Int.reducePow, Int.reduceAdd, Int.reduceMul, Int.reduceSub, ↓Int.reduceNatCast', cloI], call_ck2 x st⟩
  unfold F_slices_IndexFunc_int_int
  simp (disch := first | omega | decide) only [push_cast, ↓wF_free, ↓reduceIte, Nat.reduceEqDiff, Nat.reduceLT, Nat.reduceLeDiff, Nat.reduceAdd, Nat.reduceSub, Nat.reduceMul, Nat.reduceBEq, Int.reduceLT, Int.reduceLE, Int.reduceToNat, Int.reduceNeg, Int.reducePow, Int.reduceAdd, Int.reduceMul, Int.reduceSub, ↓Int.reduceNatCast']
  refine W_whileA (fun i : Nat => [(0, .slc (nz 1 (l.map nI)) (l.map nI) false), (1, cloI c), (7, .int .i64 (l.length : Int)), (8, .int .i64 (i : Int))]) (fun i => st) (fun i => i ≤ l.length ∧ ∀ j, j < i → prI c (at' l j) = false) (fun i => l.length - i) 0 (by simp only [push_cast, ↓wF_free, ↓reduceIte, Nat.reduceEqDiff, Nat.reduceLT, Nat.reduceLeDiff, Nat.reduceAdd, Nat.reduceSub, Nat.reduceMul, Nat.reduceBEq, Int.reduceLT, Int.reduceLE, Int.reduceToNat, Int.reduceNeg, Int.reducePow, Int.reduceAdd, Int.reduceMul, Int.reduceSub, ↓Int.reduceNatCast'] <;> rfl) ⟨Nat.zero_le _, fun j hj => by omega⟩ ?_
  rintro i ⟨hi, hp⟩
  unfold F_slices_IndexFunc_int_int_L0
  simp (disch := first | omega | decide) only [push_cast, ↓wF_free, ↓reduceIte, Nat.reduceEqDiff, Nat.reduceLT, Nat.reduceLeDiff, Nat.reduceAdd, Nat.reduceSub, Nat.reduceMul, Nat.reduceBEq, Int.reduceLT, Int.reduceLE, Int.reduceToNat, Int.reduceNeg, Int.reducePow, Int.reduceAdd, Int.reduceMul, Int.reduceSub, ↓Int.reduceNatCast']
  refine ifD_split (fun h2 => ?_) (fun h2 => ?_)
  · obtain ⟨sp, hc1, hc2⟩ := hcall (l.getD i default)
    simp (disch := first | omega | decide) only [push_cast, ↓wF_free, ↓reduceIte, Nat.reduceEqDiff, Nat.reduceLT, Nat.reduceLeDiff, Nat.reduceAdd, Nat.reduceSub, Nat.reduceMul, Nat.reduceBEq, Int.reduceLT, Int.reduceLE, Int.reduceToNat, Int.reduceNeg, Int.reducePow, Int.reduceAdd, Int.reduceMul, Int.reduceSub, ↓Int.reduceNatCast', idxS_nz, hc1, hc2]
    cases hb : prI c (l.getD i default) with
    | true =>
      have e := idx_some (p := prI c) (l := l) (i := i) (by omega) hb hp
      simp (disch := first | omega | decide) only [push_cast, ↓wF_free, ↓reduceIte, Nat.reduceEqDiff, Nat.reduceLT, Nat.reduceLeDiff, Nat.reduceAdd, Nat.reduceSub, Nat.reduceMul, Nat.reduceBEq, Int.reduceLT, Int.reduceLE, Int.reduceToNat, Int.reduceNeg, Int.reducePow, Int.reduceAdd, Int.reduceMul, Int.reduceSub, ↓Int.reduceNatCast', e]
    | false =>
      have hg : ∀ j, j < i + 1 → prI c (at' l j) = false := fun j hj => by
        rcases Nat.lt_or_ge j i with h1 | h1
        · exact hp j h1
        · obtain rfl : j = i := by omega
          exact hb
      simp (disch := first | omega | decide) only [push_cast, ↓wF_free, ↓reduceIte, Nat.reduceEqDiff, Nat.reduceLT, Nat.reduceLeDiff, Nat.reduceAdd, Nat.reduceSub, Nat.reduceMul, Nat.reduceBEq, Int.reduceLT, Int.reduceLE, Int.reduceToNat, Int.reduceNeg, Int.reducePow, Int.reduceAdd, Int.reduceMul, Int.reduceSub, ↓Int.reduceNatCast', add_i]
      refine next_head (i + 1) (by exact ⟨by omega, hg⟩) (by omega) ?_
      simp only [push_cast, ↓wF_free, ↓reduceIte, Nat.reduceEqDiff, Nat.reduceLT, Nat.reduceLeDiff, Nat.reduceAdd, Nat.reduceSub, Nat.reduceMul, Nat.reduceBEq, Int.reduceLT, Int.reduceLE, Int.reduceToNat, Int.reduceNeg, Int.reducePow, Int.reduceAdd, Int.reduceMul, Int.reduceSub, ↓Int.reduceNatCast'] <;> rfl
  · obtain rfl : i = l.length := by omega
    have e : idxL (prI c) l = -1 := by unfold idxL; rw [idx_none hp]; rfl
    simp (disch := first | omega | decide) only [push_cast, ↓wF_free, ↓reduceIte, Nat.reduceEqDiff, Nat.reduceLT, Nat.reduceLeDiff, Nat.reduceAdd, Nat.reduceSub, Nat.reduceMul, Nat.reduceBEq, Int.reduceLT, Int.reduceLE, Int.reduceToNat, Int.reduceNeg, Int.reducePow, Int.reduceAdd, Int.reduceMul, Int.reduceSub, ↓Int.reduceNatCast', e]

noncomputable def si_cnI : List D → St → Option (D × St) := siOf (α := Bool × List Int × St) (fun a => ([.slc (nz 1 (a.2.1.map nI)) (a.2.1.map nI) false, cloI a.1], a.2.2)) (fun a => a.2.1.length ≤ 9223372036854775807) (fun a => (.bool (a.2.1.any (prI a.1)), a.2.2))
theorem call_cnI (c : Bool) (l : List Int) (st : St) (h : l.length ≤ 9223372036854775807) : si_cnI [.slc (nz 1 (l.map nI)) (l.map nI) false, cloI c] st = some (.bool (l.any (prI c)), st) :=
  siOf_enc (fun a b e => by rw [ixI_inj a b e]) ((c, l, st) : Bool × List Int × St) h rfl
theorem ci_cnI : IContract Try.prog GG 31 si_cnI := by
  refine icontract_keep (T := tb [] [(39, si_ixI)]) tr_slices_ContainsFunc_int_int (tb_ok all_nil (all_cons ci_ixI all_nil)) ?_
  rintro ⟨c, l, st⟩ hlen
  dsimp only at hlen ⊢
  have hc := call_ixI c l st hlen
  unfold F_slices_ContainsFunc_int_int
  cases hb : l.any (prI c) with
  | true =>
    have e : (0 : Int) ≤ idxL (prI c) l := by unfold idxL; rw [if_pos hb]; omega
    simp (disch := first | omega | decide) only [push_cast, ↓wF_free, ↓reduceIte, Nat.reduceEqDiff, Nat.reduceLT, Nat.reduceLeDiff, Nat.reduceAdd, Nat.reduceSub, Nat.reduceMul, Nat.reduceBEq, Int.reduceLT, Int.reduceLE, Int.reduceToNat, Int.reduceNeg, Int.reducePow, Int.reduceAdd, Int.reduceMul, Int.reduceSub, ↓Int.reduceNatCast', hc, e]
  | false =>
    have e : ¬ (0 : Int) ≤ idxL (prI c) l := by unfold idxL; rw [hb]; simp
    simp (disch := first | omega | decide) only [push_cast, ↓wF_free, ↓reduceIte, Nat.reduceEqDiff, Nat.reduceLT, Nat.reduceLeDiff, Nat.reduceAdd, Nat.reduceSub, Nat.reduceMul, Nat.reduceBEq, Int.reduceLT, Int.reduceLE, Int.reduceToNat, Int.reduceNeg, Int.reducePow, Int.reduceAdd, Int.reduceMul, Int.reduceSub, ↓Int.reduceNatCast', hc, e]

/-! ### The check of balances -/
noncomputable def sp_pcheck : List D → Option D := spOf (α := List Int) (fun a => [.slc (nz 1 (a.map nI)) (a.map nI) false]) (fun a => True) (fun a => .int .i64 (chkE a))
theorem call_pcheck (b : List Int) : sp_pcheck [.slc (nz 1 (b.map nI)) (b.map nI) false] = some (.int .i64 (chkE b)) :=
  spOf_enc (fun a b h => by simp only [List.cons.injEq, D.slc.injEq, D.int.injEq, D.bool.injEq, D.str.injEq, D.agg.injEq, digs_iff, dig_iff, digC_iff, bytes_iff, byte_iff, words_iff, word_iff, bsl_iff, true_and, and_true, ints_iff, pays_iff, nI_iff, payD_iff, Int.ofNat_inj] at h; simp [h, Prod.ext_iff]) (b) trivial
set_option maxHeartbeats 4000000 in
set_option maxRecDepth 20000 in
theorem w_pcheck (b : List Int) : @wW GG (tb [] [(31, si_cnI)]) F_netting_check.code (argF [.slc (nz 1 (b.map nI)) (b.map nI) false]) [] ⟨retQ F_netting_check.res (.int .i64 (chkE b))⟩ := by
  unfold F_netting_check
  by_cases h0 : 336 < b.length
  · have h0' : (336 : Int) < (b.length : Int) := by omega
    have e : chkE b = 2 := by unfold chkE; rw [if_pos h0]
    simp (disch := first | omega | decide) only [push_cast, ↓wF_free, ↓reduceIte, Nat.reduceEqDiff, Nat.reduceLT, Nat.reduceLeDiff, Nat.reduceAdd, Nat.reduceSub, Nat.reduceMul, Nat.reduceBEq, Int.reduceLT, Int.reduceLE, Int.reduceToNat, Int.reduceNeg, Int.reducePow, Int.reduceAdd, Int.reduceMul, Int.reduceSub, ↓Int.reduceNatCast', h0', e]
  · have h0' : ¬ (336 : Int) < (b.length : Int) := by omega
    have hc := call_cnI true b [] (by omega)
    have hp : prI true = fun x => decide ¬ inR x := by funext x; rfl
    rw [hp] at hc
    simp only [cloI, if_true] at hc
    cases hb : b.any (fun x => decide ¬ inR x) with
    | true =>
      have e : chkE b = 3 := by unfold chkE; rw [if_neg h0, if_pos hb]
      rw [hb] at hc
      simp (disch := first | omega | decide) only [push_cast, ↓wF_free, ↓reduceIte, Nat.reduceEqDiff, Nat.reduceLT, Nat.reduceLeDiff, Nat.reduceAdd, Nat.reduceSub, Nat.reduceMul, Nat.reduceBEq, Int.reduceLT, Int.reduceLE, Int.reduceToNat, Int.reduceNeg, Int.reducePow, Int.reduceAdd, Int.reduceMul, Int.reduceSub, ↓Int.reduceNatCast', h0', hc, e]
    | false =>
      have e : chkE b = 0 := by unfold chkE; rw [if_neg h0, hb]; rfl
      rw [hb] at hc
      simp (disch := first | omega | decide) only [push_cast, ↓wF_free, ↓reduceIte, Nat.reduceEqDiff, Nat.reduceLT, Nat.reduceLeDiff, Nat.reduceAdd, Nat.reduceSub, Nat.reduceMul, Nat.reduceBEq, Int.reduceLT, Int.reduceLE, Int.reduceToNat, Int.reduceNeg, Int.reducePow, Int.reduceAdd, Int.reduceMul, Int.reduceSub, ↓Int.reduceNatCast', h0', hc, e]
theorem c_pcheck : Contract Try.prog GG 21 sp_pcheck :=
  contract_of tr_netting_check (tb_ok all_nil (all_cons ci_cnI all_nil)) (fun a h => w_pcheck a)

/-! ### Copies -/
noncomputable def si_clone : List D → St → Option (D × St) := siOf (α := List Int × St) (fun a => ([.slc (nz 1 (a.1.map nI)) (a.1.map nI) false], a.2)) (fun a => a.1.length ≤ 4294900000)
  (fun a => if a.1 = [] then (.slc 0 [] false, a.2) else (.row a.2.length a.1.length 0 a.1.length, a.2 ++ [⟨true, 1, a.1.map nI, false⟩]))
theorem call_clone (l : List Int) (st : St) (h : l.length ≤ 4294900000) : si_clone [.slc (nz 1 (l.map nI)) (l.map nI) false] st = some (if l = [] then (.slc 0 [] false, st) else (.row st.length l.length 0 l.length, st ++ [⟨true, 1, l.map nI, false⟩])) :=
  siOf_enc (fun a b e => by
    simp only [Prod.mk.injEq, List.cons.injEq, D.slc.injEq, ints_iff, and_true] at e
    rw [e.1.2, e.2]) ((l, st) : List Int × St) h rfl

def cl0 : List PI := [{ dst := some 2, op := .mov (.c (.slc 0 [] true)) }]
def clA : PC := .seq (.ops [{ dst := some 2, op := .mov (.c (.slc 0 [] true)) }]) .ret
def clB : PC := .seq (.ops [{ dst := some 5, op := .bslc 1 [] }, { dst := some 6, op := .mov (.s 0) }, { dst := some 7, op := .app 1 8 (.s 5) (.s 6) }, { dst := some 2, op := .mov (.s 7) }]) .ret
theorem clB_exec (T : Tbl) (l : List Int) (st : St) (h : l.length ≤ 4294900000) (fr : Frame) (h0 : fr 0 = .slc (nz 1 (l.map nI)) (l.map nI) false) :
    ∃ fr', clB.exec GG T 0 ⟨fr, st⟩ = some (.ret, ⟨fr', if l = [] then st else st ++ [⟨true, 1, l.map nI, false⟩]⟩) ∧ fr' 2 = if l = [] then .slc 1 [] true else .row st.length l.length 0 l.length := by
  have e1 : papp st 1 8 (.slc 1 [] true) (.slc (nz 1 (l.map nI)) (l.map nI) false) = some (if l = [] then .slc 1 [] true else .row st.length l.length 0 l.length, if l = [] then st else st ++ [⟨true, 1, l.map nI, false⟩]) := by
    by_cases hl : l = []
    · subst hl
      exact papp_keep st 1 8 1 0 [] false (by decide)
    · have hne : l.map nI ≠ [] := by simpa using hl
      rw [papp_first nI st 1 1 8 l false (by decide) (by omega) (by omega), bufD_ne _ _ _ hne, bufS_ne _ _ hne, if_neg hl, if_neg hl, List.length_map]
  simp only [clB, PC.exec, execs, PI.exec, PI.wanted, POp.exec, rho, List.map_nil, imms, List.all_nil, Nat.lt_add_one, decide_true, Bool.and_self, List.length_nil, Nat.zero_mul, Nat.zero_le, if_true, lend, List.flatMap_nil, Frame.put, Frame.set, h0, Bool.true_and, Nat.reduceEqDiff, if_false, show ¬ (5 : Nat) = 6 from by decide, show ¬ (0 : Nat) = 5 from by decide, show ¬ (0 : Nat) = 6 from by decide, e1]
  exact ⟨_, rfl, rfl⟩
theorem ci_clone : IContract Try.prog GG 22 si_clone := by
  refine clone_of (T := tb [] []) (il := []) (tb_ok all_nil all_nil) rfl (l0 := cl0) (pA := clA) (pB := clB) (res := [.tmp 2]) (t3 := 3) (e := 3) Try.func22 (by kernel_rfl) rfl (by kernel_rfl) (by kernel_rfl) (by kernel_rfl) (by kernel_rfl) (by kernel_rfl) rfl rfl rfl (by decide) Try.underlying22 ?_
  intro ds st d st' hx
  obtain ⟨⟨l, st0⟩, ha, hp, hr⟩ := siOf_inv hx
  simp only [Prod.mk.injEq] at ha
  obtain ⟨rfl, rfl⟩ := ha
  dsimp only at hp hr
  refine ⟨_, _, _, (argF [.slc (nz 1 (l.map nI)) (l.map nI) false]).set 2 (.slc 0 [] true), rfl, rfl, rfl, fun he => ?_, ?_⟩
  · obtain rfl : l = [] := by simpa using he
    rw [if_pos rfl] at hr
    simp only [Prod.mk.injEq] at hr
    obtain ⟨rfl, rfl⟩ := hr
    exact ⟨0, _, _, rfl, rfl, rfl, fun w g v h => h.empty⟩
  · obtain ⟨fr', h1, h2⟩ := clB_exec (tb [] []) l st0 hp ((((argF [.slc (nz 1 (l.map nI)) (l.map nI) false]).set 2 (.slc 0 [] true)).set 3 (.slc (nz 1 (l.map nI)) (l.map nI) false)).set 4 (.bool false)) rfl
    by_cases hl : l = []
    · subst hl
      rw [if_pos rfl] at hr h1 h2
      simp only [Prod.mk.injEq] at hr
      obtain ⟨rfl, rfl⟩ := hr
      refine ⟨0, _, [fr' 2], h1, rfl, rfl, fun w g v h => ?_⟩
      rw [h2] at h
      exact RepV.empty h
    · rw [if_neg hl] at hr h1 h2
      simp only [Prod.mk.injEq] at hr
      obtain ⟨rfl, rfl⟩ := hr
      refine ⟨0, _, [fr' 2], h1, rfl, rfl, fun w g v h => ?_⟩
      rw [h2] at h
      exact h
end Go.Proofs.Ytedchaaoemifbaa.PI
