/-
  netting: the program's check of payments; payments from balances.
  Conditions: none; these are lemmas.
-/
import Derived.Test.YtedchaaoemifbaaNtF
namespace Go.Proofs.Ytedchaaoemifbaa.PI
open Go
set_option linter.unusedSimpArgs false
set_option linter.unusedVariables false

def boxB (b : List Int) (lent : Bool) : Obj := ⟨false, 1, [.slc (nz 1 (b.map nI)) (b.map nI) false], lent⟩
def boxP (p : Pay) : Obj := ⟨false, 1, [.int .i64 p.f, .int .i64 p.t, .int .i64 p.n], false⟩
theorem boxB_inj {a b : List Int} {s t : Bool} (h : boxB a s = boxB b t) : a = b ∧ s = t := by
  simp only [boxB, Obj.mk.injEq, List.cons.injEq, D.slc.injEq, ints_iff, and_true, true_and] at h
  exact ⟨h.1.2, h.2⟩
/-- the balances that a variable holds -/
noncomputable def balAt (st : St) (k : Nat) : List Int := @dite _ (∃ b lent, st[k]? = some (boxB b lent)) (Classical.propDecidable _) (fun h => h.choose) (fun _ => [])
theorem balAt_eq {st : St} {k : Nat} {b : List Int} {lent : Bool} (h : st[k]? = some (boxB b lent)) : balAt st k = b := by
  have hx : ∃ b lent, st[k]? = some (boxB b lent) := ⟨b, lent, h⟩
  unfold balAt
  rw [dif_pos hx]
  obtain ⟨l2, h2⟩ := hx.choose_spec
  exact (boxB_inj (Option.some.inj (h2.symm.trans h))).1
noncomputable def si_wr : List D → St → Option (D × St) := siOf (α := Pay × Nat × St) (fun a => ([payD a.1, .ptr a.2.1 0], a.2.2)) (fun a => ∃ b lent, a.2.2[a.2.1]? = some (boxB b lent) ∧ ¬ badAcc b.length a.1)
  (fun a => (.bool (wrongP (balAt a.2.2 a.2.1) a.1), a.2.2 ++ [boxP a.1]))
theorem wr_inj : ∀ a b : Pay × Nat × St, (fun a : Pay × Nat × St => (([payD a.1, .ptr a.2.1 0] : List D), a.2.2)) a = (fun a : Pay × Nat × St => (([payD a.1, .ptr a.2.1 0] : List D), a.2.2)) b → a = b := by
  rintro ⟨a, b, c⟩ ⟨a', b', c'⟩ h
  simp only [Prod.mk.injEq, List.cons.injEq, D.ptr.injEq, payD_iff, and_true] at h
  obtain ⟨⟨rfl, rfl⟩, rfl⟩ := h
  rfl
theorem call_wr (p : Pay) (k : Nat) (st : St) (b : List Int) (lent : Bool) (h : st[k]? = some (boxB b lent)) (hv : ¬ badAcc b.length p) : si_wr [payD p, .ptr k 0] st = some (.bool (wrongP b p), st ++ [boxP p]) := by
  have := siOf_enc (enc := fun a : Pay × Nat × St => (([payD a.1, .ptr a.2.1 0] : List D), a.2.2)) (pre := fun a : Pay × Nat × St => ∃ b lent, a.2.2[a.2.1]? = some (boxB b lent) ∧ ¬ badAcc b.length a.1)
    (f := fun a => (.bool (wrongP (balAt a.2.2 a.2.1) a.1), a.2.2 ++ [boxP a.1])) (fun a b e => by rw [wr_inj a b e]) ((p, k, st) : Pay × Nat × St) ⟨b, lent, h, hv⟩ rfl
  dsimp only at this
  rw [balAt_eq h] at this
  exact this



theorem st_left {st : St} {k : Nat} {o : Obj} (h : st[k]? = some o) (m : St) : (st ++ m)[k]? = some o := by
  rw [List.getElem?_append_left (List.getElem?_eq_some_iff.1 h).1]; exact h
theorem st_last (st : St) (o : Obj) : (st ++ [o])[st.length]? = some o := by simp
theorem ci_wr : IContract Try.prog GG 29 si_wr := by
  refine icontract_keep (T := tb [] []) tr_netting_Check_1 (tb_ok all_nil all_nil) ?_
  rintro ⟨p, k, st⟩ ⟨b, lent, hk, hv⟩
  dsimp only at hk hv ⊢
  rw [balAt_eq hk]
  have h1 := st_left hk [boxP p]
  have h2 := st_last st (boxP p)
  unfold badAcc at hv
  unfold wrongP
  unfold boxB at h1
  unfold boxP at h1 h2 ⊢
  unfold F_netting_Check_1
  simp (disch := first | omega | decide) only [push_cast, ↓wF_free, ↓reduceIte, Nat.reduceEqDiff, Nat.reduceLT, Nat.reduceLeDiff, Nat.reduceAdd, Nat.reduceSub, Nat.reduceMul, Nat.reduceBEq, Int.reduceLT, Int.reduceLE, Int.reduceToNat, Int.reduceNeg, Int.reducePow, Int.reduceAdd, Int.reduceMul, Int.reduceSub, ↓Int.reduceNatCast', payD, payC, h1, h2, idxS_nz]
  by_cases k1 : 0 ≤ b.getD p.f.toNat default
  · simp (disch := first | omega | decide) only [push_cast, ↓wF_free, ↓reduceIte, Nat.reduceEqDiff, Nat.reduceLT, Nat.reduceLeDiff, Nat.reduceAdd, Nat.reduceSub, Nat.reduceMul, Nat.reduceBEq, Int.reduceLT, Int.reduceLE, Int.reduceToNat, Int.reduceNeg, Int.reducePow, Int.reduceAdd, Int.reduceMul, Int.reduceSub, ↓Int.reduceNatCast', k1, at']
  · simp (disch := first | omega | decide) only [push_cast, ↓wF_free, ↓reduceIte, Nat.reduceEqDiff, Nat.reduceLT, Nat.reduceLeDiff, Nat.reduceAdd, Nat.reduceSub, Nat.reduceMul, Nat.reduceBEq, Int.reduceLT, Int.reduceLE, Int.reduceToNat, Int.reduceNeg, Int.reducePow, Int.reduceAdd, Int.reduceMul, Int.reduceSub, ↓Int.reduceNatCast', k1, h1, h2, idxS_nz, at']

def evalN (p : Pay → Bool) (l : List Pay) : Nat := if l.any p then l.findIdx p + 1 else l.length
def idxP (p : Pay → Bool) (l : List Pay) : Int := if l.any p then (l.findIdx p : Int) else -1
noncomputable def preP (a : List Pay × Nat × St) : Prop := a.1.length ≤ 9223372036854775807 ∧ ∃ b lent, a.2.2[a.2.1]? = some (boxB b lent) ∧ ∀ p ∈ a.1, ¬ badAcc b.length p
noncomputable def si_ixP : List D → St → Option (D × St) := siOf (α := List Pay × Nat × St) (fun a => ([.slc (nz 3 (a.1.map payD)) (a.1.map payD) false, .clo 29 [.ptr a.2.1 0]], a.2.2)) preP
  (fun a => (.int .i64 (idxP (wrongP (balAt a.2.2 a.2.1)) a.1), a.2.2 ++ (a.1.take (evalN (wrongP (balAt a.2.2 a.2.1)) a.1)).map boxP))
noncomputable def si_cnP : List D → St → Option (D × St) := siOf (α := List Pay × Nat × St) (fun a => ([.slc (nz 3 (a.1.map payD)) (a.1.map payD) false, .clo 29 [.ptr a.2.1 0]], a.2.2)) preP
  (fun a => (.bool (a.1.any (wrongP (balAt a.2.2 a.2.1))), a.2.2 ++ (a.1.take (evalN (wrongP (balAt a.2.2 a.2.1)) a.1)).map boxP))
theorem ixP_inj : ∀ a b : List Pay × Nat × St, (fun a : List Pay × Nat × St => (([.slc (nz 3 (a.1.map payD)) (a.1.map payD) false, .clo 29 [.ptr a.2.1 0]] : List D), a.2.2)) a = (fun a : List Pay × Nat × St => (([.slc (nz 3 (a.1.map payD)) (a.1.map payD) false, .clo 29 [.ptr a.2.1 0]] : List D), a.2.2)) b → a = b := by
  rintro ⟨a, b, c⟩ ⟨a', b', c'⟩ h
  simp only [Prod.mk.injEq, List.cons.injEq, D.slc.injEq, D.clo.injEq, D.ptr.injEq, pays_iff, and_true, true_and] at h
  obtain ⟨⟨⟨_, rfl⟩, rfl⟩, rfl⟩ := h
  rfl
theorem call_ixP (l : List Pay) (k : Nat) (st : St) (b : List Int) (lent : Bool) (hl : l.length ≤ 9223372036854775807) (h : st[k]? = some (boxB b lent)) (hv : ∀ p ∈ l, ¬ badAcc b.length p) :
    si_ixP [.slc (nz 3 (l.map payD)) (l.map payD) false, .clo 29 [.ptr k 0]] st = some (.int .i64 (idxP (wrongP b) l), st ++ (l.take (evalN (wrongP b) l)).map boxP) := by
  have := siOf_enc (enc := fun a : List Pay × Nat × St => (([.slc (nz 3 (a.1.map payD)) (a.1.map payD) false, .clo 29 [.ptr a.2.1 0]] : List D), a.2.2)) (pre := preP)
    (f := fun a => (.int .i64 (idxP (wrongP (balAt a.2.2 a.2.1)) a.1), a.2.2 ++ (a.1.take (evalN (wrongP (balAt a.2.2 a.2.1)) a.1)).map boxP)) (fun a b e => by rw [ixP_inj a b e]) ((l, k, st) : List Pay × Nat × St) ⟨hl, b, lent, h, hv⟩ rfl
  dsimp only at this
  rw [balAt_eq h] at this
  exact this
theorem call_cnP (l : List Pay) (k : Nat) (st : St) (b : List Int) (lent : Bool) (hl : l.length ≤ 9223372036854775807) (h : st[k]? = some (boxB b lent)) (hv : ∀ p ∈ l, ¬ badAcc b.length p) :
    si_cnP [.slc (nz 3 (l.map payD)) (l.map payD) false, .clo 29 [.ptr k 0]] st = some (.bool (l.any (wrongP b)), st ++ (l.take (evalN (wrongP b) l)).map boxP) := by
  have := siOf_enc (enc := fun a : List Pay × Nat × St => (([.slc (nz 3 (a.1.map payD)) (a.1.map payD) false, .clo 29 [.ptr a.2.1 0]] : List D), a.2.2)) (pre := preP)
    (f := fun a => (.bool (a.1.any (wrongP (balAt a.2.2 a.2.1))), a.2.2 ++ (a.1.take (evalN (wrongP (balAt a.2.2 a.2.1)) a.1)).map boxP)) (fun a b e => by rw [ixP_inj a b e]) ((l, k, st) : List Pay × Nat × St) ⟨hl, b, lent, h, hv⟩ rfl
  dsimp only at this
  rw [balAt_eq h] at this
  exact this
theorem find_at {p : Pay → Bool} {l : List Pay} {i : Nat} (hi : i < l.length) (hp : p (l.getD i default) = true) (h : ∀ j, j < i → p (l.getD j default) = false) : l.findIdx p = i := by
  have hg : ∀ j (hj : j < l.length), l.getD j default = l[j] := fun j hj => by simp [List.getD_eq_getElem?_getD, List.getElem?_eq_getElem hj]
  refine (List.findIdx_eq hi).2 ⟨by rw [← hg i hi]; exact hp, fun j hj => ?_⟩
  rw [← hg j (by omega)]
  exact h j hj
set_option maxHeartbeats 4000000 in
theorem ci_ixP : IContract Try.prog GG 38 si_ixP := by
  refine icontract_keep (T := tb [] [(29, si_wr)]) tr_slices_IndexFunc_api_Payment_api_Payment (tb_ok all_nil (all_cons ci_wr all_nil)) ?_
  rintro ⟨l, k, st⟩ ⟨hlen, b, lent, hk, hv⟩
  dsimp only at hlen hk hv ⊢
  rw [balAt_eq hk]
  have hcall : ∀ (m : St) (p : Pay), ¬ badAcc b.length p → si_wr [.agg [.int .i64 p.f, .int .i64 p.t, .int .i64 p.n], .ptr k 0] (st ++ m) = some (.bool (wrongP b p), st ++ (m ++ [boxP p])) := fun m p hp => by
    rw [← List.append_assoc]
    exact call_wr p k (st ++ m) b lent (st_left hk m) hp
  unfold F_slices_IndexFunc_api_Payment_api_Payment
  simp (disch := first | omega | decide) only [push_cast, ↓wF_free, ↓reduceIte, Nat.reduceEqDiff, Nat.reduceLT, Nat.reduceLeDiff, Nat.reduceAdd, Nat.reduceSub, Nat.reduceMul, Nat.reduceBEq, Int.reduceLT, Int.reduceLE, Int.reduceToNat, Int.reduceNeg, Int.reducePow, Int.reduceAdd, Int.reduceMul, Int.reduceSub, ↓Int.reduceNatCast']
  refine W_whileA (fun i : Nat => [(0, .slc (nz 3 (l.map payD)) (l.map payD) false), (1, .clo 29 [.ptr k 0]), (7, .int .i64 (l.length : Int)), (8, .int .i64 (i : Int))]) (fun i => st ++ (l.take i).map boxP) (fun i => i ≤ l.length ∧ ∀ j, j < i → wrongP b (l.getD j default) = false) (fun i => l.length - i) 0 (by simp only [push_cast, ↓wF_free, ↓reduceIte, Nat.reduceEqDiff, Nat.reduceLT, Nat.reduceLeDiff, Nat.reduceAdd, Nat.reduceSub, Nat.reduceMul, Nat.reduceBEq, Int.reduceLT, Int.reduceLE, Int.reduceToNat, Int.reduceNeg, Int.reducePow, Int.reduceAdd, Int.reduceMul, Int.reduceSub, ↓Int.reduceNatCast'] <;> rfl) ⟨Nat.zero_le _, fun j hj => by omega⟩ ?_
  rintro i ⟨hi, hp⟩
  unfold F_slices_IndexFunc_api_Payment_api_Payment_L0
  simp (disch := first | omega | decide) only [push_cast, ↓wF_free, ↓reduceIte, Nat.reduceEqDiff, Nat.reduceLT, Nat.reduceLeDiff, Nat.reduceAdd, Nat.reduceSub, Nat.reduceMul, Nat.reduceBEq, Int.reduceLT, Int.reduceLE, Int.reduceToNat, Int.reduceNeg, Int.reducePow, Int.reduceAdd, Int.reduceMul, Int.reduceSub, ↓Int.reduceNatCast']
  refine ifD_split (fun h2 => ?_) (fun h2 => ?_)
  · have hlt : i < l.length := by omega
    have htk := take_getD l i hlt
    have hm := getD_memP hlt
    have hfi := find_at (p := wrongP b) hlt
    have hany := any_some (p := wrongP b) hlt
    simp (disch := first | omega | decide) only [push_cast, ↓wF_free, ↓reduceIte, Nat.reduceEqDiff, Nat.reduceLT, Nat.reduceLeDiff, Nat.reduceAdd, Nat.reduceSub, Nat.reduceMul, Nat.reduceBEq, Int.reduceLT, Int.reduceLE, Int.reduceToNat, Int.reduceNeg, Int.reducePow, Int.reduceAdd, Int.reduceMul, Int.reduceSub, ↓Int.reduceNatCast', idxS_nz, pld3]
    generalize hpp : l.getD i default = p at *
    have hc1 := hcall ((l.take i).map boxP) p (hv p hm)
    simp (disch := first | omega | decide) only [push_cast, ↓wF_free, ↓reduceIte, Nat.reduceEqDiff, Nat.reduceLT, Nat.reduceLeDiff, Nat.reduceAdd, Nat.reduceSub, Nat.reduceMul, Nat.reduceBEq, Int.reduceLT, Int.reduceLE, Int.reduceToNat, Int.reduceNeg, Int.reducePow, Int.reduceAdd, Int.reduceMul, Int.reduceSub, ↓Int.reduceNatCast', hc1]
    have htk2 : (l.take i).map boxP ++ [boxP p] = (l.take (i + 1)).map boxP := by rw [htk, List.map_append]; rfl
    rw [htk2]
    cases hb : wrongP b p with
    | true =>
      have e1 := hfi hb hp
      have e2 := hany hb
      have e3 : idxP (wrongP b) l = (i : Int) := by unfold idxP; rw [if_pos e2, e1]
      have e4 : evalN (wrongP b) l = i + 1 := by unfold evalN; rw [if_pos e2, e1]
      simp (disch := first | omega | decide) only [push_cast, ↓wF_free, ↓reduceIte, Nat.reduceEqDiff, Nat.reduceLT, Nat.reduceLeDiff, Nat.reduceAdd, Nat.reduceSub, Nat.reduceMul, Nat.reduceBEq, Int.reduceLT, Int.reduceLE, Int.reduceToNat, Int.reduceNeg, Int.reducePow, Int.reduceAdd, Int.reduceMul, Int.reduceSub, ↓Int.reduceNatCast', e3, e4]
    | false =>
      have hg : ∀ j, j < i + 1 → wrongP b (l.getD j default) = false := fun j hj => by
        rcases Nat.lt_or_ge j i with h1 | h1
        · exact hp j h1
        · obtain rfl : j = i := by omega
          rw [hpp]; exact hb
      simp (disch := first | omega | decide) only [push_cast, ↓wF_free, ↓reduceIte, Nat.reduceEqDiff, Nat.reduceLT, Nat.reduceLeDiff, Nat.reduceAdd, Nat.reduceSub, Nat.reduceMul, Nat.reduceBEq, Int.reduceLT, Int.reduceLE, Int.reduceToNat, Int.reduceNeg, Int.reducePow, Int.reduceAdd, Int.reduceMul, Int.reduceSub, ↓Int.reduceNatCast', add_i]
      refine next_head (i + 1) (by exact ⟨by omega, hg⟩) (by omega) ?_
      simp only [push_cast, ↓wF_free, ↓reduceIte, Nat.reduceEqDiff, Nat.reduceLT, Nat.reduceLeDiff, Nat.reduceAdd, Nat.reduceSub, Nat.reduceMul, Nat.reduceBEq, Int.reduceLT, Int.reduceLE, Int.reduceToNat, Int.reduceNeg, Int.reducePow, Int.reduceAdd, Int.reduceMul, Int.reduceSub, ↓Int.reduceNatCast'] <;> rfl
  · obtain rfl : i = l.length := by omega
    have e : l.any (wrongP b) = false := any_none hp
    have e3 : idxP (wrongP b) l = -1 := by unfold idxP; rw [e]; rfl
    have e4 : evalN (wrongP b) l = l.length := by unfold evalN; rw [e]; rfl
    simp (disch := first | omega | decide) only [push_cast, ↓wF_free, ↓reduceIte, Nat.reduceEqDiff, Nat.reduceLT, Nat.reduceLeDiff, Nat.reduceAdd, Nat.reduceSub, Nat.reduceMul, Nat.reduceBEq, Int.reduceLT, Int.reduceLE, Int.reduceToNat, Int.reduceNeg, Int.reducePow, Int.reduceAdd, Int.reduceMul, Int.reduceSub, ↓Int.reduceNatCast', e3, e4]
theorem ci_cnP : IContract Try.prog GG 30 si_cnP := by
  refine icontract_keep (T := tb [] [(38, si_ixP)]) tr_slices_ContainsFunc_api_Payment_api_Payment (tb_ok all_nil (all_cons ci_ixP all_nil)) ?_
  rintro ⟨l, k, st⟩ ⟨hlen, b, lent, hk, hv⟩
  dsimp only at hlen hk hv ⊢
  rw [balAt_eq hk]
  have hc := call_ixP l k st b lent hlen hk hv
  unfold F_slices_ContainsFunc_api_Payment_api_Payment
  cases hb : l.any (wrongP b) with
  | true =>
    have e : (0 : Int) ≤ idxP (wrongP b) l := by unfold idxP; rw [if_pos hb]; omega
    simp (disch := first | omega | decide) only [push_cast, ↓wF_free, ↓reduceIte, Nat.reduceEqDiff, Nat.reduceLT, Nat.reduceLeDiff, Nat.reduceAdd, Nat.reduceSub, Nat.reduceMul, Nat.reduceBEq, Int.reduceLT, Int.reduceLE, Int.reduceToNat, Int.reduceNeg, Int.reducePow, Int.reduceAdd, Int.reduceMul, Int.reduceSub, ↓Int.reduceNatCast', hc, e]
  | false =>
    have e : ¬ (0 : Int) ≤ idxP (wrongP b) l := by unfold idxP; rw [hb]; simp
    simp (disch := first | omega | decide) only [push_cast, ↓wF_free, ↓reduceIte, Nat.reduceEqDiff, Nat.reduceLT, Nat.reduceLeDiff, Nat.reduceAdd, Nat.reduceSub, Nat.reduceMul, Nat.reduceBEq, Int.reduceLT, Int.reduceLE, Int.reduceToNat, Int.reduceNeg, Int.reducePow, Int.reduceAdd, Int.reduceMul, Int.reduceSub, ↓Int.reduceNatCast', hc, e]

noncomputable def sp_pcheck2 : List D → Option D := spOf (α := List Int × List Pay) (fun a => [.slc (nz 1 (a.1.map nI)) (a.1.map nI) false, .slc (nz 3 (a.2.map payD)) (a.2.map payD) false]) (fun a => a.2.length ≤ 9223372036854775807) (fun a => .int .i64 (checkL a.1 a.2))
theorem call_pcheck2 (b : List Int) (l : List Pay) (h : l.length ≤ 9223372036854775807) : sp_pcheck2 [.slc (nz 1 (b.map nI)) (b.map nI) false, .slc (nz 3 (l.map payD)) (l.map payD) false] = some (.int .i64 (checkL b l)) :=
  spOf_enc (fun ⟨a0, a1⟩ ⟨b0, b1⟩ h => by simp only [List.cons.injEq, D.slc.injEq, D.int.injEq, D.bool.injEq, D.str.injEq, D.agg.injEq, digs_iff, dig_iff, digC_iff, bytes_iff, byte_iff, words_iff, word_iff, bsl_iff, true_and, and_true, ints_iff, pays_iff, nI_iff, payD_iff, Int.ofNat_inj] at h; simp [h, Prod.ext_iff]) (b, l) h
set_option maxHeartbeats 4000000 in
set_option maxRecDepth 20000 in
theorem w_pcheck2 (b : List Int) (l : List Pay) (h : l.length ≤ 9223372036854775807) : @wW GG (tb [(10, sp_psettle)] [(30, si_cnP), (31, si_cnI)]) F_netting_Check.code (argF [.slc (nz 1 (b.map nI)) (b.map nI) false, .slc (nz 3 (l.map payD)) (l.map payD) false]) [] ⟨retQ F_netting_Check.res (.int .i64 (checkL b l))⟩ := by
  unfold F_netting_Check
  have cs := call_psettle b l h
  by_cases h0 : (settleL b l).2 = 0
  · obtain ⟨hc, hse⟩ := settleL_ok h0
    obtain ⟨hl1, hin⟩ := chkE_ok hc
    have ex : checkL b l = if l.any (wrongP b) || (settleL b l).1.any (fun x => decide (x ≠ 0)) then 340 else 0 := by unfold checkL; rw [if_neg (by rw [h0]; simp)]
    rw [h0] at cs
    generalize (settleL b l).1 = x at *
    obtain ⟨v1, _, _, v4⟩ := settle_val l b x hse
    have cp := call_cnP l 0 [boxB b false] b false h rfl (fun p hp => (v4 p hp).1)
    have ci := call_cnI false x ([boxB b false] ++ (l.take (evalN (wrongP b) l)).map boxP) (by omega)
    have hpr : prI false = fun x => decide (x ≠ 0) := by funext x; simp [prI]
    rw [hpr] at ci
    simp only [cloI, boxB, Bool.false_eq_true, if_false, List.cons_append, List.nil_append] at cp ci
    simp (disch := first | omega | decide) only [push_cast, ↓wF_free, ↓reduceIte, Nat.reduceEqDiff, Nat.reduceLT, Nat.reduceLeDiff, Nat.reduceAdd, Nat.reduceSub, Nat.reduceMul, Nat.reduceBEq, Int.reduceLT, Int.reduceLE, Int.reduceToNat, Int.reduceNeg, Int.reducePow, Int.reduceAdd, Int.reduceMul, Int.reduceSub, ↓Int.reduceNatCast', cs, cp]
    cases ha : l.any (wrongP b) with
    | true =>
      have e : checkL b l = 340 := by rw [ex, ha]; rfl
      simp (disch := first | omega | decide) only [push_cast, ↓wF_free, ↓reduceIte, Nat.reduceEqDiff, Nat.reduceLT, Nat.reduceLeDiff, Nat.reduceAdd, Nat.reduceSub, Nat.reduceMul, Nat.reduceBEq, Int.reduceLT, Int.reduceLE, Int.reduceToNat, Int.reduceNeg, Int.reducePow, Int.reduceAdd, Int.reduceMul, Int.reduceSub, ↓Int.reduceNatCast', e]
    | false =>
      rw [ha, Bool.false_or] at ex
      cases hb : x.any (fun x => decide (x ≠ 0)) with
      | true =>
        rw [hb] at ci ex
        have e : checkL b l = 340 := by rw [ex]; rfl
        simp (disch := first | omega | decide) only [push_cast, ↓wF_free, ↓reduceIte, Nat.reduceEqDiff, Nat.reduceLT, Nat.reduceLeDiff, Nat.reduceAdd, Nat.reduceSub, Nat.reduceMul, Nat.reduceBEq, Int.reduceLT, Int.reduceLE, Int.reduceToNat, Int.reduceNeg, Int.reducePow, Int.reduceAdd, Int.reduceMul, Int.reduceSub, ↓Int.reduceNatCast', ci, e]
      | false =>
        rw [hb] at ci ex
        have e : checkL b l = 0 := by rw [ex]; rfl
        simp (disch := first | omega | decide) only [push_cast, ↓wF_free, ↓reduceIte, Nat.reduceEqDiff, Nat.reduceLT, Nat.reduceLeDiff, Nat.reduceAdd, Nat.reduceSub, Nat.reduceMul, Nat.reduceBEq, Int.reduceLT, Int.reduceLE, Int.reduceToNat, Int.reduceNeg, Int.reducePow, Int.reduceAdd, Int.reduceMul, Int.reduceSub, ↓Int.reduceNatCast', ci, e]
  · have e : checkL b l = (settleL b l).2 := by unfold checkL; rw [if_pos h0]
    simp (disch := first | omega | decide) only [push_cast, ↓wF_free, ↓reduceIte, Nat.reduceEqDiff, Nat.reduceLT, Nat.reduceLeDiff, Nat.reduceAdd, Nat.reduceSub, Nat.reduceMul, Nat.reduceBEq, Int.reduceLT, Int.reduceLE, Int.reduceToNat, Int.reduceNeg, Int.reducePow, Int.reduceAdd, Int.reduceMul, Int.reduceSub, ↓Int.reduceNatCast', cs, h0, e]
theorem c_pcheck2 : Contract Try.prog GG 13 sp_pcheck2 :=
  contract_of tr_netting_Check (tb_ok (all_cons c_psettle all_nil) (all_cons ci_cnP (all_cons ci_cnI all_nil))) (fun a h => w_pcheck2 a.1 a.2 h)
end Go.Proofs.Ytedchaaoemifbaa.PI
