/-
  netting: payments that are spoiled.
  Conditions: none.
-/
import Derived.Test.YtedchaaoemifbaaNtN
namespace Go.Proofs.Ytedchaaoemifbaa.PI
open Go
set_option linter.unusedSimpArgs false
set_option linter.unusedVariables false

theorem paid_set (a : Int) : ∀ (l : List Pay) (i : Nat) (q : Pay), i < l.length → paid a (l.set i q) = paid a l - (if (l.getD i default).f = a then (l.getD i default).n else 0) + (if q.f = a then q.n else 0)
  | [], _, _, h => by simp at h
  | p :: l, 0, q, _ => by simp [paid]; omega
  | p :: l, i + 1, q, h => by
    have := paid_set a l i q (by simpa using h)
    have e : (p :: l).getD (i + 1) default = l.getD i default := by simp
    rw [e, List.set_cons_succ, paid, paid, this]; omega
theorem got_set (a : Int) : ∀ (l : List Pay) (i : Nat) (q : Pay), i < l.length → got a (l.set i q) = got a l - (if (l.getD i default).t = a then (l.getD i default).n else 0) + (if q.t = a then q.n else 0)
  | [], _, _, h => by simp at h
  | p :: l, 0, q, _ => by simp [got]; omega
  | p :: l, i + 1, q, h => by
    have := got_set a l i q (by simpa using h)
    have e : (p :: l).getD (i + 1) default = l.getD i default := by simp
    rw [e, List.set_cons_succ, got, got, this]; omega
theorem set_getD {α : Type} [Inhabited α] (l : List α) (i : Nat) (h : i < l.length) : l.set i (l.getD i default) = l := by
  rw [List.getD_eq_getElem?_getD, List.getElem?_eq_getElem h]
  simp
theorem spoiled {b : List Int} (hc : chkE b = 0) (h0 : sumI b = 0) (i : Nat) (hi : i < (pays b).length) (q : Pay) : checkL b ((pays b).set i q) = 0 ↔ q = (pays b).getD i default := by
  have n := (net_check hc h0).2
  constructor
  · intro h
    have e1 := check_exact n
    have e2 := check_exact h
    obtain ⟨a1, a2, a3, a4, a5, a6, a7, a8, a9⟩ := e1.ok _ (getD_mem hi)
    have hp := fun a => paid_set a (pays b) i q hi
    have hg := fun a => got_set a (pays b) i q hi
    generalize hP : (pays b).getD i default = P at *
    have p1 := e1.pd P.f.toNat (by omega)
    have p2 := e2.pd P.f.toNat (by omega)
    have g1 := e1.gt P.t.toNat (by omega)
    have g2 := e2.gt P.t.toNat (by omega)
    rw [show ((P.f.toNat : Nat) : Int) = P.f by omega] at p1 p2
    rw [show ((P.t.toNat : Nat) : Int) = P.t by omega] at g1 g2
    have k1 := hp P.f
    have k2 := hg P.t
    rw [if_pos rfl] at k1 k2
    have u1 : q.f = P.f := Classical.byContradiction fun h => by rw [if_neg h] at k1; omega
    have u2 : q.t = P.t := Classical.byContradiction fun h => by rw [if_neg h] at k2; omega
    rw [if_pos u1] at k1
    have u3 : q.n = P.n := by omega
    cases q; cases P
    simp only at u1 u2 u3
    rw [u1, u2, u3]
  · rintro rfl
    rw [set_getD _ _ hi]
    exact n

/-! ### Cells of payments in rows -/
theorem ixR_P (A : List Pay) (lent : Bool) (key tot : Nat) (j : Int) (ht : A.length = tot) (h0 : 0 ≤ j) (h1 : j < (tot : Int)) : ixR (some ⟨true, 3, A.map payD, lent⟩) 3 key tot 0 tot j = some (.rptr key tot j.toNat 0) := by
  subst ht
  have := ixR_row payD 3 A lent key 0 A.length j h0 h1
  rwa [Nat.zero_add] at this
theorem ldR_P (A : List Pay) (lent : Bool) (tot i : Nat) (ht : A.length = tot) (h : i < tot) : ldR (some ⟨true, 3, A.map payD, lent⟩) 3 true tot i 0 = some (.agg [.int .i64 (A.getD i default).f, .int .i64 (A.getD i default).t, .int .i64 (A.getD i default).n]) := by
  subst ht
  simp [ldR, h, payD, payC, D.cells, D.mk, List.getD_eq_getElem?_getD]
theorem reR_P (A : List Pay) (lent : Bool) (tot : Nat) (ht : A.length = tot) : reR (some ⟨true, 3, A.map payD, lent⟩) tot 0 tot = some (3, A.map payD) := by
  subst ht; exact reR_all payD 3 A lent
def stRP (o : Option Obj) (tot i off : Nat) (v : Int) : Option Obj := o.bind fun o => if o.row && !o.lent && o.els.length == tot then (o.els[i]?).bind fun el => (setEl el off [.int .i64 v]).map fun el' => { o with els := o.els.set i el' } else none
theorem pstor_rp (st : St) (key tot i off : Nat) (v : Int) : pstor st 1 (.rptr key tot i off) (.int .i64 v) = (stRP st[key]? tot i off v).map fun o => st.set key o := by
  simp only [pstor, stRP, imm_int, keys_int, List.isEmpty_nil, Bool.and_true]
  cases st[key]? with
  | none => rfl
  | some o =>
    simp only [Option.bind_some]
    split
    · cases o.els[i]? with
      | none => rfl
      | some el =>
        have hc : (D.int .i64 v).cells = [.int .i64 v] := rfl
        rw [hc]
        simp only [Option.bind_some]
        cases setEl el off [.int .i64 v] <;> rfl
    · rfl
def putP (p : Pay) (off : Nat) (v : Int) : Pay := match off with
  | 0 => { p with f := v }
  | 1 => { p with t := v }
  | _ => { p with n := v }
theorem stRP_row (A : List Pay) (tot i off : Nat) (v : Int) (ht : A.length = tot) (h : i < tot) (ho : off < 3) : stRP (some ⟨true, 3, A.map payD, false⟩) tot i off v = some ⟨true, 3, (A.set i (putP (A.getD i default) off v)).map payD, false⟩ := by
  subst ht
  have h1 : setEl (payD A[i]) off [.int .i64 v] = some (payD (putP A[i] off v)) := by
    match off, ho with
    | 0, _ => rfl
    | 1, _ => rfl
    | 2, _ => rfl
  simp [stRP, h, h1, List.map_set, List.getD_eq_getElem?_getD]

set_option maxHeartbeats 4000000 in
set_option maxRecDepth 20000 in
theorem lw_NettingSpoiled (b : List Int) (hb : b.length ≤ maxLen) (k : Int) (hk1 : -9223372036854775808 ≤ k) (hk2 : k < 9223372036854775808) (by_ : Int) (hby_1 : -9223372036854775808 ≤ by_) (hby_2 : by_ < 9223372036854775808) (fd : Int) (hfd1 : -9223372036854775808 ≤ fd) (hfd2 : fd < 9223372036854775808) : @wW GG (tb [(9, sp_nsane), (15, sp_pnet), (13, sp_pcheck2)] []) F_wagonpoollaw34_NettingSpoiled.code (argF [.slc (nz 1 (b.map nI)) (b.map nI) false, .int .i64 k, .int .i64 by_, .int .i64 fd]) [] ⟨retQ F_wagonpoollaw34_NettingSpoiled.res (.bool true)⟩ := by
  have hm := maxLen_le
  have c1 := call_pnet b (by omega)
  have hle := netOut_le b
  unfold F_wagonpoollaw34_NettingSpoiled
  by_cases he : (netOut b).2 = 0
  · obtain ⟨hc, h0, e⟩ := netOut_ok he
    rw [e] at c1 hle
    rw [he] at c1
    have hsp := spoiled hc h0
    generalize pays b = L at *
    by_cases a1 : k < 0
    · simp (disch := first | omega | decide) only [push_cast, ↓wF_free, ↓reduceIte, Nat.reduceEqDiff, Nat.reduceLT, Nat.reduceLeDiff, Nat.reduceAdd, Nat.reduceSub, Nat.reduceMul, Nat.reduceBEq, Int.reduceLT, Int.reduceLE, Int.reduceToNat, Int.reduceNeg, Int.reducePow, Int.reduceAdd, Int.reduceMul, Int.reduceSub, ↓Int.reduceNatCast', call_nsane, c1, a1]
    · by_cases a2 : (L.length : Int) ≤ k
      · simp (disch := first | omega | decide) only [push_cast, ↓wF_free, ↓reduceIte, Nat.reduceEqDiff, Nat.reduceLT, Nat.reduceLeDiff, Nat.reduceAdd, Nat.reduceSub, Nat.reduceMul, Nat.reduceBEq, Int.reduceLT, Int.reduceLE, Int.reduceToNat, Int.reduceNeg, Int.reducePow, Int.reduceAdd, Int.reduceMul, Int.reduceSub, ↓Int.reduceNatCast', call_nsane, c1, a1, a2]
      · have hne : L.map payD ≠ [] := by
          intro h
          have : L = [] := by simpa using h
          subst this
          simp at a2; omega
        have pf : papp [] 3 24 (.slc 3 [] true) (.slc (nz 3 (L.map payD)) (L.map payD) false) = some (.row 0 L.length 0 L.length, [⟨true, 3, L.map payD, false⟩]) := by
          rw [papp_first payD [] 3 3 24 L false (by decide) (by omega) (by omega), bufD_ne _ _ _ hne, bufS_ne _ _ hne, List.length_map]; rfl
        have i1 := ixR_P L false 0 L.length k rfl (by omega) (by omega)
        have ck := fun q => call_pcheck2 b (L.set k.toNat q) (by rw [List.length_set]; omega)
        have hs := fun q => hsp k.toNat (by omega) q
        have st := fun off ho => stRP_row L L.length k.toNat off by_ rfl (by omega) ho
        have i2 := fun q => ixR_P (L.set k.toNat q) false 0 L.length k (List.length_set ..) (by omega) (by omega)
        have l2 := fun q => ldR_P (L.set k.toNat q) false L.length k.toNat (List.length_set ..) (by omega)
        have r2 := fun q => reR_P (L.set k.toNat q) false L.length (List.length_set ..)
        have l3 := fun st => idxS_nz (st := st) 3 payD L false .i64 k (by omega) (by omega)
        have gq : ∀ q, (L.set k.toNat q).getD k.toNat default = q := fun q => by simp [List.getD_eq_getElem?_getD, List.getElem?_set, show k.toNat < L.length by omega]
        generalize L.getD k.toNat default = P at *
        have fin : ∀ q, decide (checkL b (L.set k.toNat q) = 0) = decide (q = P) := fun q => decide_eq_decide.2 (hs q)
        have pq : ∀ off, pfld [⟨true, 3, L.map payD, false⟩] off (.rptr 0 L.length k.toNat 0) = some (.rptr 0 L.length k.toNat (0 + off)) := fun off => by
          have : live [⟨true, 3, L.map payD, false⟩] 0 L.length = true := by simp [live]
          simp only [pfld, this, if_true]
        have h10 : ¬ (1 : Int) = 0 := by decide
        by_cases f0 : fd = 0
        · subst f0
          have s2 := st 2 (by decide)
          have cq := ck (putP P 2 by_)
          have iq := i2 (putP P 2 by_)
          have lq := l2 (putP P 2 by_)
          have rq := r2 (putP P 2 by_)
          have fq := fin (putP P 2 by_)
          rw [gq] at lq
          have aq := aeq_pay false (putP P 2 by_) P
          generalize putP P 2 by_ = q at *
          simp (disch := first | omega | decide) only [push_cast, ↓wF_free, ↓reduceIte, Nat.reduceEqDiff, Nat.reduceLT, Nat.reduceLeDiff, Nat.reduceAdd, Nat.reduceSub, Nat.reduceMul, Nat.reduceBEq, Int.reduceLT, Int.reduceLE, Int.reduceToNat, Int.reduceNeg, Int.reducePow, Int.reduceAdd, Int.reduceMul, Int.reduceSub, ↓Int.reduceNatCast', call_nsane, c1, a1, a2, litD_p0, pf, i1, pq, h10, pstor_rp, s2, rq, cq, iq, lq, fq, aq, l3, pld3]
        · by_cases f1 : fd = 1
          · subst f1
            have s2 := st 0 (by decide)
            have cq := ck (putP P 0 by_)
            have iq := i2 (putP P 0 by_)
            have lq := l2 (putP P 0 by_)
            have rq := r2 (putP P 0 by_)
            have fq := fin (putP P 0 by_)
            rw [gq] at lq
            have aq := aeq_pay false (putP P 0 by_) P
            generalize putP P 0 by_ = q at *
            simp (disch := first | omega | decide) only [push_cast, ↓wF_free, ↓reduceIte, Nat.reduceEqDiff, Nat.reduceLT, Nat.reduceLeDiff, Nat.reduceAdd, Nat.reduceSub, Nat.reduceMul, Nat.reduceBEq, Int.reduceLT, Int.reduceLE, Int.reduceToNat, Int.reduceNeg, Int.reducePow, Int.reduceAdd, Int.reduceMul, Int.reduceSub, ↓Int.reduceNatCast', call_nsane, c1, a1, a2, litD_p0, pf, i1, pq, h10, pstor_rp, s2, rq, cq, iq, lq, fq, aq, l3, pld3]
          · have s2 := st 1 (by decide)
            have cq := ck (putP P 1 by_)
            have iq := i2 (putP P 1 by_)
            have lq := l2 (putP P 1 by_)
            have rq := r2 (putP P 1 by_)
            have fq := fin (putP P 1 by_)
            rw [gq] at lq
            have aq := aeq_pay false (putP P 1 by_) P
            generalize putP P 1 by_ = q at *
            simp (disch := first | omega | decide) only [push_cast, ↓wF_free, ↓reduceIte, Nat.reduceEqDiff, Nat.reduceLT, Nat.reduceLeDiff, Nat.reduceAdd, Nat.reduceSub, Nat.reduceMul, Nat.reduceBEq, Int.reduceLT, Int.reduceLE, Int.reduceToNat, Int.reduceNeg, Int.reducePow, Int.reduceAdd, Int.reduceMul, Int.reduceSub, ↓Int.reduceNatCast', call_nsane, c1, a1, a2, litD_p0, f0, f1, pf, i1, pq, h10, pstor_rp, s2, rq, cq, iq, lq, fq, aq, l3, pld3]
  · simp (disch := first | omega | decide) only [push_cast, ↓wF_free, ↓reduceIte, Nat.reduceEqDiff, Nat.reduceLT, Nat.reduceLeDiff, Nat.reduceAdd, Nat.reduceSub, Nat.reduceMul, Nat.reduceBEq, Int.reduceLT, Int.reduceLE, Int.reduceToNat, Int.reduceNeg, Int.reducePow, Int.reduceAdd, Int.reduceMul, Int.reduceSub, ↓Int.reduceNatCast', call_nsane, c1, he]
theorem law_NettingSpoiled : Contract Try.prog GG 8 (lawSp [.slc (.int .i64), .int .i64, .int .i64, .int .i64]) := by
  refine lawC tr_wagonpoollaw34_NettingSpoiled (T := tb [(9, sp_nsane), (15, sp_pnet), (13, sp_pcheck2)] []) (tb_ok (all_cons c_nsane (all_cons c_pnet (all_cons c_pcheck2 all_nil))) all_nil) ?_
  intro xs h
  obtain ⟨x0, xs, rfl, h0, h⟩ := hasAll_cons h
  obtain ⟨x1, xs, rfl, h1, h⟩ := hasAll_cons h
  obtain ⟨x2, xs, rfl, h2, h⟩ := hasAll_cons h
  obtain ⟨x3, xs, rfl, h3, h⟩ := hasAll_cons h
  obtain rfl := hasAll_nil h
  obtain ⟨y0, rfl, ya0⟩ := has_ints h0
  obtain ⟨y1, rfl, ya1, yb1⟩ := has_i64 h1
  obtain ⟨y2, rfl, ya2, yb2⟩ := has_i64 h2
  obtain ⟨y3, rfl, ya3, yb3⟩ := has_i64 h3
  exact lw_NettingSpoiled y0 ya0 y1 ya1 yb1 y2 ya2 yb2 y3 ya3 yb3
end Go.Proofs.Ytedchaaoemifbaa.PI
