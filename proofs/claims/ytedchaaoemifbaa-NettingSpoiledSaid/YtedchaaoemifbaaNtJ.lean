/-
  netting: comparison of payments; the examples of the documentation hold.
  Conditions: none; these are lemmas.
-/
import Derived.Test.YtedchaaoemifbaaNtI
namespace Go.Proofs.Ytedchaaoemifbaa.PI
open Go
set_option linter.unusedSimpArgs false
set_option linter.unusedVariables false

theorem aeq_pay (neg : Bool) (p q : Pay) : paeq [0, 0, 0] neg (.agg [.int .i64 p.f, .int .i64 p.t, .int .i64 p.n]) (.agg [.int .i64 q.f, .int .i64 q.t, .int .i64 q.n]) = some (.bool (decide (p = q) != neg)) := by
  have e : decide (p = q) = ((p.f == q.f) && ((p.t == q.t) && ((p.n == q.n) && true))) := by
    obtain ⟨a, b, c⟩ := p
    obtain ⟨a', b', c'⟩ := q
    by_cases h1 : a = a' <;> by_cases h2 : b = b' <;> by_cases h3 : c = c' <;> simp [h1, h2, h3]
  rw [e]
  rfl
theorem extP {a b : List Pay} (hl : a.length = b.length) (h : ∀ i, i < a.length → a.getD i default = b.getD i default) : a = b := by
  apply List.ext_getElem hl
  intro i h1 h2
  have := h i h1
  simpa [List.getD_eq_getElem?_getD, List.getElem?_eq_getElem h1, List.getElem?_eq_getElem h2] using this
noncomputable def sp_psame : List D → Option D := spOf (α := List Pay × List Pay) (fun a => [.slc (nz 3 (a.1.map payD)) (a.1.map payD) false, .slc (nz 3 (a.2.map payD)) (a.2.map payD) false]) (fun a => a.1.length ≤ 9223372036854775807) (fun a => .bool (decide (a.1 = a.2)))
theorem call_psame (a : List Pay) (b : List Pay) (h : a.length ≤ 9223372036854775807) : sp_psame [.slc (nz 3 (a.map payD)) (a.map payD) false, .slc (nz 3 (b.map payD)) (b.map payD) false] = some (.bool (decide (a = b))) :=
  spOf_enc (fun ⟨a0, a1⟩ ⟨b0, b1⟩ h => by simp only [List.cons.injEq, D.slc.injEq, D.int.injEq, D.bool.injEq, D.str.injEq, D.agg.injEq, digs_iff, dig_iff, digC_iff, bytes_iff, byte_iff, words_iff, word_iff, bsl_iff, true_and, and_true, ints_iff, pays_iff, nI_iff, payD_iff, Int.ofNat_inj] at h; simp [h, Prod.ext_iff]) (a, b) h
set_option maxHeartbeats 4000000 in
set_option maxRecDepth 20000 in
theorem w_psame (a : List Pay) (b : List Pay) (h : a.length ≤ 9223372036854775807) : @wW GG (tb [] []) F_wagonpoolref34_Same.code (argF [.slc (nz 3 (a.map payD)) (a.map payD) false, .slc (nz 3 (b.map payD)) (b.map payD) false]) [] ⟨retQ F_wagonpoolref34_Same.res (.bool (decide (a = b)))⟩ := by
  unfold F_wagonpoolref34_Same
  by_cases e1 : (a.length : Int) = (b.length : Int)
  · simp (disch := first | omega | decide) only [push_cast, ↓wF_free, ↓reduceIte, Nat.reduceEqDiff, Nat.reduceLT, Nat.reduceLeDiff, Nat.reduceAdd, Nat.reduceSub, Nat.reduceMul, Nat.reduceBEq, Int.reduceLT, Int.reduceLE, Int.reduceToNat, Int.reduceNeg, Int.reducePow, Int.reduceAdd, Int.reduceMul, Int.reduceSub, ↓Int.reduceNatCast', e1]
    refine W_while (fun i : Nat => [(0, .slc (nz 3 (a.map payD)) (a.map payD) false), (1, .slc (nz 3 (b.map payD)) (b.map payD) false), (5, .int .i64 (i : Int))]) (fun i => []) (fun i => i ≤ a.length ∧ ∀ j, j < i → a.getD j default = b.getD j default) (fun i => a.length - i) 0 (by simp only [push_cast, ↓wF_free, ↓reduceIte, Nat.reduceEqDiff, Nat.reduceLT, Nat.reduceLeDiff, Nat.reduceAdd, Nat.reduceSub, Nat.reduceMul, Nat.reduceBEq, Int.reduceLT, Int.reduceLE, Int.reduceToNat, Int.reduceNeg, Int.reducePow, Int.reduceAdd, Int.reduceMul, Int.reduceSub, ↓Int.reduceNatCast'] <;> rfl) ⟨Nat.zero_le _, fun j hj => by omega⟩ ?_
    rintro i ⟨hi, hp⟩
    unfold F_wagonpoolref34_Same_L0
    simp (disch := first | omega | decide) only [push_cast, ↓wF_free, ↓reduceIte, Nat.reduceEqDiff, Nat.reduceLT, Nat.reduceLeDiff, Nat.reduceAdd, Nat.reduceSub, Nat.reduceMul, Nat.reduceBEq, Int.reduceLT, Int.reduceLE, Int.reduceToNat, Int.reduceNeg, Int.reducePow, Int.reduceAdd, Int.reduceMul, Int.reduceSub, ↓Int.reduceNatCast']
    refine ifD_split (fun h2 => ?_) (fun h2 => ?_)
    · simp (disch := first | omega | decide) only [push_cast, ↓wF_free, ↓reduceIte, Nat.reduceEqDiff, Nat.reduceLT, Nat.reduceLeDiff, Nat.reduceAdd, Nat.reduceSub, Nat.reduceMul, Nat.reduceBEq, Int.reduceLT, Int.reduceLE, Int.reduceToNat, Int.reduceNeg, Int.reducePow, Int.reduceAdd, Int.reduceMul, Int.reduceSub, ↓Int.reduceNatCast', idxS_nz, pld3, aeq_pay]
      by_cases e2 : a.getD i default = b.getD i default
      · have hg : ∀ j, j < i + 1 → a.getD j default = b.getD j default := fun j hj => by
          rcases Nat.lt_or_ge j i with h1 | h1
          · exact hp j h1
          · obtain rfl : j = i := by omega
            exact e2
        simp (disch := first | omega | decide) only [push_cast, ↓wF_free, ↓reduceIte, Nat.reduceEqDiff, Nat.reduceLT, Nat.reduceLeDiff, Nat.reduceAdd, Nat.reduceSub, Nat.reduceMul, Nat.reduceBEq, Int.reduceLT, Int.reduceLE, Int.reduceToNat, Int.reduceNeg, Int.reducePow, Int.reduceAdd, Int.reduceMul, Int.reduceSub, ↓Int.reduceNatCast', e2, add_i]
        refine next_head (i + 1) (by exact ⟨by omega, hg⟩) (by omega) ?_
        simp only [push_cast, ↓wF_free, ↓reduceIte, Nat.reduceEqDiff, Nat.reduceLT, Nat.reduceLeDiff, Nat.reduceAdd, Nat.reduceSub, Nat.reduceMul, Nat.reduceBEq, Int.reduceLT, Int.reduceLE, Int.reduceToNat, Int.reduceNeg, Int.reducePow, Int.reduceAdd, Int.reduceMul, Int.reduceSub, ↓Int.reduceNatCast'] <;> rfl
      · have e : decide (a = b) = false := by
          apply decide_eq_false
          intro h
          rw [h] at e2
          exact e2 rfl
        simp (disch := first | omega | decide) only [push_cast, ↓wF_free, ↓reduceIte, Nat.reduceEqDiff, Nat.reduceLT, Nat.reduceLeDiff, Nat.reduceAdd, Nat.reduceSub, Nat.reduceMul, Nat.reduceBEq, Int.reduceLT, Int.reduceLE, Int.reduceToNat, Int.reduceNeg, Int.reducePow, Int.reduceAdd, Int.reduceMul, Int.reduceSub, ↓Int.reduceNatCast', e2, e]
    · obtain rfl : i = a.length := by omega
      have e : decide (a = b) = true := decide_eq_true (extP (by omega) hp)
      simp (disch := first | omega | decide) only [push_cast, ↓wF_free, ↓reduceIte, Nat.reduceEqDiff, Nat.reduceLT, Nat.reduceLeDiff, Nat.reduceAdd, Nat.reduceSub, Nat.reduceMul, Nat.reduceBEq, Int.reduceLT, Int.reduceLE, Int.reduceToNat, Int.reduceNeg, Int.reducePow, Int.reduceAdd, Int.reduceMul, Int.reduceSub, ↓Int.reduceNatCast', e]
  · have e : decide (a = b) = false := by
      apply decide_eq_false
      intro h
      rw [h] at e1
      exact e1 rfl
    simp (disch := first | omega | decide) only [push_cast, ↓wF_free, ↓reduceIte, Nat.reduceEqDiff, Nat.reduceLT, Nat.reduceLeDiff, Nat.reduceAdd, Nat.reduceSub, Nat.reduceMul, Nat.reduceBEq, Int.reduceLT, Int.reduceLE, Int.reduceToNat, Int.reduceNeg, Int.reducePow, Int.reduceAdd, Int.reduceMul, Int.reduceSub, ↓Int.reduceNatCast', e1, e]
theorem c_psame : Contract Try.prog GG 18 sp_psame :=
  contract_of tr_wagonpoolref34_Same (tb_ok all_nil all_nil) (fun a h => w_psame a.1 a.2 h)

noncomputable def sp_mkpay : List D → Option D := spOf (α := Int × Int × Int) (fun a => [.int .i64 a.1, .int .i64 a.2.1, .int .i64 a.2.2]) (fun a => True) (fun a => payD ⟨a.1, a.2.1, a.2.2⟩)
theorem call_mkpay (a : Int) (b : Int) (c : Int) : sp_mkpay [.int .i64 a, .int .i64 b, .int .i64 c] = some (payD ⟨a, b, c⟩) :=
  spOf_enc (fun ⟨a0, a1, a2⟩ ⟨b0, b1, b2⟩ h => by simp only [List.cons.injEq, D.slc.injEq, D.int.injEq, D.bool.injEq, D.str.injEq, D.agg.injEq, digs_iff, dig_iff, digC_iff, bytes_iff, byte_iff, words_iff, word_iff, bsl_iff, true_and, and_true, ints_iff, pays_iff, nI_iff, payD_iff, Int.ofNat_inj] at h; simp [h, Prod.ext_iff]) (a, b, c) trivial
set_option maxHeartbeats 4000000 in
set_option maxRecDepth 20000 in
theorem w_mkpay (a : Int) (b : Int) (c : Int) : @wW GG (tb [] []) F_wagonpoollaw34_pay.code (argF [.int .i64 a, .int .i64 b, .int .i64 c]) [] ⟨retQ F_wagonpoollaw34_pay.res (payD ⟨a, b, c⟩)⟩ := by
  unfold F_wagonpoollaw34_pay
  simp (disch := first | omega | decide) only [push_cast, ↓wF_free, ↓reduceIte, Nat.reduceEqDiff, Nat.reduceLT, Nat.reduceLeDiff, Nat.reduceAdd, Nat.reduceSub, Nat.reduceMul, Nat.reduceBEq, Int.reduceLT, Int.reduceLE, Int.reduceToNat, Int.reduceNeg, Int.reducePow, Int.reduceAdd, Int.reduceMul, Int.reduceSub, ↓Int.reduceNatCast', payD, payC]
theorem c_mkpay : Contract Try.prog GG 20 sp_mkpay :=
  contract_of tr_wagonpoollaw34_pay (tb_ok all_nil all_nil) (fun a h => w_mkpay a.1 a.2.1 a.2.2)

theorem litD_p2 (a b c x y z : Int) : litD 3 [.agg [.int .i64 a, .int .i64 b, .int .i64 c], .agg [.int .i64 x, .int .i64 y, .int .i64 z]] = some (.slc 3 [.agg [.int .i64 a, .int .i64 b, .int .i64 c], .agg [.int .i64 x, .int .i64 y, .int .i64 z]] true) := (rfl)
theorem litD_i3 (a b c : Int) : litD 1 [.int .i64 a, .int .i64 b, .int .i64 c] = some (.slc 1 [.int .i64 a, .int .i64 b, .int .i64 c] true) := (rfl)
theorem litD_i4 (a b c d : Int) : litD 1 [.int .i64 a, .int .i64 b, .int .i64 c, .int .i64 d] = some (.slc 1 [.int .i64 a, .int .i64 b, .int .i64 c, .int .i64 d] true) := (rfl)
attribute [push_cast] litD_p2 litD_i3 litD_i4
def pD (a b c : Int) : D := .agg [.int .i64 a, .int .i64 b, .int .i64 c]
def sI (l : List D) : D := .slc 1 l false
def sP (l : List D) : D := .slc 3 l false
noncomputable def sp_nsane : List D → Option D := spOf (α := Unit) (fun _ => []) (fun _ => True) (fun _ => .bool true)
theorem call_nsane : sp_nsane [] = some (.bool true) :=
  spOf_enc (fun _ _ _ => rfl) () trivial
set_option maxHeartbeats 4000000 in
set_option maxRecDepth 20000 in
theorem w_nsane : @wW GG (tb [(15, sp_pnet), (18, sp_psame), (20, sp_mkpay), (10, sp_psettle), (12, sp_isame), (13, sp_pcheck2)] []) F_wagonpoollaw34_sane.code (argF []) [] ⟨retQ F_wagonpoollaw34_sane.res (.bool true)⟩ := by
  have mk : ∀ a b c : Int, sp_mkpay [.int .i64 a, .int .i64 b, .int .i64 c] = some (.agg [.int .i64 a, .int .i64 b, .int .i64 c]) := fun a b c => call_mkpay a b c
  have n1 : sp_pnet [.slc 1 [.int .i64 (-5), .int .i64 3, .int .i64 2] false] = some (.tup [.slc 3 [.agg [.int .i64 0, .int .i64 1, .int .i64 3], .agg [.int .i64 0, .int .i64 2, .int .i64 2]] false, .int .i64 0]) := by
    have := call_pnet [-5, 3, 2] (by decide)
    rw [show netOut [-5, 3, 2] = ([⟨0, 1, 3⟩, ⟨0, 2, 2⟩], 0) by decide] at this
    exact this
  have n2 : sp_pnet [.slc 1 [.int .i64 4, .int .i64 (-1), .int .i64 0, .int .i64 (-3)] false] = some (.tup [.slc 3 [.agg [.int .i64 1, .int .i64 0, .int .i64 1], .agg [.int .i64 3, .int .i64 0, .int .i64 3]] false, .int .i64 0]) := by
    have := call_pnet [4, -1, 0, -3] (by decide)
    rw [show netOut [4, -1, 0, -3] = ([⟨1, 0, 1⟩, ⟨3, 0, 3⟩], 0) by decide] at this
    exact this
  have n3 : sp_pnet [.slc 0 [] false] = some (.tup [.slc 0 [] false, .int .i64 0]) := by
    have := call_pnet [] (by decide)
    rw [show netOut [] = ([], 0) by decide] at this
    exact this
  have n4 : sp_pnet [.slc 1 [.int .i64 1, .int .i64 0] false] = some (.tup [.slc 0 [] false, .int .i64 340]) := by
    have := call_pnet [1, 0] (by decide)
    rw [show netOut [1, 0] = ([], 340) by decide] at this
    exact this
  have m1 : sp_psame [.slc 3 [.agg [.int .i64 0, .int .i64 1, .int .i64 3], .agg [.int .i64 0, .int .i64 2, .int .i64 2]] false, .slc 3 [.agg [.int .i64 0, .int .i64 1, .int .i64 3], .agg [.int .i64 0, .int .i64 2, .int .i64 2]] false] = some (.bool true) := call_psame [⟨0, 1, 3⟩, ⟨0, 2, 2⟩] [⟨0, 1, 3⟩, ⟨0, 2, 2⟩] (by decide)
  have m2 : sp_psame [.slc 3 [.agg [.int .i64 1, .int .i64 0, .int .i64 1], .agg [.int .i64 3, .int .i64 0, .int .i64 3]] false, .slc 3 [.agg [.int .i64 1, .int .i64 0, .int .i64 1], .agg [.int .i64 3, .int .i64 0, .int .i64 3]] false] = some (.bool true) := call_psame [⟨1, 0, 1⟩, ⟨3, 0, 3⟩] [⟨1, 0, 1⟩, ⟨3, 0, 3⟩] (by decide)
  have s1 : sp_psettle [.slc 1 [.int .i64 (-5), .int .i64 5] false, .slc 3 [.agg [.int .i64 0, .int .i64 1, .int .i64 2]] false] = some (.tup [.slc 1 [.int .i64 (-3), .int .i64 3] false, .int .i64 0]) := by
    have := call_psettle [-5, 5] [⟨0, 1, 2⟩] (by decide)
    rw [show settleL [-5, 5] [⟨0, 1, 2⟩] = ([-3, 3], 0) by decide] at this
    exact this
  have s2 : sp_psettle [.slc 1 [.int .i64 0, .int .i64 0] false, .slc 3 [.agg [.int .i64 0, .int .i64 0, .int .i64 1]] false] = some (.tup [.slc 0 [] false, .int .i64 310]) := by
    have := call_psettle [0, 0] [⟨0, 0, 1⟩] (by decide)
    rw [show settleL [0, 0] [⟨0, 0, 1⟩] = ([], 310) by decide] at this
    exact this
  have s3 : sp_psettle [.slc 1 [.int .i64 0, .int .i64 0] false, .slc 3 [.agg [.int .i64 0, .int .i64 1, .int .i64 0]] false] = some (.tup [.slc 0 [] false, .int .i64 1]) := by
    have := call_psettle [0, 0] [⟨0, 1, 0⟩] (by decide)
    rw [show settleL [0, 0] [⟨0, 1, 0⟩] = ([], 1) by decide] at this
    exact this
  have i1 : sp_isame [.slc 1 [.int .i64 (-3), .int .i64 3] false, .slc 1 [.int .i64 (-3), .int .i64 3] false] = some (.bool true) := call_isame [-3, 3] [-3, 3] (by decide)
  have c1 : sp_pcheck2 [.slc 1 [.int .i64 0, .int .i64 0] false, .slc 3 [.agg [.int .i64 0, .int .i64 1, .int .i64 1], .agg [.int .i64 1, .int .i64 1, .int .i64 1]] false] = some (.int .i64 310) := by
    have := call_pcheck2 [0, 0] [⟨0, 1, 1⟩, ⟨1, 1, 1⟩] (by decide)
    rw [show checkL [0, 0] [⟨0, 1, 1⟩, ⟨1, 1, 1⟩] = 310 by decide] at this
    exact this
  have c2 : sp_pcheck2 [.slc 1 [.int .i64 (-1), .int .i64 1, .int .i64 0] false, .slc 3 [.agg [.int .i64 0, .int .i64 2, .int .i64 1], .agg [.int .i64 2, .int .i64 1, .int .i64 1]] false] = some (.int .i64 340) := by
    have := call_pcheck2 [-1, 1, 0] [⟨0, 2, 1⟩, ⟨2, 1, 1⟩] (by decide)
    rw [show checkL [-1, 1, 0] [⟨0, 2, 1⟩, ⟨2, 1, 1⟩] = 340 by decide] at this
    exact this
  have c3 : sp_pcheck2 [.slc 1 [.int .i64 (-5), .int .i64 5] false, .slc 3 [.agg [.int .i64 0, .int .i64 1, .int .i64 2]] false] = some (.int .i64 340) := by
    have := call_pcheck2 [-5, 5] [⟨0, 1, 2⟩] (by decide)
    rw [show checkL [-5, 5] [⟨0, 1, 2⟩] = 340 by decide] at this
    exact this
  have c4 : sp_pcheck2 [.slc 1 [.int .i64 (-5), .int .i64 5] false, .slc 3 [.agg [.int .i64 0, .int .i64 1, .int .i64 5]] false] = some (.int .i64 0) := by
    have := call_pcheck2 [-5, 5] [⟨0, 1, 5⟩] (by decide)
    rw [show checkL [-5, 5] [⟨0, 1, 5⟩] = 0 by decide] at this
    exact this
  unfold F_wagonpoollaw34_sane
  simp (disch := first | omega | decide) only [push_cast, ↓wF_free, ↓reduceIte, Nat.reduceEqDiff, Nat.reduceLT, Nat.reduceLeDiff, Nat.reduceAdd, Nat.reduceSub, Nat.reduceMul, Nat.reduceBEq, Int.reduceLT, Int.reduceLE, Int.reduceToNat, Int.reduceNeg, Int.reducePow, Int.reduceAdd, Int.reduceMul, Int.reduceSub, ↓Int.reduceNatCast', mk, n1, n2, n3, n4, m1, m2, s1, s2, s3, i1, c1, c2, c3, c4]
theorem c_nsane : Contract Try.prog GG 9 sp_nsane :=
  contract_of tr_wagonpoollaw34_sane (tb_ok (all_cons c_pnet (all_cons c_psame (all_cons c_mkpay (all_cons c_psettle (all_cons c_isame (all_cons c_pcheck2 all_nil)))))) all_nil) (fun a h => w_nsane )
end Go.Proofs.Ytedchaaoemifbaa.PI
