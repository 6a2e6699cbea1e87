/-
  netting: settling, of the program and of the reference.
  Conditions: none; these are lemmas.
-/
import Derived.Test.YtedchaaoemifbaaNtD
namespace Go.Proofs.Ytedchaaoemifbaa.PI
open Go
set_option linter.unusedSimpArgs false
set_option linter.unusedVariables false

/-! ### Payments, and numbers in a slice of the store -/
theorem pld3 (st : St) (p : Pay) : pload st 3 true (.eptr (payD p) 0) = some (.agg [.int .i64 p.f, .int .i64 p.t, .int .i64 p.n]) := (rfl)
theorem box_i3 (a b c : Int) : boxD (.agg [.int .i64 a, .int .i64 b, .int .i64 c]) = some [.int .i64 a, .int .i64 b, .int .i64 c] := (rfl)
theorem st3 (sz : Nat) (x y z : D) (a b c : Int) : stO (some ⟨false, sz, [x, y, z], false⟩) 3 0 (.agg [.int .i64 a, .int .i64 b, .int .i64 c]) = some ⟨false, sz, [.int .i64 a, .int .i64 b, .int .i64 c], false⟩ := stO_all sz _ _ 3 rfl rfl rfl
theorem ld3 (sz : Nat) (x y z : D) (lent : Bool) : ldO (some ⟨false, sz, [x, y, z], lent⟩) 3 true 0 = some (.agg [x, y, z]) := (rfl)
theorem imm_i3 (st : St) (a b c : Int) : imm st (.agg [.int .i64 a, .int .i64 b, .int .i64 c]) = some (.agg [.int .i64 a, .int .i64 b, .int .i64 c]) := (rfl)
theorem keys_i3 (a b c : Int) : keys (.agg [.int .i64 a, .int .i64 b, .int .i64 c]) = [] := (rfl)
theorem fill_i3 (a b c x y z : Int) : fillD [.int .i64 x, .int .i64 y, .int .i64 z] [(0, 1, .int .i64 a), (1, 1, .int .i64 b), (2, 1, .int .i64 c)] = some [.int .i64 a, .int .i64 b, .int .i64 c] := (rfl)
theorem litD_p1 (a b c : Int) : litD 3 [.agg [.int .i64 a, .int .i64 b, .int .i64 c]] = some (.slc 3 [.agg [.int .i64 a, .int .i64 b, .int .i64 c]] true) := (rfl)
theorem litD_p0 : litD 3 [] = some (.slc 3 [] true) := (rfl)
theorem hk1_ptr (key off : Nat) : hk1 (.ptr key off) = [key] := (rfl)
theorem ren1_ptr (n : Nat) (σ : List Nat) (key off : Nat) : ren1 n σ (.ptr key off) = orJunk (fun k => .ptr k off) (renK n σ key) := (rfl)
theorem hk_rptrI (key tot i off : Nat) : hk (.rptr key tot i off) = [key] := (rfl)
theorem hk_eptrI (el : D) (off : Nat) : hk (.eptr el off) = [] := (rfl)
attribute [push_cast] box_i3 st3 ld3 imm_i3 keys_i3 fill_i3 litD_p1 litD_p0 hk1_ptr ren1_ptr hk_eptrI hk_rptrI
theorem ldR_nI (A : List Int) (lent : Bool) (tot i : Nat) (ht : A.length = tot) (h : i < tot) : ldR (some ⟨true, 1, A.map nI, lent⟩) 1 false tot i 0 = some (.int .i64 (at' A i)) := by
  subst ht; exact ldR_cell nI (fun _ => rfl) 1 A lent i h
theorem ixR_nI (A : List Int) (lent : Bool) (key tot : Nat) (j : Int) (ht : A.length = tot) (h0 : 0 ≤ j) (h1 : j < (tot : Int)) : ixR (some ⟨true, 1, A.map nI, lent⟩) 1 key tot 0 tot j = some (.rptr key tot j.toNat 0) := by
  subst ht
  have := ixR_row nI 1 A lent key 0 A.length j h0 h1
  rwa [Nat.zero_add] at this
theorem liR_nI (A : List Int) (lent : Bool) (tot : Nat) (ht : A.length = tot) : liR (some ⟨true, 1, A.map nI, lent⟩) tot = true := by
  subst ht; exact liR_row nI 1 A lent
theorem reR_nI (A : List Int) (lent : Bool) (tot : Nat) (ht : A.length = tot) : reR (some ⟨true, 1, A.map nI, lent⟩) tot 0 tot = some (1, A.map nI) := by
  subst ht; exact reR_all nI 1 A lent
def stRI (o : Option Obj) (tot i : Nat) (v : Int) : Option Obj := o.bind fun o => if o.row && !o.lent && o.els.length == tot then (o.els[i]?).bind fun el => (setEl el 0 [.int .i64 v]).map fun el' => { o with els := o.els.set i el' } else none
theorem pstor_ri (st : St) (key tot i : Nat) (v : Int) : pstor st 1 (.rptr key tot i 0) (.int .i64 v) = (stRI st[key]? tot i v).map fun o => st.set key o := by
  simp only [pstor, stRI, imm_int, keys_int, List.isEmpty_nil, Bool.and_true]
  cases st[key]? with
  | none => rfl
  | some o =>
    simp only [Option.bind_some]
    split
    · cases o.els[i]? with
      | none => rfl
      | some el =>
        have hc : (D.int .i64 v).cells = [.int .i64 v] := rfl
        rw [hc]
        simp only [Option.bind_some]
        cases setEl el 0 [.int .i64 v] <;> rfl
    · rfl
theorem stRI_row (A : List Int) (tot i : Nat) (v : Int) (ht : A.length = tot) (h : i < tot) : stRI (some ⟨true, 1, A.map nI, false⟩) tot i v = some ⟨true, 1, (A.set i v).map nI, false⟩ := by
  subst ht
  have h1 : setEl (nI A[i]) 0 [.int .i64 v] = some (nI v) := rfl
  simp [stRI, h, h1, List.map_set]

/-! ### The program's accounts -/
def accN (st : St) (k : Nat) : Int := match st[k]? with
  | some o => match o.els with
    | [v] => match lenD st false v with
      | some (.int _ n) => n
      | _ => 0
    | _ => 0
  | none => 0
noncomputable def si_acc : List D → St → Option (D × St) := siOf (α := Int × Nat × St) (fun a => ([.int .i64 a.1, .ptr a.2.1 0], a.2.2)) (fun a => ∃ v lent n, a.2.2[a.2.1]? = some ⟨false, 1, [v], lent⟩ ∧ lenD a.2.2 false v = some (.int .i64 n))
  (fun a => (.bool (decide (0 ≤ a.1) && decide (a.1 < accN a.2.2 a.2.1)), a.2.2))
theorem call_acc (a : Int) (k : Nat) (st : St) (v : D) (lent : Bool) (n : Int) (h1 : st[k]? = some ⟨false, 1, [v], lent⟩) (h2 : lenD st false v = some (.int .i64 n)) : si_acc [.int .i64 a, .ptr k 0] st = some (.bool (decide (0 ≤ a) && decide (a < n)), st) := by
  have e : accN st k = n := by unfold accN; rw [h1]; simp only [h2]
  have := siOf_enc (enc := fun a : Int × Nat × St => (([.int .i64 a.1, .ptr a.2.1 0] : List D), a.2.2)) (pre := fun a : Int × Nat × St => ∃ v lent n, a.2.2[a.2.1]? = some ⟨false, 1, [v], lent⟩ ∧ lenD a.2.2 false v = some (.int .i64 n)) (f := fun a => (.bool (decide (0 ≤ a.1) && decide (a.1 < accN a.2.2 a.2.1)), a.2.2))
    (fun a b e => by simp only [Prod.mk.injEq, List.cons.injEq, D.int.injEq, D.ptr.injEq, and_true, true_and] at e; obtain ⟨a1, a2, a3⟩ := a; obtain ⟨b1, b2, b3⟩ := b; dsimp only at e ⊢; rw [e.1.1, e.1.2, e.2]) ((a, k, st) : Int × Nat × St) ⟨v, lent, n, h1, h2⟩ rfl
  dsimp only at this
  rw [e] at this
  exact this

theorem ci_acc : IContract Try.prog GG 23 si_acc := by
  refine icontract_keep (T := tb [] []) tr_netting_Settle_1 (tb_ok all_nil all_nil) ?_
  rintro ⟨a, k, st⟩ ⟨v, lent, n, h1, h2⟩
  dsimp only at h1 h2 ⊢
  have e : accN st k = n := by unfold accN; rw [h1]; simp only [h2]
  rw [e]
  unfold F_netting_Settle_1
  by_cases h3 : 0 ≤ a
  · simp (disch := first | omega | decide) only [push_cast, ↓wF_free, ↓reduceIte, Nat.reduceEqDiff, Nat.reduceLT, Nat.reduceLeDiff, Nat.reduceAdd, Nat.reduceSub, Nat.reduceMul, Nat.reduceBEq, Int.reduceLT, Int.reduceLE, Int.reduceToNat, Int.reduceNeg, Int.reducePow, Int.reduceAdd, Int.reduceMul, Int.reduceSub, ↓Int.reduceNatCast', h3, h1, h2]
  · simp (disch := first | omega | decide) only [push_cast, ↓wF_free, ↓reduceIte, Nat.reduceEqDiff, Nat.reduceLT, Nat.reduceLeDiff, Nat.reduceAdd, Nat.reduceSub, Nat.reduceMul, Nat.reduceBEq, Int.reduceLT, Int.reduceLE, Int.reduceToNat, Int.reduceNeg, Int.reducePow, Int.reduceAdd, Int.reduceMul, Int.reduceSub, ↓Int.reduceNatCast', h3]

/-! ### Settle -/
theorem settle_nilE (l : List Pay) : settleF [] l = if l = [] then ([], 0) else ([], 310) := by
  cases l with
  | nil => rfl
  | cons p l =>
    rw [settleF, if_pos (by unfold badAcc; simp; omega), if_neg (by simp)]
theorem settle_drop (x : List Int) (l : List Pay) (i : Nat) (h : i < l.length) : settleF x (l.drop i) = settleF x (l.getD i default :: l.drop (i + 1)) := by rw [drop_getD l i h]
noncomputable def sp_psettle : List D → Option D := spOf (α := List Int × List Pay) (fun a => [.slc (nz 1 (a.1.map nI)) (a.1.map nI) false, .slc (nz 3 (a.2.map payD)) (a.2.map payD) false]) (fun a => a.2.length ≤ 9223372036854775807) (fun a => .tup [.slc (nz 1 ((settleL a.1 a.2).1.map nI)) ((settleL a.1 a.2).1.map nI) false, .int .i64 (settleL a.1 a.2).2])
theorem call_psettle (b : List Int) (l : List Pay) (h : l.length ≤ 9223372036854775807) : sp_psettle [.slc (nz 1 (b.map nI)) (b.map nI) false, .slc (nz 3 (l.map payD)) (l.map payD) false] = some (.tup [.slc (nz 1 ((settleL b l).1.map nI)) ((settleL b l).1.map nI) false, .int .i64 (settleL b l).2]) :=
  spOf_enc (fun ⟨a0, a1⟩ ⟨b0, b1⟩ h => by simp only [List.cons.injEq, D.slc.injEq, D.int.injEq, D.bool.injEq, D.str.injEq, D.agg.injEq, digs_iff, dig_iff, digC_iff, bytes_iff, byte_iff, words_iff, word_iff, bsl_iff, true_and, and_true, ints_iff, pays_iff, nI_iff, payD_iff, Int.ofNat_inj] at h; simp [h, Prod.ext_iff]) (b, l) h
set_option maxHeartbeats 4000000 in
set_option maxRecDepth 20000 in
theorem w_psettle (b : List Int) (l : List Pay) (h : l.length ≤ 9223372036854775807) : @wW GG (tb [(21, sp_pcheck), (24, sp_madd), (25, sp_msub)] [(22, si_clone), (23, si_acc)]) F_netting_Settle.code (argF [.slc (nz 1 (b.map nI)) (b.map nI) false, .slc (nz 3 (l.map payD)) (l.map payD) false]) [] ⟨retQ F_netting_Settle.res (.tup [.slc (nz 1 ((settleL b l).1.map nI)) ((settleL b l).1.map nI) false, .int .i64 (settleL b l).2])⟩ := by
  unfold F_netting_Settle
  by_cases hc : chkE b = 0
  · obtain ⟨hl1, hin⟩ := chkE_ok hc
    have e0 : settleL b l = settleF b l := by unfold settleL; rw [if_neg (by rw [hc]; simp)]
    have ccl := call_clone b [] (by omega)
    by_cases hb : b = []
    · subst hb
      rw [if_pos rfl] at ccl
      simp only [List.map_nil, nz_nil] at ccl
      rw [e0, settle_nilE]
      have hcp := call_pcheck []
      simp only [List.map_nil, nz_nil, hc] at hcp
      simp (disch := first | omega | decide) only [push_cast, ↓wF_free, ↓reduceIte, Nat.reduceEqDiff, Nat.reduceLT, Nat.reduceLeDiff, Nat.reduceAdd, Nat.reduceSub, Nat.reduceMul, Nat.reduceBEq, Int.reduceLT, Int.reduceLE, Int.reduceToNat, Int.reduceNeg, Int.reducePow, Int.reduceAdd, Int.reduceMul, Int.reduceSub, ↓Int.reduceNatCast', hcp, ccl]
      refine W_while (fun i : Nat => [(7, .ptr 0 0), (8, .clo 23 [.ptr 0 0]), (23, .slc (nz 3 (l.map payD)) (l.map payD) false), (24, .int .i64 (l.length : Int)), (25, .int .i64 (i : Int))]) (fun i => [⟨false, 1, [.slc 0 [] false], false⟩]) (fun i => i = 0) (fun i => 0) 0 (by simp only [push_cast, ↓wF_free, ↓reduceIte, Nat.reduceEqDiff, Nat.reduceLT, Nat.reduceLeDiff, Nat.reduceAdd, Nat.reduceSub, Nat.reduceMul, Nat.reduceBEq, Int.reduceLT, Int.reduceLE, Int.reduceToNat, Int.reduceNeg, Int.reducePow, Int.reduceAdd, Int.reduceMul, Int.reduceSub, ↓Int.reduceNatCast'] <;> rfl) rfl ?_
      rintro i rfl
      unfold F_netting_Settle_L0
      by_cases hl : l = []
      · subst hl
        simp (disch := first | omega | decide) only [push_cast, ↓wF_free, ↓reduceIte, Nat.reduceEqDiff, Nat.reduceLT, Nat.reduceLeDiff, Nat.reduceAdd, Nat.reduceSub, Nat.reduceMul, Nat.reduceBEq, Int.reduceLT, Int.reduceLE, Int.reduceToNat, Int.reduceNeg, Int.reducePow, Int.reduceAdd, Int.reduceMul, Int.reduceSub, ↓Int.reduceNatCast', List.map_nil]
      · have hl2 : 0 < l.length := List.length_pos_iff.2 hl
        have hl3 : (0 : Int) < (l.length : Int) := by omega
        have hix := idxS_nz (st := [⟨false, 1, [.slc 0 [] false], false⟩]) 3 payD l false .i64 0 (by decide) hl3
        generalize l.getD (0 : Int).toNat default = p at hix
        have hca := call_acc p.f 0 [⟨false, 1, [.slc 0 [] false], false⟩, ⟨false, 1, [.int .i64 p.f, .int .i64 p.t, .int .i64 p.n], false⟩] (.slc 0 [] false) false 0 rfl rfl
        have hff : (decide (0 ≤ p.f) && decide (p.f < 0)) = false := by
          by_cases h : 0 ≤ p.f
          · have : ¬ p.f < 0 := by omega
            simp [this]
          · simp [h]
        rw [hff] at hca
        simp (disch := first | omega | decide) only [push_cast, ↓wF_free, ↓reduceIte, Nat.reduceEqDiff, Nat.reduceLT, Nat.reduceLeDiff, Nat.reduceAdd, Nat.reduceSub, Nat.reduceMul, Nat.reduceBEq, Int.reduceLT, Int.reduceLE, Int.reduceToNat, Int.reduceNeg, Int.reducePow, Int.reduceAdd, Int.reduceMul, Int.reduceSub, ↓Int.reduceNatCast', hl3, hix, pld3, hca, hl]
    · rw [if_neg hb] at ccl
      have hcp := call_pcheck b
      rw [hc] at hcp
      have hb0 : 0 < b.length := List.length_pos_iff.2 hb
      simp (disch := first | omega | decide) only [push_cast, ↓wF_free, ↓reduceIte, Nat.reduceEqDiff, Nat.reduceLT, Nat.reduceLeDiff, Nat.reduceAdd, Nat.reduceSub, Nat.reduceMul, Nat.reduceBEq, Int.reduceLT, Int.reduceLE, Int.reduceToNat, Int.reduceNeg, Int.reducePow, Int.reduceAdd, Int.reduceMul, Int.reduceSub, ↓Int.reduceNatCast', hcp, ccl]
      refine W_while (fun i : Nat × List Int => [(7, .ptr 1 0), (8, .clo 23 [.ptr 1 0]), (23, .slc (nz 3 (l.map payD)) (l.map payD) false), (24, .int .i64 (l.length : Int)), (25, .int .i64 (i.1 : Int))])
        (fun i => [⟨true, 1, i.2.map nI, false⟩, ⟨false, 1, [.row 0 b.length 0 b.length], false⟩]) (fun i => i.1 ≤ l.length ∧ i.2.length = b.length ∧ (∀ v ∈ i.2, inR v) ∧ settleF b l = settleF i.2 (l.drop i.1)) (fun i => l.length - i.1) (0, b) (by simp only [push_cast, ↓wF_free, ↓reduceIte, Nat.reduceEqDiff, Nat.reduceLT, Nat.reduceLeDiff, Nat.reduceAdd, Nat.reduceSub, Nat.reduceMul, Nat.reduceBEq, Int.reduceLT, Int.reduceLE, Int.reduceToNat, Int.reduceNeg, Int.reducePow, Int.reduceAdd, Int.reduceMul, Int.reduceSub, ↓Int.reduceNatCast'] <;> rfl) ⟨Nat.zero_le _, rfl, hin, rfl⟩ ?_
      rintro ⟨i, x⟩ ⟨hi, hxl, hxr, hse⟩
      dsimp only at hi hxl hxr hse
      unfold F_netting_Settle_L0
      simp (disch := first | omega | decide) only [push_cast, ↓wF_free, ↓reduceIte, Nat.reduceEqDiff, Nat.reduceLT, Nat.reduceLeDiff, Nat.reduceAdd, Nat.reduceSub, Nat.reduceMul, Nat.reduceBEq, Int.reduceLT, Int.reduceLE, Int.reduceToNat, Int.reduceNeg, Int.reducePow, Int.reduceAdd, Int.reduceMul, Int.reduceSub, ↓Int.reduceNatCast']
      refine ifD_split (fun h2 => ?_) (fun h2 => ?_)
      · have hlt : i < l.length := by omega
        rw [settle_drop x l i hlt] at hse
        simp (disch := first | omega | decide) only [push_cast, ↓wF_free, ↓reduceIte, Nat.reduceEqDiff, Nat.reduceLT, Nat.reduceLeDiff, Nat.reduceAdd, Nat.reduceSub, Nat.reduceMul, Nat.reduceBEq, Int.reduceLT, Int.reduceLE, Int.reduceToNat, Int.reduceNeg, Int.reducePow, Int.reduceAdd, Int.reduceMul, Int.reduceSub, ↓Int.reduceNatCast', idxS_nz, pld3]
        generalize l.getD i default = p at *
        have hlen : ∀ st : St, st[0]? = some ⟨true, 1, x.map nI, false⟩ → lenD st false (.row 0 b.length 0 b.length) = some (.int .i64 (b.length : Int)) := fun st h => by
          rw [lenD_row, live_eq, h, liR_nI x false b.length hxl, if_pos rfl]
        have hca : ∀ a : Int, si_acc [.int .i64 a, .ptr 1 0] [⟨true, 1, x.map nI, false⟩, ⟨false, 1, [.row 0 b.length 0 b.length], false⟩, ⟨false, 1, [.int .i64 p.f, .int .i64 p.t, .int .i64 p.n], false⟩] = some (.bool (decide (0 ≤ a) && decide (a < (b.length : Int))), [⟨true, 1, x.map nI, false⟩, ⟨false, 1, [.row 0 b.length 0 b.length], false⟩, ⟨false, 1, [.int .i64 p.f, .int .i64 p.t, .int .i64 p.n], false⟩]) :=
          fun a => call_acc a 1 _ (.row 0 b.length 0 b.length) false (b.length : Int) rfl (hlen _ rfl)
        by_cases hacc : badAcc x.length p
        · have e1 : settleF b l = ([], 310) := by rw [hse, settleF, if_pos hacc]
          have hacc' := hacc
          unfold badAcc at hacc'
          rw [hxl] at hacc'
          by_cases a1 : 0 ≤ p.f
          · by_cases a2 : p.f < (b.length : Int)
            · by_cases a3 : 0 ≤ p.t
              · by_cases a4 : p.t < (b.length : Int)
                · have a5 : decide (p.f = p.t) = true := decide_eq_true (by omega)
                  simp (disch := first | omega | decide) only [push_cast, ↓wF_free, ↓reduceIte, Nat.reduceEqDiff, Nat.reduceLT, Nat.reduceLeDiff, Nat.reduceAdd, Nat.reduceSub, Nat.reduceMul, Nat.reduceBEq, Int.reduceLT, Int.reduceLE, Int.reduceToNat, Int.reduceNeg, Int.reducePow, Int.reduceAdd, Int.reduceMul, Int.reduceSub, ↓Int.reduceNatCast', hca, a1, a2, a3, a4, a5, e0, e1]
                · simp (disch := first | omega | decide) only [push_cast, ↓wF_free, ↓reduceIte, Nat.reduceEqDiff, Nat.reduceLT, Nat.reduceLeDiff, Nat.reduceAdd, Nat.reduceSub, Nat.reduceMul, Nat.reduceBEq, Int.reduceLT, Int.reduceLE, Int.reduceToNat, Int.reduceNeg, Int.reducePow, Int.reduceAdd, Int.reduceMul, Int.reduceSub, ↓Int.reduceNatCast', hca, a1, a2, a3, a4, e0, e1]
              · simp (disch := first | omega | decide) only [push_cast, ↓wF_free, ↓reduceIte, Nat.reduceEqDiff, Nat.reduceLT, Nat.reduceLeDiff, Nat.reduceAdd, Nat.reduceSub, Nat.reduceMul, Nat.reduceBEq, Int.reduceLT, Int.reduceLE, Int.reduceToNat, Int.reduceNeg, Int.reducePow, Int.reduceAdd, Int.reduceMul, Int.reduceSub, ↓Int.reduceNatCast', hca, a1, a2, a3, e0, e1]
            · simp (disch := first | omega | decide) only [push_cast, ↓wF_free, ↓reduceIte, Nat.reduceEqDiff, Nat.reduceLT, Nat.reduceLeDiff, Nat.reduceAdd, Nat.reduceSub, Nat.reduceMul, Nat.reduceBEq, Int.reduceLT, Int.reduceLE, Int.reduceToNat, Int.reduceNeg, Int.reducePow, Int.reduceAdd, Int.reduceMul, Int.reduceSub, ↓Int.reduceNatCast', hca, a1, a2, e0, e1]
          · simp (disch := first | omega | decide) only [push_cast, ↓wF_free, ↓reduceIte, Nat.reduceEqDiff, Nat.reduceLT, Nat.reduceLeDiff, Nat.reduceAdd, Nat.reduceSub, Nat.reduceMul, Nat.reduceBEq, Int.reduceLT, Int.reduceLE, Int.reduceToNat, Int.reduceNeg, Int.reducePow, Int.reduceAdd, Int.reduceMul, Int.reduceSub, ↓Int.reduceNatCast', hca, a1, e0, e1]
        · have hacc' := hacc
          unfold badAcc at hacc'
          rw [hxl] at hacc'
          have a1 : 0 ≤ p.f := by omega
          have a2 : p.f < (b.length : Int) := by omega
          have a3 : 0 ≤ p.t := by omega
          have a4 : p.t < (b.length : Int) := by omega
          have a5 : ¬ p.f = p.t := by omega
          simp (disch := first | omega | decide) only [push_cast, ↓wF_free, ↓reduceIte, Nat.reduceEqDiff, Nat.reduceLT, Nat.reduceLeDiff, Nat.reduceAdd, Nat.reduceSub, Nat.reduceMul, Nat.reduceBEq, Int.reduceLT, Int.reduceLE, Int.reduceToNat, Int.reduceNeg, Int.reducePow, Int.reduceAdd, Int.reduceMul, Int.reduceSub, ↓Int.reduceNatCast', hca, a1, a2, a3, a4, a5]
          by_cases hamt : badAmt p
          · have e1 : settleF b l = ([], 1) := by rw [hse, settleF, if_neg hacc, if_pos hamt]
            unfold badAmt at hamt
            by_cases b1 : p.n < 1
            · simp (disch := first | omega | decide) only [push_cast, ↓wF_free, ↓reduceIte, Nat.reduceEqDiff, Nat.reduceLT, Nat.reduceLeDiff, Nat.reduceAdd, Nat.reduceSub, Nat.reduceMul, Nat.reduceBEq, Int.reduceLT, Int.reduceLE, Int.reduceToNat, Int.reduceNeg, Int.reducePow, Int.reduceAdd, Int.reduceMul, Int.reduceSub, ↓Int.reduceNatCast', b1, e0, e1]
            · have b2 : 9007199254740992 < p.n := by omega
              simp (disch := first | omega | decide) only [push_cast, ↓wF_free, ↓reduceIte, Nat.reduceEqDiff, Nat.reduceLT, Nat.reduceLeDiff, Nat.reduceAdd, Nat.reduceSub, Nat.reduceMul, Nat.reduceBEq, Int.reduceLT, Int.reduceLE, Int.reduceToNat, Int.reduceNeg, Int.reducePow, Int.reduceAdd, Int.reduceMul, Int.reduceSub, ↓Int.reduceNatCast', b1, b2, e0, e1]
          · have hamt' := hamt
            unfold badAmt at hamt'
            have b1 : ¬ p.n < 1 := by omega
            have b2 : ¬ 9007199254740992 < p.n := by omega
            have r1 := hxr _ (at_mem (x := x) (i := p.f.toNat) (by omega))
            have r2 := hxr _ (at_mem (x := x) (i := p.t.toNat) (by omega))
            have rn : inR p.n := by unfold inR; omega
            have hadd : addL (at' x p.f.toNat) p.n = rgL (moreA x p) := by unfold addL moreA; rw [if_pos ⟨r1, rn⟩]
            have hsub : subL (at' x p.t.toNat) p.n = rgL (lessA x p) := by unfold subL lessA; rw [if_pos ⟨r2, rn⟩]
            have i1 := ixR_nI x false 0 b.length p.f hxl a1 a2
            have i2 := ixR_nI x false 0 b.length p.t hxl a3 a4
            have l1 := ldR_nI x false b.length p.f.toNat hxl (by omega)
            have l2 := ldR_nI x false b.length p.t.toNat hxl (by omega)
            have h30 : ¬ (3 : Int) = 0 := by decide
            have ca := call_madd (at' x p.f.toNat) p.n
            have cs := call_msub (at' x p.t.toNat) p.n
            rw [hadd] at ca
            rw [hsub] at cs
            simp (disch := first | omega | decide) only [push_cast, ↓wF_free, ↓reduceIte, Nat.reduceEqDiff, Nat.reduceLT, Nat.reduceLeDiff, Nat.reduceAdd, Nat.reduceSub, Nat.reduceMul, Nat.reduceBEq, Int.reduceLT, Int.reduceLE, Int.reduceToNat, Int.reduceNeg, Int.reducePow, Int.reduceAdd, Int.reduceMul, Int.reduceSub, ↓Int.reduceNatCast', b1, b2, i1, l1, i2, l2, ca, cs]
            by_cases m1 : inR (moreA x p)
            · have g1 : rgL (moreA x p) = (moreA x p, 0) := by unfold rgL; rw [if_pos m1]
              by_cases m2 : inR (lessA x p)
              · have g2 : rgL (lessA x p) = (lessA x p, 0) := by unfold rgL; rw [if_pos m2]
                have hx2 : (x.set p.f.toNat (moreA x p)).length = b.length := by rw [List.length_set]; exact hxl
                have s1 := stRI_row x b.length p.f.toNat (moreA x p) hxl (by omega)
                have s2 := stRI_row (x.set p.f.toNat (moreA x p)) b.length p.t.toNat (lessA x p) hx2 (by omega)
                have i3 := ixR_nI (x.set p.f.toNat (moreA x p)) false 0 b.length p.t hx2 a3 a4
                have hmv : (x.set p.f.toNat (moreA x p)).set p.t.toNat (lessA x p) = movP x p := rfl
                simp (disch := first | omega | decide) only [push_cast, ↓wF_free, ↓reduceIte, Nat.reduceEqDiff, Nat.reduceLT, Nat.reduceLeDiff, Nat.reduceAdd, Nat.reduceSub, Nat.reduceMul, Nat.reduceBEq, Int.reduceLT, Int.reduceLE, Int.reduceToNat, Int.reduceNeg, Int.reducePow, Int.reduceAdd, Int.reduceMul, Int.reduceSub, ↓Int.reduceNatCast', g1, g2, i1, i2, i3, pstor_ri, s1, s2, hmv, add_i]
                refine next_head (i + 1, movP x p) (by exact ⟨by omega, (movP_length x p).trans hxl, fun v hv => by
                  unfold movP at hv
                  rcases List.mem_or_eq_of_mem_set hv with hv | rfl
                  · rcases List.mem_or_eq_of_mem_set hv with hv | rfl
                    · exact hxr v hv
                    · exact m1
                  · exact m2, by rw [hse]; exact settle_ok hacc hamt m1 m2⟩) (by dsimp only; omega) ?_
                simp only [push_cast, ↓wF_free, ↓reduceIte, Nat.reduceEqDiff, Nat.reduceLT, Nat.reduceLeDiff, Nat.reduceAdd, Nat.reduceSub, Nat.reduceMul, Nat.reduceBEq, Int.reduceLT, Int.reduceLE, Int.reduceToNat, Int.reduceNeg, Int.reducePow, Int.reduceAdd, Int.reduceMul, Int.reduceSub, ↓Int.reduceNatCast'] <;> rfl
              · have g2 : rgL (lessA x p) = (0, 3) := by unfold rgL; rw [if_neg m2]
                have e1 : settleF b l = ([], 3) := by rw [hse, settleF, if_neg hacc, if_neg hamt, if_pos (.inr m2)]
                simp (disch := first | omega | decide) only [push_cast, ↓wF_free, ↓reduceIte, Nat.reduceEqDiff, Nat.reduceLT, Nat.reduceLeDiff, Nat.reduceAdd, Nat.reduceSub, Nat.reduceMul, Nat.reduceBEq, Int.reduceLT, Int.reduceLE, Int.reduceToNat, Int.reduceNeg, Int.reducePow, Int.reduceAdd, Int.reduceMul, Int.reduceSub, ↓Int.reduceNatCast', g1, g2, h30, e0, e1]
            · have g1 : rgL (moreA x p) = (0, 3) := by unfold rgL; rw [if_neg m1]
              have e1 : settleF b l = ([], 3) := by rw [hse, settleF, if_neg hacc, if_neg hamt, if_pos (.inl m1)]
              simp (disch := first | omega | decide) only [push_cast, ↓wF_free, ↓reduceIte, Nat.reduceEqDiff, Nat.reduceLT, Nat.reduceLeDiff, Nat.reduceAdd, Nat.reduceSub, Nat.reduceMul, Nat.reduceBEq, Int.reduceLT, Int.reduceLE, Int.reduceToNat, Int.reduceNeg, Int.reducePow, Int.reduceAdd, Int.reduceMul, Int.reduceSub, ↓Int.reduceNatCast', g1, h30, e0, e1]
      · obtain rfl : i = l.length := by omega
        rw [List.drop_length] at hse
        have e1 : settleF b l = (x, 0) := hse
        have hr := reR_nI x false b.length hxl
        simp (disch := first | omega | decide) only [push_cast, ↓wF_free, ↓reduceIte, Nat.reduceEqDiff, Nat.reduceLT, Nat.reduceLeDiff, Nat.reduceAdd, Nat.reduceSub, Nat.reduceMul, Nat.reduceBEq, Int.reduceLT, Int.reduceLE, Int.reduceToNat, Int.reduceNeg, Int.reducePow, Int.reduceAdd, Int.reduceMul, Int.reduceSub, ↓Int.reduceNatCast', hr, e0, e1]
  · have e0 : settleL b l = ([], chkE b) := by unfold settleL; rw [if_pos hc]
    simp (disch := first | omega | decide) only [push_cast, ↓wF_free, ↓reduceIte, Nat.reduceEqDiff, Nat.reduceLT, Nat.reduceLeDiff, Nat.reduceAdd, Nat.reduceSub, Nat.reduceMul, Nat.reduceBEq, Int.reduceLT, Int.reduceLE, Int.reduceToNat, Int.reduceNeg, Int.reducePow, Int.reduceAdd, Int.reduceMul, Int.reduceSub, ↓Int.reduceNatCast', call_pcheck, hc, e0]
theorem c_psettle : Contract Try.prog GG 10 sp_psettle :=
  contract_of tr_netting_Settle (tb_ok (all_cons c_pcheck (all_cons c_madd (all_cons c_msub all_nil))) (all_cons ci_clone (all_cons ci_acc all_nil))) (fun a h => w_psettle a.1 a.2 h)
end Go.Proofs.Ytedchaaoemifbaa.PI
