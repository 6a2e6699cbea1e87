/-
  tbox: the examples of the documentation hold.
  Conditions: none; these are lemmas.
-/
import Derived.Test.YtgppecaeegaooaaTbL
namespace Go.Proofs.Ytgppecaeegaooaa.PI
open Go
set_option linter.unusedSimpArgs false
set_option linter.unusedVariables false
theorem flat_ints : ∀ (n : Nat) (l m : List Int), l.length = n → m.length = n → flatEq (List.replicate n 0) (l.map nI) (m.map nI) = some (decide (l = m))
  | 0, [], [], _, _ => (rfl)
  | 0, x :: l, m, h, _ => by cases h
  | 0, [], x :: m, _, h => by cases h
  | n + 1, [], m, h, _ => by cases h
  | n + 1, x :: l, [], _, h => by cases h
  | n + 1, x :: l, y :: m, h1, h2 => by
    have := flat_ints n l m (by simpa using h1) (by simpa using h2)
    simp only [List.replicate_succ, List.map_cons, flatEq, this, nI, flatEq1, if_true, List.cons.injEq]
    by_cases e : x = y
    · subst e; simp
    · have : (x == y) = false := by simp [e]
      simp [this, e]
theorem aeq_pt (neg : Bool) (p q : List Int) (hp : p.length = 16) (hq : q.length = 16) : paeq [0, 0, 0, 0, 0, 0, 0, 0, 0, 0, 0, 0, 0, 0, 0, 0] neg (ptD p) (ptD q) = some (.bool (decide (p = q) != neg)) := by
  have := flat_ints 16 p q hp hq
  show ((flatEq (List.replicate 16 0) (p.map nI) (q.map nI)).map fun b => D.bool (b != neg)) = _
  rw [this]; rfl
theorem aeq_env (neg : Bool) (h k : Int) (p q : List Int) (hp : p.length = 16) (hq : q.length = 16) : paeq [0, 0, 0, 0, 0, 0, 0, 0, 0, 0, 0, 0, 0, 0, 0, 0, 0] neg (envD h p) (envD k q) = some (.bool (decide (h = k ∧ p = q) != neg)) := by
  have := flat_ints 17 (h :: p) (k :: q) (by simp [hp]) (by simp [hq])
  show ((flatEq (List.replicate 17 0) ((h :: p).map nI) ((k :: q).map nI)).map fun b => D.bool (b != neg)) = _
  rw [this]; simp only [List.cons.injEq]; rfl
theorem nbeq (b : Bool) : (!(b == false)) = b := by cases b <;> rfl
theorem litT1 (x : Tst) : litD 3 [tstD x] = some (.slc 3 [tstD x] true) := (rfl)
theorem litT2 (x y : Tst) : litD 3 [tstD x, tstD y] = some (.slc 3 [tstD x, tstD y] true) := (rfl)
theorem litC1 (x : Cls) : litD 9 [clsD x] = some (.slc 9 [clsD x] true) := (rfl)
theorem litC2 (x y : Cls) : litD 9 [clsD x, clsD y] = some (.slc 9 [clsD x, clsD y] true) := (rfl)
theorem stE_h : stO (some ⟨false, 1, envC 0 z16, false⟩) 1 0 (.int .i64 65535) = some ⟨false, 1, envC 65535 z16, false⟩ := (rfl)
theorem stE_4 (w : Int) : stO (some ⟨false, 1, envC 65535 z16, false⟩) 1 5 (.int .i64 w) = some ⟨false, 1, envC 65535 (z16.set 4 w), false⟩ := (rfl)
theorem z16_set (w : Int) : (z16.set 4 w).length = 16 := (rfl)
def gapQ (cl : List Cls) (l : List Tst) (w : Int) : Bool := decide (gapE cl l = 0) && (gapB cl l == decide (0 ≤ w)) && decide (gapH cl l = (if 0 ≤ w then 65535 else 0) ∧ gapV cl l = (if 0 ≤ w then z16.set 4 w else z16))
theorem gapV_len (cl : List Cls) (l : List Tst) : (gapV cl l).length = 16 := by
  cases h : gapB cl l with
  | true =>
    rw [(gap_yes h).2]
    refine gapF_len ?_
    cases hd : domB l with
    | true => rfl
    | false => rw [(gapE_bad (cl := cl) hd).2.1] at h; cases h
  | false => rw [(gap_no h).2]; rfl
noncomputable def sp_lgap : List D → Option D := spOf (α := Tar × Tst × Int) (fun a => [tarD a.1, tstD a.2.1, .int .i64 a.2.2]) (fun a => ∀ c ∈ a.1.cl, c.wh.length ≤ 9223372036854775807) (fun a => .bool (gapQ a.1.cl [a.2.1] a.2.2))
theorem call_lgap (t : Tar) (d : Tst) (w : Int) (h : ∀ c ∈ t.cl, c.wh.length ≤ 9223372036854775807) : sp_lgap [tarD t, tstD d, .int .i64 w] = some (.bool (gapQ t.cl [d] w)) :=
  spOf_enc (fun ⟨a0, a1, a2⟩ ⟨b0, b1, b2⟩ h => by simp only [List.cons.injEq, D.slc.injEq, D.int.injEq, D.bool.injEq, D.str.injEq, D.agg.injEq, digs_iff, dig_iff, digC_iff, bytes_iff, byte_iff, words_iff, word_iff, bsl_iff, true_and, and_true, ints_iff, nI_iff, tsts_iff, clss_iff, clsD_iff, tarD_iff, tstD_iff, ptD_iff, Int.ofNat_inj] at h; simp [h, Prod.ext_iff]) (t, d, w) h
set_option maxHeartbeats 4000000 in
set_option maxRecDepth 20000 in
theorem w_lgap (t : Tar) (d : Tst) (w : Int) (h : ∀ c ∈ t.cl, c.wh.length ≤ 9223372036854775807) : @wW GG (tb [(17, sp_pgap)] []) F_wagonpoollaw19_gap.code (argF [tarD t, tstD d, .int .i64 w]) [] ⟨retQ F_wagonpoollaw19_gap.res (.bool (gapQ t.cl [d] w))⟩ := by
  have cg : sp_pgap [tarD t, .slc 3 [tstD d] false] = _ := call_pgap t [d] ⟨by simp, h⟩
  have hl := gapV_len t.cl [d]
  unfold F_wagonpoollaw19_gap
  unfold gapQ
  generalize gapV t.cl [d] = V at *
  generalize gapH t.cl [d] = H at *
  generalize gapB t.cl [d] = B at *
  generalize gapE t.cl [d] = E at *
  by_cases hw : 0 ≤ w
  · have hdw : decide (0 ≤ w) = true := decide_eq_true hw
    simp (disch := first | omega | decide) only [push_cast, ↓wF_free, ↓reduceIte, Nat.reduceEqDiff, Nat.reduceLT, Nat.reduceLeDiff, Nat.reduceAdd, Nat.reduceSub, Nat.reduceMul, Nat.reduceBEq, Int.reduceLT, Int.reduceLE, Int.reduceToNat, Int.reduceNeg, Int.reducePow, Int.reduceAdd, Int.reduceMul, Int.reduceSub, ↓Int.reduceNatCast', litT1, cg, stE _ z16_length hl, fill_env0, stE _ z16_length z16_length, hw, idxA_ptr, stE_h, stE_4, ldE _ _ hl, ldE _ _ (z16_set w), aeq_env _ _ _ _ _ hl (z16_set w)]
    by_cases hE : E = 0
    · by_cases hB : B = true
      · simp (disch := first | omega | decide) only [push_cast, ↓wF_free, ↓reduceIte, Nat.reduceEqDiff, Nat.reduceLT, Nat.reduceLeDiff, Nat.reduceAdd, Nat.reduceSub, Nat.reduceMul, Nat.reduceBEq, Int.reduceLT, Int.reduceLE, Int.reduceToNat, Int.reduceNeg, Int.reducePow, Int.reduceAdd, Int.reduceMul, Int.reduceSub, ↓Int.reduceNatCast', hE, hB, hdw, hw, if_true, if_false, nbeq, beq_self_eq_true, Bool.true_beq, Bool.false_beq, Bool.and_true, Bool.and_false, Bool.true_and, Bool.false_and, bne, Bool.not_true, Bool.not_false, Bool.not_not, ldE _ _ hl, ldE _ _ (z16_set w), ldE _ _ z16_length, aeq_env _ _ _ _ _ hl (z16_set w), aeq_env _ _ _ _ _ hl z16_length]
      · rw [Bool.not_eq_true] at hB
        simp (disch := first | omega | decide) only [push_cast, ↓wF_free, ↓reduceIte, Nat.reduceEqDiff, Nat.reduceLT, Nat.reduceLeDiff, Nat.reduceAdd, Nat.reduceSub, Nat.reduceMul, Nat.reduceBEq, Int.reduceLT, Int.reduceLE, Int.reduceToNat, Int.reduceNeg, Int.reducePow, Int.reduceAdd, Int.reduceMul, Int.reduceSub, ↓Int.reduceNatCast', hE, hB, hdw, hw, if_true, if_false, nbeq, beq_self_eq_true, Bool.true_beq, Bool.false_beq, Bool.and_true, Bool.and_false, Bool.true_and, Bool.false_and, bne, Bool.not_true, Bool.not_false, Bool.not_not, ldE _ _ hl, ldE _ _ (z16_set w), ldE _ _ z16_length, aeq_env _ _ _ _ _ hl (z16_set w), aeq_env _ _ _ _ _ hl z16_length]
    · simp (disch := first | omega | decide) only [push_cast, ↓wF_free, ↓reduceIte, Nat.reduceEqDiff, Nat.reduceLT, Nat.reduceLeDiff, Nat.reduceAdd, Nat.reduceSub, Nat.reduceMul, Nat.reduceBEq, Int.reduceLT, Int.reduceLE, Int.reduceToNat, Int.reduceNeg, Int.reducePow, Int.reduceAdd, Int.reduceMul, Int.reduceSub, ↓Int.reduceNatCast', hE, Bool.false_and]
  · have hdw : decide (0 ≤ w) = false := decide_eq_false hw
    simp (disch := first | omega | decide) only [push_cast, ↓wF_free, ↓reduceIte, Nat.reduceEqDiff, Nat.reduceLT, Nat.reduceLeDiff, Nat.reduceAdd, Nat.reduceSub, Nat.reduceMul, Nat.reduceBEq, Int.reduceLT, Int.reduceLE, Int.reduceToNat, Int.reduceNeg, Int.reducePow, Int.reduceAdd, Int.reduceMul, Int.reduceSub, ↓Int.reduceNatCast', litT1, cg, stE _ z16_length hl, fill_env0, stE _ z16_length z16_length, hw, idxA_ptr, stE_h, stE_4, ldE _ _ hl, ldE _ _ z16_length, aeq_env _ _ _ _ _ hl z16_length]
    by_cases hE : E = 0
    · by_cases hB : B = true
      · simp (disch := first | omega | decide) only [push_cast, ↓wF_free, ↓reduceIte, Nat.reduceEqDiff, Nat.reduceLT, Nat.reduceLeDiff, Nat.reduceAdd, Nat.reduceSub, Nat.reduceMul, Nat.reduceBEq, Int.reduceLT, Int.reduceLE, Int.reduceToNat, Int.reduceNeg, Int.reducePow, Int.reduceAdd, Int.reduceMul, Int.reduceSub, ↓Int.reduceNatCast', hE, hB, hdw, hw, if_true, if_false, nbeq, beq_self_eq_true, Bool.true_beq, Bool.false_beq, Bool.and_true, Bool.and_false, Bool.true_and, Bool.false_and, bne, Bool.not_true, Bool.not_false, Bool.not_not, ldE _ _ hl, ldE _ _ (z16_set w), ldE _ _ z16_length, aeq_env _ _ _ _ _ hl (z16_set w), aeq_env _ _ _ _ _ hl z16_length]
      · rw [Bool.not_eq_true] at hB
        simp (disch := first | omega | decide) only [push_cast, ↓wF_free, ↓reduceIte, Nat.reduceEqDiff, Nat.reduceLT, Nat.reduceLeDiff, Nat.reduceAdd, Nat.reduceSub, Nat.reduceMul, Nat.reduceBEq, Int.reduceLT, Int.reduceLE, Int.reduceToNat, Int.reduceNeg, Int.reducePow, Int.reduceAdd, Int.reduceMul, Int.reduceSub, ↓Int.reduceNatCast', hE, hB, hdw, hw, if_true, if_false, nbeq, beq_self_eq_true, Bool.true_beq, Bool.false_beq, Bool.and_true, Bool.and_false, Bool.true_and, Bool.false_and, bne, Bool.not_true, Bool.not_false, Bool.not_not, ldE _ _ hl, ldE _ _ (z16_set w), ldE _ _ z16_length, aeq_env _ _ _ _ _ hl (z16_set w), aeq_env _ _ _ _ _ hl z16_length]
    · simp (disch := first | omega | decide) only [push_cast, ↓wF_free, ↓reduceIte, Nat.reduceEqDiff, Nat.reduceLT, Nat.reduceLeDiff, Nat.reduceAdd, Nat.reduceSub, Nat.reduceMul, Nat.reduceBEq, Int.reduceLT, Int.reduceLE, Int.reduceToNat, Int.reduceNeg, Int.reducePow, Int.reduceAdd, Int.reduceMul, Int.reduceSub, ↓Int.reduceNatCast', hE, Bool.false_and]
theorem c_lgap : Contract Try.prog GG 30 sp_lgap :=
  contract_of tr_wagonpoollaw19_gap (tb_ok (all_cons c_pgap all_nil) all_nil) (fun a h => w_lgap a.1 a.2.1 a.2.2 h)
def xA : Cls := clsN [97] [⟨4, 1, 3⟩]
def xB : Cls := clsN [97] [⟨4, 3, 5⟩, ⟨0, 2, 2⟩]
def xC : Cls := clsN [97] [⟨4, 4, 2⟩]
def loA : List Int := [0, 0, 0, 0, 1, 0, 0, 0, 0, 0, 0, 0, 0, 0, 0, 0]
def hiA : List Int := [9007199254740992, 9007199254740992, 9007199254740992, 9007199254740992, 3, 9007199254740992, 9007199254740992, 9007199254740992, 9007199254740992, 9007199254740992, 9007199254740992, 9007199254740992, 9007199254740992, 9007199254740992, 9007199254740992, 9007199254740992]
def vAB : List Int := [2, 0, 0, 0, 3, 0, 0, 0, 0, 0, 0, 0, 0, 0, 0, 0]
theorem len_loA : loA.length = 16 := (rfl)
theorem len_hiA : hiA.length = 16 := (rfl)
theorem len_vAB : vAB.length = 16 := (rfl)
theorem fill_loA : fillD [.int .i64 0, .int .i64 0, .int .i64 0, .int .i64 0, .int .i64 0, .int .i64 0, .int .i64 0, .int .i64 0, .int .i64 0, .int .i64 0, .int .i64 0, .int .i64 0, .int .i64 0, .int .i64 0, .int .i64 0, .int .i64 0] [(4, 1, .int .i64 1)] = some (loA.map nI) := (rfl)
theorem fill_vAB : fillD [.int .i64 0, .int .i64 0, .int .i64 0, .int .i64 0, .int .i64 0, .int .i64 0, .int .i64 0, .int .i64 0, .int .i64 0, .int .i64 0, .int .i64 0, .int .i64 0, .int .i64 0, .int .i64 0, .int .i64 0, .int .i64 0] [(0, 1, .int .i64 2), (4, 1, .int .i64 3)] = some (vAB.map nI) := (rfl)
theorem hiA_4 : ldO (some ⟨false, 1, hiA.map nI, false⟩) 1 false 4 = some (.int .i64 3) := (rfl)
theorem hiA_0 : ldO (some ⟨false, 1, hiA.map nI, false⟩) 1 false 0 = some (.int .i64 9007199254740992) := (rfl)
theorem hiA_15 : ldO (some ⟨false, 1, hiA.map nI, false⟩) 1 false 15 = some (.int .i64 9007199254740992) := (rfl)
theorem fill_tst3 (a b c : Int) : fillD [.int .i64 0, .int .i64 0, .int .i64 0] [(0, 1, .int .i64 a), (1, 1, .int .i64 b), (2, 1, .int .i64 c)] = some [.int .i64 a, .int .i64 b, .int .i64 c] := (rfl)
theorem box_A : ofB xA.wh = (⟨loA, hiA⟩, true) := by decide +kernel
theorem box_C : ofB xC.wh = (zBx, false) := by decide +kernel
theorem ov_AB : ovF [xA, xB] = some (0, 1, vAB) := by decide +kernel
theorem ov_AC : ovF [xA, xC] = none := by decide +kernel
theorem chk_A : chkO [xA] = 0 := by decide +kernel
theorem chk_AB : chkO [xA, xB] = 190 := by decide +kernel
theorem chk_AC : chkO [xA, xC] = 190 := by decide +kernel
theorem gap_1 : gapQ [xA] [⟨4, 1, 3⟩] (-1) = true := by decide +kernel
theorem gap_2 : gapQ [xA] [⟨4, 1, 4⟩] 4 = true := by decide +kernel
theorem gap_3 : gapQ [xA] [⟨4, 0, 3⟩] 0 = true := by decide +kernel
theorem gap_4 : gapQ [xA, xB] [⟨4, 2, 5⟩] 4 = true := by decide +kernel
theorem gap_5 : gapE [xA] [⟨4, 3, 2⟩] = 1 ∧ gapB [xA] [⟨4, 3, 2⟩] = false ∧ gapH [xA] [⟨4, 3, 2⟩] = 0 ∧ gapV [xA] [⟨4, 3, 2⟩] = z16 := by decide +kernel
theorem gap_6 : gapE [xA] [⟨4, 1, 1⟩, ⟨4, 2, 2⟩] = 1 ∧ gapB [xA] [⟨4, 1, 1⟩, ⟨4, 2, 2⟩] = false ∧ gapH [xA] [⟨4, 1, 1⟩, ⟨4, 2, 2⟩] = 0 ∧ gapV [xA] [⟨4, 1, 1⟩, ⟨4, 2, 2⟩] = z16 := by decide +kernel
def c17 : List D := List.replicate 17 (.agg cls0)
def tarX : List D := [.str [], .int .i64 0, .slc 9 c17 false]
theorem mk_17 : mkslcD 9 112 (.agg [.str [], .slc 0 [] true, .int .i64 0, .int .i64 0, .int .i64 0, .int .i64 0, .int .i64 0, .int .i64 0, .slc 0 [] true]) (.int .i64 17) (.int .i64 17) = some (17, ⟨true, 9, c17, false⟩) := (rfl)
theorem box_tarX : boxD (.agg tarX) = some tarX := (rfl)
theorem ldX : ldO (some ⟨false, 1, tarX, false⟩) 1 false 2 = some (.slc 9 c17 false) := (rfl)
theorem len17 : (c17.length : Int) = 17 := (rfl)
def tarY (k : Nat) : List D := [.str [], .int .i64 0, .row k 17 0 17]
theorem fill_Y (k : Nat) : fillD [.str [], .int .i64 0, .slc 0 [] true] [(2, 1, .row k 17 0 17)] = some (tarY k) := (rfl)
theorem immL_Y (a b c d e f g h i j k : Obj) : immL [a, b, c, d, e, f, g, h, i, j, k, ⟨true, 9, c17, false⟩] (tarY 11) = some tarX := (rfl)
theorem keys_Y : keys (.agg (tarY 11)) = [11] := (rfl)
theorem nr_0 (b : Bool) (n : Int) : (D.tup [envD 0 z16, .bool b, .int .i64 n]).noRef = true := (rfl)
def orP (s1 s2 : List D → Option D) : List D → Option D := fun ds => match s1 ds with
  | some r => some r
  | none => s2 ds
theorem contract_or {P : Program} {G : Glob} {f : Nat} {s1 s2 : List D → Option D} (h1 : Contract P G f s1) (h2 : Contract P G f s2) : Contract P G f (orP s1 s2) := by
  intro w g ds vs d hsp
  unfold orP at hsp
  cases hs : s1 ds with
  | some r =>
    rw [hs] at hsp
    simp only at hsp
    exact h1 w g ds vs d (hs.trans hsp)
  | none =>
    rw [hs] at hsp
    exact h2 w g ds vs d hsp
theorem orP_1 {s1 s2 : List D → Option D} {ds : List D} {d : D} (h : s1 ds = some d) : orP s1 s2 ds = some d := by unfold orP; rw [h]
theorem domB_nil : domB [] = true := by decide +kernel
noncomputable def sp_pgapX : List D → Option D := spOf (α := Unit) (fun _ => [.agg tarX, .slc 0 [] false]) (fun _ => True) (fun _ => .tup [envD 0 z16, .bool false, .int .i64 2])
theorem call_pgapX : sp_pgapX [.agg tarX, .slc 0 [] false] = some (.tup [envD 0 z16, .bool false, .int .i64 2]) := spOf_enc (fun _ _ _ => rfl) () trivial
set_option maxHeartbeats 4000000 in
set_option maxRecDepth 20000 in
theorem w_pgapX : @wW GG (tb [(35, sp_preg)] []) F_tbox_Gap.code (argF [.agg tarX, .slc 0 [] false]) [] ⟨retQ F_tbox_Gap.res (.tup [envD 0 z16, .bool false, .int .i64 2])⟩ := by
  have cd : sp_preg [.slc 0 [] false] = _ := call_preg [] (by decide)
  rw [domB_nil] at cd
  have hdo := domD_ok []
  unfold F_tbox_Gap
  simp (disch := first | omega | decide) only [push_cast, ↓wF_free, ↓reduceIte, Nat.reduceEqDiff, Nat.reduceLT, Nat.reduceLeDiff, Nat.reduceAdd, Nat.reduceSub, Nat.reduceMul, Nat.reduceBEq, Int.reduceLT, Int.reduceLE, Int.reduceToNat, Int.reduceNeg, Int.reducePow, Int.reduceAdd, Int.reduceMul, Int.reduceSub, ↓Int.reduceNatCast', box_tarX, cd, stB _ zBx_ok hdo, ldX, len17, fill_env0, stE _ z16_length z16_length, ldE _ _ z16_length]
theorem c_pgapX : Contract Try.prog GG 17 sp_pgapX :=
  contract_of tr_tbox_Gap (tb_ok (all_cons c_preg all_nil) all_nil) (fun _ _ => w_pgapX)
noncomputable def sp_pgap2 : List D → Option D := orP sp_pgap sp_pgapX
theorem c_pgap2 : Contract Try.prog GG 17 sp_pgap2 := contract_or c_pgap c_pgapX
theorem call_pgap2X : sp_pgap2 [.agg tarX, .slc 0 [] false] = some (.tup [envD 0 z16, .bool false, .int .i64 2]) := by
  unfold sp_pgap2 orP
  cases h : sp_pgap [.agg tarX, .slc 0 [] false] with
  | none => exact call_pgapX
  | some r =>
    obtain ⟨⟨a, l⟩, e, _⟩ := spOf_inv h
    exfalso
    have e1 := (List.cons.injEq _ _ _ _ ▸ e).1
    have e2 : tarC a = tarX := by
      simp only [tarD, List.cons.injEq, D.agg.injEq] at e
      exact e.1
    unfold tarC tarX at e2
    simp only [List.cons.injEq, D.slc.injEq] at e2
    have e3 := e2.2.2.1.2.1
    have e4 := congrArg List.head? e3
    cases hc : a.cl with
    | nil => rw [hc] at e3; cases e3
    | cons c r =>
      rw [hc] at e4
      simp only [List.map_cons, List.head?_cons, clsD, clsC, Option.some.injEq, c17, cls0, List.replicate_succ, D.agg.injEq, List.cons.injEq, D.slc.injEq] at e4
      simp at e4
noncomputable def sp_lsane : List D → Option D := spOf (α := Unit) (fun _ => []) (fun _ => True) (fun _ => .bool true)
theorem call_lsane : sp_lsane [] = some (.bool true) :=
  spOf_enc (fun _ _ _ => rfl) () trivial
set_option maxHeartbeats 4000000 in
set_option maxRecDepth 20000 in
theorem w_lsane : @wW GG (tb [(28, sp_mktst), (27, sp_mkcls), (16, sp_mktar), (13, sp_pBox), (21, sp_pov), (23, sp_pchk), (29, sp_renv), (30, sp_lgap), (17, sp_pgap2)] []) F_wagonpoollaw19_sane.code (argF []) [] ⟨retQ F_wagonpoollaw19_sane.res (.bool true)⟩ := by
  have mt : ∀ a b : Int, sp_mktst [.int .i64 a, .int .i64 b] = some (tstD ⟨4, a, b⟩) := fun a b => call_mktst a b
  have k1 : ∀ x : Tst, sp_mkcls [.slc 3 [tstD x] false] = some (clsD (clsN [97] [x])) := fun x => call_mkcls [x]
  have k2 : ∀ x y : Tst, sp_mkcls [.slc 3 [tstD x, tstD y] false] = some (clsD (clsN [97] [x, y])) := fun x y => call_mkcls [x, y]
  have t1 : ∀ x : Cls, sp_mktar [.slc 9 [clsD x] false] = some (tarD ⟨[], 0, [x]⟩) := fun x => call_mktar [x]
  have t2 : ∀ x y : Cls, sp_mktar [.slc 9 [clsD x, clsD y] false] = some (tarD ⟨[], 0, [x, y]⟩) := fun x y => call_mktar [x, y]
  have b1 : sp_pBox [clsD xA] = some (.tup [ptD loA, ptD hiA, .bool true]) := by
    have := call_pBox xA (by decide)
    rw [box_A] at this
    exact this
  have b2 : sp_pBox [clsD xC] = some (.tup [ptD z16, ptD z16, .bool false]) := by
    have := call_pBox xC (by decide)
    rw [box_C] at this
    exact this
  have o1 : sp_pov [tarD ⟨[], 0, [xA, xB]⟩] = some (.tup [.int .i64 0, .int .i64 1, envD 65535 vAB, .bool true]) := by
    have := call_pov ⟨[], 0, [xA, xB]⟩ (by decide)
    rw [ov_AB] at this
    exact this
  have o2 : sp_pov [tarD ⟨[], 0, [xA, xC]⟩] = some (.tup [.int .i64 0, .int .i64 0, envD 0 z16, .bool false]) := by
    have := call_pov ⟨[], 0, [xA, xC]⟩ (by decide)
    rw [ov_AC] at this
    exact this
  have c1 : sp_pchk [tarD ⟨[], 0, [xA]⟩] = some (.int .i64 0) := by
    have := call_pchk ⟨[], 0, [xA]⟩ (by decide)
    rw [chk_A] at this
    exact this
  have c2 : sp_pchk [tarD ⟨[], 0, [xA, xB]⟩] = some (.int .i64 190) := by
    have := call_pchk ⟨[], 0, [xA, xB]⟩ (by decide)
    rw [chk_AB] at this
    exact this
  have c3 : sp_pchk [tarD ⟨[], 0, [xA, xC]⟩] = some (.int .i64 190) := by
    have := call_pchk ⟨[], 0, [xA, xC]⟩ (by decide)
    rw [chk_AC] at this
    exact this
  have ev : sp_renv [ptD vAB] = some (envD 65535 vAB) := call_renv vAB len_vAB
  have g1 : sp_lgap [tarD ⟨[], 0, [xA]⟩, tstD ⟨4, 1, 3⟩, .int .i64 (-1)] = some (.bool true) := by
    have := call_lgap ⟨[], 0, [xA]⟩ ⟨4, 1, 3⟩ (-1) (by decide)
    rw [gap_1] at this
    exact this
  have g2 : sp_lgap [tarD ⟨[], 0, [xA]⟩, tstD ⟨4, 1, 4⟩, .int .i64 4] = some (.bool true) := by
    have := call_lgap ⟨[], 0, [xA]⟩ ⟨4, 1, 4⟩ 4 (by decide)
    rw [gap_2] at this
    exact this
  have g3 : sp_lgap [tarD ⟨[], 0, [xA]⟩, tstD ⟨4, 0, 3⟩, .int .i64 0] = some (.bool true) := by
    have := call_lgap ⟨[], 0, [xA]⟩ ⟨4, 0, 3⟩ 0 (by decide)
    rw [gap_3] at this
    exact this
  have g4 : sp_lgap [tarD ⟨[], 0, [xA, xB]⟩, tstD ⟨4, 2, 5⟩, .int .i64 4] = some (.bool true) := by
    have := call_lgap ⟨[], 0, [xA, xB]⟩ ⟨4, 2, 5⟩ 4 (by decide)
    rw [gap_4] at this
    exact this
  have g5 : sp_pgap [tarD ⟨[], 0, [xA]⟩, .slc 3 [tstD ⟨4, 3, 2⟩] false] = some (.tup [envD 0 z16, .bool false, .int .i64 1]) := by
    have := call_pgap ⟨[], 0, [xA]⟩ [⟨4, 3, 2⟩] (by decide)
    rw [gap_5.1, gap_5.2.1, gap_5.2.2.1, gap_5.2.2.2] at this
    exact this
  have g6 : sp_pgap [tarD ⟨[], 0, [xA]⟩, .slc 3 [tstD ⟨4, 1, 1⟩, tstD ⟨4, 2, 2⟩] false] = some (.tup [envD 0 z16, .bool false, .int .i64 1]) := by
    have := call_pgap ⟨[], 0, [xA]⟩ [⟨4, 1, 1⟩, ⟨4, 2, 2⟩] (by decide)
    rw [gap_6.1, gap_6.2.1, gap_6.2.2.1, gap_6.2.2.2] at this
    exact this
  have g7 := call_pgap2X
  replace g5 := orP_1 (s2 := sp_pgapX) g5
  replace g6 := orP_1 (s2 := sp_pgapX) g6
  change sp_pgap2 _ = _ at g5 g6
  have eA : clsN [97] [⟨4, 1, 3⟩] = xA := rfl
  have eB : clsN [97] [⟨4, 3, 5⟩, ⟨0, 2, 2⟩] = xB := rfl
  have eC : clsN [97] [⟨4, 4, 2⟩] = xC := rfl
  unfold F_wagonpoollaw19_sane
  simp (disch := first | omega | decide) only [push_cast, ↓wF_free, ↓reduceIte, Nat.reduceEqDiff, Nat.reduceLT, Nat.reduceLeDiff, Nat.reduceAdd, Nat.reduceSub, Nat.reduceMul, Nat.reduceBEq, Int.reduceLT, Int.reduceLE, Int.reduceToNat, Int.reduceNeg, Int.reducePow, Int.reduceAdd, Int.reduceMul, Int.reduceSub, ↓Int.reduceNatCast', mk_17, fill_Y, immL_Y, keys_Y, nr_0, eA, eB, eC, mt, litT1, litT2, litC1, litC2, k1, k2, t1, t2, b1, b2, o1, o2, c1, c2, c3, ev, g1, g2, g3, g4, g5, g6, g7, fill_tst3, fill_loA, fill_vAB, hiA_4, hiA_0, hiA_15, idxA_ptr, stP _ z16_length len_loA, stP _ z16_length len_hiA, stP _ z16_length z16_length, ldP _ _ len_loA, fill_env0, stE _ z16_length z16_length, stE _ z16_length len_vAB, ldE _ _ z16_length, ldE _ _ len_vAB, aeq_pt _ _ _ len_loA len_loA, aeq_env _ _ _ _ _ z16_length z16_length, aeq_env _ _ _ _ _ len_vAB len_vAB]
theorem c_lsane : Contract Try.prog GG 10 sp_lsane :=
  contract_of tr_wagonpoollaw19_sane (tb_ok (all_cons c_mktst (all_cons c_mkcls (all_cons c_mktar (all_cons c_pBox (all_cons c_pov (all_cons c_pchk (all_cons c_renv (all_cons c_lgap (all_cons c_pgap2 all_nil))))))))) all_nil) (fun a h => w_lsane )
end Go.Proofs.Ytgppecaeegaooaa.PI
