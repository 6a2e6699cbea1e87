/-
  tbox: gaps, of the program and of the reference.
  Conditions: none; these are lemmas.
-/
import Derived.Test.YtgppecaeegaooaaTbH
namespace Go.Proofs.Ytgppecaeegaooaa.PI
open Go
set_option linter.unusedSimpArgs false
set_option linter.unusedVariables false
theorem reg_lo (l : List Tst) : ∀ (k i : Nat) (b c : Bx), k + i = l.length → DomI l i b → regF l k i b = some c → ∀ j : Nat, j < 16 → 0 ≤ at' c.lo j
  | 0, i, b, c, hk, hI, h => by
    simp only [regF, Option.some.injEq] at h
    subst h
    exact fun j hj => (hI.rg j hj).1
  | k + 1, i, b, c, hk, hI, h => by
    simp only [regF] at h
    split at h
    · rename_i ho
      split at h
      · cases h
      · rename_i hs
        exact reg_lo l k (i + 1) _ c (by omega) (domI_next hI ho (by simpa using hs)) h
    · cases h
theorem domB_some {l : List Tst} (h : domB l = true) : domF l = some (domD l) := by
  unfold domB at h
  unfold domD
  cases hd : domF l with
  | none => rw [hd] at h; cases h
  | some d => rfl
theorem dom_lo {l : List Tst} (h : domB l = true) : ∀ j : Nat, j < 16 → 0 ≤ at' (domD l).lo j := reg_lo l l.length 0 allB _ rfl (domI_start l) (domB_some h)
theorem dom_dom {l : List Tst} (h : domB l = true) : Dom (domD l) := dom_ok (domB_some h)
def bsF (cl : List Cls) : List Bx := cl.filterMap fun c => if (ofB c.wh).2 then some (ofB c.wh).1 else none
theorem bsF_take (cl : List Cls) (i : Nat) (h : i < cl.length) : bsF (cl.take (i + 1)) = if (ofB (cl.getD i default).wh).2 then bsF (cl.take i) ++ [(ofB (cl.getD i default).wh).1] else bsF (cl.take i) := by
  unfold bsF
  rw [take_getD cl i h, List.filterMap_append]
  generalize cl.getD i default = c
  by_cases k : (ofB c.wh).2 = true
  · simp [k]
  · simp [k]
theorem bsF_len (cl : List Cls) : (bsF cl).length ≤ cl.length := List.length_filterMap_le _ _
theorem bsF_mem {cl : List Cls} {b : Bx} (h : b ∈ bsF cl) : ∃ c ∈ cl, (ofB c.wh).2 = true ∧ b = (ofB c.wh).1 := by
  simp only [bsF, List.mem_filterMap] at h
  obtain ⟨c, hc, e⟩ := h
  split at e
  · rename_i k
    simp only [Option.some.injEq] at e
    exact ⟨c, hc, k, e.symm⟩
  · cases e
theorem of_run {l : List Tst} (h : (ofB l).2 = true) : runT allB l = some (ofB l).1 ∧ someB (ofB l).1 = true := by
  cases hr : runT allB l with
  | none => rw [ofB_none hr] at h; cases h
  | some b =>
    have e := ofB_some hr
    by_cases k : someB b = true
    · rw [if_pos k] at e
      rw [e]
      exact ⟨rfl, k⟩
    · rw [if_neg k] at e
      rw [e] at h
      cases h
theorem mk_map3 : mkmapD 3 = some ⟨false, 3, [], false⟩ := (rfl)
theorem bsF_ok (cl : List Cls) : okL (bsF cl) := fun b hb => by
  obtain ⟨c, _, _, rfl⟩ := bsF_mem hb
  exact ofB_ok _
theorem bsF_hi (cl : List Cls) : hiL (bsF cl) := fun b hb i hi => by
  obtain ⟨c, _, k, rfl⟩ := bsF_mem hb
  exact (inAll_run _ allB_ok inAll_all (of_run k).1 i hi).2
def gapF (cl : List Cls) (l : List Tst) : List Int × Bool := srch (domD l) 16 (bsF cl) z16
def gapE (cl : List Cls) (l : List Tst) : Int := if domB l then (if 16 < cl.length then 2 else 0) else 1
def gapB (cl : List Cls) (l : List Tst) : Bool := decide (gapE cl l = 0) && (gapF cl l).2
def gapH (cl : List Cls) (l : List Tst) : Int := if gapB cl l then 65535 else 0
def gapV (cl : List Cls) (l : List Tst) : List Int := if gapB cl l then (gapF cl l).1 else z16
theorem from_srch {d : Bx} (hd : Dom d) {bs : List Bx} {p : List Int} (hp : p.length = 16) : (fromF d bs 16 (2 ^ bs.length - 1) (p, [])).2 = (srch d 16 bs z16).2 ∧ ((srch d 16 bs z16).2 = true → (fromF d bs 16 (2 ^ bs.length - 1) (p, [])).1.1 = (srch d 16 bs z16).1) := by
  have hpos := Nat.one_le_two_pow (n := bs.length)
  obtain ⟨_, _, _, f4⟩ := fromF_spec hd bs 16 (Nat.le_refl _) (2 ^ bs.length - 1) (p, []) (by omega) hp (fun q hq => by cases hq)
  obtain ⟨_, s2⟩ := srch_spec hd 16 (Nat.le_refl _) bs z16 z16_length
  rw [sel_all, Nat.sub_self] at f4
  rw [Nat.sub_self] at s2
  have g : ∀ v w x, Good d bs 0 v w → Good d bs 0 x w := fun v w x h => h.mono fun i hi => absurd hi (Nat.not_lt_zero _)
  cases hf : (fromF d bs 16 (2 ^ bs.length - 1) (p, [])).2 with
  | true =>
    rw [hf, if_pos rfl] at f4
    cases hs : (srch d 16 bs z16).2 with
    | true =>
      rw [hs, if_pos rfl] at s2
      exact ⟨rfl, fun _ => (f4.mono fun i hi => absurd hi (Nat.not_lt_zero _)).unique s2⟩
    | false =>
      rw [hs, if_neg (by simp)] at s2
      exact (s2 _ (g _ _ _ f4.1)).elim
  | false =>
    rw [hf, if_neg (by simp)] at f4
    cases hs : (srch d 16 bs z16).2 with
    | true =>
      rw [hs, if_pos rfl] at s2
      exact (f4 _ (g _ _ _ s2.1)).elim
    | false => exact ⟨rfl, fun h => by cases h⟩
noncomputable def si_from0 : List D → St → Option (D × St) := siOf (α := Tar × Bx × List Int)
  (fun ⟨t, d, p⟩ => ([.int .i64 0, .int .i64 0, .ptr 6 0, .ptr 4 0, .ptr 8 0, .ptr 5 0, .ptr 9 0], [⟨false, 1, tarC t, false⟩, ⟨false, 1, envC 0 z16, false⟩, ⟨false, 1, bxC d, false⟩, ⟨false, 1, (p).map nI, false⟩, ⟨false, 1, bxC d, false⟩, ⟨false, 1, [.slc 0 [] true], false⟩, ⟨false, 1, [.ptr 3 0], false⟩, ⟨false, 3, memD [], false⟩, ⟨false, 1, [.mapv 7], false⟩, ⟨false, 1, [.clo 56 [.ptr 6 0, .ptr 4 0, .ptr 8 0, .ptr 5 0, .ptr 9 0]], false⟩])) (fun ⟨t, d, p⟩ => d.ok ∧ p.length = 16) (fun ⟨t, d, p⟩ => (.bool true, [⟨false, 1, tarC t, false⟩, ⟨false, 1, envC 0 z16, false⟩, ⟨false, 1, bxC d, false⟩, ⟨false, 1, (d.lo).map nI, false⟩, ⟨false, 1, bxC d, false⟩, ⟨false, 1, [.slc 0 [] true], false⟩, ⟨false, 1, [.ptr 3 0], false⟩, ⟨false, 3, memD [], false⟩, ⟨false, 1, [.mapv 7], false⟩, ⟨false, 1, [.clo 56 [.ptr 6 0, .ptr 4 0, .ptr 8 0, .ptr 5 0, .ptr 9 0]], false⟩]))
theorem call_from0 (t : Tar) (d : Bx) (p : List Int) (h : d.ok) (hp : p.length = 16) : si_from0 [.int .i64 0, .int .i64 0, .ptr 6 0, .ptr 4 0, .ptr 8 0, .ptr 5 0, .ptr 9 0] [⟨false, 1, tarC t, false⟩, ⟨false, 1, envC 0 z16, false⟩, ⟨false, 1, bxC d, false⟩, ⟨false, 1, (p).map nI, false⟩, ⟨false, 1, bxC d, false⟩, ⟨false, 1, [.slc 0 [] true], false⟩, ⟨false, 1, [.ptr 3 0], false⟩, ⟨false, 3, memD [], false⟩, ⟨false, 1, [.mapv 7], false⟩, ⟨false, 1, [.clo 56 [.ptr 6 0, .ptr 4 0, .ptr 8 0, .ptr 5 0, .ptr 9 0]], false⟩] = some (.bool true, [⟨false, 1, tarC t, false⟩, ⟨false, 1, envC 0 z16, false⟩, ⟨false, 1, bxC d, false⟩, ⟨false, 1, (d.lo).map nI, false⟩, ⟨false, 1, bxC d, false⟩, ⟨false, 1, [.slc 0 [] true], false⟩, ⟨false, 1, [.ptr 3 0], false⟩, ⟨false, 3, memD [], false⟩, ⟨false, 1, [.mapv 7], false⟩, ⟨false, 1, [.clo 56 [.ptr 6 0, .ptr 4 0, .ptr 8 0, .ptr 5 0, .ptr 9 0]], false⟩]) := by
  refine siOf_encP (α := Tar × Bx × List Int) ?_ (t, d, p) ⟨h, hp⟩ rfl
  rintro ⟨t1, d1, p1⟩ ⟨t2, d2, p2⟩ ⟨k1, _⟩ ⟨k2, _⟩ e
  dsimp only at e
  simp only [Prod.mk.injEq, List.cons.injEq, Obj.mk.injEq, ints_iff, and_true, true_and] at e
  obtain ⟨e3, e4, e5, _⟩ := e
  obtain rfl := tarC_inj e3
  obtain rfl := bxC_inj k1 k2 e4
  subst e5
  rfl
set_option maxHeartbeats 4000000 in
set_option maxRecDepth 20000 in
theorem ci_from0 : IContract Try.prog GG 56 si_from0 := by
  refine icontract_of (T := tb [] []) tr_tbox_uncovered_1 (tb_ok all_nil all_nil) ?_
  rintro ⟨t, d, p⟩ ⟨hd, hp⟩
  dsimp only at hd hp ⊢
  have c1 := cp_pt hp hd 0 (by decide)
  rw [List.take_zero, List.nil_append, List.drop_zero] at c1
  have c2 := fun st => pcpy_bsl st 3 0 16 4 0 1 false false (by omega) (by omega)
  have e1 := sliceA_from 3 0 .i64 0 (by decide)
  have e2 := sliceA_from 4 0 .i64 0 (by decide)
  rw [Int.ofNat_zero] at e1 e2
  unfold F_tbox_uncovered_1
  simp (disch := first | omega | decide) only [push_cast, ↓wF_free, ↓reduceIte, Nat.reduceEqDiff, Nat.reduceLT, Nat.reduceLeDiff, Nat.reduceAdd, Nat.reduceSub, Nat.reduceMul, Nat.reduceBEq, Int.reduceLT, Int.reduceLE, Int.reduceToNat, Int.reduceNeg, Int.reducePow, Int.reduceAdd, Int.reduceMul, Int.reduceSub, ↓Int.reduceNatCast', e1, e2, c2, c1]
def orI (s1 s2 : List D → St → Option (D × St)) : List D → St → Option (D × St) := fun ds st => match s1 ds st with
  | some r => some r
  | none => s2 ds st
theorem icontract_or {P : Program} {G : Glob} {f : Nat} {s1 s2 : List D → St → Option (D × St)} (h1 : IContract P G f s1) (h2 : IContract P G f s2) : IContract P G f (orI s1 s2) := by
  refine ⟨h1.1, ?_⟩
  intro base w g st st' ds vs d hsp
  unfold orI at hsp
  cases hs : s1 ds st with
  | some r =>
    rw [hs] at hsp
    simp only at hsp
    exact h1.2 base w g st st' ds vs d (hs.trans hsp)
  | none =>
    rw [hs] at hsp
    exact h2.2 base w g st st' ds vs d hsp
noncomputable def si_unc1 : List D → St → Option (D × St) := siOf (α := Tar × Bx × List Int)
  (fun ⟨t, d, p⟩ => ([bxD d, .slc 0 [] true, .ptr 3 0], [⟨false, 1, tarC t, false⟩, ⟨false, 1, envC 0 z16, false⟩, ⟨false, 1, bxC d, false⟩, ⟨false, 1, p.map nI, false⟩])) (fun ⟨t, d, p⟩ => d.ok ∧ p.length = 16)
  (fun ⟨t, d, p⟩ => (.bool true, [⟨false, 1, tarC t, false⟩, ⟨false, 1, envC 0 z16, false⟩, ⟨false, 1, bxC d, false⟩, ⟨false, 1, d.lo.map nI, false⟩]))
structure UncOk (d : Bx) (bs : List Bx) (p : List Int) : Prop where
  dom : Dom d
  lo : ∀ i, i < 16 → 0 ≤ at' d.lo i
  ok : okL bs
  hi : hiL bs
  ne : bs ≠ []
  le : bs.length ≤ 16
  pl : p.length = 16
noncomputable def si_unc2 : List D → St → Option (D × St) := siOf (α := Tar × Bx × List Bx × List Int)
  (fun ⟨t, d, bs, p⟩ => ([bxD d, .row 3 bs.length 0 bs.length, .ptr 4 0], [⟨false, 1, tarC t, false⟩, ⟨false, 1, envC 0 z16, false⟩, ⟨false, 1, bxC d, false⟩, ⟨true, 32, bs.map bxD, false⟩, ⟨false, 1, p.map nI, false⟩])) (fun ⟨t, d, bs, p⟩ => UncOk d bs p)
  (fun ⟨t, d, bs, p⟩ => (.bool (fromF d bs 16 (2 ^ bs.length - 1) (p, [])).2, [⟨false, 1, tarC t, false⟩, ⟨false, 1, envC 0 z16, false⟩, ⟨false, 1, bxC d, false⟩, ⟨true, 32, bs.map bxD, false⟩, ⟨false, 1, (fromF d bs 16 (2 ^ bs.length - 1) (p, [])).1.1.map nI, false⟩]))
noncomputable def si_unc : List D → St → Option (D × St) := orI si_unc1 si_unc2
theorem call_unc1 (t : Tar) (d : Bx) (p : List Int) (h : d.ok) (hp : p.length = 16) : si_unc [bxD d, .slc 0 [] true, .ptr 3 0] [⟨false, 1, tarC t, false⟩, ⟨false, 1, envC 0 z16, false⟩, ⟨false, 1, bxC d, false⟩, ⟨false, 1, p.map nI, false⟩] =
    some (.bool true, [⟨false, 1, tarC t, false⟩, ⟨false, 1, envC 0 z16, false⟩, ⟨false, 1, bxC d, false⟩, ⟨false, 1, d.lo.map nI, false⟩]) := by
  have : si_unc1 [bxD d, .slc 0 [] true, .ptr 3 0] [⟨false, 1, tarC t, false⟩, ⟨false, 1, envC 0 z16, false⟩, ⟨false, 1, bxC d, false⟩, ⟨false, 1, p.map nI, false⟩] = some (.bool true, [⟨false, 1, tarC t, false⟩, ⟨false, 1, envC 0 z16, false⟩, ⟨false, 1, bxC d, false⟩, ⟨false, 1, d.lo.map nI, false⟩]) := by
    refine siOf_encP (α := Tar × Bx × List Int) ?_ (t, d, p) ⟨h, hp⟩ rfl
    rintro ⟨t1, d1, p1⟩ ⟨t2, d2, p2⟩ ⟨k1, _⟩ ⟨k2, _⟩ e
    dsimp only at e
    simp only [Prod.mk.injEq, List.cons.injEq, Obj.mk.injEq, ints_iff, and_true, true_and] at e
    obtain ⟨_, e3, e4, e5⟩ := e
    obtain rfl := tarC_inj e3
    obtain rfl := bxC_inj k1 k2 e4
    subst e5
    rfl
  unfold si_unc orI
  rw [this]
theorem call_unc2 (t : Tar) (d : Bx) (bs : List Bx) (p : List Int) (h : UncOk d bs p) : si_unc [bxD d, .row 3 bs.length 0 bs.length, .ptr 4 0] [⟨false, 1, tarC t, false⟩, ⟨false, 1, envC 0 z16, false⟩, ⟨false, 1, bxC d, false⟩, ⟨true, 32, bs.map bxD, false⟩, ⟨false, 1, p.map nI, false⟩] =
    some (.bool (fromF d bs 16 (2 ^ bs.length - 1) (p, [])).2, [⟨false, 1, tarC t, false⟩, ⟨false, 1, envC 0 z16, false⟩, ⟨false, 1, bxC d, false⟩, ⟨true, 32, bs.map bxD, false⟩, ⟨false, 1, (fromF d bs 16 (2 ^ bs.length - 1) (p, [])).1.1.map nI, false⟩]) := by
  have h1 : si_unc1 [bxD d, .row 3 bs.length 0 bs.length, .ptr 4 0] [⟨false, 1, tarC t, false⟩, ⟨false, 1, envC 0 z16, false⟩, ⟨false, 1, bxC d, false⟩, ⟨true, 32, bs.map bxD, false⟩, ⟨false, 1, p.map nI, false⟩] = none := by
    cases hs : si_unc1 [bxD d, .row 3 bs.length 0 bs.length, .ptr 4 0] [⟨false, 1, tarC t, false⟩, ⟨false, 1, envC 0 z16, false⟩, ⟨false, 1, bxC d, false⟩, ⟨true, 32, bs.map bxD, false⟩, ⟨false, 1, p.map nI, false⟩] with
    | none => rfl
    | some r =>
      obtain ⟨⟨t1, d1, p1⟩, e, _⟩ := siOf_inv hs
      dsimp only at e
      simp at e
  have h2 : si_unc2 [bxD d, .row 3 bs.length 0 bs.length, .ptr 4 0] [⟨false, 1, tarC t, false⟩, ⟨false, 1, envC 0 z16, false⟩, ⟨false, 1, bxC d, false⟩, ⟨true, 32, bs.map bxD, false⟩, ⟨false, 1, p.map nI, false⟩] = some (.bool (fromF d bs 16 (2 ^ bs.length - 1) (p, [])).2, [⟨false, 1, tarC t, false⟩, ⟨false, 1, envC 0 z16, false⟩, ⟨false, 1, bxC d, false⟩, ⟨true, 32, bs.map bxD, false⟩, ⟨false, 1, (fromF d bs 16 (2 ^ bs.length - 1) (p, [])).1.1.map nI, false⟩]) := by
    refine siOf_encP (α := Tar × Bx × List Bx × List Int) ?_ (t, d, bs, p) h rfl
    rintro ⟨t1, d1, b1, p1⟩ ⟨t2, d2, b2, p2⟩ k1 k2 e
    dsimp only at e k1 k2
    simp only [Prod.mk.injEq, List.cons.injEq, Obj.mk.injEq, ints_iff, boxs_cond k1.ok k2.ok, and_true, true_and] at e
    obtain ⟨_, e3, e4, e6, e5⟩ := e
    obtain rfl := tarC_inj e3
    obtain rfl := bxC_inj k1.dom.ok k2.dom.ok e4
    subst e5
    subst e6
    rfl
  unfold si_unc orI
  rw [h1]
  exact h2
set_option maxHeartbeats 4000000 in
set_option maxRecDepth 20000 in
theorem ci_unc1 : IContract Try.prog GG 36 si_unc1 := by
  refine icontract_of (T := tb [] [(56, si_from0)]) tr_tbox_uncovered (tb_ok all_nil (all_cons ci_from0 all_nil)) ?_
  rintro ⟨t, d, p⟩ ⟨hd, hp⟩
  dsimp only at hd hp ⊢
  have c := call_from0 t d p hd hp
  have hm : (memD []) = [] := rfl
  rw [hm] at c
  have sh := shl_pow (k := 0) (by decide) .i64
  rw [Int.ofNat_zero, show ((2 ^ 0 : Nat) : Int) = 1 from rfl] at sh
  unfold F_tbox_uncovered
  simp (disch := first | omega | decide) only [push_cast, ↓wF_free, ↓reduceIte, Nat.reduceEqDiff, Nat.reduceLT, Nat.reduceLeDiff, Nat.reduceAdd, Nat.reduceSub, Nat.reduceMul, Nat.reduceBEq, Int.reduceLT, Int.reduceLE, Int.reduceToNat, Int.reduceNeg, Int.reducePow, Int.reduceAdd, Int.reduceMul, Int.reduceSub, ↓Int.reduceNatCast', mk_map3, sh, sub_i, c]
set_option maxHeartbeats 4000000 in
set_option maxRecDepth 20000 in
theorem ci_unc2 : IContract Try.prog GG 36 si_unc2 := by
  refine icontract_of (T := tb [] [(56, si_from 17)]) tr_tbox_uncovered (tb_ok all_nil (all_cons (ci_from 17) all_nil)) ?_
  rintro ⟨t, d, bs, p⟩ ⟨hd, hlo, hok, hhi, hne, hle, hp⟩
  dsimp only at hd hlo hok hhi hne hle hp ⊢
  have hpos := Nat.one_le_two_pow (n := bs.length)
  have c := call_from 17 t d bs p [] 0 (2 ^ bs.length - 1) ⟨hd, hlo, hok, hhi, hne, hle, Nat.zero_le _, by omega, hp⟩ (by omega)
  have hm : (memD []) = [] := rfl
  rw [hm, Nat.sub_zero, Int.ofNat_sub hpos, Int.ofNat_zero, show ((1 : Nat) : Int) = 1 from rfl] at c
  have hp2 : (2 : Nat) ^ bs.length ≤ 2 ^ 16 := Nat.pow_le_pow_right (by decide) hle
  have hp3 : (2 : Nat) ^ 16 = 65536 := rfl
  have sh := shl_pow (k := bs.length) (by omega) .i64
  have l1 := liR_map bxD 32 bs false bs.length rfl
  generalize hZ : (2 : Nat) ^ bs.length = Z at *
  unfold F_tbox_uncovered
  simp (disch := first | omega | decide) only [push_cast, ↓wF_free, ↓reduceIte, Nat.reduceEqDiff, Nat.reduceLT, Nat.reduceLeDiff, Nat.reduceAdd, Nat.reduceSub, Nat.reduceMul, Nat.reduceBEq, Int.reduceLT, Int.reduceLE, Int.reduceToNat, Int.reduceNeg, Int.reducePow, Int.reduceAdd, Int.reduceMul, Int.reduceSub, ↓Int.reduceNatCast', mk_map3, l1, sh, sub_i, c]
  rw [hZ]
theorem ci_unc : IContract Try.prog GG 36 si_unc := icontract_or ci_unc1 ci_unc2
theorem gapE_bad {cl : List Cls} {l : List Tst} (h : domB l = false) : gapE cl l = 1 ∧ gapB cl l = false ∧ gapH cl l = 0 ∧ gapV cl l = z16 := by
  have e : gapE cl l = 1 := by unfold gapE; rw [h]; rfl
  have b : gapB cl l = false := by unfold gapB; rw [e]; rfl
  exact ⟨e, b, by unfold gapH; rw [b]; rfl, by unfold gapV; rw [b]; rfl⟩
theorem gapE_many {cl : List Cls} {l : List Tst} (h : domB l = true) (h2 : 16 < cl.length) : gapE cl l = 2 ∧ gapB cl l = false ∧ gapH cl l = 0 ∧ gapV cl l = z16 := by
  have e : gapE cl l = 2 := by unfold gapE; rw [h, if_pos rfl, if_pos h2]
  have b : gapB cl l = false := by unfold gapB; rw [e]; rfl
  exact ⟨e, b, by unfold gapH; rw [b]; rfl, by unfold gapV; rw [b]; rfl⟩
theorem gapE_ok {cl : List Cls} {l : List Tst} (h : domB l = true) (h2 : ¬ 16 < cl.length) : gapE cl l = 0 ∧ gapB cl l = (gapF cl l).2 := by
  have e : gapE cl l = 0 := by unfold gapE; rw [h, if_pos rfl, if_neg h2]
  exact ⟨e, by unfold gapB; rw [e]; simp⟩
theorem gap_yes {cl : List Cls} {l : List Tst} (h : gapB cl l = true) : gapH cl l = 65535 ∧ gapV cl l = (gapF cl l).1 := ⟨by unfold gapH; rw [h]; rfl, by unfold gapV; rw [h]; rfl⟩
theorem gap_no {cl : List Cls} {l : List Tst} (h : gapB cl l = false) : gapH cl l = 0 ∧ gapV cl l = z16 := ⟨by unfold gapH; rw [h]; rfl, by unfold gapV; rw [h]; rfl⟩
theorem gapF_len {cl : List Cls} {l : List Tst} (h : domB l = true) : (gapF cl l).1.length = 16 := srch_len (dom_dom h) 16 (Nat.le_refl _) _ _ z16_length
end Go.Proofs.Ytgppecaeegaooaa.PI
