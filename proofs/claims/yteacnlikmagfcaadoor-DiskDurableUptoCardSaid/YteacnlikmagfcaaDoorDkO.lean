/-
  disk: sequences of operations.
  Conditions: the arguments' bulk is at most 1048576.
-/
import Derived.Test.YteacnlikmagfcaaDoorDkI
namespace Go.Proofs.YteacnlikmagfcaaDoor.PI
open Go
set_option linter.unusedSimpArgs false
set_option linter.unusedVariables false

theorem opld0 (st : St) (o : OpL) : pload st 1 false (.eptr (opD o) 0) = some (.int .i64 o.kind) := (rfl)
theorem opld1 (st : St) (o : OpL) : pload st 1 false (.eptr (opD o) 1) = some (.slc (nz 1 (o.rec'.map byteD)) (o.rec'.map byteD) false) := (rfl)
theorem opld2 (st : St) (o : OpL) : pload st 2 true (.eptr (opD o) 2) = some (.agg [.int .i64 o.tear.1, .slc (nz 1 (o.tear.2.map byteD)) (o.tear.2.map byteD) false]) := (rfl)
theorem hk_eptr (el : D) (off : Nat) : hk (.eptr el off) = [] := (rfl)
def wo : List OpL → Nat
  | [] => 0
  | o :: l => o.rec'.length + o.tear.2.length + 4 + wo l
theorem wts_ops : ∀ l : List OpL, wts (l.map opD) = wo l
  | [] => rfl
  | o :: l => by
    rw [List.map_cons, wts, wts_ops l, wo]
    have : wt (opD o) = wts [.int .i64 o.kind, bsD o.rec', .int .i64 o.tear.1, bsD o.tear.2] := rfl
    rw [this]
    simp only [wts, wt, wt_bsD]
    omega
theorem wo_append : ∀ l m : List OpL, wo (l ++ m) = wo l + wo m
  | [], m => by simp [wo]
  | r :: l, m => by rw [List.cons_append, wo, wo, wo_append l m]; omega
theorem wo_take (l : List OpL) (n : Nat) : wo (l.take n) ≤ wo l := by
  have : wo l = wo (l.take n) + wo (l.drop n) := by rw [← wo_append, List.take_append_drop]
  omega
theorem wo_succ (l : List OpL) (i : Nat) (h : i < l.length) : wo (l.take (i + 1)) = wo (l.take i) + ((l.getD i default).rec'.length + (l.getD i default).tear.2.length + 4) := by
  rw [take_getD l i h, wo_append]; simp [wo]
theorem wo_len : ∀ l : List OpL, l.length ≤ wo l
  | [] => Nat.le_refl _
  | o :: l => by have := wo_len l; rw [wo, List.length_cons]; omega
theorem getD_memO {l : List OpL} {i : Nat} (h : i < l.length) : l.getD i default ∈ l := by
  rw [List.getD_eq_getElem?_getD, List.getElem?_eq_getElem h]
  exact List.getElem_mem h
/-- what was synced stays -/
theorem dur_crash (A sure : List (List UInt8)) (hk : okL sure) (K : Nat) (torn : List UInt8) (h : sure <+: A) (h2 : (encL 0 sure).length ≤ K) : sure <+: recs ((encL 0 A).take K ++ torn) := by
  refine recs_begins _ _ hk (List.IsPrefix.trans ?_ (List.prefix_append _ _))
  rw [List.prefix_take_iff]
  exact ⟨encL_prefix h, h2⟩
theorem okL_prefix {l m : List (List UInt8)} (h : l <+: m) (hk : okL m) : okL l := fun x hx => hk x (h.subset hx)
theorem encL_ge : ∀ l : List (List UInt8), l.length ≤ (encL 0 l).length := by
  have h2 : ∀ (l : List (List UInt8)) (p : Nat), l.length ≤ (encL p l).length := by
    intro l
    induction l with
    | nil => intro p; simp
    | cons r l ih =>
      intro p
      have := ih (p + 12 + r.length)
      rw [encL, List.length_append, unitL_length, List.length_cons]
      omega
  exact fun l => h2 l 0

structure DurS where
  i : Nat
  A : List (List UInt8)
  s : Nat
  sure : List (List UInt8)
  t : Bool
  z4 : Nat
  t4 : Bool

set_option maxHeartbeats 4000000 in
set_option maxRecDepth 20000 in
theorem lw_DiskDurable (l : List OpL) (hl1 : ∀ o ∈ l, opR o) (hw : wts [.slc (nz 4 (l.map opD)) (l.map opD) false] ≤ 1048576) : @wW GG (tb [(10, sp_sane), (11, sp_append), (12, sp_sync), (13, sp_crash), (14, sp_read), (19, sp_open), (18, sp_same), (15, sp_begins)] []) F_wagonpoollaw13_DiskDurable.code (argF [.slc (nz 4 (l.map opD)) (l.map opD) false]) [] ⟨retQ F_wagonpoollaw13_DiskDurable.res (.bool true)⟩ := by
  have hw2 : wts [.slc (nz 4 (l.map opD)) (l.map opD) false] = wo l + 1 + 0 := by
    simp only [wts, wts_ops, wt]
  rw [hw2] at hw
  have hlen := wo_len l
  have n10 : ¬ (1 : Int) = 0 := by decide
  have n20 : ¬ (2 : Int) = 0 := by decide
  have n21 : ¬ (2 : Int) = 1 := by decide
  unfold F_wagonpoollaw13_DiskDurable
  simp (disch := first | omega | decide) only [push_cast, ↓wF_free, ↓reduceIte, Nat.reduceEqDiff, Nat.reduceLT, Nat.reduceLeDiff, Nat.reduceAdd, Nat.reduceSub, Nat.reduceMul, Nat.reduceBEq, Int.reduceLT, Int.reduceLE, Int.reduceToNat, Int.reduceNeg, Int.reducePow, Int.reduceAdd, Int.reduceMul, Int.reduceSub, ↓Int.reduceNatCast', call_sane]
  refine W_while (fun i : DurS => [(0, .slc (nz 4 (l.map opD)) (l.map opD) false), (3, .ptr 0 0), (4, .slc i.z4 (i.sure.map bsD) i.t4), (5, .int .i64 (i.i : Int))])
    (fun i => [⟨false, 1, [.slc (nz 1 ((encL 0 i.A).map byteD)) ((encL 0 i.A).map byteD) i.t, .int .i64 (i.s : Int)], false⟩]) (fun i => i.i ≤ l.length ∧ okL i.A ∧ i.sure <+: i.A ∧ (encL 0 i.sure).length ≤ i.s ∧ i.s ≤ (encL 0 i.A).length ∧ (encL 0 i.A).length ≤ 12 * wo (l.take i.i) ∧ nz i.z4 (i.sure.map bsD) = nz 1 (i.sure.map bsD)) (fun i => l.length - i.i) ⟨0, [], 0, [], true, 1, true⟩ (by simp only [push_cast, ↓wF_free, ↓reduceIte, Nat.reduceEqDiff, Nat.reduceLT, Nat.reduceLeDiff, Nat.reduceAdd, Nat.reduceSub, Nat.reduceMul, Nat.reduceBEq, Int.reduceLT, Int.reduceLE, Int.reduceToNat, Int.reduceNeg, Int.reducePow, Int.reduceAdd, Int.reduceMul, Int.reduceSub, ↓Int.reduceNatCast'] <;> rfl) ⟨Nat.zero_le _, okL_nil, List.prefix_refl _, by simp [encL], by simp [encL], by simp [encL], rfl⟩ ?_
  rintro ⟨i, A, s, sure, t, z4, t4⟩ ⟨hi, hok, hsu, hsl, hsA, hAw, hz4⟩
  dsimp only at hi hok hsu hsl hsA hAw hz4
  unfold F_wagonpoollaw13_DiskDurable_L0
  simp (disch := first | omega | decide) only [push_cast, ↓wF_free, ↓reduceIte, Nat.reduceEqDiff, Nat.reduceLT, Nat.reduceLeDiff, Nat.reduceAdd, Nat.reduceSub, Nat.reduceMul, Nat.reduceBEq, Int.reduceLT, Int.reduceLE, Int.reduceToNat, Int.reduceNeg, Int.reducePow, Int.reduceAdd, Int.reduceMul, Int.reduceSub, ↓Int.reduceNatCast']
  refine ifD_split (fun h2 => ?_) (fun h2 => ?_)
  · have hm := getD_memO (show i < l.length by omega)
    have hR := hl1 _ hm
    have hwi := wo_take l (i + 1)
    have hws := wo_succ l i (by omega)
    have hAl := encL_ge A
    have hsl2 := hsu.length_le
    have cr := call_read (encL 0 A, (s : Int)) ⟨by dsimp only; omega, by dsimp only; omega, by dsimp only; omega⟩
    dsimp only at cr
    rw [recs_enc A hok, endN_enc A hok] at cr
    have cbg := call_begins A sure (by omega)
    rw [decide_eq_true hsu] at cbg
    simp only [dkD, bsD] at cr
    generalize hg : l.getD i default = o at *
    simp (disch := first | omega | decide) only [push_cast, ↓wF_free, ↓reduceIte, Nat.reduceEqDiff, Nat.reduceLT, Nat.reduceLeDiff, Nat.reduceAdd, Nat.reduceSub, Nat.reduceMul, Nat.reduceBEq, Int.reduceLT, Int.reduceLE, Int.reduceToNat, Int.reduceNeg, Int.reducePow, Int.reduceAdd, Int.reduceMul, Int.reduceSub, ↓Int.reduceNatCast', cr, idxS_nz, hg, opld0]
    by_cases k0 : o.kind = 0
    · simp (disch := first | omega | decide) only [push_cast, ↓wF_free, ↓reduceIte, Nat.reduceEqDiff, Nat.reduceLT, Nat.reduceLeDiff, Nat.reduceAdd, Nat.reduceSub, Nat.reduceMul, Nat.reduceBEq, Int.reduceLT, Int.reduceLE, Int.reduceToNat, Int.reduceNeg, Int.reducePow, Int.reduceAdd, Int.reduceMul, Int.reduceSub, ↓Int.reduceNatCast', k0, idxS_nz, hg, opld1]
      have ca := call_append (encL 0 A, (s : Int)) o.rec' ⟨⟨by dsimp only; omega, by dsimp only; omega, by dsimp only; omega⟩, by omega⟩
      by_cases hr : o.rec'.length ≤ 16000
      · rw [appL_enc A _ _ (by omega) (by omega) hr] at ca
        simp only [dkD, bsD] at ca
        have hok2 := okL_snoc hok hr
        have hl2 := encL_snoc_length A o.rec'
        have hsu2 : sure <+: A ++ [o.rec'] := hsu.trans (List.prefix_append _ _)
        have cr2 := call_read (encL 0 (A ++ [o.rec']), (s : Int)) ⟨by dsimp only; omega, by dsimp only; omega, by dsimp only; omega⟩
        dsimp only at cr2
        rw [recs_enc _ hok2, endN_enc _ hok2] at cr2
        simp only [dkD, bsD] at cr2
        have cb2 := call_begins (A ++ [o.rec']) sure (by omega)
        rw [decide_eq_true hsu2] at cb2
        have csm := call_same (A ++ [o.rec']) (A ++ [o.rec']) (by simp; omega)
        rw [decide_eq_true rfl] at csm
        by_cases hn : A = []
        · subst hn
          simp only [List.nil_append, List.map_nil, nz_nil] at *
          have re1 : reR (some ⟨true, 1, [bsD o.rec'], false⟩) 1 0 1 = some (1, [bsD o.rec']) := rfl
          simp only [List.map_cons, List.map_nil, nz_cons] at csm cr2 cb2
          have pk := fun st => papp_keep st 1 24 1 0 [] false (by decide)
          simp (disch := first | omega | decide) only [push_cast, ↓wF_free, ↓reduceIte, Nat.reduceEqDiff, Nat.reduceLT, Nat.reduceLeDiff, Nat.reduceAdd, Nat.reduceSub, Nat.reduceMul, Nat.reduceBEq, Int.reduceLT, Int.reduceLE, Int.reduceToNat, Int.reduceNeg, Int.reducePow, Int.reduceAdd, Int.reduceMul, Int.reduceSub, ↓Int.reduceNatCast', ca, litD_nil1, List.map_nil, nz_nil, pk, idxS_nz, hg, opld1, litD_slc1, papp_fbs, re1, hk_eptr, cr2, csm, cb2, add_i, hz4]
          refine next_head (⟨i + 1, [o.rec'], s, sure, false, z4, t4⟩ : DurS) (by exact ⟨by dsimp only; omega, hok2, hsu2, hsl, by dsimp only; omega, by dsimp only; omega, hz4⟩) (by dsimp only; omega) ?_
          simp only [push_cast, ↓wF_free, ↓reduceIte, Nat.reduceEqDiff, Nat.reduceLT, Nat.reduceLeDiff, Nat.reduceAdd, Nat.reduceSub, Nat.reduceMul, Nat.reduceBEq, Int.reduceLT, Int.reduceLE, Int.reduceToNat, Int.reduceNeg, Int.reducePow, Int.reduceAdd, Int.reduceMul, Int.reduceSub, ↓Int.reduceNatCast'] <;> rfl
        · have hn2 : A.map bsD ≠ [] := by simpa using hn
          have pf : ∀ (st : St), papp st 1 24 (.slc 1 [] true) (.slc (nz 1 (A.map bsD)) (A.map bsD) false) = some (.row st.length A.length 0 A.length, st ++ [⟨true, 1, A.map bsD, false⟩]) := fun st => by
            rw [papp_first bsD st 1 1 24 A false (by decide) (by omega) (by omega), bufD_ne _ _ _ hn2, bufS_ne _ _ hn2, List.length_map]
          simp (disch := first | omega | decide) only [push_cast, ↓wF_free, ↓reduceIte, Nat.reduceEqDiff, Nat.reduceLT, Nat.reduceLeDiff, Nat.reduceAdd, Nat.reduceSub, Nat.reduceMul, Nat.reduceBEq, Int.reduceLT, Int.reduceLE, Int.reduceToNat, Int.reduceNeg, Int.reducePow, Int.reduceAdd, Int.reduceMul, Int.reduceSub, ↓Int.reduceNatCast', ca, litD_nil1, pf, idxS_nz, hg, opld1, litD_slc1, apR_bs, hk_eptr, cr2, csm, cb2, add_i, hz4]
          refine next_head (⟨i + 1, A ++ [o.rec'], s, sure, false, z4, t4⟩ : DurS) (by exact ⟨by dsimp only; omega, hok2, hsu2, hsl, by dsimp only; omega, by dsimp only; omega, hz4⟩) (by dsimp only; omega) ?_
          simp only [push_cast, ↓wF_free, ↓reduceIte, Nat.reduceEqDiff, Nat.reduceLT, Nat.reduceLeDiff, Nat.reduceAdd, Nat.reduceSub, Nat.reduceMul, Nat.reduceBEq, Int.reduceLT, Int.reduceLE, Int.reduceToNat, Int.reduceNeg, Int.reducePow, Int.reduceAdd, Int.reduceMul, Int.reduceSub, ↓Int.reduceNatCast'] <;> rfl
      · rw [appL_long _ _ _ (by omega) (by omega) (by omega)] at ca
        simp only [dkD, bsD] at ca
        have hnn : ¬ (o.rec'.length : Int) ≤ 16000 := by omega
        have h20 : ¬ (2 : Int) = 0 := by decide
        simp (disch := first | omega | decide) only [push_cast, ↓wF_free, ↓reduceIte, Nat.reduceEqDiff, Nat.reduceLT, Nat.reduceLeDiff, Nat.reduceAdd, Nat.reduceSub, Nat.reduceMul, Nat.reduceBEq, Int.reduceLT, Int.reduceLE, Int.reduceToNat, Int.reduceNeg, Int.reducePow, Int.reduceAdd, Int.reduceMul, Int.reduceSub, ↓Int.reduceNatCast', ca, h20, hnn, idxS_nz, hg, opld1, add_i]
        refine next_head (⟨i + 1, A, s, sure, t, z4, t4⟩ : DurS) (by exact ⟨by dsimp only; omega, hok, hsu, hsl, hsA, by dsimp only; omega, hz4⟩) (by dsimp only; omega) ?_
        simp only [push_cast, ↓wF_free, ↓reduceIte, Nat.reduceEqDiff, Nat.reduceLT, Nat.reduceLeDiff, Nat.reduceAdd, Nat.reduceSub, Nat.reduceMul, Nat.reduceBEq, Int.reduceLT, Int.reduceLE, Int.reduceToNat, Int.reduceNeg, Int.reducePow, Int.reduceAdd, Int.reduceMul, Int.reduceSub, ↓Int.reduceNatCast'] <;> rfl
    · by_cases k1 : o.kind = 1
      · have cs := call_sync (encL 0 A, (s : Int)) (by dsimp only; omega)
        have cr2 := call_read (encL 0 A, ((encL 0 A).length : Int)) ⟨by dsimp only; omega, by dsimp only; omega, by dsimp only; omega⟩
        dsimp only at cr2
        rw [recs_enc _ hok, endN_enc _ hok] at cr2
        simp only [dkD, bsD, syncL] at cs cr2
        have cb2 := call_begins A A (by omega)
        rw [decide_eq_true (List.prefix_refl A)] at cb2
        simp (disch := first | omega | decide) only [push_cast, ↓wF_free, ↓reduceIte, Nat.reduceEqDiff, Nat.reduceLT, Nat.reduceLeDiff, Nat.reduceAdd, Nat.reduceSub, Nat.reduceMul, Nat.reduceBEq, Int.reduceLT, Int.reduceLE, Int.reduceToNat, Int.reduceNeg, Int.reducePow, Int.reduceAdd, Int.reduceMul, Int.reduceSub, ↓Int.reduceNatCast', n10, n20, n21, k0, k1, cs, cr2, cb2, add_i]
        refine next_head (⟨i + 1, A, (encL 0 A).length, A, false, nz 1 (A.map bsD), false⟩ : DurS) (by exact ⟨by dsimp only; omega, hok, List.prefix_refl _, Nat.le_refl _, Nat.le_refl _, by dsimp only; omega, nz_nz _ _⟩) (by dsimp only; omega) ?_
        simp only [push_cast, ↓wF_free, ↓reduceIte, Nat.reduceEqDiff, Nat.reduceLT, Nat.reduceLeDiff, Nat.reduceAdd, Nat.reduceSub, Nat.reduceMul, Nat.reduceBEq, Int.reduceLT, Int.reduceLE, Int.reduceToNat, Int.reduceNeg, Int.reducePow, Int.reduceAdd, Int.reduceMul, Int.reduceSub, ↓Int.reduceNatCast'] <;> rfl
      · by_cases k2 : o.kind = 2
        · have cc := call_crash (encL 0 A, (s : Int)) o.tear ⟨⟨by dsimp only; omega, by dsimp only; omega, by dsimp only; omega⟩, hR.1, hR.2, by omega⟩
          have h10 : ¬ (1 : Int) = 0 := by decide
          generalize htr : o.tear = tr at *
          obtain ⟨tk, tb'⟩ := tr
          dsimp only at hws
          by_cases hbad : badT (encL 0 A, (s : Int)) (tk, tb')
          · have hc : crashL (encL 0 A, (s : Int)) (tk, tb') = (([], 0), 1) := by unfold crashL; rw [if_pos hbad]
            rw [hc] at cc
            simp only [dkD, trD, bsD] at cc
            simp (disch := first | omega | decide) only [push_cast, ↓wF_free, ↓reduceIte, Nat.reduceEqDiff, Nat.reduceLT, Nat.reduceLeDiff, Nat.reduceAdd, Nat.reduceSub, Nat.reduceMul, Nat.reduceBEq, Int.reduceLT, Int.reduceLE, Int.reduceToNat, Int.reduceNeg, Int.reducePow, Int.reduceAdd, Int.reduceMul, Int.reduceSub, ↓Int.reduceNatCast', n10, n20, n21, k0, k1, k2, idxS_nz, hg, opld2, htr, cc, h10, add_i]
            refine next_head (⟨i + 1, A, s, sure, t, z4, t4⟩ : DurS) (by exact ⟨by dsimp only; omega, hok, hsu, hsl, hsA, by dsimp only; omega, hz4⟩) (by dsimp only; omega) ?_
            simp only [push_cast, ↓wF_free, ↓reduceIte, Nat.reduceEqDiff, Nat.reduceLT, Nat.reduceLeDiff, Nat.reduceAdd, Nat.reduceSub, Nat.reduceMul, Nat.reduceBEq, Int.reduceLT, Int.reduceLE, Int.reduceToNat, Int.reduceNeg, Int.reducePow, Int.reduceAdd, Int.reduceMul, Int.reduceSub, ↓Int.reduceNatCast'] <;> rfl
          · unfold badT badD at hbad
            dsimp only at hbad
            have hc : crashL (encL 0 A, (s : Int)) (tk, tb') = (syncL ((encL 0 A).take ((s : Int) + tk).toNat ++ tb', 0), 0) := crashL_ok _ _ _ _ (by omega) (by omega) (by omega) (by omega) (by omega)
            rw [hc] at cc
            obtain ⟨K, hK⟩ : ∃ K : Nat, ((s : Int) + tk).toNat = K := ⟨_, rfl⟩
            rw [hK] at cc
            have hX1 : ((encL 0 A).take K ++ tb').length ≤ (encL 0 A).length + tb'.length := by simp only [List.length_append, List.length_take]; omega
            have hsuX := dur_crash A sure (okL_prefix hsu hok) K tb' hsu (by omega)
            generalize (encL 0 A).take K ++ tb' = X at *
            have co := call_open (X, (X.length : Int)) ⟨by dsimp only; omega, by dsimp only; omega, by dsimp only; omega⟩
            have hG := recs_ok X
            have hE := endN_eq X
            have hEl := endN_le X
            have hGl := recs_length X
            have ho : openL X = (encL 0 (recs X), ((encL 0 (recs X)).length : Int)) := by rw [openL, ← recs_take, hE]
            dsimp only at co
            rw [ho] at co
            generalize recs X = G at *
            have cr2 := call_read (encL 0 G, ((encL 0 G).length : Int)) ⟨by dsimp only; omega, by dsimp only; omega, by dsimp only; omega⟩
            dsimp only at cr2
            rw [recs_enc _ hG, endN_enc _ hG] at cr2
            have cb2 := call_begins G sure (by omega)
            rw [decide_eq_true hsuX] at cb2
            have cb3 := call_begins G G (by omega)
            rw [decide_eq_true (List.prefix_refl G)] at cb3
            simp only [dkD, trD, bsD, syncL] at cc co cr2
            simp (disch := first | omega | decide) only [push_cast, ↓wF_free, ↓reduceIte, Nat.reduceEqDiff, Nat.reduceLT, Nat.reduceLeDiff, Nat.reduceAdd, Nat.reduceSub, Nat.reduceMul, Nat.reduceBEq, Int.reduceLT, Int.reduceLE, Int.reduceToNat, Int.reduceNeg, Int.reducePow, Int.reduceAdd, Int.reduceMul, Int.reduceSub, ↓Int.reduceNatCast', n10, n20, n21, k0, k1, k2, idxS_nz, hg, opld2, htr, cc, co, cr2, cb2, cb3, hz4, add_i]
            refine next_head (⟨i + 1, G, (encL 0 G).length, G, false, nz 1 (G.map bsD), false⟩ : DurS) (by exact ⟨by dsimp only; omega, hG, List.prefix_refl _, Nat.le_refl _, Nat.le_refl _, by dsimp only; omega, nz_nz _ _⟩) (by dsimp only; omega) ?_
            simp only [push_cast, ↓wF_free, ↓reduceIte, Nat.reduceEqDiff, Nat.reduceLT, Nat.reduceLeDiff, Nat.reduceAdd, Nat.reduceSub, Nat.reduceMul, Nat.reduceBEq, Int.reduceLT, Int.reduceLE, Int.reduceToNat, Int.reduceNeg, Int.reducePow, Int.reduceAdd, Int.reduceMul, Int.reduceSub, ↓Int.reduceNatCast'] <;> rfl
        · simp (disch := first | omega | decide) only [push_cast, ↓wF_free, ↓reduceIte, Nat.reduceEqDiff, Nat.reduceLT, Nat.reduceLeDiff, Nat.reduceAdd, Nat.reduceSub, Nat.reduceMul, Nat.reduceBEq, Int.reduceLT, Int.reduceLE, Int.reduceToNat, Int.reduceNeg, Int.reducePow, Int.reduceAdd, Int.reduceMul, Int.reduceSub, ↓Int.reduceNatCast', n10, n20, n21, k0, k1, k2, cr, cbg, hz4, add_i]
          refine next_head (⟨i + 1, A, s, sure, t, z4, t4⟩ : DurS) (by exact ⟨by dsimp only; omega, hok, hsu, hsl, hsA, by dsimp only; omega, hz4⟩) (by dsimp only; omega) ?_
          simp only [push_cast, ↓wF_free, ↓reduceIte, Nat.reduceEqDiff, Nat.reduceLT, Nat.reduceLeDiff, Nat.reduceAdd, Nat.reduceSub, Nat.reduceMul, Nat.reduceBEq, Int.reduceLT, Int.reduceLE, Int.reduceToNat, Int.reduceNeg, Int.reducePow, Int.reduceAdd, Int.reduceMul, Int.reduceSub, ↓Int.reduceNatCast'] <;> rfl
  · simp (disch := first | omega | decide) only [push_cast, ↓wF_free, ↓reduceIte, Nat.reduceEqDiff, Nat.reduceLT, Nat.reduceLeDiff, Nat.reduceAdd, Nat.reduceSub, Nat.reduceMul, Nat.reduceBEq, Int.reduceLT, Int.reduceLE, Int.reduceToNat, Int.reduceNeg, Int.reducePow, Int.reduceAdd, Int.reduceMul, Int.reduceSub, ↓Int.reduceNatCast']
theorem law_DiskDurable : Contract Tryd.prog GG 5 (lawSpU [.slc (.agg [.int .i64, .slc (.int .u8), .agg [.int .i64, .slc (.int .u8)]])] 1048576) := by
  refine lawCU tr_wagonpoollaw13_DiskDurable (T := tb [(10, sp_sane), (11, sp_append), (12, sp_sync), (13, sp_crash), (14, sp_read), (19, sp_open), (18, sp_same), (15, sp_begins)] []) (tb_ok (all_cons c_sane (all_cons c_append (all_cons c_sync (all_cons c_crash (all_cons c_read (all_cons c_open (all_cons c_same (all_cons c_begins all_nil)))))))) all_nil) ?_
  intro xs h hw
  obtain ⟨x0, xs, rfl, h0, h⟩ := hasAll_cons h
  obtain rfl := hasAll_nil h
  obtain ⟨y0, rfl, ya0⟩ := has_ops h0
  exact lw_DiskDurable y0 ya0 hw
end Go.Proofs.YteacnlikmagfcaaDoor.PI
