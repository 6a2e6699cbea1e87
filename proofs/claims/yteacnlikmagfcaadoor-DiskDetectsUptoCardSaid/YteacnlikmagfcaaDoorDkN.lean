/-
  disk: changed bytes.
  Conditions: the arguments' bulk is at most 1048576.
-/
import Derived.Test.YteacnlikmagfcaaDoorDkI
import Derived.Test.YteacnlikmagfcaaDoorFns2
namespace Go.Proofs.YteacnlikmagfcaaDoor.PI
open Go
set_option linter.unusedSimpArgs false
set_option linter.unusedVariables false

/-! ### Lists of numbers -/
def eN (n : Nat) : D := .int .i64 (n : Int)
theorem litD_intN (k : IntKind) (n : Int) : litD 1 [.int k n] = some (.slc 1 [.int k n] true) := (rfl)
theorem papp_fN (st : St) (sz0 : Nat) (n : Nat) (t : Bool) : papp st 1 8 (.slc sz0 [] true) (.slc 1 [.int .i64 (n : Int)] t) = some (.row st.length 1 0 1, st ++ [⟨true, 1, [.int .i64 (n : Int)], false⟩]) :=
  papp_first1 eN st 1 sz0 8 n t (by decide) (by decide)
theorem apR_N (st : St) (A : List Nat) (n : Nat) (lent t : Bool) (hl : A.length + 1 ≤ 4294967296) : apR (some ⟨true, 1, A.map eN, lent⟩) 1 8 A.length (elsOf st (.slc 1 [.int .i64 (n : Int)] t)) = some ⟨true, 1, (A ++ [n]).map eN, lent⟩ :=
  apR_one eN 1 8 A n lent t st (by decide) (by omega) hl
theorem ldR_N (A : List Nat) (lent : Bool) (i : Nat) (h : i < A.length) : ldR (some ⟨true, 1, A.map eN, lent⟩) 1 false A.length i 0 = some (.int .i64 (A.getD i default : Int)) := ldR_cell eN (fun _ => rfl) 1 A lent i h
def startsL (l : List (List UInt8)) (i : Nat) : List Nat := (List.range i).map fun j => (encL 0 (l.take j)).length
theorem startsL_length (l : List (List UInt8)) (i : Nat) : (startsL l i).length = i := by simp [startsL]
theorem startsL_succ (l : List (List UInt8)) (i : Nat) : startsL l (i + 1) = startsL l i ++ [(encL 0 (l.take i)).length] := by
  unfold startsL; rw [List.range_succ, List.map_append]; rfl
theorem startsL_get (l : List (List UInt8)) (i j : Nat) (h : j < i) : (startsL l i).getD j default = (encL 0 (l.take j)).length := by
  simp [startsL, List.getD_eq_getElem?_getD, h]
theorem startsL_ne (l : List (List UInt8)) (i : Nat) (h : 0 < i) : (startsL l i).map eN ≠ [] := by
  intro e
  have := congrArg List.length e
  rw [List.length_map, startsL_length] at this
  simp at this
  omega

/-! ### The plain law -/
theorem enc_at (l : List (List UInt8)) (n : Nat) (r : List UInt8) (rest : List (List UInt8)) (h : l.drop n = r :: rest) : (encL 0 l).drop (encL 0 (l.take n)).length = unitL ((encL 0 (l.take n)).length : Int) r ++ encL ((encL 0 (l.take n)).length + 12 + r.length) rest := by
  have h1 : encL 0 l = encL 0 (l.take n) ++ encL (0 + (encL 0 (l.take n)).length) (l.drop n) := by rw [← encL_append, List.take_append_drop]
  rw [h1, List.drop_left' rfl, h, encL, Nat.zero_add]
theorem set_take (b : List UInt8) (p : Nat) (x : UInt8) (k : Nat) (h : k ≤ p) : (b.set p x).take k = b.take k := by
  rw [List.take_set, List.set_eq_of_length_le]
  simp; omega
theorem detect_begins (l : List (List UInt8)) (hk : okL l) (n p : Nat) (x : UInt8) (h : (encL 0 (l.take n)).length ≤ p) : l.take n <+: recs ((encL 0 l).set p x) := by
  refine recs_begins _ _ (okL_take hk n) ?_
  have h1 := encL_prefix (List.take_prefix n l)
  rw [List.prefix_iff_eq_take] at h1 ⊢
  rw [set_take _ _ _ _ h]
  exact h1
theorem detect_same (l : List (List UInt8)) (hk : okL l) (n p : Nat) (x : UInt8) (hn : n < l.length) (h : (encL 0 (l.take n)).length + 12 ≤ p) (hg : (recs ((encL 0 l).set p x)).length ≠ n) :
    sumL ((encL 0 (l.take n)).length : Int) (l.getD n default) = sumL ((encL 0 (l.take n)).length : Int) ((((encL 0 l).set p x).drop ((encL 0 (l.take n)).length + 12)).take (l.getD n default).length) := by
  have hpre := detect_begins l hk n p x (by omega)
  have hokG := recs_ok ((encL 0 l).set p x)
  have hpG := recs_prefix ((encL 0 l).set p x)
  have hdl := drop_getD l n hn
  have hat := enc_at l n _ _ hdl
  have hr : (l.getD n default).length ≤ 16000 := hk _ (getD_mem' hn)
  generalize l.getD n default = r at *
  obtain ⟨rest, hrest⟩ := hpre
  cases rest with
  | nil =>
    exfalso
    apply hg
    rw [← hrest]; simp; omega
  | cons g rest =>
    have hgok : g.length ≤ 16000 := hokG g (by rw [← hrest]; simp)
    rw [← hrest, encL_append, encL, Nat.zero_add] at hpG
    obtain ⟨s, hs⟩ := hpG
    rw [List.append_assoc, List.append_assoc] at hs
    have hC : ((encL 0 l).set p x).drop (encL 0 (l.take n)).length = unitL ((encL 0 (l.take n)).length : Int) g ++ (encL ((encL 0 (l.take n)).length + 12 + g.length) rest ++ s) := by
      rw [← hs]; exact List.drop_left' rfl
    generalize (encL 0 (l.take n)).length = a at *
    have h12 : (((encL 0 l).set p x).drop a).take 12 = ((encL 0 l).drop a).take 12 := by
      rw [← take_drop4, ← take_drop4, set_take _ _ _ _ (by omega)]
    rw [hC, hat] at h12
    have u12 : ∀ (q s : List UInt8), (unitL (a : Int) q ++ s).take 12 = be (q.length : Int) 4 ++ sumL (a : Int) q := by
      intro q s
      rw [unitL, List.append_assoc, List.append_assoc, ← List.append_assoc (be _ _)]
      exact List.take_left' (by simp [be_length, sumL_length])
    rw [u12, u12] at h12
    obtain ⟨e1, e2⟩ := List.append_inj h12 (by rw [be_length, be_length])
    have e3 := val_be g.length (by omega)
    rw [e1, val_be r.length (by omega)] at e3
    rw [← e2, ← List.drop_drop, hC, unit_drop12, e3, List.take_left' rfl]

/-- Joined of bytes and nothing, over any store -/
noncomputable def si_rjoin : List D → St → Option (D × St) := siOf (α := List UInt8 × Bool × St) (fun a => ([.slc (nz 1 (a.1.map byteD)) (a.1.map byteD) a.2.1, .slc 0 [] true], a.2.2)) (fun a => a.1 ≠ [] ∧ a.1.length ≤ 4294900000)
  (fun a => (.row a.2.2.length a.1.length 0 a.1.length, a.2.2 ++ [⟨true, 1, a.1.map byteD, false⟩]))
theorem call_irjoin (a : List UInt8) (t : Bool) (st : St) (h : a ≠ [] ∧ a.length ≤ 4294900000) : si_rjoin [.slc (nz 1 (a.map byteD)) (a.map byteD) t, .slc 0 [] true] st = some (.row st.length a.length 0 a.length, st ++ [⟨true, 1, a.map byteD, false⟩]) :=
  siOf_enc (fun a b e => by
    simp only [Prod.mk.injEq, List.cons.injEq, D.slc.injEq, bytes_iff, and_true] at e
    rw [e.1.2.1, e.2]) ((a, t, st) : List UInt8 × Bool × St) h rfl

theorem ci_rjoin : IContract Tryd.prog GG 16 si_rjoin := by
  refine icontract_keep (T := tb [] []) tr2_wagonpoolref13_Joined (tb_ok all_nil all_nil) ?_
  rintro ⟨a, t, st⟩ ⟨h0, h1⟩
  dsimp only at h0 h1
  have hne : a.map byteD ≠ [] := by simpa using h0
  have e1 := papp_first byteD st 1 1 1 a t (by decide) (by omega) (by omega)
  have e2 := apR_map byteD 1 1 a [] false (by decide) (by simp; omega) (by simp; omega) 0 (.inr rfl)
  rw [List.append_nil, List.map_nil] at e2
  have e3 : ∀ o : Obj, (st ++ [o])[st.length]? = some o := fun o => by simp
  have e4 : ∀ o o' : Obj, (st ++ [o]).set st.length o' = st ++ [o'] := fun o o' => by simp
  unfold F2_wagonpoolref13_Joined
  simp (disch := first | omega | decide) only [push_cast, ↓wF_free, ↓reduceIte, Nat.reduceEqDiff, Nat.reduceLT, Nat.reduceLeDiff, Nat.reduceAdd, Nat.reduceSub, Nat.reduceMul, Nat.reduceBEq, Int.reduceLT, Int.reduceLE, Int.reduceToNat, Int.reduceNeg, Int.reducePow, Int.reduceAdd, Int.reduceMul, Int.reduceSub, ↓Int.reduceNatCast', e1, elsOf_slc, e2, e3, e4, bufD_ne _ _ _ hne, bufS_ne _ _ hne]

theorem imm_ri (st : St) (key tot off len : Nat) (k : IntKind) (n : Int) : imm st (.agg [.row key tot off len, .int k n]) = (rowEls st key tot off len).map fun p => .agg [.slc (nz p.1 p.2) p.2 false, .int k n] := by
  simp only [imm, immL, imm1]
  cases rowEls st key tot off len <;> rfl
theorem noRef_tslc (z : Nat) (els : List D) (t : Bool) (k : IntKind) (n : Int) : (D.tup [.slc z els t, .int k n]).noRef = false := (rfl)
theorem keys_ri (key tot off len : Nat) (k : IntKind) (n : Int) : keys (.agg [.row key tot off len, .int k n]) = [key] := (rfl)
def stR (o : Option Obj) (tot i : Nat) (x : UInt8) : Option Obj := o.bind fun o => if o.row && !o.lent && o.els.length == tot then (o.els[i]?).bind fun el => (setEl el 0 [byteD x]).map fun el' => { o with els := o.els.set i el' } else none
theorem pstor_rb (st : St) (key tot i : Nat) (x : UInt8) : pstor st 1 (.rptr key tot i 0) (byteD x) = (stR st[key]? tot i x).map fun o => st.set key o := by
  simp only [pstor, stR, byteD_imm, byteD_keys, byteD_cells, List.isEmpty_nil, Bool.and_true, List.length_singleton]
  cases st[key]? with
  | none => rfl
  | some o =>
    simp only [Option.bind_some]
    split
    · cases o.els[i]? with
      | none => rfl
      | some el =>
        have hc : (byteD x).cells = [byteD x] := rfl
        rw [hc]
        simp only [Option.bind_some]
        cases setEl el 0 [byteD x] <;> rfl
    · rfl
theorem stR_row (sz : Nat) (A : List UInt8) (i : Nat) (x : UInt8) (h : i < A.length) : stR (some ⟨true, sz, A.map byteD, false⟩) A.length i x = some ⟨true, sz, (A.set i x).map byteD, false⟩ := by
  have h1 : setEl (byteD A[i]) 0 [byteD x] = some (byteD x) := rfl
  simp [stR, h, h1, List.map_set]

set_option maxHeartbeats 4000000 in
set_option maxRecDepth 20000 in
theorem lw_DiskDetects (l : List (List UInt8)) (p : Int) (hp1 : -9223372036854775808 ≤ p) (hp2 : p < 9223372036854775808) (x : UInt8) (hw : wts [.slc (nz 1 (l.map bsD)) (l.map bsD) false, .int .i64 p, byteD x] ≤ 1048576) : @wW GG (tb [(10, sp_sane), (11, sp_append), (14, sp_read), (15, sp_begins), (17, sp_first)] [(16, si_rjoin)]) F2_wagonpoollaw13_DiskDetects.code (argF [.slc (nz 1 (l.map bsD)) (l.map bsD) false, .int .i64 p, byteD x]) [] ⟨retQ F2_wagonpoollaw13_DiskDetects.res (.bool true)⟩ := by
  have hw2 : wts [.slc (nz 1 (l.map bsD)) (l.map bsD) false, .int .i64 p, byteD x] = (wl l + 1) + (1 + (1 + 0)) := by
    simp only [wts, wts_lbs, wt, byteD]
  rw [hw2] at hw
  have hlen := wl_len l
  have hB := encL_wl l 0
  have hBi : ∀ i, (encL 0 (l.take i)).length ≤ (encL 0 l).length := fun i => encL_prefix_length (List.take_prefix i l)
  unfold F2_wagonpoollaw13_DiskDetects
  simp (disch := first | omega | decide) only [push_cast, ↓wF_free, ↓reduceIte, Nat.reduceEqDiff, Nat.reduceLT, Nat.reduceLeDiff, Nat.reduceAdd, Nat.reduceSub, Nat.reduceMul, Nat.reduceBEq, Int.reduceLT, Int.reduceLE, Int.reduceToNat, Int.reduceNeg, Int.reducePow, Int.reduceAdd, Int.reduceMul, Int.reduceSub, ↓Int.reduceNatCast', call_sane]
  refine W_while (fun i : Nat × Bool => [(0, .slc (nz 1 (l.map bsD)) (l.map bsD) false), (1, .int .i64 p), (2, byteD x), (7, .ptr 0 0), (8, bufD 1 1 ((startsL l i.1).map eN)), (9, .int .i64 (i.1 : Int))])
    (fun i => ⟨false, 1, [.slc (nz 1 ((encL 0 (l.take i.1)).map byteD)) ((encL 0 (l.take i.1)).map byteD) i.2, .int .i64 0], false⟩ :: bufS 1 ((startsL l i.1).map eN)) (fun i => i.1 ≤ l.length ∧ okL (l.take i.1)) (fun i => l.length - i.1) (0, true) (by simp only [push_cast, ↓wF_free, ↓reduceIte, Nat.reduceEqDiff, Nat.reduceLT, Nat.reduceLeDiff, Nat.reduceAdd, Nat.reduceSub, Nat.reduceMul, Nat.reduceBEq, Int.reduceLT, Int.reduceLE, Int.reduceToNat, Int.reduceNeg, Int.reducePow, Int.reduceAdd, Int.reduceMul, Int.reduceSub, ↓Int.reduceNatCast'] <;> rfl) ⟨Nat.zero_le _, okL_nil⟩ ?_
  rintro ⟨i, t⟩ ⟨hi, hok⟩
  dsimp only at hi hok
  unfold F2_wagonpoollaw13_DiskDetects_L0
  simp (disch := first | omega | decide) only [push_cast, ↓wF_free, ↓reduceIte, Nat.reduceEqDiff, Nat.reduceLT, Nat.reduceLeDiff, Nat.reduceAdd, Nat.reduceSub, Nat.reduceMul, Nat.reduceBEq, Int.reduceLT, Int.reduceLE, Int.reduceToNat, Int.reduceNeg, Int.reducePow, Int.reduceAdd, Int.reduceMul, Int.reduceSub, ↓Int.reduceNatCast']
  refine ifD_split (fun h2 => ?_) (fun h2 => ?_)
  · have hm := getD_mem' (show i < l.length by omega)
    have hr := wl_mem hm
    have htk := take_getD l i (by omega)
    have hb1 := hBi i
    have hb2 := hBi (i + 1)
    have hl2 := startsL_length l i
    have hm2 : (startsL l i ++ [(encL 0 (l.take i)).length]).map eN ≠ [] := by simp
    generalize hg : l.getD i default = r at *
    have ca := call_append (encL 0 (l.take i), 0) r ⟨⟨by dsimp only; omega, by dsimp only; omega, by dsimp only; omega⟩, by omega⟩
    by_cases hr16 : r.length ≤ 16000
    · rw [appL_enc (l.take i) _ r (by omega) (by omega) hr16, ← htk] at ca
      have hok2 : okL (l.take (i + 1)) := by rw [htk]; exact okL_snoc hok hr16
      simp only [dkD, bsD] at ca
      by_cases hn : i = 0
      · have he0 : startsL l i = [] := by rw [hn]; rfl
        simp (disch := first | omega | decide) only [push_cast, ↓wF_free, ↓reduceIte, Nat.reduceEqDiff, Nat.reduceLT, Nat.reduceLeDiff, Nat.reduceAdd, Nat.reduceSub, Nat.reduceMul, Nat.reduceBEq, Int.reduceLT, Int.reduceLE, Int.reduceToNat, Int.reduceNeg, Int.reducePow, Int.reduceAdd, Int.reduceMul, Int.reduceSub, ↓Int.reduceNatCast', ca, idxS_nz, hg, bsD, he0, bufD_nil, bufS_nil, List.map_nil, litD_intN, papp_fN, add_i]
        refine next_head (i + 1, false) (by exact ⟨by omega, hok2⟩) (by omega) ?_
        dsimp only
        rw [startsL_succ, bufD_ne _ _ _ hm2, bufS_ne _ _ hm2, he0]
        simp only [push_cast, ↓wF_free, ↓reduceIte, Nat.reduceEqDiff, Nat.reduceLT, Nat.reduceLeDiff, Nat.reduceAdd, Nat.reduceSub, Nat.reduceMul, Nat.reduceBEq, Int.reduceLT, Int.reduceLE, Int.reduceToNat, Int.reduceNeg, Int.reducePow, Int.reduceAdd, Int.reduceMul, Int.reduceSub, ↓Int.reduceNatCast'] <;> rfl
      · have hn2 := startsL_ne l i (by omega)
        simp (disch := first | omega | decide) only [push_cast, ↓wF_free, ↓reduceIte, Nat.reduceEqDiff, Nat.reduceLT, Nat.reduceLeDiff, Nat.reduceAdd, Nat.reduceSub, Nat.reduceMul, Nat.reduceBEq, Int.reduceLT, Int.reduceLE, Int.reduceToNat, Int.reduceNeg, Int.reducePow, Int.reduceAdd, Int.reduceMul, Int.reduceSub, ↓Int.reduceNatCast', ca, idxS_nz, hg, bsD, bufD_ne _ _ _ hn2, bufS_ne _ _ hn2, litD_intN, apR_N, add_i]
        refine next_head (i + 1, false) (by exact ⟨by omega, hok2⟩) (by omega) ?_
        dsimp only
        rw [startsL_succ, bufD_ne _ _ _ hm2, bufS_ne _ _ hm2]
        simp only [push_cast, ↓wF_free, ↓reduceIte, Nat.reduceEqDiff, Nat.reduceLT, Nat.reduceLeDiff, Nat.reduceAdd, Nat.reduceSub, Nat.reduceMul, Nat.reduceBEq, Int.reduceLT, Int.reduceLE, Int.reduceToNat, Int.reduceNeg, Int.reducePow, Int.reduceAdd, Int.reduceMul, Int.reduceSub, ↓Int.reduceNatCast'] <;> rfl
    · rw [appL_long _ _ r (by omega) (by omega) (by omega)] at ca
      have hnn : (16000 : Int) < (r.length : Int) := by omega
      have h20 : ¬ (2 : Int) = 0 := by decide
      simp only [dkD, bsD] at ca
      by_cases hn : i = 0
      · have he0 : startsL l i = [] := by rw [hn]; rfl
        simp (disch := first | omega | decide) only [push_cast, ↓wF_free, ↓reduceIte, Nat.reduceEqDiff, Nat.reduceLT, Nat.reduceLeDiff, Nat.reduceAdd, Nat.reduceSub, Nat.reduceMul, Nat.reduceBEq, Int.reduceLT, Int.reduceLE, Int.reduceToNat, Int.reduceNeg, Int.reducePow, Int.reduceAdd, Int.reduceMul, Int.reduceSub, ↓Int.reduceNatCast', ca, hnn, h20, idxS_nz, hg, bsD, he0, bufD_nil, bufS_nil, List.map_nil, litD_intN, papp_fN]
      · have hn2 := startsL_ne l i (by omega)
        simp (disch := first | omega | decide) only [push_cast, ↓wF_free, ↓reduceIte, Nat.reduceEqDiff, Nat.reduceLT, Nat.reduceLeDiff, Nat.reduceAdd, Nat.reduceSub, Nat.reduceMul, Nat.reduceBEq, Int.reduceLT, Int.reduceLE, Int.reduceToNat, Int.reduceNeg, Int.reducePow, Int.reduceAdd, Int.reduceMul, Int.reduceSub, ↓Int.reduceNatCast', ca, hnn, h20, idxS_nz, hg, bsD, bufD_ne _ _ _ hn2, bufS_ne _ _ hn2, litD_intN, apR_N]
  · obtain rfl : i = l.length := by omega
    rw [List.take_length] at hok ⊢
    have hel := startsL_length l l.length
    have hbeg := fun n q h => detect_begins l hok n q x h
    have hsm := fun n q h1 h2 h3 => detect_same l hok n q x h1 h2 h3
    generalize hBB : encL 0 l = B at *
    have hE : (encL 0 ([] : List (List UInt8))).length = 0 := rfl
    simp (disch := first | omega | decide) only [push_cast, ↓wF_free, ↓reduceIte, Nat.reduceEqDiff, Nat.reduceLT, Nat.reduceLeDiff, Nat.reduceAdd, Nat.reduceSub, Nat.reduceMul, Nat.reduceBEq, Int.reduceLT, Int.reduceLE, Int.reduceToNat, Int.reduceNeg, Int.reducePow, Int.reduceAdd, Int.reduceMul, Int.reduceSub, ↓Int.reduceNatCast']
    by_cases p1 : p < 0
    · simp (disch := first | omega | decide) only [push_cast, ↓wF_free, ↓reduceIte, Nat.reduceEqDiff, Nat.reduceLT, Nat.reduceLeDiff, Nat.reduceAdd, Nat.reduceSub, Nat.reduceMul, Nat.reduceBEq, Int.reduceLT, Int.reduceLE, Int.reduceToNat, Int.reduceNeg, Int.reducePow, Int.reduceAdd, Int.reduceMul, Int.reduceSub, ↓Int.reduceNatCast', p1]
    · by_cases p2 : (B.length : Int) ≤ p
      · simp (disch := first | omega | decide) only [push_cast, ↓wF_free, ↓reduceIte, Nat.reduceEqDiff, Nat.reduceLT, Nat.reduceLeDiff, Nat.reduceAdd, Nat.reduceSub, Nat.reduceMul, Nat.reduceBEq, Int.reduceLT, Int.reduceLE, Int.reduceToNat, Int.reduceNeg, Int.reducePow, Int.reduceAdd, Int.reduceMul, Int.reduceSub, ↓Int.reduceNatCast', p1, p2]
      · obtain ⟨q, rfl⟩ := Int.eq_ofNat_of_zero_le (show 0 ≤ p by omega)
        have eq0 : (q : Int).toNat = q := by omega
        have hl0 : 0 < l.length := by
          rcases Nat.eq_zero_or_pos l.length with h | h
          · have : l = [] := List.eq_nil_of_length_eq_zero h
            rw [this] at hBB
            rw [← hBB] at p2
            simp [encL] at p2
          · exact h
        have hn2 := startsL_ne l l.length hl0
        by_cases p3 : B.getD q default = x
        · simp (disch := first | omega | decide) only [push_cast, ↓wF_free, ↓reduceIte, Nat.reduceEqDiff, Nat.reduceLT, Nat.reduceLeDiff, Nat.reduceAdd, Nat.reduceSub, Nat.reduceMul, Nat.reduceBEq, Int.reduceLT, Int.reduceLE, Int.reduceToNat, Int.reduceNeg, Int.reducePow, Int.reduceAdd, Int.reduceMul, Int.reduceSub, ↓Int.reduceNatCast', p1, p2, idxS_nz, eq0, p3]
        · have hBne : B ≠ [] := by intro h; rw [h] at p2; simp at p2
          obtain ⟨C, hCd⟩ : ∃ C, C = B.set q x := ⟨_, rfl⟩
          have hCl : C.length = B.length := by rw [hCd, List.length_set]
          have cj : ∀ st, si_rjoin [.slc (nz 1 (B.map byteD)) (B.map byteD) t, .slc 0 [] true] st = some (.row st.length C.length 0 C.length, st ++ [⟨true, 1, B.map byteD, false⟩]) := fun st => by rw [hCl]; exact call_irjoin B t st ⟨hBne, by omega⟩
          have hix : ∀ key, ixR (some ⟨true, 1, B.map byteD, false⟩) 1 key C.length 0 C.length (q : Int) = some (.rptr key C.length q 0) := fun key => by
            rw [hCl, ixR_row byteD 1 B false key 0 B.length (q : Int) (by omega) (by omega)]; simp
          have hst := stR_row 1 B q x (by omega)
          rw [← hCd, ← hCl] at hst
          have hbeg2 : ∀ n, (encL 0 (l.take n)).length ≤ q → l.take n <+: recs C := fun n h => by rw [hCd]; exact hbeg n q h
          have hsm2 : ∀ n, n < l.length → (encL 0 (l.take n)).length + 12 ≤ q → (recs C).length ≠ n → sumL ((encL 0 (l.take n)).length : Int) (l.getD n default) = sumL ((encL 0 (l.take n)).length : Int) ((C.drop ((encL 0 (l.take n)).length + 12)).take (l.getD n default).length) := fun n h1 h2 h3 => by rw [hCd] at h3 ⊢; exact hsm n q h1 h2 h3
          simp (disch := first | omega | decide) only [push_cast, ↓wF_free, ↓reduceIte, Nat.reduceEqDiff, Nat.reduceLT, Nat.reduceLeDiff, Nat.reduceAdd, Nat.reduceSub, Nat.reduceMul, Nat.reduceBEq, Int.reduceLT, Int.reduceLE, Int.reduceToNat, Int.reduceNeg, Int.reducePow, Int.reduceAdd, Int.reduceMul, Int.reduceSub, ↓Int.reduceNatCast', p1, p2, idxS_nz, eq0, p3, cj, bufD_ne _ _ _ hn2, bufS_ne _ _ hn2, hix, pstor_rb, hst]
          refine W_while (fun j : Nat => [(0, .slc (nz 1 (l.map bsD)) (l.map bsD) false), (1, .int .i64 (q : Int)), (8, .row 1 l.length 0 l.length), (12, .row 2 C.length 0 C.length), (13, .int .i64 (j : Int))])
            (fun j => [⟨false, 1, [.slc (nz 1 (B.map byteD)) (B.map byteD) t, .int .i64 0], false⟩, ⟨true, 1, (startsL l l.length).map eN, false⟩, ⟨true, 1, C.map byteD, false⟩]) (fun j => j < l.length ∧ (encL 0 (l.take j)).length ≤ q) (fun j => l.length - j) 0 (by simp only [push_cast, ↓wF_free, ↓reduceIte, Nat.reduceEqDiff, Nat.reduceLT, Nat.reduceLeDiff, Nat.reduceAdd, Nat.reduceSub, Nat.reduceMul, Nat.reduceBEq, Int.reduceLT, Int.reduceLE, Int.reduceToNat, Int.reduceNeg, Int.reducePow, Int.reduceAdd, Int.reduceMul, Int.reduceSub, ↓Int.reduceNatCast', hel] <;> rfl) ⟨hl0, by simp [encL]⟩ ?_
          rintro j ⟨hj, hjq⟩
          have hli := liR_row eN 1 (startsL l l.length) false
          rw [hel] at hli
          have hix2 : ∀ m : Nat, m < l.length → ixR (some ⟨true, 1, (startsL l l.length).map eN, false⟩) 1 1 l.length 0 l.length (m : Int) = some (.rptr 1 l.length m 0) := fun m hm => by
            have := ixR_row eN 1 (startsL l l.length) false 1 0 l.length (m : Int) (by omega) (by omega)
            rw [hel] at this
            rw [this]; simp
          have hld : ∀ m : Nat, m < l.length → ldR (some ⟨true, 1, (startsL l l.length).map eN, false⟩) 1 false l.length m 0 = some (.int .i64 ((encL 0 (l.take m)).length : Int)) := fun m hm => by
            have := ldR_N (startsL l l.length) false m (by omega)
            rwa [startsL_get l l.length m hm, hel] at this
          unfold F2_wagonpoollaw13_DiskDetects_L1
          by_cases hj2 : (j : Int) + 1 < (l.length : Int)
          · by_cases hc2 : ((encL 0 (l.take (j + 1))).length : Int) ≤ (q : Int)
            · have h3 := hix2 (j + 1) (by omega)
              rw [Int.natCast_add, show ((1 : Nat) : Int) = 1 from rfl] at h3
              simp (disch := first | omega | decide) only [push_cast, ↓wF_free, ↓reduceIte, Nat.reduceEqDiff, Nat.reduceLT, Nat.reduceLeDiff, Nat.reduceAdd, Nat.reduceSub, Nat.reduceMul, Nat.reduceBEq, Int.reduceLT, Int.reduceLE, Int.reduceToNat, Int.reduceNeg, Int.reducePow, Int.reduceAdd, Int.reduceMul, Int.reduceSub, ↓Int.reduceNatCast', hli, add_i, hj2, h3, hld (j + 1) (by omega), hc2]
              refine next_head (j + 1) (by exact ⟨by omega, by omega⟩) (by omega) ?_
              simp only [push_cast, ↓wF_free, ↓reduceIte, Nat.reduceEqDiff, Nat.reduceLT, Nat.reduceLeDiff, Nat.reduceAdd, Nat.reduceSub, Nat.reduceMul, Nat.reduceBEq, Int.reduceLT, Int.reduceLE, Int.reduceToNat, Int.reduceNeg, Int.reducePow, Int.reduceAdd, Int.reduceMul, Int.reduceSub, ↓Int.reduceNatCast'] <;> rfl
            · have h3 := hix2 (j + 1) (by omega)
              rw [Int.natCast_add, show ((1 : Nat) : Int) = 1 from rfl] at h3
              simp (disch := first | omega | decide) only [push_cast, ↓wF_free, ↓reduceIte, Nat.reduceEqDiff, Nat.reduceLT, Nat.reduceLeDiff, Nat.reduceAdd, Nat.reduceSub, Nat.reduceMul, Nat.reduceBEq, Int.reduceLT, Int.reduceLE, Int.reduceToNat, Int.reduceNeg, Int.reducePow, Int.reduceAdd, Int.reduceMul, Int.reduceSub, ↓Int.reduceNatCast', hli, add_i, hj2, h3, hld (j + 1) (by omega), hc2]
              have hge : ¬ (l.length : Int) ≤ (j : Int) := by omega
              have cr := call_read (C, 0) ⟨by dsimp only; omega, by dsimp only; omega, by dsimp only; omega⟩
              have hG1 := recs_length C
              have hb := hbeg2 j hjq
              have hs := hsm2 j hj
              have hr1 := hok _ (getD_mem' hj)
              have htk := take_getD l j hj
              have hfit := hBi (j + 1)
              rw [htk, encL_snoc_length] at hfit
              have hi3 := hix2 j hj
              have hi4 := hld j hj
              have ej : (j : Int).toNat = j := by omega
              have hnz : (nz 1 (l.map bsD) = 1 ∨ l.map bsD = []) ∧ 1 ≠ 0 := ⟨nz_or _ _, by decide⟩
              simp only [dkD, bsD] at cr
              generalize recs C = G at *
              have cb := call_begins G (l.take j) (by simp; omega)
              rw [decide_eq_true hb] at cb
              generalize hgr : l.getD j default = r at *
              generalize hA : (encL 0 (l.take j)).length = a at *
              have cf1 := call_first a r ⟨by omega, by omega⟩
              have ef : ((a : Int) + 12).toNat = a + 12 := by omega
              have et : ((a : Int) + 12 + (r.length : Int)).toNat = a + 12 + r.length := by omega
              have cf2 := call_first a ((C.drop (a + 12)).take r.length) ⟨by omega, by simp; omega⟩
              by_cases m1 : (q : Int) < (a : Int) + 12
              · simp (disch := first | omega | decide) only [push_cast, ↓wF_free, ↓reduceIte, Nat.reduceEqDiff, Nat.reduceLT, Nat.reduceLeDiff, Nat.reduceAdd, Nat.reduceSub, Nat.reduceMul, Nat.reduceBEq, Int.reduceLT, Int.reduceLE, Int.reduceToNat, Int.reduceNeg, Int.reducePow, Int.reduceAdd, Int.reduceMul, Int.reduceSub, ↓Int.reduceNatCast', hge, imm_ri, keys_ri, noRef_tslc, cr, slc_to _ _ _ _ _ _ _ _ hnz, ej, cb, hi3, hi4, add_i, m1]
              · by_cases m2 : (G.length : Int) = (j : Int)
                · simp (disch := first | omega | decide) only [push_cast, ↓wF_free, ↓reduceIte, Nat.reduceEqDiff, Nat.reduceLT, Nat.reduceLeDiff, Nat.reduceAdd, Nat.reduceSub, Nat.reduceMul, Nat.reduceBEq, Int.reduceLT, Int.reduceLE, Int.reduceToNat, Int.reduceNeg, Int.reducePow, Int.reduceAdd, Int.reduceMul, Int.reduceSub, ↓Int.reduceNatCast', hge, imm_ri, keys_ri, noRef_tslc, cr, slc_to _ _ _ _ _ _ _ _ hnz, ej, cb, hi3, hi4, add_i, m1, m2]
                · have hse := hs (by omega) (by omega)
                  have m3 : ¬ (C.length : Int) < (a : Int) + 12 + (r.length : Int) := by omega
                  have m4 : ¬ (a + 12 = 0 ∧ a + 12 + r.length = C.length) := by omega
                  by_cases hr0 : r.length = 0
                  · have m5 : a + 12 = a + 12 + r.length := by omega
                    have hrn : r = [] := List.eq_nil_of_length_eq_zero hr0
                    subst hrn
                    have cf3 := call_first a [] ⟨by omega, by simp⟩
                    simp only [List.map_nil, nz_nil] at cf1 cf3
                    have et2 : ((a : Int) + 12 + 0).toNat = a + 12 := by omega
                    have m7 : ¬ (C.length : Int) < (a : Int) + 12 := by simp only [List.length_nil] at m3 hfit; omega
                    have m8 : ¬ (a + 12 = 0 ∧ a + 12 = C.length) := by omega
                    have hz0 : ((0 : Nat) : Int) = 0 := rfl
                    simp (disch := first | omega | decide) only [push_cast, ↓wF_free, ↓reduceIte, Nat.reduceEqDiff, Nat.reduceLT, Nat.reduceLeDiff, Nat.reduceAdd, Nat.reduceSub, Nat.reduceMul, Nat.reduceBEq, Int.reduceLT, Int.reduceLE, Int.reduceToNat, Int.reduceNeg, Int.reducePow, Int.reduceAdd, Int.reduceMul, Int.reduceSub, ↓Int.reduceNatCast', hge, imm_ri, keys_ri, noRef_tslc, cr, slc_to _ _ _ _ _ _ _ _ hnz, ej, cb, hi3, hi4, add_i, m1, m2, idxS_nz, hgr, bsD, m3, cf1, ef, et, slR_row, m4, cf3, et2, m7, m8, hz0, List.length_nil, Int.add_zero]
                  · have m5 : ¬ a + 12 = a + 12 + r.length := by omega
                    rw [← hse] at cf2
                    have m6 : a + 12 + r.length - (a + 12) = r.length := by omega
                    simp (disch := first | omega | decide) only [push_cast, ↓wF_free, ↓reduceIte, Nat.reduceEqDiff, Nat.reduceLT, Nat.reduceLeDiff, Nat.reduceAdd, Nat.reduceSub, Nat.reduceMul, Nat.reduceBEq, Int.reduceLT, Int.reduceLE, Int.reduceToNat, Int.reduceNeg, Int.reducePow, Int.reduceAdd, Int.reduceMul, Int.reduceSub, ↓Int.reduceNatCast', hge, imm_ri, keys_ri, noRef_tslc, cr, slc_to _ _ _ _ _ _ _ _ hnz, ej, cb, hi3, hi4, add_i, m1, m2, idxS_nz, hgr, bsD, m3, cf1, ef, et, slR_row, m4, m5, m6, cf2]
          · simp (disch := first | omega | decide) only [push_cast, ↓wF_free, ↓reduceIte, Nat.reduceEqDiff, Nat.reduceLT, Nat.reduceLeDiff, Nat.reduceAdd, Nat.reduceSub, Nat.reduceMul, Nat.reduceBEq, Int.reduceLT, Int.reduceLE, Int.reduceToNat, Int.reduceNeg, Int.reducePow, Int.reduceAdd, Int.reduceMul, Int.reduceSub, ↓Int.reduceNatCast', hli, add_i, hj2]
            have hge : ¬ (l.length : Int) ≤ (j : Int) := by omega
            have cr := call_read (C, 0) ⟨by dsimp only; omega, by dsimp only; omega, by dsimp only; omega⟩
            have hG1 := recs_length C
            have hb := hbeg2 j hjq
            have hs := hsm2 j hj
            have hr1 := hok _ (getD_mem' hj)
            have htk := take_getD l j hj
            have hfit := hBi (j + 1)
            rw [htk, encL_snoc_length] at hfit
            have hi3 := hix2 j hj
            have hi4 := hld j hj
            have ej : (j : Int).toNat = j := by omega
            have hnz : (nz 1 (l.map bsD) = 1 ∨ l.map bsD = []) ∧ 1 ≠ 0 := ⟨nz_or _ _, by decide⟩
            simp only [dkD, bsD] at cr
            generalize recs C = G at *
            have cb := call_begins G (l.take j) (by simp; omega)
            rw [decide_eq_true hb] at cb
            generalize hgr : l.getD j default = r at *
            generalize hA : (encL 0 (l.take j)).length = a at *
            have cf1 := call_first a r ⟨by omega, by omega⟩
            have ef : ((a : Int) + 12).toNat = a + 12 := by omega
            have et : ((a : Int) + 12 + (r.length : Int)).toNat = a + 12 + r.length := by omega
            have cf2 := call_first a ((C.drop (a + 12)).take r.length) ⟨by omega, by simp; omega⟩
            by_cases m1 : (q : Int) < (a : Int) + 12
            · simp (disch := first | omega | decide) only [push_cast, ↓wF_free, ↓reduceIte, Nat.reduceEqDiff, Nat.reduceLT, Nat.reduceLeDiff, Nat.reduceAdd, Nat.reduceSub, Nat.reduceMul, Nat.reduceBEq, Int.reduceLT, Int.reduceLE, Int.reduceToNat, Int.reduceNeg, Int.reducePow, Int.reduceAdd, Int.reduceMul, Int.reduceSub, ↓Int.reduceNatCast', hge, imm_ri, keys_ri, noRef_tslc, cr, slc_to _ _ _ _ _ _ _ _ hnz, ej, cb, hi3, hi4, add_i, m1]
            · by_cases m2 : (G.length : Int) = (j : Int)
              · simp (disch := first | omega | decide) only [push_cast, ↓wF_free, ↓reduceIte, Nat.reduceEqDiff, Nat.reduceLT, Nat.reduceLeDiff, Nat.reduceAdd, Nat.reduceSub, Nat.reduceMul, Nat.reduceBEq, Int.reduceLT, Int.reduceLE, Int.reduceToNat, Int.reduceNeg, Int.reducePow, Int.reduceAdd, Int.reduceMul, Int.reduceSub, ↓Int.reduceNatCast', hge, imm_ri, keys_ri, noRef_tslc, cr, slc_to _ _ _ _ _ _ _ _ hnz, ej, cb, hi3, hi4, add_i, m1, m2]
              · have hse := hs (by omega) (by omega)
                have m3 : ¬ (C.length : Int) < (a : Int) + 12 + (r.length : Int) := by omega
                have m4 : ¬ (a + 12 = 0 ∧ a + 12 + r.length = C.length) := by omega
                by_cases hr0 : r.length = 0
                · have m5 : a + 12 = a + 12 + r.length := by omega
                  have hrn : r = [] := List.eq_nil_of_length_eq_zero hr0
                  subst hrn
                  have cf3 := call_first a [] ⟨by omega, by simp⟩
                  simp only [List.map_nil, nz_nil] at cf1 cf3
                  have et2 : ((a : Int) + 12 + 0).toNat = a + 12 := by omega
                  have m7 : ¬ (C.length : Int) < (a : Int) + 12 := by simp only [List.length_nil] at m3 hfit; omega
                  have m8 : ¬ (a + 12 = 0 ∧ a + 12 = C.length) := by omega
                  have hz0 : ((0 : Nat) : Int) = 0 := rfl
                  simp (disch := first | omega | decide) only [push_cast, ↓wF_free, ↓reduceIte, Nat.reduceEqDiff, Nat.reduceLT, Nat.reduceLeDiff, Nat.reduceAdd, Nat.reduceSub, Nat.reduceMul, Nat.reduceBEq, Int.reduceLT, Int.reduceLE, Int.reduceToNat, Int.reduceNeg, Int.reducePow, Int.reduceAdd, Int.reduceMul, Int.reduceSub, ↓Int.reduceNatCast', hge, imm_ri, keys_ri, noRef_tslc, cr, slc_to _ _ _ _ _ _ _ _ hnz, ej, cb, hi3, hi4, add_i, m1, m2, idxS_nz, hgr, bsD, m3, cf1, ef, et, slR_row, m4, cf3, et2, m7, m8, hz0, List.length_nil, Int.add_zero]
                · have m5 : ¬ a + 12 = a + 12 + r.length := by omega
                  rw [← hse] at cf2
                  have m6 : a + 12 + r.length - (a + 12) = r.length := by omega
                  simp (disch := first | omega | decide) only [push_cast, ↓wF_free, ↓reduceIte, Nat.reduceEqDiff, Nat.reduceLT, Nat.reduceLeDiff, Nat.reduceAdd, Nat.reduceSub, Nat.reduceMul, Nat.reduceBEq, Int.reduceLT, Int.reduceLE, Int.reduceToNat, Int.reduceNeg, Int.reducePow, Int.reduceAdd, Int.reduceMul, Int.reduceSub, ↓Int.reduceNatCast', hge, imm_ri, keys_ri, noRef_tslc, cr, slc_to _ _ _ _ _ _ _ _ hnz, ej, cb, hi3, hi4, add_i, m1, m2, idxS_nz, hgr, bsD, m3, cf1, ef, et, slR_row, m4, m5, m6, cf2]
theorem law_DiskDetects : Contract Tryd.prog GG 4 (lawSpU [.slc (.slc (.int .u8)), .int .i64, .int .u8] 1048576) := by
  refine lawCU tr2_wagonpoollaw13_DiskDetects (T := tb [(10, sp_sane), (11, sp_append), (14, sp_read), (15, sp_begins), (17, sp_first)] [(16, si_rjoin)]) (tb_ok (all_cons c_sane (all_cons c_append (all_cons c_read (all_cons c_begins (all_cons c_first all_nil))))) (all_cons ci_rjoin all_nil)) ?_
  intro xs h hw
  obtain ⟨x0, xs, rfl, h0, h⟩ := hasAll_cons h
  obtain ⟨x1, xs, rfl, h1, h⟩ := hasAll_cons h
  obtain ⟨x2, xs, rfl, h2, h⟩ := hasAll_cons h
  obtain rfl := hasAll_nil h
  obtain ⟨y0, rfl, ya0⟩ := has_lbs h0
  obtain ⟨y1, rfl, ya1, yb1⟩ := has_i64 h1
  obtain ⟨y2, rfl⟩ := has_u8 h2
  exact lw_DiskDetects y0 y1 ya1 yb1 y2 hw
end Go.Proofs.YteacnlikmagfcaaDoor.PI
