/-
  disk: the arguments of the laws; records come back as they were appended.
  Conditions: the arguments' bulk is at most 1048576.
-/
import Derived.Test.YteacnlikmagfcaaDoorDkH
namespace Go.Proofs.YteacnlikmagfcaaDoor.PI
open Go
set_option linter.unusedSimpArgs false
set_option linter.unusedVariables false

/-- an operation: its kind, a record, a tear -/
structure OpL where
  kind : Int
  rec' : List UInt8
  tear : Int × List UInt8
def opC (o : OpL) : List D := [.int .i64 o.kind, bsD o.rec', .int .i64 o.tear.1, bsD o.tear.2]
def opD (o : OpL) : D := .agg (opC o)
def opR (o : OpL) : Prop := -9223372036854775808 ≤ o.tear.1 ∧ o.tear.1 < 9223372036854775808
instance : Inhabited OpL := ⟨⟨0, [], (0, [])⟩⟩
theorem has_bsD {d : D} (h : Has (.slc (.int .u8)) d) : ∃ a, d = bsD a := by
  obtain ⟨l, rfl, _⟩ := has_bytes h
  exact ⟨l, rfl⟩
theorem has_lbs {d : D} (h : Has (.slc (.slc (.int .u8))) d) : ∃ l : List (List UInt8), d = .slc (nz 1 (l.map bsD)) (l.map bsD) false ∧ l.length ≤ maxLen :=
  has_slc (f := bsD) (fun _ => has_bsD) h
theorem has_dk {d : D} (h : Has (.agg [.slc (.int .u8), .int .i64]) d) : ∃ x : List UInt8 × Int, d = dkD x ∧ -9223372036854775808 ≤ x.2 ∧ x.2 < 9223372036854775808 := by
  obtain ⟨x, y, rfl, h1, h2⟩ := has_agg2 h
  obtain ⟨l, rfl⟩ := has_bsD h1
  obtain ⟨n, rfl, h3, h4⟩ := has_i64 h2
  exact ⟨(l, n), rfl, h3, h4⟩
theorem has_tr {d : D} (h : Has (.agg [.int .i64, .slc (.int .u8)]) d) : ∃ x : Int × List UInt8, d = trD x ∧ -9223372036854775808 ≤ x.1 ∧ x.1 < 9223372036854775808 := by
  obtain ⟨x, y, rfl, h1, h2⟩ := has_agg2 h
  obtain ⟨l, rfl⟩ := has_bsD h2
  obtain ⟨n, rfl, h3, h4⟩ := has_i64 h1
  exact ⟨(n, l), rfl, h3, h4⟩
theorem has_op {d : D} (h : Has (.agg [.int .i64, .slc (.int .u8), .agg [.int .i64, .slc (.int .u8)]]) d) : ∃ o, d = opD o ∧ opR o := by
  obtain ⟨x, y, z, rfl, h1, h2, h3⟩ := has_agg3 h
  obtain ⟨n, rfl, _, _⟩ := has_i64 h1
  obtain ⟨l, rfl⟩ := has_bsD h2
  obtain ⟨t, rfl, h4, h5⟩ := has_tr h3
  exact ⟨⟨n, l, t⟩, rfl, h4, h5⟩
theorem lift_mapP {α : Type} {f : α → D} {p : α → Prop} : ∀ {els : List D}, (∀ x ∈ els, ∃ a, x = f a ∧ p a) → ∃ l : List α, els = l.map f ∧ ∀ a ∈ l, p a
  | [], _ => ⟨[], rfl, fun _ h => by cases h⟩
  | e :: r, h => by
    obtain ⟨a, ha, hp⟩ := h e (by simp)
    obtain ⟨l, hl, hq⟩ := lift_mapP (f := f) (p := p) (els := r) fun x hx => h x (by simp [hx])
    exact ⟨a :: l, by rw [ha, hl]; rfl, fun x hx => by 
      rcases List.mem_cons.1 hx with rfl | hx
      · exact hp
      · exact hq x hx⟩
theorem has_ops {d : D} (h : Has (.slc (.agg [.int .i64, .slc (.int .u8), .agg [.int .i64, .slc (.int .u8)]])) d) : ∃ l : List OpL, d = .slc (nz 4 (l.map opD)) (l.map opD) false ∧ ∀ o ∈ l, opR o := by
  cases h with
  | slc _ els h1 h2 =>
    obtain ⟨l, rfl, hl⟩ := lift_mapP (f := opD) (p := opR) (els := els) fun x hx => by
      obtain ⟨i, hi⟩ := List.getElem?_of_mem hx
      exact has_op (h1 i x hi)
    exact ⟨l, rfl, hl⟩

/-! ### How much -/
theorem wts_bytes : ∀ b : List UInt8, wts (b.map byteD) = b.length
  | [] => rfl
  | x :: b => by rw [List.map_cons, wts, wts_bytes b, List.length_cons]; show 1 + _ = _; omega
theorem wt_bsD (b : List UInt8) : wt (bsD b) = b.length + 1 := by
  show wts (b.map byteD) + 1 = _
  rw [wts_bytes]
def wl : List (List UInt8) → Nat
  | [] => 0
  | r :: l => r.length + 1 + wl l
theorem wts_lbs : ∀ l : List (List UInt8), wts (l.map bsD) = wl l
  | [] => rfl
  | r :: l => by rw [List.map_cons, wts, wts_lbs l, wt_bsD]; rfl
theorem wl_append : ∀ l m : List (List UInt8), wl (l ++ m) = wl l + wl m
  | [], m => by simp [wl]
  | r :: l, m => by rw [List.cons_append, wl, wl, wl_append l m]; omega
theorem wl_take (l : List (List UInt8)) (n : Nat) : wl (l.take n) ≤ wl l := by
  have : wl l = wl (l.take n) + wl (l.drop n) := by rw [← wl_append, List.take_append_drop]
  omega
theorem wl_filter (p : List UInt8 → Bool) : ∀ l : List (List UInt8), wl (l.filter p) ≤ wl l
  | [] => Nat.le_refl _
  | r :: l => by
    have := wl_filter p l
    rw [List.filter_cons]
    split <;> simp only [wl] <;> omega
theorem wl_len : ∀ l : List (List UInt8), l.length ≤ wl l
  | [] => Nat.le_refl _
  | r :: l => by have := wl_len l; rw [wl, List.length_cons]; omega
theorem wl_mem {l : List (List UInt8)} {r : List UInt8} (h : r ∈ l) : r.length ≤ wl l := by
  induction l with
  | nil => cases h
  | cons x l ih =>
    rw [wl]
    rcases List.mem_cons.1 h with rfl | h
    · omega
    · have := ih h; omega
theorem encL_wl : ∀ (l : List (List UInt8)) (p : Nat), (encL p l).length ≤ 12 * wl l
  | [], _ => Nat.zero_le _
  | r :: l, p => by
    have := encL_wl l (p + 12 + r.length)
    rw [encL, List.length_append, unitL_length, wl]
    omega
def keptL (l : List (List UInt8)) : List (List UInt8) := l.filter fun r => decide (r.length ≤ 16000)
theorem keptL_ok (l : List (List UInt8)) : okL (keptL l) := fun r hr => by simpa using (List.mem_filter.1 hr).2
theorem getD_mem' {l : List (List UInt8)} {i : Nat} (h : i < l.length) : l.getD i default ∈ l := by
  rw [List.getD_eq_getElem?_getD, List.getElem?_eq_getElem h]
  exact List.getElem_mem h
theorem appL_enc (A : List (List UInt8)) (s : Int) (r : List UInt8) (h0 : 0 ≤ s) (h1 : s ≤ ((encL 0 A).length : Int)) (h2 : r.length ≤ 16000) : appL (encL 0 A, s) r = ((encL 0 (A ++ [r]), s), 0) := by
  rw [appL_ok _ _ _ h0 h1 h2, encL_snoc]

set_option maxHeartbeats 4000000 in
set_option maxRecDepth 20000 in
theorem lw_DiskRoundTrip (l : List (List UInt8)) (hw : wts [.slc (nz 1 (l.map bsD)) (l.map bsD) false] ≤ 1048576) : @wW GG (tb [(10, sp_sane), (11, sp_append), (14, sp_read), (18, sp_same)] []) F_wagonpoollaw13_DiskRoundTrip.code (argF [.slc (nz 1 (l.map bsD)) (l.map bsD) false]) [] ⟨retQ F_wagonpoollaw13_DiskRoundTrip.res (.bool true)⟩ := by
  have hW : wl l ≤ 1048576 := by
    have : wts ([.slc (nz 1 (l.map bsD)) (l.map bsD) false] : List D) = wts (l.map bsD) + 1 + 0 := rfl
    rw [this, wts_lbs] at hw
    omega
  have hlen := wl_len l
  have hB : ∀ i, (encL 0 (keptL (l.take i))).length ≤ 12 * 1048576 ∧ (keptL (l.take i)).length ≤ 1048576 := by
    intro i
    have h1 := encL_wl (keptL (l.take i)) 0
    have h2 : wl (keptL (l.take i)) ≤ wl (l.take i) := wl_filter _ _
    have h3 := wl_take l i
    have h4 := wl_len (keptL (l.take i))
    omega
  unfold F_wagonpoollaw13_DiskRoundTrip
  simp (disch := first | omega | decide) only [push_cast, ↓wF_free, ↓reduceIte, Nat.reduceEqDiff, Nat.reduceLT, Nat.reduceLeDiff, Nat.reduceAdd, Nat.reduceSub, Nat.reduceMul, Nat.reduceBEq, Int.reduceLT, Int.reduceLE, Int.reduceToNat, Int.reduceNeg, Int.reducePow, Int.reduceAdd, Int.reduceMul, Int.reduceSub, ↓Int.reduceNatCast', call_sane]
  refine W_while (fun i : Nat × Bool => [(0, .slc (nz 1 (l.map bsD)) (l.map bsD) false), (3, .ptr 0 0), (4, bufD 1 1 ((keptL (l.take i.1)).map bsD)), (5, .int .i64 ((encL 0 (keptL (l.take i.1))).length : Int)), (6, .int .i64 (i.1 : Int))])
    (fun i => ⟨false, 1, [.slc (nz 1 ((encL 0 (keptL (l.take i.1))).map byteD)) ((encL 0 (keptL (l.take i.1))).map byteD) i.2, .int .i64 0], false⟩ :: bufS 1 ((keptL (l.take i.1)).map bsD)) (fun i => i.1 ≤ l.length) (fun i => l.length - i.1) (0, true) (by simp only [push_cast, ↓wF_free, ↓reduceIte, Nat.reduceEqDiff, Nat.reduceLT, Nat.reduceLeDiff, Nat.reduceAdd, Nat.reduceSub, Nat.reduceMul, Nat.reduceBEq, Int.reduceLT, Int.reduceLE, Int.reduceToNat, Int.reduceNeg, Int.reducePow, Int.reduceAdd, Int.reduceMul, Int.reduceSub, ↓Int.reduceNatCast'] <;> rfl) (by exact Nat.zero_le _) ?_
  rintro ⟨i, t⟩ hi
  dsimp only at hi
  unfold F_wagonpoollaw13_DiskRoundTrip_L0
  simp (disch := first | omega | decide) only [push_cast, ↓wF_free, ↓reduceIte, Nat.reduceEqDiff, Nat.reduceLT, Nat.reduceLeDiff, Nat.reduceAdd, Nat.reduceSub, Nat.reduceMul, Nat.reduceBEq, Int.reduceLT, Int.reduceLE, Int.reduceToNat, Int.reduceNeg, Int.reducePow, Int.reduceAdd, Int.reduceMul, Int.reduceSub, ↓Int.reduceNatCast']
  refine ifD_split (fun h2 => ?_) (fun h2 => ?_)
  · have hm := getD_mem' (show i < l.length by omega)
    have hr := wl_mem hm
    have htk := take_getD l i (by omega)
    have hok := keptL_ok (l.take i)
    obtain ⟨hb1, hb2⟩ := hB i
    have hK : keptL (l.take (i + 1)) = keptL (l.take i) ++ keptL [l.getD i default] := by
      rw [htk, keptL, List.filter_append]; rfl
    simp (disch := first | omega | decide) only [push_cast, ↓wF_free, ↓reduceIte, Nat.reduceEqDiff, Nat.reduceLT, Nat.reduceLeDiff, Nat.reduceAdd, Nat.reduceSub, Nat.reduceMul, Nat.reduceBEq, Int.reduceLT, Int.reduceLE, Int.reduceToNat, Int.reduceNeg, Int.reducePow, Int.reduceAdd, Int.reduceMul, Int.reduceSub, ↓Int.reduceNatCast', idxS_nz, bsD]
    generalize hg : l.getD i default = r at *
    generalize hA : keptL (l.take i) = A at *
    have ca := call_append (encL 0 A, 0) r ⟨⟨by dsimp only; omega, by dsimp only; omega, by dsimp only; omega⟩, by omega⟩
    by_cases hr16 : r.length ≤ 16000
    · have hk1 : keptL [r] = [r] := by simp [keptL, hr16]
      rw [hk1] at hK
      rw [appL_enc A 0 r (by omega) (by omega) hr16] at ca
      have hlen2 := encL_snoc_length A r
      have hnn : ¬ (16000 : Int) < (r.length : Int) := by omega
      simp only [dkD, bsD] at ca
      have hm2 : (A ++ [r]).map bsD ≠ [] := by simp
      by_cases hn : A = []
      · subst hn
        simp only [List.nil_append] at *
        simp (disch := first | omega | decide) only [push_cast, ↓wF_free, ↓reduceIte, Nat.reduceEqDiff, Nat.reduceLT, Nat.reduceLeDiff, Nat.reduceAdd, Nat.reduceSub, Nat.reduceMul, Nat.reduceBEq, Int.reduceLT, Int.reduceLE, Int.reduceToNat, Int.reduceNeg, Int.reducePow, Int.reduceAdd, Int.reduceMul, Int.reduceSub, ↓Int.reduceNatCast', ca, hnn, idxS_nz, hg, bsD, bufD_nil, bufS_nil, List.map_nil, litD_slc1, papp_fbs, add_i]
        refine next_head (i + 1, false) (by omega) (by omega) ?_
        dsimp only
        rw [hK, hlen2]
        simp only [push_cast, ↓wF_free, ↓reduceIte, Nat.reduceEqDiff, Nat.reduceLT, Nat.reduceLeDiff, Nat.reduceAdd, Nat.reduceSub, Nat.reduceMul, Nat.reduceBEq, Int.reduceLT, Int.reduceLE, Int.reduceToNat, Int.reduceNeg, Int.reducePow, Int.reduceAdd, Int.reduceMul, Int.reduceSub, ↓Int.reduceNatCast', bufD_ne _ _ _ hm2, bufS_ne _ _ hm2] <;> rfl
      · have hn2 : A.map bsD ≠ [] := by simpa using hn
        simp (disch := first | omega | decide) only [push_cast, ↓wF_free, ↓reduceIte, Nat.reduceEqDiff, Nat.reduceLT, Nat.reduceLeDiff, Nat.reduceAdd, Nat.reduceSub, Nat.reduceMul, Nat.reduceBEq, Int.reduceLT, Int.reduceLE, Int.reduceToNat, Int.reduceNeg, Int.reducePow, Int.reduceAdd, Int.reduceMul, Int.reduceSub, ↓Int.reduceNatCast', ca, hnn, idxS_nz, hg, bsD, bufD_ne _ _ _ hn2, bufS_ne _ _ hn2, litD_slc1, apR_bs, add_i]
        refine next_head (i + 1, false) (by omega) (by omega) ?_
        dsimp only
        rw [hK, hlen2]
        simp only [push_cast, ↓wF_free, ↓reduceIte, Nat.reduceEqDiff, Nat.reduceLT, Nat.reduceLeDiff, Nat.reduceAdd, Nat.reduceSub, Nat.reduceMul, Nat.reduceBEq, Int.reduceLT, Int.reduceLE, Int.reduceToNat, Int.reduceNeg, Int.reducePow, Int.reduceAdd, Int.reduceMul, Int.reduceSub, ↓Int.reduceNatCast', bufD_ne _ _ _ hm2, bufS_ne _ _ hm2] <;> rfl
    · have hk1 : keptL [r] = [] := by simp [keptL, hr16]
      rw [hk1, List.append_nil] at hK
      rw [appL_long (encL 0 A) 0 r (by omega) (by omega) (by omega)] at ca
      simp only [dkD, bsD] at ca
      have hnn : (16000 : Int) < (r.length : Int) := by omega
      by_cases hn : A = []
      · subst hn
        simp (disch := first | omega | decide) only [push_cast, ↓wF_free, ↓reduceIte, Nat.reduceEqDiff, Nat.reduceLT, Nat.reduceLeDiff, Nat.reduceAdd, Nat.reduceSub, Nat.reduceMul, Nat.reduceBEq, Int.reduceLT, Int.reduceLE, Int.reduceToNat, Int.reduceNeg, Int.reducePow, Int.reduceAdd, Int.reduceMul, Int.reduceSub, ↓Int.reduceNatCast', ca, hnn, idxS_nz, hg, bsD, bufD_nil, bufS_nil, List.map_nil, add_i]
        refine next_head (i + 1, t) (by omega) (by omega) ?_
        dsimp only
        rw [hK]
        simp only [push_cast, ↓wF_free, ↓reduceIte, Nat.reduceEqDiff, Nat.reduceLT, Nat.reduceLeDiff, Nat.reduceAdd, Nat.reduceSub, Nat.reduceMul, Nat.reduceBEq, Int.reduceLT, Int.reduceLE, Int.reduceToNat, Int.reduceNeg, Int.reducePow, Int.reduceAdd, Int.reduceMul, Int.reduceSub, ↓Int.reduceNatCast'] <;> rfl
      · have hn2 : A.map bsD ≠ [] := by simpa using hn
        simp (disch := first | omega | decide) only [push_cast, ↓wF_free, ↓reduceIte, Nat.reduceEqDiff, Nat.reduceLT, Nat.reduceLeDiff, Nat.reduceAdd, Nat.reduceSub, Nat.reduceMul, Nat.reduceBEq, Int.reduceLT, Int.reduceLE, Int.reduceToNat, Int.reduceNeg, Int.reducePow, Int.reduceAdd, Int.reduceMul, Int.reduceSub, ↓Int.reduceNatCast', ca, hnn, idxS_nz, hg, bsD, bufD_ne _ _ _ hn2, bufS_ne _ _ hn2, add_i]
        refine next_head (i + 1, t) (by omega) (by omega) ?_
        dsimp only
        rw [hK]
        simp only [push_cast, ↓wF_free, ↓reduceIte, Nat.reduceEqDiff, Nat.reduceLT, Nat.reduceLeDiff, Nat.reduceAdd, Nat.reduceSub, Nat.reduceMul, Nat.reduceBEq, Int.reduceLT, Int.reduceLE, Int.reduceToNat, Int.reduceNeg, Int.reducePow, Int.reduceAdd, Int.reduceMul, Int.reduceSub, ↓Int.reduceNatCast', bufD_ne _ _ _ hn2, bufS_ne _ _ hn2] <;> rfl
  · obtain rfl : i = l.length := by omega
    rw [List.take_length] at *
    have hok := keptL_ok l
    obtain ⟨hb1, hb2⟩ := hB l.length
    rw [List.take_length] at hb1 hb2
    generalize keptL l = A at *
    have cr := call_read (encL 0 A, 0) ⟨by dsimp only; omega, by dsimp only; omega, by dsimp only; omega⟩
    have cm := call_same A A (by omega)
    rw [decide_eq_true rfl] at cm
    simp only [dkD, bsD, recs_enc A hok, endN_enc A hok] at cr
    simp (disch := first | omega | decide) only [push_cast, ↓wF_free, ↓reduceIte, Nat.reduceEqDiff, Nat.reduceLT, Nat.reduceLeDiff, Nat.reduceAdd, Nat.reduceSub, Nat.reduceMul, Nat.reduceBEq, Int.reduceLT, Int.reduceLE, Int.reduceToNat, Int.reduceNeg, Int.reducePow, Int.reduceAdd, Int.reduceMul, Int.reduceSub, ↓Int.reduceNatCast', cr, cm]
theorem law_DiskRoundTrip : Contract Tryd.prog GG 9 (lawSpU [.slc (.slc (.int .u8))] 1048576) := by
  refine lawCU tr_wagonpoollaw13_DiskRoundTrip (T := tb [(10, sp_sane), (11, sp_append), (14, sp_read), (18, sp_same)] []) (tb_ok (all_cons c_sane (all_cons c_append (all_cons c_read (all_cons c_same all_nil)))) all_nil) ?_
  intro xs h hw
  obtain ⟨x0, xs, rfl, h0, h⟩ := hasAll_cons h
  obtain rfl := hasAll_nil h
  obtain ⟨y0, rfl, ya0⟩ := has_lbs h0
  exact lw_DiskRoundTrip y0 hw
end Go.Proofs.YteacnlikmagfcaaDoor.PI
