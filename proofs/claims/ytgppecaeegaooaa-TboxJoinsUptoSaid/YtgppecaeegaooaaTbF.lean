/-
  tbox: the reference's search, carried out.
  Conditions: none; these are lemmas.
-/
import Derived.Test.YtgppecaeegaooaaTbE
namespace Go.Proofs.Ytgppecaeegaooaa.PI
open Go
set_option linter.unusedSimpArgs false
set_option linter.unusedVariables false

/-! ### Points in the store -/
theorem ldPt (sz : Nat) (lent : Bool) {p : List Int} (hp : p.length = 16) (i : Nat) (h : i < 16) : ldO (some ⟨false, sz, p.map nI, lent⟩) 1 false i = some (.int .i64 (at' p i)) := ldO_map sz lent nI p i (by omega)
theorem stPt (sz : Nat) {p : List Int} (hp : p.length = 16) (i : Nat) (v : Int) (h : i < 16) : stO (some ⟨false, sz, p.map nI, false⟩) 1 i (.int .i64 v) = some ⟨false, sz, (p.set i v).map nI, false⟩ := stO_set sz nI (fun _ => rfl) p i v (by omega)
def cpI (v w : List Int) (a i : Nat) : List Int := v.take a ++ ((w.take i).drop a ++ v.drop (max a i))
theorem cpI_at (v w : List Int) (hv : v.length = 16) (hw : w.length = 16) (a i : Nat) (ha : a ≤ i) (hi : i ≤ 16) (j : Nat) : at' (cpI v w a i) j = if a ≤ j ∧ j < i then at' w j else at' v j := by
  unfold cpI at'
  simp only [List.getD_eq_getElem?_getD]
  rw [Nat.max_eq_right ha]
  rcases Nat.lt_or_ge j a with h1 | h1
  · rw [List.getElem?_append_left (by simp; omega), List.getElem?_take, if_pos h1, if_neg (by omega)]
  · rw [List.getElem?_append_right (by simp; omega), List.length_take, Nat.min_eq_left (by omega)]
    rcases Nat.lt_or_ge j i with h2 | h2
    · rw [List.getElem?_append_left (by simp; omega), List.getElem?_drop, List.getElem?_take, if_pos (by omega), if_pos ⟨h1, h2⟩]
      congr 2; omega
    · rw [List.getElem?_append_right (by simp; omega), List.getElem?_drop, if_neg (by omega)]
      congr 2
      simp
      omega
theorem cpI_len (v w : List Int) (hv : v.length = 16) (hw : w.length = 16) (a i : Nat) (ha : a ≤ i) (hi : i ≤ 16) : (cpI v w a i).length = 16 := by
  simp [cpI, hv, hw]; omega
theorem cpI_zero (v w : List Int) (hv : v.length = 16) (hw : w.length = 16) (a : Nat) (ha : a ≤ 16) : cpI v w a a = v :=
  ext_at ((cpI_len v w hv hw a a (Nat.le_refl _) ha).trans hv.symm) fun j hj => by rw [cpI_at v w hv hw a a (Nat.le_refl _) ha, if_neg (by omega)]
theorem cpI_all (v w : List Int) (hv : v.length = 16) (hw : w.length = 16) (a : Nat) (ha : a ≤ 16) : cpI v w a 16 = v.take a ++ w.drop a := by
  refine ext_at (by rw [cpI_len v w hv hw a 16 ha (Nat.le_refl _)]; simp [hv, hw]; omega) fun j hj => ?_
  rw [cpI_at v w hv hw a 16 ha (Nat.le_refl _), at_app v w a (by omega)]
  rw [cpI_len v w hv hw a 16 ha (Nat.le_refl _)] at hj
  by_cases h : j < a
  · rw [if_pos h, if_neg (by omega)]
  · rw [if_neg h, if_pos (by omega)]
theorem cpI_step (v w : List Int) (hv : v.length = 16) (hw : w.length = 16) (a i : Nat) (ha : a ≤ i) (hi : i < 16) : (cpI v w a i).set i (at' w i) = cpI v w a (i + 1) := by
  have hl := cpI_len v w hv hw a i ha (by omega)
  refine ext_at (by rw [List.length_set, hl, cpI_len v w hv hw a (i + 1) (by omega) (by omega)]) fun j hj => ?_
  rw [at_set _ _ _ _ (by omega), cpI_at v w hv hw a i ha (by omega), cpI_at v w hv hw a (i + 1) (by omega) (by omega)]
  by_cases e : i = j
  · subst e; rw [if_pos rfl, if_pos (by omega)]
  · rw [if_neg e]
    by_cases h : a ≤ j ∧ j < i
    · rw [if_pos h, if_pos (by omega)]
    · rw [if_neg h, if_neg (by omega)]
theorem pt_noRef2 (p : List Int) (b : Bool) : (D.tup [ptD p, .bool b]).noRef = true := by
  have : (p.map nI).all D.noRef1 = true := by
    simp only [List.all_eq_true, List.mem_map]
    rintro x ⟨a, _, rfl⟩
    rfl
  simp [ptD, D.noRef, D.noRef1, this]

/-! ### The reference's search -/
def srchOk (d : Bx) (l : List Bx) (a : Int) (v : List Int) : Prop := d.ok ∧ okL l ∧ hiL l ∧ Dom d ∧ (∀ i, i < 16 → 0 ≤ at' d.lo i) ∧ l.length ≤ 65536 ∧ 0 ≤ a ∧ a ≤ 16 ∧ v.length = 16
theorem srch_len {d : Bx} (hd : Dom d) (m : Nat) (hm : m ≤ 16) (l : List Bx) (v : List Int) (hv : v.length = 16) : (srch d m l v).1.length = 16 := (srch_spec hd m hm l v hv).1
noncomputable def sp_srch (k : Nat) : List D → Option D := spOf (α := Bx × List Bx × Int × List Int) (fun a => [bxD a.1, .slc (nz 32 (a.2.1.map bxD)) (a.2.1.map bxD) false, .int .i64 a.2.2.1, ptD a.2.2.2])
  (fun a => a.1.ok ∧ okL a.2.1 ∧ srchOk a.1 a.2.1 a.2.2.1 a.2.2.2 ∧ 16 < a.2.2.1 + (k : Int)) (fun a => .tup [ptD (srch a.1 (16 - a.2.2.1).toNat a.2.1 a.2.2.2).1, .bool (srch a.1 (16 - a.2.2.1).toNat a.2.1 a.2.2.2).2])
theorem call_srch (k : Nat) (d : Bx) (l : List Bx) (a : Int) (v : List Int) (h : srchOk d l a v) (hk : 16 < a + (k : Int)) :
    sp_srch k [bxD d, .slc (nz 32 (l.map bxD)) (l.map bxD) false, .int .i64 a, ptD v] = some (.tup [ptD (srch d (16 - a).toNat l v).1, .bool (srch d (16 - a).toNat l v).2]) :=
  spOf_encP (fun ⟨a0, a1, a2, a3⟩ ⟨b0, b1, b2, b3⟩ p q h => by
    obtain ⟨p1, p2, _⟩ := p
    obtain ⟨q1, q2, _⟩ := q
    dsimp only at p1 p2 q1 q2
    simp only [List.cons.injEq, D.slc.injEq, D.int.injEq, D.bool.injEq, D.str.injEq, D.agg.injEq, digs_iff, dig_iff, digC_iff, bytes_iff, byte_iff, words_iff, word_iff, bsl_iff, true_and, and_true, ints_iff, nI_iff, tsts_iff, clss_iff, clsD_iff, tarD_iff, tstD_iff, ptD_iff, Int.ofNat_inj, bxD_cond p1 q1, boxs_cond p2 q2] at h
    simp [h, Prod.ext_iff]) (d, l, a, v) ⟨h.1, h.2.1, h, hk⟩

set_option maxHeartbeats 4000000 in
set_option maxRecDepth 20000 in
theorem w_srch (k : Nat) (d : Bx) (l : List Bx) (a : Int) (v : List Int) (h : srchOk d l a v) (hk : 16 < a + ((k + 1 : Nat) : Int)) :
    @wW GG (tb [(62, sp_rat), (61, sp_rafter), (44, sp_srch k)] []) F_wagonpoolref19_search.code (argF [bxD d, .slc (nz 32 (l.map bxD)) (l.map bxD) false, .int .i64 a, ptD v]) [] ⟨retQ F_wagonpoolref19_search.res (.tup [ptD (srch d (16 - a).toNat l v).1, .bool (srch d (16 - a).toNat l v).2])⟩ := by
  obtain ⟨hok, hl, hhi, hd, hlo, hlen, ha0, ha1, hv⟩ := h
  obtain ⟨A, rfl⟩ := Int.eq_ofNat_of_zero_le ha0
  have hA : A ≤ 16 := by omega
  have e16 : ((16 : Int) - (A : Int)).toNat = 16 - A := by omega
  rw [e16]
  unfold F_wagonpoolref19_search
  by_cases hl0 : l = []
  · subst hl0
    have es : srch d (16 - A) [] v = (v.take A ++ d.lo.drop A, true) := by
      rcases Nat.lt_or_ge A 16 with h | h
      · rw [show 16 - A = (15 - A) + 1 by omega]
        simp only [srch, List.isEmpty_nil, if_true, show 15 - (15 - A) = A by omega]
      · obtain rfl : A = 16 := by omega
        simp only [Nat.sub_self, srch, List.isEmpty_nil, if_true]
    rw [es]
    simp (disch := first | omega | decide) only [push_cast, ↓wF_free, ↓reduceIte, Nat.reduceEqDiff, Nat.reduceLT, Nat.reduceLeDiff, Nat.reduceAdd, Nat.reduceSub, Nat.reduceMul, Nat.reduceBEq, Int.reduceLT, Int.reduceLE, Int.reduceToNat, Int.reduceNeg, Int.reducePow, Int.reduceAdd, Int.reduceMul, Int.reduceSub, ↓Int.reduceNatCast']
    refine W_while (fun i : Nat => [(4, .ptr 0 0), (7, .ptr 1 0), (8, .ptr 2 0), (10, .int .i64 (i : Int))]) (fun i => [⟨false, 1, bxC d, false⟩, ⟨false, 1, (cpI v d.lo A i).map nI, false⟩, ⟨false, 1, z16.map nI, false⟩]) (fun i => A ≤ i ∧ i ≤ 16) (fun i => 16 - i) A (by simp only [push_cast, ↓wF_free, ↓reduceIte, Nat.reduceEqDiff, Nat.reduceLT, Nat.reduceLeDiff, Nat.reduceAdd, Nat.reduceSub, Nat.reduceMul, Nat.reduceBEq, Int.reduceLT, Int.reduceLE, Int.reduceToNat, Int.reduceNeg, Int.reducePow, Int.reduceAdd, Int.reduceMul, Int.reduceSub, ↓Int.reduceNatCast', cpI_zero v d.lo hv hok.1 A hA] <;> rfl) ⟨Nat.le_refl _, hA⟩ ?_
    rintro i ⟨hi1, hi2⟩
    unfold F_wagonpoolref19_search_L0
    simp (disch := first | omega | decide) only [push_cast, ↓wF_free, ↓reduceIte, Nat.reduceEqDiff, Nat.reduceLT, Nat.reduceLeDiff, Nat.reduceAdd, Nat.reduceSub, Nat.reduceMul, Nat.reduceBEq, Int.reduceLT, Int.reduceLE, Int.reduceToNat, Int.reduceNeg, Int.reducePow, Int.reduceAdd, Int.reduceMul, Int.reduceSub, ↓Int.reduceNatCast']
    have hcl := cpI_len v d.lo hv hok.1 A i hi1 hi2
    refine ifD_split (fun h2 => ?_) (fun h2 => ?_)
    · have hlt : i < 16 := by omega
      have l1 := ldB_lo 1 false hok i hlt
      have s1 := stPt 1 hcl i (at' d.lo i) hlt
      rw [cpI_step v d.lo hv hok.1 A i hi1 hlt] at s1
      simp (disch := first | omega | decide) only [push_cast, ↓wF_free, ↓reduceIte, Nat.reduceEqDiff, Nat.reduceLT, Nat.reduceLeDiff, Nat.reduceAdd, Nat.reduceSub, Nat.reduceMul, Nat.reduceBEq, Int.reduceLT, Int.reduceLE, Int.reduceToNat, Int.reduceNeg, Int.reducePow, Int.reduceAdd, Int.reduceMul, Int.reduceSub, ↓Int.reduceNatCast', idxA_ptr, l1, s1, add_i]
      refine next_head (i + 1) (by omega) (by omega) ?_
      simp only [push_cast, ↓wF_free, ↓reduceIte, Nat.reduceEqDiff, Nat.reduceLT, Nat.reduceLeDiff, Nat.reduceAdd, Nat.reduceSub, Nat.reduceMul, Nat.reduceBEq, Int.reduceLT, Int.reduceLE, Int.reduceToNat, Int.reduceNeg, Int.reducePow, Int.reduceAdd, Int.reduceMul, Int.reduceSub, ↓Int.reduceNatCast'] <;> rfl
    · obtain rfl : i = 16 := by omega
      rw [cpI_all v d.lo hv hok.1 A hA] at hcl ⊢
      simp (disch := first | omega | decide) only [push_cast, ↓wF_free, ↓reduceIte, Nat.reduceEqDiff, Nat.reduceLT, Nat.reduceLeDiff, Nat.reduceAdd, Nat.reduceSub, Nat.reduceMul, Nat.reduceBEq, Int.reduceLT, Int.reduceLE, Int.reduceToNat, Int.reduceNeg, Int.reducePow, Int.reduceAdd, Int.reduceMul, Int.reduceSub, ↓Int.reduceNatCast', ldP _ _ hcl, stP _ z16_length hcl]
  · have hle : l.isEmpty = false := by simpa using hl0
    have hln : ¬ ((l.length : Int) = 0) := by
      have := List.length_pos_iff.2 hl0
      omega
    by_cases h16 : A = 16
    · subst h16
      have es : srch d (16 - 16) l v = (v, false) := by simp only [Nat.sub_self, srch, hle, Bool.false_eq_true, if_false]
      rw [es]
      simp (disch := first | omega | decide) only [push_cast, ↓wF_free, ↓reduceIte, Nat.reduceEqDiff, Nat.reduceLT, Nat.reduceLeDiff, Nat.reduceAdd, Nat.reduceSub, Nat.reduceMul, Nat.reduceBEq, Int.reduceLT, Int.reduceLE, Int.reduceToNat, Int.reduceNeg, Int.reducePow, Int.reduceAdd, Int.reduceMul, Int.reduceSub, ↓Int.reduceNatCast', hln, ldP _ _ hv, stP _ z16_length hv]
    · have hA2 : A < 16 := by omega
      have es : srch d (16 - A) l v = scanG (at' d.hi A) (fun n => afterL l A n maxA1) (fun n v => if (srch d (15 - A) (atL l A n) (v.set A n)).2 then ((srch d (15 - A) (atL l A n) (v.set A n)).1, true) else (v.set A n, false)) (l.length + 1) (at' d.lo A) v := by
        rw [show 16 - A = (15 - A) + 1 by omega]
        simp only [srch, hle, Bool.false_eq_true, if_false, show 15 - (15 - A) = A by omega]
      have hAn : ¬ ((A : Int) = 16) := by omega
      have l1 := ldB_lo 1 false hok A hA2
      have l2 := ldB_hi 1 false hok A hA2
      simp (disch := first | omega | decide) only [push_cast, ↓wF_free, ↓reduceIte, Nat.reduceEqDiff, Nat.reduceLT, Nat.reduceLeDiff, Nat.reduceAdd, Nat.reduceSub, Nat.reduceMul, Nat.reduceBEq, Int.reduceLT, Int.reduceLE, Int.reduceToNat, Int.reduceNeg, Int.reducePow, Int.reduceAdd, Int.reduceMul, Int.reduceSub, ↓Int.reduceNatCast', hln, hAn, idxA_ptr, l1]
      rw [es]
      have hdh := hd.hi A hA2
      generalize hR : scanG (at' d.hi A) (fun n => afterL l A n maxA1) (fun n v => if (srch d (15 - A) (atL l A n) (v.set A n)).2 then ((srch d (15 - A) (atL l A n) (v.set A n)).1, true) else (v.set A n, false)) (l.length + 1) (at' d.lo A) v = R
      refine W_while (fun i : Nat × Int × List Int => [(1, .slc (nz 32 (l.map bxD)) (l.map bxD) false), (2, .int .i64 (A : Int)), (4, .ptr 0 0), (7, .ptr 1 0), (8, .ptr 2 0), (11, .int .i64 i.2.1)]) (fun i => [⟨false, 1, bxC d, false⟩, ⟨false, 1, i.2.2.map nI, false⟩, ⟨false, 1, z16.map nI, false⟩])
        (fun i => i.2.2.length = 16 ∧ at' d.lo A ≤ i.2.1 ∧ enough l A (at' d.hi A) i.2.1 i.1 ∧ R = scanG (at' d.hi A) (fun n => afterL l A n maxA1) (fun n v => if (srch d (15 - A) (atL l A n) (v.set A n)).2 then ((srch d (15 - A) (atL l A n) (v.set A n)).1, true) else (v.set A n, false)) i.1 i.2.1 i.2.2) (fun i => i.1) (l.length + 1, at' d.lo A, v) (by simp only [push_cast, ↓wF_free, ↓reduceIte, Nat.reduceEqDiff, Nat.reduceLT, Nat.reduceLeDiff, Nat.reduceAdd, Nat.reduceSub, Nat.reduceMul, Nat.reduceBEq, Int.reduceLT, Int.reduceLE, Int.reduceToNat, Int.reduceNeg, Int.reducePow, Int.reduceAdd, Int.reduceMul, Int.reduceSub, ↓Int.reduceNatCast'] <;> rfl) ⟨hv, Int.le_refl _, enough_start _ _ _ _, hR.symm⟩ ?_
      rintro ⟨K, n, u⟩ ⟨hu, hn, hen, hsc⟩
      dsimp only at hu hn hen hsc
      unfold F_wagonpoolref19_search_L1
      simp (disch := first | omega | decide) only [push_cast, ↓wF_free, ↓reduceIte, Nat.reduceEqDiff, Nat.reduceLT, Nat.reduceLeDiff, Nat.reduceAdd, Nat.reduceSub, Nat.reduceMul, Nat.reduceBEq, Int.reduceLT, Int.reduceLE, Int.reduceToNat, Int.reduceNeg, Int.reducePow, Int.reduceAdd, Int.reduceMul, Int.reduceSub, ↓Int.reduceNatCast', idxA_ptr, l2]
      have hlA := hlo A hA2
      refine ifD_split (fun h2 => ?_) (fun h2 => ?_)
      · cases K with
        | zero =>
          exfalso
          rcases hen with h | h
          · omega
          · omega
        | succ K =>
          have s1 := stPt 1 hu A n hA2
          have hus : (u.set A n).length = 16 := by rw [List.length_set]; exact hu
          have c1 := call_rat l (A : Int) n ⟨hlen, hl, by omega, by omega⟩
          have c2 := call_rafter l (A : Int) n ⟨hlen, hl, hhi, by omega, by omega, by omega, by omega⟩
          rw [Int.toNat_natCast] at c1 c2
          have hlen2 := atL_len l A n
          have c3 := call_srch k d (atL l A n) ((A : Int) + 1) (u.set A n) ⟨hok, atL_ok hl A n, hiL_atL hhi A n, hd, hlo, by omega, by omega, by omega, hus⟩ (by push_cast at hk; omega)
          rw [show ((16 : Int) - ((A : Int) + 1)).toNat = 15 - A by omega] at c3
          have hsl := srch_len hd (15 - A) (by omega) (atL l A n) (u.set A n) hus
          have nr := pt_noRef2 (srch d (15 - A) (atL l A n) (u.set A n)).1 (srch d (15 - A) (atL l A n) (u.set A n)).2
          simp only [scanG, if_pos h2] at hsc
          have hnx := enough_next hen h2 hdh
          have hgt := (afterL_spec A n l maxA1 (by unfold maxA1; omega)).1
          cases hr : (srch d (15 - A) (atL l A n) (u.set A n)).2 with
          | true =>
            rw [hr] at c3 hsc nr
            simp only [hr, if_true] at hsc
            rw [hsc]
            simp (disch := first | omega | decide) only [push_cast, ↓wF_free, ↓reduceIte, Nat.reduceEqDiff, Nat.reduceLT, Nat.reduceLeDiff, Nat.reduceAdd, Nat.reduceSub, Nat.reduceMul, Nat.reduceBEq, Int.reduceLT, Int.reduceLE, Int.reduceToNat, Int.reduceNeg, Int.reducePow, Int.reduceAdd, Int.reduceMul, Int.reduceSub, ↓Int.reduceNatCast', idxA_ptr, s1, ldB _ _ hok, c1, add_i, ldP _ _ hus, c3, nr, stP _ z16_length hsl, ldP _ _ hsl]
          | false =>
            rw [hr] at c3 hsc nr
            simp only [hr, Bool.false_eq_true, if_false] at hsc
            simp (disch := first | omega | decide) only [push_cast, ↓wF_free, ↓reduceIte, Nat.reduceEqDiff, Nat.reduceLT, Nat.reduceLeDiff, Nat.reduceAdd, Nat.reduceSub, Nat.reduceMul, Nat.reduceBEq, Int.reduceLT, Int.reduceLE, Int.reduceToNat, Int.reduceNeg, Int.reducePow, Int.reduceAdd, Int.reduceMul, Int.reduceSub, ↓Int.reduceNatCast', idxA_ptr, s1, ldB _ _ hok, c1, add_i, ldP _ _ hus, c3, nr, stP _ z16_length hsl, c2]
            refine next_head (K, afterL l A n maxA1, u.set A n) (by exact ⟨hus, Int.le_trans hn (Int.le_of_lt hgt), hnx, hsc⟩) (by dsimp only; omega) ?_
            simp only [push_cast, ↓wF_free, ↓reduceIte, Nat.reduceEqDiff, Nat.reduceLT, Nat.reduceLeDiff, Nat.reduceAdd, Nat.reduceSub, Nat.reduceMul, Nat.reduceBEq, Int.reduceLT, Int.reduceLE, Int.reduceToNat, Int.reduceNeg, Int.reducePow, Int.reduceAdd, Int.reduceMul, Int.reduceSub, ↓Int.reduceNatCast'] <;> rfl
      · have e : scanG (at' d.hi A) (fun n => afterL l A n maxA1) (fun n v => if (srch d (15 - A) (atL l A n) (v.set A n)).2 then ((srch d (15 - A) (atL l A n) (v.set A n)).1, true) else (v.set A n, false)) K n u = (u, false) := by
          cases K with
          | zero => rfl
          | succ K => simp only [scanG, if_neg h2]
        rw [hsc, e]
        simp (disch := first | omega | decide) only [push_cast, ↓wF_free, ↓reduceIte, Nat.reduceEqDiff, Nat.reduceLT, Nat.reduceLeDiff, Nat.reduceAdd, Nat.reduceSub, Nat.reduceMul, Nat.reduceBEq, Int.reduceLT, Int.reduceLE, Int.reduceToNat, Int.reduceNeg, Int.reducePow, Int.reduceAdd, Int.reduceMul, Int.reduceSub, ↓Int.reduceNatCast', ldP _ _ hu, stP _ z16_length hu]
theorem c_srch : ∀ k, Contract Try.prog GG 44 (sp_srch k)
  | 0 => contract_of tr_wagonpoolref19_search (T := tb [] []) (tb_ok all_nil all_nil) (fun a h => by
    obtain ⟨_, _, h2, h1⟩ := h
    have := h2.2.2.2.2.2.2.2.1
    simp at h1; omega)
  | k + 1 => contract_of tr_wagonpoolref19_search (T := tb [(62, sp_rat), (61, sp_rafter), (44, sp_srch k)] []) (tb_ok (all_cons c_rat (all_cons c_rafter (all_cons (c_srch k) all_nil))) all_nil) (fun a h => w_srch k a.1 a.2.1 a.2.2.1 a.2.2.2 h.2.2.1 h.2.2.2)
end Go.Proofs.Ytgppecaeegaooaa.PI
