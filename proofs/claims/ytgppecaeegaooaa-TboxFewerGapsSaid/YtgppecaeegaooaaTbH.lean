/-
  tbox: the program's search for the least case, carried out.
  Conditions: none; these are lemmas.
-/
import Derived.Test.YtgppecaeegaooaaTbG
namespace Go.Proofs.Ytgppecaeegaooaa.PI
open Go
set_option linter.unusedSimpArgs false
set_option linter.unusedVariables false
theorem siOf_encP {α : Type} {enc : α → List D × St} {pre : α → Prop} {f : α → D × St} (hinj : ∀ a b, pre a → pre b → enc a = enc b → f a = f b) (a : α) (hp : pre a) {ds : List D} {st : St} (he : enc a = (ds, st)) : siOf enc pre f ds st = some (f a) := by
  have hx : ∃ b, enc b = (ds, st) ∧ pre b := ⟨a, he, hp⟩
  unfold siOf
  rw [dif_pos hx]
  rw [hinj _ _ hx.choose_spec.2 hp (hx.choose_spec.1.trans he.symm)]
theorem memD_inj {F G : Mem} (h : memD F = memD G) : F = G := by
  refine map_inj (f := entD) (fun a b e => ?_) h
  obtain ⟨a1, a2⟩ := a
  obtain ⟨b1, b2⟩ := b
  simp only [entD, D.agg.injEq, List.cons.injEq, D.int.injEq, true_and, and_true] at e
  rw [Int.ofNat.inj e.1, Int.ofNat.inj e.2]
theorem bxC_inj {a b : Bx} (ha : a.ok) (hb : b.ok) (h : bxC a = bxC b) : a = b := bxD_inj ha hb (by unfold bxD; rw [h])
theorem tarC_inj {a b : Tar} (h : tarC a = tarC b) : a = b := tarD_iff.1 (by unfold tarD; rw [h])
structure FromOk (d : Bx) (bs : List Bx) (p : List Int) (a s : Nat) : Prop where
  dom : Dom d
  lo : ∀ i, i < 16 → 0 ≤ at' d.lo i
  ok : okL bs
  hi : hiL bs
  ne : bs ≠ []
  le : bs.length ≤ 16
  a16 : a ≤ 16
  s16 : s < 2 ^ bs.length
  pl : p.length = 16
theorem scanG_inv {σ : Type} {hi : Int} {nx : Int → Int} {rec : Int → σ → σ × Bool} (Inv : σ → Prop) (h : ∀ n s, Inv s → Inv (rec n s).1) : ∀ (k : Nat) (n : Int) (s : σ), Inv s → Inv (scanG hi nx rec k n s).1
  | 0, n, s, hs => hs
  | k + 1, n, s, hs => by
    simp only [scanG]
    split
    · split
      · exact h n s hs
      · exact scanG_inv Inv h k _ _ (h n s hs)
    · exact hs
theorem fromF_len {d : Bx} {bs : List Bx} (hd : d.ok) : ∀ (m : Nat), m ≤ 16 → ∀ (s : Nat) (q : List Int × Mem), q.1.length = 16 → (fromF d bs m s q).1.1.length = 16
  | 0, hm, s, q, hq => by
    simp only [fromF]
    split
    · simp [hq, hd.1]
    · exact hq
  | m + 1, hm, s, q, hq => by
    simp only [fromF]
    split
    · simp [hq, hd.1]; omega
    · split
      · exact hq
      · have := scanG_inv (σ := List Int × Mem) (hi := at' d.hi (15 - m)) (nx := fun n => afterL (selL bs s) (15 - m) n maxA1) (rec := fun n q => fromF d bs m (restS bs (15 - m) s n) (q.1.set (15 - m) n, q.2)) (fun q => q.1.length = 16) (fun n s hs => fromF_len hd m (by omega) _ _ (by simp only [List.length_set]; exact hs)) (bs.length + 1) (at' d.lo (15 - m)) q hq
        split
        · exact this
        · exact this
noncomputable def si_from (k : Nat) : List D → St → Option (D × St) := siOf (α := Tar × Bx × List Bx × (List Int × Mem) × Nat × Nat)
  (fun ⟨t, d, bs, q, a, s⟩ => ([.int .i64 (a : Int), .int .i64 (s : Int), .ptr 7 0, .ptr 5 0, .ptr 9 0, .ptr 6 0, .ptr 10 0], [⟨false, 1, tarC t, false⟩, ⟨false, 1, envC 0 z16, false⟩, ⟨false, 1, bxC d, false⟩, ⟨true, 32, bs.map bxD, false⟩, ⟨false, 1, (q.1).map nI, false⟩, ⟨false, 1, bxC d, false⟩, ⟨false, 1, [.row 3 bs.length 0 bs.length], false⟩, ⟨false, 1, [.ptr 4 0], false⟩, ⟨false, 3, memD (q.2), false⟩, ⟨false, 1, [.mapv 8], false⟩, ⟨false, 1, [.clo 56 [.ptr 7 0, .ptr 5 0, .ptr 9 0, .ptr 6 0, .ptr 10 0]], false⟩]))
  (fun ⟨t, d, bs, q, a, s⟩ => FromOk d bs q.1 a s ∧ 16 < a + k)
  (fun ⟨t, d, bs, q, a, s⟩ => (.bool (fromF d bs (16 - a) s q).2, [⟨false, 1, tarC t, false⟩, ⟨false, 1, envC 0 z16, false⟩, ⟨false, 1, bxC d, false⟩, ⟨true, 32, bs.map bxD, false⟩, ⟨false, 1, ((fromF d bs (16 - a) s q).1.1).map nI, false⟩, ⟨false, 1, bxC d, false⟩, ⟨false, 1, [.row 3 bs.length 0 bs.length], false⟩, ⟨false, 1, [.ptr 4 0], false⟩, ⟨false, 3, memD ((fromF d bs (16 - a) s q).1.2), false⟩, ⟨false, 1, [.mapv 8], false⟩, ⟨false, 1, [.clo 56 [.ptr 7 0, .ptr 5 0, .ptr 9 0, .ptr 6 0, .ptr 10 0]], false⟩]))
theorem call_from (k : Nat) (t : Tar) (d : Bx) (bs : List Bx) (p : List Int) (F : Mem) (a s : Nat) (h : FromOk d bs p a s) (hk : 16 < a + k) :
    si_from k [.int .i64 (a : Int), .int .i64 (s : Int), .ptr 7 0, .ptr 5 0, .ptr 9 0, .ptr 6 0, .ptr 10 0] [⟨false, 1, tarC t, false⟩, ⟨false, 1, envC 0 z16, false⟩, ⟨false, 1, bxC d, false⟩, ⟨true, 32, bs.map bxD, false⟩, ⟨false, 1, (p).map nI, false⟩, ⟨false, 1, bxC d, false⟩, ⟨false, 1, [.row 3 bs.length 0 bs.length], false⟩, ⟨false, 1, [.ptr 4 0], false⟩, ⟨false, 3, memD (F), false⟩, ⟨false, 1, [.mapv 8], false⟩, ⟨false, 1, [.clo 56 [.ptr 7 0, .ptr 5 0, .ptr 9 0, .ptr 6 0, .ptr 10 0]], false⟩] = some (.bool (fromF d bs (16 - a) s (p, F)).2, [⟨false, 1, tarC t, false⟩, ⟨false, 1, envC 0 z16, false⟩, ⟨false, 1, bxC d, false⟩, ⟨true, 32, bs.map bxD, false⟩, ⟨false, 1, ((fromF d bs (16 - a) s (p, F)).1.1).map nI, false⟩, ⟨false, 1, bxC d, false⟩, ⟨false, 1, [.row 3 bs.length 0 bs.length], false⟩, ⟨false, 1, [.ptr 4 0], false⟩, ⟨false, 3, memD ((fromF d bs (16 - a) s (p, F)).1.2), false⟩, ⟨false, 1, [.mapv 8], false⟩, ⟨false, 1, [.clo 56 [.ptr 7 0, .ptr 5 0, .ptr 9 0, .ptr 6 0, .ptr 10 0]], false⟩]) := by
  refine siOf_encP (α := Tar × Bx × List Bx × (List Int × Mem) × Nat × Nat) ?_ (t, d, bs, (p, F), a, s) ⟨h, hk⟩ rfl
  rintro ⟨t1, d1, b1, ⟨p1, F1⟩, a1, s1⟩ ⟨t2, d2, b2, ⟨p2, F2⟩, a2, s2⟩ ⟨k1, _⟩ ⟨k2, _⟩ e
  dsimp only at e
  simp only [Prod.mk.injEq, List.cons.injEq, D.int.injEq, Obj.mk.injEq, ints_iff, boxs_cond k1.ok k2.ok, and_true, true_and] at e
  obtain ⟨⟨e1, e2⟩, e3, e4, e5, e6, _, _, e7⟩ := e
  obtain rfl := tarC_inj e3
  obtain rfl := bxC_inj k1.dom.ok k2.dom.ok e4
  subst e5
  subst e6
  obtain rfl := memD_inj e7
  obtain rfl : a1 = a2 := by omega
  obtain rfl : s1 = s2 := by omega
  rfl
set_option maxHeartbeats 8000000 in
set_option maxRecDepth 20000 in
theorem w_from (k : Nat) (t : Tar) (d : Bx) (bs : List Bx) (p : List Int) (F : Mem) (a s : Nat) (h : FromOk d bs p a s) (hk : 16 < a + (k + 1)) :
    @wW GG (tb [] [(56, si_from k)]) F_tbox_uncovered_1.code (argF [.int .i64 (a : Int), .int .i64 (s : Int), .ptr 7 0, .ptr 5 0, .ptr 9 0, .ptr 6 0, .ptr 10 0]) [⟨false, 1, tarC t, false⟩, ⟨false, 1, envC 0 z16, false⟩, ⟨false, 1, bxC d, false⟩, ⟨true, 32, bs.map bxD, false⟩, ⟨false, 1, (p).map nI, false⟩, ⟨false, 1, bxC d, false⟩, ⟨false, 1, [.row 3 bs.length 0 bs.length], false⟩, ⟨false, 1, [.ptr 4 0], false⟩, ⟨false, 3, memD (F), false⟩, ⟨false, 1, [.mapv 8], false⟩, ⟨false, 1, [.clo 56 [.ptr 7 0, .ptr 5 0, .ptr 9 0, .ptr 6 0, .ptr 10 0]], false⟩]
      ⟨@retI F_tbox_uncovered_1.res ⟨fun d' st' => (lowR (@List.length Obj [⟨false, 1, tarC t, false⟩, ⟨false, 1, envC 0 z16, false⟩, ⟨false, 1, bxC d, false⟩, ⟨true, 32, bs.map bxD, false⟩, ⟨false, 1, (p).map nI, false⟩, ⟨false, 1, bxC d, false⟩, ⟨false, 1, [.row 3 bs.length 0 bs.length], false⟩, ⟨false, 1, [.ptr 4 0], false⟩, ⟨false, 3, memD (F), false⟩, ⟨false, 1, [.mapv 8], false⟩, ⟨false, 1, [.clo 56 [.ptr 7 0, .ptr 5 0, .ptr 9 0, .ptr 6 0, .ptr 10 0]], false⟩]) d', cut (@List.length Obj [⟨false, 1, tarC t, false⟩, ⟨false, 1, envC 0 z16, false⟩, ⟨false, 1, bxC d, false⟩, ⟨true, 32, bs.map bxD, false⟩, ⟨false, 1, (p).map nI, false⟩, ⟨false, 1, bxC d, false⟩, ⟨false, 1, [.row 3 bs.length 0 bs.length], false⟩, ⟨false, 1, [.ptr 4 0], false⟩, ⟨false, 3, memD (F), false⟩, ⟨false, 1, [.mapv 8], false⟩, ⟨false, 1, [.clo 56 [.ptr 7 0, .ptr 5 0, .ptr 9 0, .ptr 6 0, .ptr 10 0]], false⟩]) st') = (.bool (fromF d bs (16 - a) s (p, F)).2, [⟨false, 1, tarC t, false⟩, ⟨false, 1, envC 0 z16, false⟩, ⟨false, 1, bxC d, false⟩, ⟨true, 32, bs.map bxD, false⟩, ⟨false, 1, ((fromF d bs (16 - a) s (p, F)).1.1).map nI, false⟩, ⟨false, 1, bxC d, false⟩, ⟨false, 1, [.row 3 bs.length 0 bs.length], false⟩, ⟨false, 1, [.ptr 4 0], false⟩, ⟨false, 3, memD ((fromF d bs (16 - a) s (p, F)).1.2), false⟩, ⟨false, 1, [.mapv 8], false⟩, ⟨false, 1, [.clo 56 [.ptr 7 0, .ptr 5 0, .ptr 9 0, .ptr 6 0, .ptr 10 0]], false⟩])⟩⟩ := by
  obtain ⟨hd, hlo, hok, hhi, hne, hle, ha, hs, hp⟩ := h
  have hdk := hd.ok
  unfold F_tbox_uncovered_1
  by_cases hs0 : s = 0
  · subst hs0
    by_cases ha2 : a < 16
    · have es : fromF d bs (16 - a) 0 (p, F) = ((p.take a ++ d.lo.drop a, F), true) := by
        rw [show 16 - a = (15 - a) + 1 by omega]
        simp only [fromF, if_true, show 15 - (15 - a) = a by omega]
      rw [es]
      have c1 := cp_pt hp hdk a ha2
      have c2 := fun st => pcpy_bsl st 4 a (16 - a) 5 a 1 false false (by omega) (by omega)
      have e1 := sliceA_from 4 0 .i64 a ha2
      have e2 := sliceA_from 5 0 .i64 a ha2
      rw [Nat.mul_one, Nat.zero_add] at e1 e2
      simp (disch := first | omega | decide) only [push_cast, ↓wF_free, ↓reduceIte, Nat.reduceEqDiff, Nat.reduceLT, Nat.reduceLeDiff, Nat.reduceAdd, Nat.reduceSub, Nat.reduceMul, Nat.reduceBEq, Int.reduceLT, Int.reduceLE, Int.reduceToNat, Int.reduceNeg, Int.reducePow, Int.reduceAdd, Int.reduceMul, Int.reduceSub, ↓Int.reduceNatCast', Int.ofNat_zero, e1, e2, c2, c1]
    · obtain rfl : a = 16 := by omega
      have es : fromF d bs (16 - 16) 0 (p, F) = ((p, F), true) := by
        simp only [Nat.sub_self, fromF, if_true]
        rw [List.take_of_length_le (by omega), List.drop_of_length_le (by rw [hdk.1]; omega), List.append_nil]
      rw [es]
      simp (disch := first | omega | decide) only [push_cast, ↓wF_free, ↓reduceIte, Nat.reduceEqDiff, Nat.reduceLT, Nat.reduceLeDiff, Nat.reduceAdd, Nat.reduceSub, Nat.reduceMul, Nat.reduceBEq, Int.reduceLT, Int.reduceLE, Int.reduceToNat, Int.reduceNeg, Int.reducePow, Int.reduceAdd, Int.reduceMul, Int.reduceSub, ↓Int.reduceNatCast', Int.ofNat_zero, sliceA_end, pcpy_nil]
  · have hsn : ¬ ((s : Int) = 0) := by omega
    by_cases ha2 : a < 16
    · have han : ¬ ((a : Int) = 16) := by omega
      cases hc : F.contains (a, s) with
      | true =>
        have es : fromF d bs (16 - a) s (p, F) = ((p, F), false) := by
          rw [show 16 - a = (15 - a) + 1 by omega]
          simp only [fromF, hs0, show 15 - (15 - a) = a by omega, hc, if_true, if_false]
        rw [es]
        have mg := mg_mem F a s false
        rw [hc] at mg
        simp (disch := first | omega | decide) only [push_cast, ↓wF_free, ↓reduceIte, Nat.reduceEqDiff, Nat.reduceLT, Nat.reduceLeDiff, Nat.reduceAdd, Nat.reduceSub, Nat.reduceMul, Nat.reduceBEq, Int.reduceLT, Int.reduceLE, Int.reduceToNat, Int.reduceNeg, Int.reducePow, Int.reduceAdd, Int.reduceMul, Int.reduceSub, ↓Int.reduceNatCast', hsn, han, mg]
      | false =>
        have es : fromF d bs (16 - a) s (p, F) = if (scanG (at' d.hi a) (fun n => afterL (selL bs s) a n maxA1) (fun n q => fromF d bs (15 - a) (restS bs a s n) (q.1.set a n, q.2)) (bs.length + 1) (at' d.lo a) (p, F)).2 then scanG (at' d.hi a) (fun n => afterL (selL bs s) a n maxA1) (fun n q => fromF d bs (15 - a) (restS bs a s n) (q.1.set a n, q.2)) (bs.length + 1) (at' d.lo a) (p, F)
            else (((scanG (at' d.hi a) (fun n => afterL (selL bs s) a n maxA1) (fun n q => fromF d bs (15 - a) (restS bs a s n) (q.1.set a n, q.2)) (bs.length + 1) (at' d.lo a) (p, F)).1.1, insM (scanG (at' d.hi a) (fun n => afterL (selL bs s) a n maxA1) (fun n q => fromF d bs (15 - a) (restS bs a s n) (q.1.set a n, q.2)) (bs.length + 1) (at' d.lo a) (p, F)).1.2 (a, s)), false) := by
          rw [show 16 - a = (15 - a) + 1 by omega]
          simp only [fromF, hs0, show 15 - (15 - a) = a by omega, hc, Bool.false_eq_true, if_false]
        have mg := mg_mem F a s false
        rw [hc] at mg
        have l1 := ldB_lo 1 false hdk a ha2
        have l2 := ldB_hi 1 false hdk a ha2
        have hen0 : enough (selL bs s) a (at' d.hi a) (at' d.lo a) (bs.length + 1) := .inl (by have := cnt_le (selL bs s) a (at' d.lo a); have := sel_length bs s; omega)
        have hdh := hd.hi a ha2
        have hlA := hlo a ha2
        generalize hR : scanG (at' d.hi a) (fun n => afterL (selL bs s) a n maxA1) (fun n q => fromF d bs (15 - a) (restS bs a s n) (q.1.set a n, q.2)) (bs.length + 1) (at' d.lo a) (p, F) = R at es
        rw [es]
        simp (disch := first | omega | decide) only [push_cast, ↓wF_free, ↓reduceIte, Nat.reduceEqDiff, Nat.reduceLT, Nat.reduceLeDiff, Nat.reduceAdd, Nat.reduceSub, Nat.reduceMul, Nat.reduceBEq, Int.reduceLT, Int.reduceLE, Int.reduceToNat, Int.reduceNeg, Int.reducePow, Int.reduceAdd, Int.reduceMul, Int.reduceSub, ↓Int.reduceNatCast', hsn, han, mg, idxA_ptr, l1]
        refine W_while (fun i : Nat × Int × List Int × Mem => [(0, .int .i64 (a : Int)), (1, .int .i64 (s : Int)), (2, .ptr 7 0), (3, .ptr 5 0), (4, .ptr 9 0), (5, .ptr 6 0), (6, .ptr 10 0), (10, .int .i64 i.2.1)]) (fun i => [⟨false, 1, tarC t, false⟩, ⟨false, 1, envC 0 z16, false⟩, ⟨false, 1, bxC d, false⟩, ⟨true, 32, bs.map bxD, false⟩, ⟨false, 1, (i.2.2.1).map nI, false⟩, ⟨false, 1, bxC d, false⟩, ⟨false, 1, [.row 3 bs.length 0 bs.length], false⟩, ⟨false, 1, [.ptr 4 0], false⟩, ⟨false, 3, memD (i.2.2.2), false⟩, ⟨false, 1, [.mapv 8], false⟩, ⟨false, 1, [.clo 56 [.ptr 7 0, .ptr 5 0, .ptr 9 0, .ptr 6 0, .ptr 10 0]], false⟩])
          (fun i => i.2.2.1.length = 16 ∧ at' d.lo a ≤ i.2.1 ∧ enough (selL bs s) a (at' d.hi a) i.2.1 i.1 ∧ R = scanG (at' d.hi a) (fun n => afterL (selL bs s) a n maxA1) (fun n q => fromF d bs (15 - a) (restS bs a s n) (q.1.set a n, q.2)) i.1 i.2.1 i.2.2) (fun i => i.1) (bs.length + 1, at' d.lo a, p, F) (by simp only [push_cast, ↓wF_free, ↓reduceIte, Nat.reduceEqDiff, Nat.reduceLT, Nat.reduceLeDiff, Nat.reduceAdd, Nat.reduceSub, Nat.reduceMul, Nat.reduceBEq, Int.reduceLT, Int.reduceLE, Int.reduceToNat, Int.reduceNeg, Int.reducePow, Int.reduceAdd, Int.reduceMul, Int.reduceSub, ↓Int.reduceNatCast'] <;> rfl)
          ⟨hp, Int.le_refl _, hen0, hR.symm⟩ ?_
        rintro ⟨K, n, u, G⟩ ⟨hu, hn, hen, hsc⟩
        dsimp only at hu hn hen hsc
        unfold F_tbox_uncovered_1_L1
        simp (disch := first | omega | decide) only [push_cast, ↓wF_free, ↓reduceIte, Nat.reduceEqDiff, Nat.reduceLT, Nat.reduceLeDiff, Nat.reduceAdd, Nat.reduceSub, Nat.reduceMul, Nat.reduceBEq, Int.reduceLT, Int.reduceLE, Int.reduceToNat, Int.reduceNeg, Int.reducePow, Int.reduceAdd, Int.reduceMul, Int.reduceSub, ↓Int.reduceNatCast', idxA_ptr, l2]
        refine ifD_split (fun h2 => ?_) (fun h2 => ?_)
        · cases K with
          | zero =>
            exfalso
            rcases hen with h | h
            · omega
            · omega
          | succ K =>
            have hlen := liR_map bxD 32 bs false bs.length rfl
            have hnx := enough_next hen h2 hdh
            have hgt := (afterL_spec a n (selL bs s) maxA1 (by unfold maxA1; omega)).1
            simp (disch := first | omega | decide) only [push_cast, ↓wF_free, ↓reduceIte, Nat.reduceEqDiff, Nat.reduceLT, Nat.reduceLeDiff, Nat.reduceAdd, Nat.reduceSub, Nat.reduceMul, Nat.reduceBEq, Int.reduceLT, Int.reduceLE, Int.reduceToNat, Int.reduceNeg, Int.reducePow, Int.reduceAdd, Int.reduceMul, Int.reduceSub, ↓Int.reduceNatCast', hlen]
            refine W_while (fun j : Nat => [(0, .int .i64 (a : Int)), (1, .int .i64 (s : Int)), (2, .ptr 7 0), (3, .ptr 5 0), (4, .ptr 9 0), (5, .ptr 6 0), (6, .ptr 10 0), (10, .int .i64 n), (11, .int .i64 (rsP bs a s n j : Int)), (12, .int .i64 (nxP bs a s n j)), (44, .row 3 bs.length 0 bs.length), (45, .int .i64 (bs.length : Int)), (46, .int .i64 (j : Int))]) (fun j => [⟨false, 1, tarC t, false⟩, ⟨false, 1, envC 0 z16, false⟩, ⟨false, 1, bxC d, false⟩, ⟨true, 32, bs.map bxD, false⟩, ⟨false, 1, (u).map nI, false⟩, ⟨false, 1, bxC d, false⟩, ⟨false, 1, [.row 3 bs.length 0 bs.length], false⟩, ⟨false, 1, [.ptr 4 0], false⟩, ⟨false, 3, memD (G), false⟩, ⟨false, 1, [.mapv 8], false⟩, ⟨false, 1, [.clo 56 [.ptr 7 0, .ptr 5 0, .ptr 9 0, .ptr 6 0, .ptr 10 0]], false⟩])
              (fun j => j ≤ bs.length) (fun j => bs.length - j) 0 (by simp only [push_cast, ↓wF_free, ↓reduceIte, Nat.reduceEqDiff, Nat.reduceLT, Nat.reduceLeDiff, Nat.reduceAdd, Nat.reduceSub, Nat.reduceMul, Nat.reduceBEq, Int.reduceLT, Int.reduceLE, Int.reduceToNat, Int.reduceNeg, Int.reducePow, Int.reduceAdd, Int.reduceMul, Int.reduceSub, ↓Int.reduceNatCast'] <;> rfl) (Nat.zero_le _) ?_
            intro j hj
            unfold F_tbox_uncovered_1_L0
            simp (disch := first | omega | decide) only [push_cast, ↓wF_free, ↓reduceIte, Nat.reduceEqDiff, Nat.reduceLT, Nat.reduceLeDiff, Nat.reduceAdd, Nat.reduceSub, Nat.reduceMul, Nat.reduceBEq, Int.reduceLT, Int.reduceLE, Int.reduceToNat, Int.reduceNeg, Int.reducePow, Int.reduceAdd, Int.reduceMul, Int.reduceSub, ↓Int.reduceNatCast']
            refine ifD_split (fun h3 => ?_) (fun h3 => ?_)
            · have hjl : j < bs.length := by omega
              have hb := okL_at hok j hjl
              have hbh := hiL_at hhi j hjl a ha2
              have i1 := ixR_map bxD 32 bs false 3 bs.length (j : Int) rfl (by omega) (by omega)
              rw [Int.toNat_natCast] at i1
              have g1 := ldR_bx bs false bs.length j hok rfl hjl
              have sk := P_skip (bs := bs) (a := a) (s := s) (n := n) hjl
              have tk := P_take (bs := bs) (a := a) (s := s) (n := n) hjl
              have hrs := rsP_lt bs a s n j hj
              have hp2 : (2 : Nat) ^ bs.length ≤ 2 ^ 16 := Nat.pow_le_pow_right (by decide) hle
              have hp3 : (2 : Nat) ^ 16 = 65536 := rfl
              have hq := Nat.div_le_self s (2 ^ j)
              have r1 := shr_nat (s := s) (k := j) (by omega) .i64
              have r2 := and_bit (x := s / 2 ^ j) (by omega)
              have hX2 : s / 2 ^ j % 2 < 2 := Nat.mod_lt _ (by decide)
              have r3 := shl_pow (k := j) (by omega) .i64
              have r4 := or_pow hrs (by omega)
              clear hp2 hp3 hq
              generalize (2 : Nat) ^ j = Z at *
              generalize s / Z = Y at *
              generalize Y % 2 = X at *
              generalize bs.getD j default = b at *
              have b1 := ldB_lo 1 false hb a ha2
              have b2 := ldB_hi 1 false hb a ha2
              simp (disch := first | omega | decide) only [push_cast, ↓wF_free, ↓reduceIte, Nat.reduceEqDiff, Nat.reduceLT, Nat.reduceLeDiff, Nat.reduceAdd, Nat.reduceSub, Nat.reduceMul, Nat.reduceBEq, Int.reduceLT, Int.reduceLE, Int.reduceToNat, Int.reduceNeg, Int.reducePow, Int.reduceAdd, Int.reduceMul, Int.reduceSub, ↓Int.reduceNatCast', i1, g1, stB _ zBx_ok hb, r1, r2, idxA_ptr, b2]
              by_cases k1 : X = 1
              · have k1' : ¬ ((X : Int) = 0) := by omega
                by_cases k2 : at' b.hi a < n
                · obtain ⟨x1, x2⟩ := sk (.inr k2)
                  simp (disch := first | omega | decide) only [push_cast, ↓wF_free, ↓reduceIte, Nat.reduceEqDiff, Nat.reduceLT, Nat.reduceLeDiff, Nat.reduceAdd, Nat.reduceSub, Nat.reduceMul, Nat.reduceBEq, Int.reduceLT, Int.reduceLE, Int.reduceToNat, Int.reduceNeg, Int.reducePow, Int.reduceAdd, Int.reduceMul, Int.reduceSub, ↓Int.reduceNatCast', k1', k2, idxA_ptr, b2, add_i]
                  refine next_head (j + 1) (by omega) (by omega) ?_
                  rw [x1, x2]
                  simp only [push_cast, ↓wF_free, ↓reduceIte, Nat.reduceEqDiff, Nat.reduceLT, Nat.reduceLeDiff, Nat.reduceAdd, Nat.reduceSub, Nat.reduceMul, Nat.reduceBEq, Int.reduceLT, Int.reduceLE, Int.reduceToNat, Int.reduceNeg, Int.reducePow, Int.reduceAdd, Int.reduceMul, Int.reduceSub, ↓Int.reduceNatCast'] <;> rfl
                · obtain ⟨x1, x2⟩ := tk k1 (by omega)
                  by_cases k3 : at' b.lo a ≤ n
                  · rw [if_pos k3] at x1
                    simp (disch := first | omega | decide) only [push_cast, ↓wF_free, ↓reduceIte, Nat.reduceEqDiff, Nat.reduceLT, Nat.reduceLeDiff, Nat.reduceAdd, Nat.reduceSub, Nat.reduceMul, Nat.reduceBEq, Int.reduceLT, Int.reduceLE, Int.reduceToNat, Int.reduceNeg, Int.reducePow, Int.reduceAdd, Int.reduceMul, Int.reduceSub, ↓Int.reduceNatCast', k1', k2, k3, idxA_ptr, b1, b2, add_i, r3, r4]
                    refine next_head (j + 1) (by omega) (by omega) ?_
                    rw [x1, x2]
                    simp only [push_cast, ↓wF_free, ↓reduceIte, Nat.reduceEqDiff, Nat.reduceLT, Nat.reduceLeDiff, Nat.reduceAdd, Nat.reduceSub, Nat.reduceMul, Nat.reduceBEq, Int.reduceLT, Int.reduceLE, Int.reduceToNat, Int.reduceNeg, Int.reducePow, Int.reduceAdd, Int.reduceMul, Int.reduceSub, ↓Int.reduceNatCast'] <;> rfl
                  · rw [if_neg k3] at x1
                    simp (disch := first | omega | decide) only [push_cast, ↓wF_free, ↓reduceIte, Nat.reduceEqDiff, Nat.reduceLT, Nat.reduceLeDiff, Nat.reduceAdd, Nat.reduceSub, Nat.reduceMul, Nat.reduceBEq, Int.reduceLT, Int.reduceLE, Int.reduceToNat, Int.reduceNeg, Int.reducePow, Int.reduceAdd, Int.reduceMul, Int.reduceSub, ↓Int.reduceNatCast', k1', k2, k3, idxA_ptr, b1, b2, add_i]
                    refine next_head (j + 1) (by omega) (by omega) ?_
                    rw [x1, x2]
                    simp only [push_cast, ↓wF_free, ↓reduceIte, Nat.reduceEqDiff, Nat.reduceLT, Nat.reduceLeDiff, Nat.reduceAdd, Nat.reduceSub, Nat.reduceMul, Nat.reduceBEq, Int.reduceLT, Int.reduceLE, Int.reduceToNat, Int.reduceNeg, Int.reducePow, Int.reduceAdd, Int.reduceMul, Int.reduceSub, ↓Int.reduceNatCast'] <;> rfl
              · have k1' : (X : Int) = 0 := by omega
                obtain ⟨x1, x2⟩ := sk (.inl k1)
                simp (disch := first | omega | decide) only [push_cast, ↓wF_free, ↓reduceIte, Nat.reduceEqDiff, Nat.reduceLT, Nat.reduceLeDiff, Nat.reduceAdd, Nat.reduceSub, Nat.reduceMul, Nat.reduceBEq, Int.reduceLT, Int.reduceLE, Int.reduceToNat, Int.reduceNeg, Int.reducePow, Int.reduceAdd, Int.reduceMul, Int.reduceSub, ↓Int.reduceNatCast', k1', add_i]
                refine next_head (j + 1) (by omega) (by omega) ?_
                rw [x1, x2]
                simp only [push_cast, ↓wF_free, ↓reduceIte, Nat.reduceEqDiff, Nat.reduceLT, Nat.reduceLeDiff, Nat.reduceAdd, Nat.reduceSub, Nat.reduceMul, Nat.reduceBEq, Int.reduceLT, Int.reduceLE, Int.reduceToNat, Int.reduceNeg, Int.reducePow, Int.reduceAdd, Int.reduceMul, Int.reduceSub, ↓Int.reduceNatCast'] <;> rfl
            · obtain rfl : j = bs.length := by omega
              obtain ⟨x1, x2⟩ := P_all bs a s n
              rw [x1, x2]
              have hus : (u.set a n).length = 16 := by rw [List.length_set]; exact hu
              have s1 := stPt 1 hu a n ha2
              have c1 := call_from k t d bs (u.set a n) G (a + 1) (restS bs a s n) ⟨hd, hlo, hok, hhi, hne, hle, by omega, rest_lt _ _ _ _, hus⟩ (by omega)
              rw [Int.natCast_add, show ((1 : Nat) : Int) = 1 from rfl, show 16 - (a + 1) = 15 - a by omega] at c1
              have hfl := fromF_len (bs := bs) hdk (15 - a) (by omega) (restS bs a s n) (u.set a n, G) hus
              simp only [scanG, if_pos h2] at hsc
              generalize fromF d bs (15 - a) (restS bs a s n) (u.set a n, G) = Q at *
              cases hr : Q.2 with
              | true =>
                rw [hr] at c1 hsc
                simp only [if_true] at hsc
                rw [hsc]
                simp (disch := first | omega | decide) only [push_cast, ↓wF_free, ↓reduceIte, Nat.reduceEqDiff, Nat.reduceLT, Nat.reduceLeDiff, Nat.reduceAdd, Nat.reduceSub, Nat.reduceMul, Nat.reduceBEq, Int.reduceLT, Int.reduceLE, Int.reduceToNat, Int.reduceNeg, Int.reducePow, Int.reduceAdd, Int.reduceMul, Int.reduceSub, ↓Int.reduceNatCast', idxA_ptr, s1, add_i, c1]
              | false =>
                rw [hr] at c1 hsc
                simp only [Bool.false_eq_true, if_false] at hsc
                simp (disch := first | omega | decide) only [push_cast, ↓wF_free, ↓reduceIte, Nat.reduceEqDiff, Nat.reduceLT, Nat.reduceLeDiff, Nat.reduceAdd, Nat.reduceSub, Nat.reduceMul, Nat.reduceBEq, Int.reduceLT, Int.reduceLE, Int.reduceToNat, Int.reduceNeg, Int.reducePow, Int.reduceAdd, Int.reduceMul, Int.reduceSub, ↓Int.reduceNatCast', idxA_ptr, s1, add_i, c1]
                refine next_head (K, afterL (selL bs s) a n maxA1, Q.1.1, Q.1.2) (by exact ⟨hfl, Int.le_trans hn (Int.le_of_lt hgt), hnx, hsc⟩) (by dsimp only; omega) ?_
                simp only [push_cast, ↓wF_free, ↓reduceIte, Nat.reduceEqDiff, Nat.reduceLT, Nat.reduceLeDiff, Nat.reduceAdd, Nat.reduceSub, Nat.reduceMul, Nat.reduceBEq, Int.reduceLT, Int.reduceLE, Int.reduceToNat, Int.reduceNeg, Int.reducePow, Int.reduceAdd, Int.reduceMul, Int.reduceSub, ↓Int.reduceNatCast'] <;> rfl
        · have e : scanG (at' d.hi a) (fun n => afterL (selL bs s) a n maxA1) (fun n q => fromF d bs (15 - a) (restS bs a s n) (q.1.set a n, q.2)) K n (u, G) = ((u, G), false) := by
            cases K with
            | zero => rfl
            | succ K => simp only [scanG, if_neg h2]
          rw [e] at hsc
          rw [hsc]
          simp (disch := first | omega | decide) only [push_cast, ↓wF_free, ↓reduceIte, Nat.reduceEqDiff, Nat.reduceLT, Nat.reduceLeDiff, Nat.reduceAdd, Nat.reduceSub, Nat.reduceMul, Nat.reduceBEq, Int.reduceLT, Int.reduceLE, Int.reduceToNat, Int.reduceNeg, Int.reducePow, Int.reduceAdd, Int.reduceMul, Int.reduceSub, ↓Int.reduceNatCast']
    · obtain rfl : a = 16 := by omega
      have es : fromF d bs (16 - 16) s (p, F) = ((p, F), false) := by simp only [Nat.sub_self, fromF, hs0, if_false]
      rw [es]
      simp (disch := first | omega | decide) only [push_cast, ↓wF_free, ↓reduceIte, Nat.reduceEqDiff, Nat.reduceLT, Nat.reduceLeDiff, Nat.reduceAdd, Nat.reduceSub, Nat.reduceMul, Nat.reduceBEq, Int.reduceLT, Int.reduceLE, Int.reduceToNat, Int.reduceNeg, Int.reducePow, Int.reduceAdd, Int.reduceMul, Int.reduceSub, ↓Int.reduceNatCast', hsn]
theorem ci_from : ∀ k, IContract Try.prog GG 56 (si_from k)
  | 0 => icontract_of (T := tb [] []) tr_tbox_uncovered_1 (tb_ok all_nil all_nil) (fun ⟨t, d, bs, q, a, s⟩ h => by
    have := h.1.a16
    have := h.2
    omega)
  | k + 1 => icontract_of (T := tb [] [(56, si_from k)]) tr_tbox_uncovered_1 (tb_ok all_nil (all_cons (ci_from k) all_nil)) (fun ⟨t, d, bs, q, a, s⟩ h => w_from k t d bs q.1 q.2 a s h.1 h.2)
end Go.Proofs.Ytgppecaeegaooaa.PI
