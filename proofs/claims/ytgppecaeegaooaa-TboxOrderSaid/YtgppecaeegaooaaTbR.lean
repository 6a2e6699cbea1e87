/-
  teval: expressions, and which are well-formed.
  Conditions: none; these are lemmas.
-/
import Derived.Test.YtgppecaeegaooaaTbG
import Derived.Test.YtgppecaeegaooaaEngHd
import Derived.Test.YtgppecaeegaooaaFnsE
namespace Go.Proofs.Ytgppecaeegaooaa.PI
open Go
set_option linter.unusedSimpArgs false
set_option linter.unusedVariables false
theorem siOf_encP {α : Type} {enc : α → List D × St} {pre : α → Prop} {f : α → D × St} (hinj : ∀ a b, pre a → pre b → enc a = enc b → f a = f b) (a : α) (hp : pre a) {ds : List D} {st : St} (he : enc a = (ds, st)) : siOf enc pre f ds st = some (f a) := by
  have hx : ∃ b, enc b = (ds, st) ∧ pre b := ⟨a, he, hp⟩
  unfold siOf
  rw [dif_pos hx]
  rw [hinj _ _ hx.choose_spec.2 hp (hx.choose_spec.1.trans he.symm)]
theorem memD_inj {F G : Mem} (h : memD F = memD G) : F = G := by
  refine map_inj (f := entD) (fun a b e => ?_) h
  obtain ⟨a1, a2⟩ := a
  obtain ⟨b1, b2⟩ := b
  simp only [entD, D.agg.injEq, List.cons.injEq, D.int.injEq, true_and, and_true] at e
  rw [Int.ofNat.inj e.1, Int.ofNat.inj e.2]
theorem bxC_inj {a b : Bx} (ha : a.ok) (hb : b.ok) (h : bxC a = bxC b) : a = b := bxD_inj ha hb (by unfold bxD; rw [h])
theorem tarC_inj {a b : Tar} (h : tarC a = tarC b) : a = b := tarD_iff.1 (by unfold tarD; rw [h])
structure FromOk (d : Bx) (bs : List Bx) (p : List Int) (a s : Nat) : Prop where
  dom : Dom d
  lo : ∀ i, i < 16 → 0 ≤ at' d.lo i
  ok : okL bs
  hi : hiL bs
  ne : bs ≠ []
  le : bs.length ≤ 16
  a16 : a ≤ 16
  s16 : s < 2 ^ bs.length
  pl : p.length = 16
theorem scanG_inv {σ : Type} {hi : Int} {nx : Int → Int} {rec : Int → σ → σ × Bool} (Inv : σ → Prop) (h : ∀ n s, Inv s → Inv (rec n s).1) : ∀ (k : Nat) (n : Int) (s : σ), Inv s → Inv (scanG hi nx rec k n s).1
  | 0, n, s, hs => hs
  | k + 1, n, s, hs => by
    simp only [scanG]
    split
    · split
      · exact h n s hs
      · exact scanG_inv Inv h k _ _ (h n s hs)
    · exact hs
theorem fromF_len {d : Bx} {bs : List Bx} (hd : d.ok) : ∀ (m : Nat), m ≤ 16 → ∀ (s : Nat) (q : List Int × Mem), q.1.length = 16 → (fromF d bs m s q).1.1.length = 16
  | 0, hm, s, q, hq => by
    simp only [fromF]
    split
    · simp [hq, hd.1]
    · exact hq
  | m + 1, hm, s, q, hq => by
    simp only [fromF]
    split
    · simp [hq, hd.1]; omega
    · split
      · exact hq
      · have := scanG_inv (σ := List Int × Mem) (hi := at' d.hi (15 - m)) (nx := fun n => afterL (selL bs s) (15 - m) n maxA1) (rec := fun n q => fromF d bs m (restS bs (15 - m) s n) (q.1.set (15 - m) n, q.2)) (fun q => q.1.length = 16) (fun n s hs => fromF_len hd m (by omega) _ _ (by simp only [List.length_set]; exact hs)) (bs.length + 1) (at' d.lo (15 - m)) q hq
        split
        · exact this
        · exact this
noncomputable def si_from (k : Nat) : List D → St → Option (D × St) := siOf (α := Tar × Bx × List Bx × (List Int × Mem) × Nat × Nat)
  (fun ⟨t, d, bs, q, a, s⟩ => ([.int .i64 (a : Int), .int .i64 (s : Int), .ptr 7 0, .ptr 5 0, .ptr 9 0, .ptr 6 0, .ptr 10 0], [⟨false, 1, tarC t, false⟩, ⟨false, 1, envC 0 z16, false⟩, ⟨false, 1, bxC d, false⟩, ⟨true, 32, bs.map bxD, false⟩, ⟨false, 1, (q.1).map nI, false⟩, ⟨false, 1, bxC d, false⟩, ⟨false, 1, [.row 3 bs.length 0 bs.length], false⟩, ⟨false, 1, [.ptr 4 0], false⟩, ⟨false, 3, memD (q.2), false⟩, ⟨false, 1, [.mapv 8], false⟩, ⟨false, 1, [.clo 56 [.ptr 7 0, .ptr 5 0, .ptr 9 0, .ptr 6 0, .ptr 10 0]], false⟩]))
  (fun ⟨t, d, bs, q, a, s⟩ => FromOk d bs q.1 a s ∧ 16 < a + k)
  (fun ⟨t, d, bs, q, a, s⟩ => (.bool (fromF d bs (16 - a) s q).2, [⟨false, 1, tarC t, false⟩, ⟨false, 1, envC 0 z16, false⟩, ⟨false, 1, bxC d, false⟩, ⟨true, 32, bs.map bxD, false⟩, ⟨false, 1, ((fromF d bs (16 - a) s q).1.1).map nI, false⟩, ⟨false, 1, bxC d, false⟩, ⟨false, 1, [.row 3 bs.length 0 bs.length], false⟩, ⟨false, 1, [.ptr 4 0], false⟩, ⟨false, 3, memD ((fromF d bs (16 - a) s q).1.2), false⟩, ⟨false, 1, [.mapv 8], false⟩, ⟨false, 1, [.clo 56 [.ptr 7 0, .ptr 5 0, .ptr 9 0, .ptr 6 0, .ptr 10 0]], false⟩]))
theorem call_from (k : Nat) (t : Tar) (d : Bx) (bs : List Bx) (p : List Int) (F : Mem) (a s : Nat) (h : FromOk d bs p a s) (hk : 16 < a + k) :
    si_from k [.int .i64 (a : Int), .int .i64 (s : Int), .ptr 7 0, .ptr 5 0, .ptr 9 0, .ptr 6 0, .ptr 10 0] [⟨false, 1, tarC t, false⟩, ⟨false, 1, envC 0 z16, false⟩, ⟨false, 1, bxC d, false⟩, ⟨true, 32, bs.map bxD, false⟩, ⟨false, 1, (p).map nI, false⟩, ⟨false, 1, bxC d, false⟩, ⟨false, 1, [.row 3 bs.length 0 bs.length], false⟩, ⟨false, 1, [.ptr 4 0], false⟩, ⟨false, 3, memD (F), false⟩, ⟨false, 1, [.mapv 8], false⟩, ⟨false, 1, [.clo 56 [.ptr 7 0, .ptr 5 0, .ptr 9 0, .ptr 6 0, .ptr 10 0]], false⟩] = some (.bool (fromF d bs (16 - a) s (p, F)).2, [⟨false, 1, tarC t, false⟩, ⟨false, 1, envC 0 z16, false⟩, ⟨false, 1, bxC d, false⟩, ⟨true, 32, bs.map bxD, false⟩, ⟨false, 1, ((fromF d bs (16 - a) s (p, F)).1.1).map nI, false⟩, ⟨false, 1, bxC d, false⟩, ⟨false, 1, [.row 3 bs.length 0 bs.length], false⟩, ⟨false, 1, [.ptr 4 0], false⟩, ⟨false, 3, memD ((fromF d bs (16 - a) s (p, F)).1.2), false⟩, ⟨false, 1, [.mapv 8], false⟩, ⟨false, 1, [.clo 56 [.ptr 7 0, .ptr 5 0, .ptr 9 0, .ptr 6 0, .ptr 10 0]], false⟩]) := by
  refine siOf_encP (α := Tar × Bx × List Bx × (List Int × Mem) × Nat × Nat) ?_ (t, d, bs, (p, F), a, s) ⟨h, hk⟩ rfl
  rintro ⟨t1, d1, b1, ⟨p1, F1⟩, a1, s1⟩ ⟨t2, d2, b2, ⟨p2, F2⟩, a2, s2⟩ ⟨k1, _⟩ ⟨k2, _⟩ e
  dsimp only at e
  simp only [Prod.mk.injEq, List.cons.injEq, D.int.injEq, Obj.mk.injEq, ints_iff, boxs_cond k1.ok k2.ok, and_true, true_and] at e
  obtain ⟨⟨e1, e2⟩, e3, e4, e5, e6, _, _, e7⟩ := e
  obtain rfl := tarC_inj e3
  obtain rfl := bxC_inj k1.dom.ok k2.dom.ok e4
  subst e5
  subst e6
  obtain rfl := memD_inj e7
  obtain rfl : a1 = a2 := by omega
  obtain rfl : s1 = s2 := by omega
  rfl
set_option maxHeartbeats 8000000 in
set_option maxRecDepth 20000 in
theorem w_from (k : Nat) (t : Tar) (d : Bx) (bs : List Bx) (p : List Int) (F : Mem) (a s : Nat) (h : FromOk d bs p a s) (hk : 16 < a + (k + 1)) :
    @wW GG (tb [] [(56, si_from k)]) F_tbox_uncovered_1.code (argF [.int .i64 (a : Int), .int .i64 (s : Int), .ptr 7 0, .ptr 5 0, .ptr 9 0, .ptr 6 0, .ptr 10 0]) [⟨false, 1, tarC t, false⟩, ⟨false, 1, envC 0 z16, false⟩, ⟨false, 1, bxC d, false⟩, ⟨true, 32, bs.map bxD, false⟩, ⟨false, 1, (p).map nI, false⟩, ⟨false, 1, bxC d, false⟩, ⟨false, 1, [.row 3 bs.length 0 bs.length], false⟩, ⟨false, 1, [.ptr 4 0], false⟩, ⟨false, 3, memD (F), false⟩, ⟨false, 1, [.mapv 8], false⟩, ⟨false, 1, [.clo 56 [.ptr 7 0, .ptr 5 0, .ptr 9 0, .ptr 6 0, .ptr 10 0]], false⟩]
      ⟨@retI F_tbox_uncovered_1.res ⟨fun d' st' => (lowR (@List.length Obj [⟨false, 1, tarC t, false⟩, ⟨false, 1, envC 0 z16, false⟩, ⟨false, 1, bxC d, false⟩, ⟨true, 32, bs.map bxD, false⟩, ⟨false, 1, (p).map nI, false⟩, ⟨false, 1, bxC d, false⟩, ⟨false, 1, [.row 3 bs.length 0 bs.length], false⟩, ⟨false, 1, [.ptr 4 0], false⟩, ⟨false, 3, memD (F), false⟩, ⟨false, 1, [.mapv 8], false⟩, ⟨false, 1, [.clo 56 [.ptr 7 0, .ptr 5 0, .ptr 9 0, .ptr 6 0, .ptr 10 0]], false⟩]) d', cut (@List.length Obj [⟨false, 1, tarC t, false⟩, ⟨false, 1, envC 0 z16, false⟩, ⟨false, 1, bxC d, false⟩, ⟨true, 32, bs.map bxD, false⟩, ⟨false, 1, (p).map nI, false⟩, ⟨false, 1, bxC d, false⟩, ⟨false, 1, [.row 3 bs.length 0 bs.length], false⟩, ⟨false, 1, [.ptr 4 0], false⟩, ⟨false, 3, memD (F), false⟩, ⟨false, 1, [.mapv 8], false⟩, ⟨false, 1, [.clo 56 [.ptr 7 0, .ptr 5 0, .ptr 9 0, .ptr 6 0, .ptr 10 0]], false⟩]) st') = (.bool (fromF d bs (16 - a) s (p, F)).2, [⟨false, 1, tarC t, false⟩, ⟨false, 1, envC 0 z16, false⟩, ⟨false, 1, bxC d, false⟩, ⟨true, 32, bs.map bxD, false⟩, ⟨false, 1, ((fromF d bs (16 - a) s (p, F)).1.1).map nI, false⟩, ⟨false, 1, bxC d, false⟩, ⟨false, 1, [.row 3 bs.length 0 bs.length], false⟩, ⟨false, 1, [.ptr 4 0], false⟩, ⟨false, 3, memD ((fromF d bs (16 - a) s (p, F)).1.2), false⟩, ⟨false, 1, [.mapv 8], false⟩, ⟨false, 1, [.clo 56 [.ptr 7 0, .ptr 5 0, .ptr 9 0, .ptr 6 0, .ptr 10 0]], false⟩])⟩⟩ := by
  obtain ⟨hd, hlo, hok, hhi, hne, hle, ha, hs, hp⟩ := h
  have hdk := hd.ok
  unfold F_tbox_uncovered_1
  by_cases hs0 : s = 0
  · subst hs0
    by_cases ha2 : a < 16
    · have es : fromF d bs (16 - a) 0 (p, F) = ((p.take a ++ d.lo.drop a, F), true) := by
        rw [show 16 - a = (15 - a) + 1 by omega]
        simp only [fromF, if_true, show 15 - (15 - a) = a by omega]
      rw [es]
      have c1 := cp_pt hp hdk a ha2
      have c2 := fun st => pcpy_bsl st 4 a (16 - a) 5 a 1 false false (by omega) (by omega)
      have e1 := sliceA_from 4 0 .i64 a ha2
      have e2 := sliceA_from 5 0 .i64 a ha2
      rw [Nat.mul_one, Nat.zero_add] at e1 e2
      simp (disch := first | omega | decide) only [push_cast, ↓wF_free, ↓reduceIte, Nat.reduceEqDiff, Nat.reduceLT, Nat.reduceLeDiff, Nat.reduceAdd, Nat.reduceSub, Nat.reduceMul, Nat.reduceBEq, Int.reduceLT, Int.reduceLE, Int.reduceToNat, Int.reduceNeg, Int.reducePow, Int.reduceAdd, Int.reduceMul, Int.reduceSub, ↓Int.reduceNatCast', Int.ofNat_zero, e1, e2, c2, c1]
    · obtain rfl : a = 16 := by omega
      have es : fromF d bs (16 - 16) 0 (p, F) = ((p, F), true) := by
        simp only [Nat.sub_self, fromF, if_true]
        rw [List.take_of_length_le (by omega), List.drop_of_length_le (by rw [hdk.1]; omega), List.append_nil]
      rw [es]
      simp (disch := first | omega | decide) only [push_cast, ↓wF_free, ↓reduceIte, Nat.reduceEqDiff, Nat.reduceLT, Nat.reduceLeDiff, Nat.reduceAdd, Nat.reduceSub, Nat.reduceMul, Nat.reduceBEq, Int.reduceLT, Int.reduceLE, Int.reduceToNat, Int.reduceNeg, Int.reducePow, Int.reduceAdd, Int.reduceMul, Int.reduceSub, ↓Int.reduceNatCast', Int.ofNat_zero, sliceA_end, pcpy_nil]
  · have hsn : ¬ ((s : Int) = 0) := by omega
    by_cases ha2 : a < 16
    · have han : ¬ ((a : Int) = 16) := by omega
      cases hc : F.contains (a, s) with
      | true =>
        have es : fromF d bs (16 - a) s (p, F) = ((p, F), false) := by
          rw [show 16 - a = (15 - a) + 1 by omega]
          simp only [fromF, hs0, show 15 - (15 - a) = a by omega, hc, if_true, if_false]
        rw [es]
        have mg := mg_mem F a s false
        rw [hc] at mg
        simp (disch := first | omega | decide) only [push_cast, ↓wF_free, ↓reduceIte, Nat.reduceEqDiff, Nat.reduceLT, Nat.reduceLeDiff, Nat.reduceAdd, Nat.reduceSub, Nat.reduceMul, Nat.reduceBEq, Int.reduceLT, Int.reduceLE, Int.reduceToNat, Int.reduceNeg, Int.reducePow, Int.reduceAdd, Int.reduceMul, Int.reduceSub, ↓Int.reduceNatCast', hsn, han, mg]
      | false =>
        have es : fromF d bs (16 - a) s (p, F) = if (scanG (at' d.hi a) (fun n => afterL (selL bs s) a n maxA1) (fun n q => fromF d bs (15 - a) (restS bs a s n) (q.1.set a n, q.2)) (bs.length + 1) (at' d.lo a) (p, F)).2 then scanG (at' d.hi a) (fun n => afterL (selL bs s) a n maxA1) (fun n q => fromF d bs (15 - a) (restS bs a s n) (q.1.set a n, q.2)) (bs.length + 1) (at' d.lo a) (p, F)
            else (((scanG (at' d.hi a) (fun n => afterL (selL bs s) a n maxA1) (fun n q => fromF d bs (15 - a) (restS bs a s n) (q.1.set a n, q.2)) (bs.length + 1) (at' d.lo a) (p, F)).1.1, insM (scanG (at' d.hi a) (fun n => afterL (selL bs s) a n maxA1) (fun n q => fromF d bs (15 - a) (restS bs a s n) (q.1.set a n, q.2)) (bs.length + 1) (at' d.lo a) (p, F)).1.2 (a, s)), false) := by
          rw [show 16 - a = (15 - a) + 1 by omega]
          simp only [fromF, hs0, show 15 - (15 - a) = a by omega, hc, Bool.false_eq_true, if_false]
        have mg := mg_mem F a s false
        rw [hc] at mg
        have l1 := ldB_lo 1 false hdk a ha2
        have l2 := ldB_hi 1 false hdk a ha2
        have hen0 : enough (selL bs s) a (at' d.hi a) (at' d.lo a) (bs.length + 1) := .inl (by have := cnt_le (selL bs s) a (at' d.lo a); have := sel_length bs s; omega)
        have hdh := hd.hi a ha2
        have hlA := hlo a ha2
        generalize hR : scanG (at' d.hi a) (fun n => afterL (selL bs s) a n maxA1) (fun n q => fromF d bs (15 - a) (restS bs a s n) (q.1.set a n, q.2)) (bs.length + 1) (at' d.lo a) (p, F) = R at es
        rw [es]
        simp (disch := first | omega | decide) only [push_cast, ↓wF_free, ↓reduceIte, Nat.reduceEqDiff, Nat.reduceLT, Nat.reduceLeDiff, Nat.reduceAdd, Nat.reduceSub, Nat.reduceMul, Nat.reduceBEq, Int.reduceLT, Int.reduceLE, Int.reduceToNat, Int.reduceNeg, Int.reducePow, Int.reduceAdd, Int.reduceMul, Int.reduceSub, ↓Int.reduceNatCast', hsn, han, mg, idxA_ptr, l1]
        refine W_while (fun i : Nat × Int × List Int × Mem => [(0, .int .i64 (a : Int)), (1, .int .i64 (s : Int)), (2, .ptr 7 0), (3, .ptr 5 0), (4, .ptr 9 0), (5, .ptr 6 0), (6, .ptr 10 0), (10, .int .i64 i.2.1)]) (fun i => [⟨false, 1, tarC t, false⟩, ⟨false, 1, envC 0 z16, false⟩, ⟨false, 1, bxC d, false⟩, ⟨true, 32, bs.map bxD, false⟩, ⟨false, 1, (i.2.2.1).map nI, false⟩, ⟨false, 1, bxC d, false⟩, ⟨false, 1, [.row 3 bs.length 0 bs.length], false⟩, ⟨false, 1, [.ptr 4 0], false⟩, ⟨false, 3, memD (i.2.2.2), false⟩, ⟨false, 1, [.mapv 8], false⟩, ⟨false, 1, [.clo 56 [.ptr 7 0, .ptr 5 0, .ptr 9 0, .ptr 6 0, .ptr 10 0]], false⟩])
          (fun i => i.2.2.1.length = 16 ∧ at' d.lo a ≤ i.2.1 ∧ enough (selL bs s) a (at' d.hi a) i.2.1 i.1 ∧ R = scanG (at' d.hi a) (fun n => afterL (selL bs s) a n maxA1) (fun n q => fromF d bs (15 - a) (restS bs a s n) (q.1.set a n, q.2)) i.1 i.2.1 i.2.2) (fun i => i.1) (bs.length + 1, at' d.lo a, p, F) (by simp only [push_cast, ↓wF_free, ↓reduceIte, Nat.reduceEqDiff, Nat.reduceLT, Nat.reduceLeDiff, Nat.reduceAdd, Nat.reduceSub, Nat.reduceMul, Nat.reduceBEq, Int.reduceLT, Int.reduceLE, Int.reduceToNat, Int.reduceNeg, Int.reducePow, Int.reduceAdd, Int.reduceMul, Int.reduceSub, ↓Int.reduceNatCast'] <;> rfl)
          ⟨hp, Int.le_refl _, hen0, hR.symm⟩ ?_
        rintro ⟨K, n, u, G⟩ ⟨hu, hn, hen, hsc⟩
        dsimp only at hu hn hen hsc
        unfold F_tbox_uncovered_1_L1
        simp (disch := first | omega | decide) only [push_cast, ↓wF_free, ↓reduceIte, Nat.reduceEqDiff, Nat.reduceLT, Nat.reduceLeDiff, Nat.reduceAdd, Nat.reduceSub, Nat.reduceMul, Nat.reduceBEq, Int.reduceLT, Int.reduceLE, Int.reduceToNat, Int.reduceNeg, Int.reducePow, Int.reduceAdd, Int.reduceMul, Int.reduceSub, ↓Int.reduceNatCast', idxA_ptr, l2]
        refine ifD_split (fun h2 => ?_) (fun h2 => ?_)
        · cases K with
          | zero =>
            exfalso
            rcases hen with h | h
            · omega
            · omega
          | succ K =>
            have hlen := liR_map bxD 32 bs false bs.length rfl
            have hnx := enough_next hen h2 hdh
            have hgt := (afterL_spec a n (selL bs s) maxA1 (by unfold maxA1; omega)).1
            simp (disch := first | omega | decide) only [push_cast, ↓wF_free, ↓reduceIte, Nat.reduceEqDiff, Nat.reduceLT, Nat.reduceLeDiff, Nat.reduceAdd, Nat.reduceSub, Nat.reduceMul, Nat.reduceBEq, Int.reduceLT, Int.reduceLE, Int.reduceToNat, Int.reduceNeg, Int.reducePow, Int.reduceAdd, Int.reduceMul, Int.reduceSub, ↓Int.reduceNatCast', hlen]
            refine W_while (fun j : Nat => [(0, .int .i64 (a : Int)), (1, .int .i64 (s : Int)), (2, .ptr 7 0), (3, .ptr 5 0), (4, .ptr 9 0), (5, .ptr 6 0), (6, .ptr 10 0), (10, .int .i64 n), (11, .int .i64 (rsP bs a s n j : Int)), (12, .int .i64 (nxP bs a s n j)), (44, .row 3 bs.length 0 bs.length), (45, .int .i64 (bs.length : Int)), (46, .int .i64 (j : Int))]) (fun j => [⟨false, 1, tarC t, false⟩, ⟨false, 1, envC 0 z16, false⟩, ⟨false, 1, bxC d, false⟩, ⟨true, 32, bs.map bxD, false⟩, ⟨false, 1, (u).map nI, false⟩, ⟨false, 1, bxC d, false⟩, ⟨false, 1, [.row 3 bs.length 0 bs.length], false⟩, ⟨false, 1, [.ptr 4 0], false⟩, ⟨false, 3, memD (G), false⟩, ⟨false, 1, [.mapv 8], false⟩, ⟨false, 1, [.clo 56 [.ptr 7 0, .ptr 5 0, .ptr 9 0, .ptr 6 0, .ptr 10 0]], false⟩])
              (fun j => j ≤ bs.length) (fun j => bs.length - j) 0 (by simp only [push_cast, ↓wF_free, ↓reduceIte, Nat.reduceEqDiff, Nat.reduceLT, Nat.reduceLeDiff, Nat.reduceAdd, Nat.reduceSub, Nat.reduceMul, Nat.reduceBEq, Int.reduceLT, Int.reduceLE, Int.reduceToNat, Int.reduceNeg, Int.reducePow, Int.reduceAdd, Int.reduceMul, Int.reduceSub, ↓Int.reduceNatCast'] <;> rfl) (Nat.zero_le _) ?_
            intro j hj
            unfold F_tbox_uncovered_1_L0
            simp (disch := first | omega | decide) only [push_cast, ↓wF_free, ↓reduceIte, Nat.reduceEqDiff, Nat.reduceLT, Nat.reduceLeDiff, Nat.reduceAdd, Nat.reduceSub, Nat.reduceMul, Nat.reduceBEq, Int.reduceLT, Int.reduceLE, Int.reduceToNat, Int.reduceNeg, Int.reducePow, Int.reduceAdd, Int.reduceMul, Int.reduceSub, ↓Int.reduceNatCast']
            refine ifD_split (fun h3 => ?_) (fun h3 => ?_)
            · have hjl : j < bs.length := by omega
              have hb := okL_at hok j hjl
              have hbh := hiL_at hhi j hjl a ha2
              have i1 := ixR_map bxD 32 bs false 3 bs.length (j : Int) rfl (by omega) (by omega)
              rw [Int.toNat_natCast] at i1
              have g1 := ldR_bx bs false bs.length j hok rfl hjl
              have sk := P_skip (bs := bs) (a := a) (s := s) (n := n) hjl
              have tk := P_take (bs := bs) (a := a) (s := s) (n := n) hjl
              have hrs := rsP_lt bs a s n j hj
              have hp2 : (2 : Nat) ^ bs.length ≤ 2 ^ 16 := Nat.pow_le_pow_right (by decide) hle
              have hp3 : (2 : Nat) ^ 16 = 65536 := rfl
              have hq := Nat.div_le_self s (2 ^ j)
              have r1 := shr_nat (s := s) (k := j) (by omega) .i64
              have r2 := and_bit (x := s / 2 ^ j) (by omega)
              have hX2 : s / 2 ^ j % 2 < 2 := Nat.mod_lt _ (by decide)
              have r3 := shl_pow (k := j) (by omega) .i64
              have r4 := or_pow hrs (by omega)
              clear hp2 hp3 hq
              generalize (2 : Nat) ^ j = Z at *
              generalize s / Z = Y at *
              generalize Y % 2 = X at *
              generalize bs.getD j default = b at *
              have b1 := ldB_lo 1 false hb a ha2
              have b2 := ldB_hi 1 false hb a ha2
              simp (disch := first | omega | decide) only [push_cast, ↓wF_free, ↓reduceIte, Nat.reduceEqDiff, Nat.reduceLT, Nat.reduceLeDiff, Nat.reduceAdd, Nat.reduceSub, Nat.reduceMul, Nat.reduceBEq, Int.reduceLT, Int.reduceLE, Int.reduceToNat, Int.reduceNeg, Int.reducePow, Int.reduceAdd, Int.reduceMul, Int.reduceSub, ↓Int.reduceNatCast', i1, g1, stB _ zBx_ok hb, r1, r2, idxA_ptr, b2]
              by_cases k1 : X = 1
              · have k1' : ¬ ((X : Int) = 0) := by omega
                by_cases k2 : at' b.hi a < n
                · obtain ⟨x1, x2⟩ := sk (.inr k2)
                  simp (disch := first | omega | decide) only [push_cast, ↓wF_free, ↓reduceIte, Nat.reduceEqDiff, Nat.reduceLT, Nat.reduceLeDiff, Nat.reduceAdd, Nat.reduceSub, Nat.reduceMul, Nat.reduceBEq, Int.reduceLT, Int.reduceLE, Int.reduceToNat, Int.reduceNeg, Int.reducePow, Int.reduceAdd, Int.reduceMul, Int.reduceSub, ↓Int.reduceNatCast', k1', k2, idxA_ptr, b2, add_i]
                  refine next_head (j + 1) (by omega) (by omega) ?_
                  rw [x1, x2]
                  simp only [push_cast, ↓wF_free, ↓reduceIte, Nat.reduceEqDiff, Nat.reduceLT, Nat.reduceLeDiff, Nat.reduceAdd, Nat.reduceSub, Nat.reduceMul, Nat.reduceBEq, Int.reduceLT, Int.reduceLE, Int.reduceToNat, Int.reduceNeg, Int.reducePow, Int.reduceAdd, Int.reduceMul, Int.reduceSub, ↓Int.reduceNatCast'] <;> rfl
                · obtain ⟨x1, x2⟩ := tk k1 (by omega)
                  by_cases k3 : at' b.lo a ≤ n
                  · rw [if_pos k3] at x1
                    simp (disch := first | omega | decide) only [push_cast, ↓wF_free, ↓reduceIte, Nat.reduceEqDiff, Nat.reduceLT, Nat.reduceLeDiff, Nat.reduceAdd, Nat.reduceSub, Nat.reduceMul, Nat.reduceBEq, Int.reduceLT, Int.reduceLE, Int.reduceToNat, Int.reduceNeg, Int.reducePow, Int.reduceAdd, Int.reduceMul, Int.reduceSub, ↓Int.reduceNatCast', k1', k2, k3, idxA_ptr, b1, b2, add_i, r3, r4]
                    refine next_head (j + 1) (by omega) (by omega) ?_
                    rw [x1, x2]
                    simp only [push_cast, ↓wF_free, ↓reduceIte, Nat.reduceEqDiff, Nat.reduceLT, Nat.reduceLeDiff, Nat.reduceAdd, Nat.reduceSub, Nat.reduceMul, Nat.reduceBEq, Int.reduceLT, Int.reduceLE, Int.reduceToNat, Int.reduceNeg, Int.reducePow, Int.reduceAdd, Int.reduceMul, Int.reduceSub, ↓Int.reduceNatCast'] <;> rfl
                  · rw [if_neg k3] at x1
                    simp (disch := first | omega | decide) only [push_cast, ↓wF_free, ↓reduceIte, Nat.reduceEqDiff, Nat.reduceLT, Nat.reduceLeDiff, Nat.reduceAdd, Nat.reduceSub, Nat.reduceMul, Nat.reduceBEq, Int.reduceLT, Int.reduceLE, Int.reduceToNat, Int.reduceNeg, Int.reducePow, Int.reduceAdd, Int.reduceMul, Int.reduceSub, ↓Int.reduceNatCast', k1', k2, k3, idxA_ptr, b1, b2, add_i]
                    refine next_head (j + 1) (by omega) (by omega) ?_
                    rw [x1, x2]
                    simp only [push_cast, ↓wF_free, ↓reduceIte, Nat.reduceEqDiff, Nat.reduceLT, Nat.reduceLeDiff, Nat.reduceAdd, Nat.reduceSub, Nat.reduceMul, Nat.reduceBEq, Int.reduceLT, Int.reduceLE, Int.reduceToNat, Int.reduceNeg, Int.reducePow, Int.reduceAdd, Int.reduceMul, Int.reduceSub, ↓Int.reduceNatCast'] <;> rfl
              · have k1' : (X : Int) = 0 := by omega
                obtain ⟨x1, x2⟩ := sk (.inl k1)
                simp (disch := first | omega | decide) only [push_cast, ↓wF_free, ↓reduceIte, Nat.reduceEqDiff, Nat.reduceLT, Nat.reduceLeDiff, Nat.reduceAdd, Nat.reduceSub, Nat.reduceMul, Nat.reduceBEq, Int.reduceLT, Int.reduceLE, Int.reduceToNat, Int.reduceNeg, Int.reducePow, Int.reduceAdd, Int.reduceMul, Int.reduceSub, ↓Int.reduceNatCast', k1', add_i]
                refine next_head (j + 1) (by omega) (by omega) ?_
                rw [x1, x2]
                simp only [push_cast, ↓wF_free, ↓reduceIte, Nat.reduceEqDiff, Nat.reduceLT, Nat.reduceLeDiff, Nat.reduceAdd, Nat.reduceSub, Nat.reduceMul, Nat.reduceBEq, Int.reduceLT, Int.reduceLE, Int.reduceToNat, Int.reduceNeg, Int.reducePow, Int.reduceAdd, Int.reduceMul, Int.reduceSub, ↓Int.reduceNatCast'] <;> rfl
            · obtain rfl : j = bs.length := by omega
              obtain ⟨x1, x2⟩ := P_all bs a s n
              rw [x1, x2]
              have hus : (u.set a n).length = 16 := by rw [List.length_set]; exact hu
              have s1 := stPt 1 hu a n ha2
              have c1 := call_from k t d bs (u.set a n) G (a + 1) (restS bs a s n) ⟨hd, hlo, hok, hhi, hne, hle, by omega, rest_lt _ _ _ _, hus⟩ (by omega)
              rw [Int.natCast_add, show ((1 : Nat) : Int) = 1 from rfl, show 16 - (a + 1) = 15 - a by omega] at c1
              have hfl := fromF_len (bs := bs) hdk (15 - a) (by omega) (restS bs a s n) (u.set a n, G) hus
              simp only [scanG, if_pos h2] at hsc
              generalize fromF d bs (15 - a) (restS bs a s n) (u.set a n, G) = Q at *
              cases hr : Q.2 with
              | true =>
                rw [hr] at c1 hsc
                simp only [if_true] at hsc
                rw [hsc]
                simp (disch := first | omega | decide) only [push_cast, ↓wF_free, ↓reduceIte, Nat.reduceEqDiff, Nat.reduceLT, Nat.reduceLeDiff, Nat.reduceAdd, Nat.reduceSub, Nat.reduceMul, Nat.reduceBEq, Int.reduceLT, Int.reduceLE, Int.reduceToNat, Int.reduceNeg, Int.reducePow, Int.reduceAdd, Int.reduceMul, Int.reduceSub, ↓Int.reduceNatCast', idxA_ptr, s1, add_i, c1]
              | false =>
                rw [hr] at c1 hsc
                simp only [Bool.false_eq_true, if_false] at hsc
                simp (disch := first | omega | decide) only [push_cast, ↓wF_free, ↓reduceIte, Nat.reduceEqDiff, Nat.reduceLT, Nat.reduceLeDiff, Nat.reduceAdd, Nat.reduceSub, Nat.reduceMul, Nat.reduceBEq, Int.reduceLT, Int.reduceLE, Int.reduceToNat, Int.reduceNeg, Int.reducePow, Int.reduceAdd, Int.reduceMul, Int.reduceSub, ↓Int.reduceNatCast', idxA_ptr, s1, add_i, c1]
                refine next_head (K, afterL (selL bs s) a n maxA1, Q.1.1, Q.1.2) (by exact ⟨hfl, Int.le_trans hn (Int.le_of_lt hgt), hnx, hsc⟩) (by dsimp only; omega) ?_
                simp only [push_cast, ↓wF_free, ↓reduceIte, Nat.reduceEqDiff, Nat.reduceLT, Nat.reduceLeDiff, Nat.reduceAdd, Nat.reduceSub, Nat.reduceMul, Nat.reduceBEq, Int.reduceLT, Int.reduceLE, Int.reduceToNat, Int.reduceNeg, Int.reducePow, Int.reduceAdd, Int.reduceMul, Int.reduceSub, ↓Int.reduceNatCast'] <;> rfl
        · have e : scanG (at' d.hi a) (fun n => afterL (selL bs s) a n maxA1) (fun n q => fromF d bs (15 - a) (restS bs a s n) (q.1.set a n, q.2)) K n (u, G) = ((u, G), false) := by
            cases K with
            | zero => rfl
            | succ K => simp only [scanG, if_neg h2]
          rw [e] at hsc
          rw [hsc]
          simp (disch := first | omega | decide) only [push_cast, ↓wF_free, ↓reduceIte, Nat.reduceEqDiff, Nat.reduceLT, Nat.reduceLeDiff, Nat.reduceAdd, Nat.reduceSub, Nat.reduceMul, Nat.reduceBEq, Int.reduceLT, Int.reduceLE, Int.reduceToNat, Int.reduceNeg, Int.reducePow, Int.reduceAdd, Int.reduceMul, Int.reduceSub, ↓Int.reduceNatCast']
    · obtain rfl : a = 16 := by omega
      have es : fromF d bs (16 - 16) s (p, F) = ((p, F), false) := by simp only [Nat.sub_self, fromF, hs0, if_false]
      rw [es]
      simp (disch := first | omega | decide) only [push_cast, ↓wF_free, ↓reduceIte, Nat.reduceEqDiff, Nat.reduceLT, Nat.reduceLeDiff, Nat.reduceAdd, Nat.reduceSub, Nat.reduceMul, Nat.reduceBEq, Int.reduceLT, Int.reduceLE, Int.reduceToNat, Int.reduceNeg, Int.reducePow, Int.reduceAdd, Int.reduceMul, Int.reduceSub, ↓Int.reduceNatCast', hsn]
theorem ci_from : ∀ k, IContract Try.prog GG 56 (si_from k)
  | 0 => icontract_of (T := tb [] []) tr_tbox_uncovered_1 (tb_ok all_nil all_nil) (fun ⟨t, d, bs, q, a, s⟩ h => by
    have := h.1.a16
    have := h.2
    omega)
  | k + 1 => icontract_of (T := tb [] [(56, si_from k)]) tr_tbox_uncovered_1 (tb_ok all_nil (all_cons (ci_from k) all_nil)) (fun ⟨t, d, bs, q, a, s⟩ h => w_from k t d bs q.1 q.2 a s h.1 h.2)
end Go.Proofs.Ytgppecaeegaooaa.PI
namespace Go.Proofs.Ytgppecaeegaooaa.PI
open Go
set_option linter.unusedSimpArgs false
set_option linter.unusedVariables false
theorem reg_lo (l : List Tst) : ∀ (k i : Nat) (b c : Bx), k + i = l.length → DomI l i b → regF l k i b = some c → ∀ j : Nat, j < 16 → 0 ≤ at' c.lo j
  | 0, i, b, c, hk, hI, h => by
    simp only [regF, Option.some.injEq] at h
    subst h
    exact fun j hj => (hI.rg j hj).1
  | k + 1, i, b, c, hk, hI, h => by
    simp only [regF] at h
    split at h
    · rename_i ho
      split at h
      · cases h
      · rename_i hs
        exact reg_lo l k (i + 1) _ c (by omega) (domI_next hI ho (by simpa using hs)) h
    · cases h
theorem domB_some {l : List Tst} (h : domB l = true) : domF l = some (domD l) := by
  unfold domB at h
  unfold domD
  cases hd : domF l with
  | none => rw [hd] at h; cases h
  | some d => rfl
theorem dom_lo {l : List Tst} (h : domB l = true) : ∀ j : Nat, j < 16 → 0 ≤ at' (domD l).lo j := reg_lo l l.length 0 allB _ rfl (domI_start l) (domB_some h)
theorem dom_dom {l : List Tst} (h : domB l = true) : Dom (domD l) := dom_ok (domB_some h)
def bsF (cl : List Cls) : List Bx := cl.filterMap fun c => if (ofB c.wh).2 then some (ofB c.wh).1 else none
theorem bsF_take (cl : List Cls) (i : Nat) (h : i < cl.length) : bsF (cl.take (i + 1)) = if (ofB (cl.getD i default).wh).2 then bsF (cl.take i) ++ [(ofB (cl.getD i default).wh).1] else bsF (cl.take i) := by
  unfold bsF
  rw [take_getD cl i h, List.filterMap_append]
  generalize cl.getD i default = c
  by_cases k : (ofB c.wh).2 = true
  · simp [k]
  · simp [k]
theorem bsF_len (cl : List Cls) : (bsF cl).length ≤ cl.length := List.length_filterMap_le _ _
theorem bsF_mem {cl : List Cls} {b : Bx} (h : b ∈ bsF cl) : ∃ c ∈ cl, (ofB c.wh).2 = true ∧ b = (ofB c.wh).1 := by
  simp only [bsF, List.mem_filterMap] at h
  obtain ⟨c, hc, e⟩ := h
  split at e
  · rename_i k
    simp only [Option.some.injEq] at e
    exact ⟨c, hc, k, e.symm⟩
  · cases e
theorem of_run {l : List Tst} (h : (ofB l).2 = true) : runT allB l = some (ofB l).1 ∧ someB (ofB l).1 = true := by
  cases hr : runT allB l with
  | none => rw [ofB_none hr] at h; cases h
  | some b =>
    have e := ofB_some hr
    by_cases k : someB b = true
    · rw [if_pos k] at e
      rw [e]
      exact ⟨rfl, k⟩
    · rw [if_neg k] at e
      rw [e] at h
      cases h
theorem mk_map3 : mkmapD 3 = some ⟨false, 3, [], false⟩ := (rfl)
theorem bsF_ok (cl : List Cls) : okL (bsF cl) := fun b hb => by
  obtain ⟨c, _, _, rfl⟩ := bsF_mem hb
  exact ofB_ok _
theorem bsF_hi (cl : List Cls) : hiL (bsF cl) := fun b hb i hi => by
  obtain ⟨c, _, k, rfl⟩ := bsF_mem hb
  exact (inAll_run _ allB_ok inAll_all (of_run k).1 i hi).2
def gapF (cl : List Cls) (l : List Tst) : List Int × Bool := srch (domD l) 16 (bsF cl) z16
def gapE (cl : List Cls) (l : List Tst) : Int := if domB l then (if 16 < cl.length then 2 else 0) else 1
def gapB (cl : List Cls) (l : List Tst) : Bool := decide (gapE cl l = 0) && (gapF cl l).2
def gapH (cl : List Cls) (l : List Tst) : Int := if gapB cl l then 65535 else 0
def gapV (cl : List Cls) (l : List Tst) : List Int := if gapB cl l then (gapF cl l).1 else z16
theorem from_srch {d : Bx} (hd : Dom d) {bs : List Bx} {p : List Int} (hp : p.length = 16) : (fromF d bs 16 (2 ^ bs.length - 1) (p, [])).2 = (srch d 16 bs z16).2 ∧ ((srch d 16 bs z16).2 = true → (fromF d bs 16 (2 ^ bs.length - 1) (p, [])).1.1 = (srch d 16 bs z16).1) := by
  have hpos := Nat.one_le_two_pow (n := bs.length)
  obtain ⟨_, _, _, f4⟩ := fromF_spec hd bs 16 (Nat.le_refl _) (2 ^ bs.length - 1) (p, []) (by omega) hp (fun q hq => by cases hq)
  obtain ⟨_, s2⟩ := srch_spec hd 16 (Nat.le_refl _) bs z16 z16_length
  rw [sel_all, Nat.sub_self] at f4
  rw [Nat.sub_self] at s2
  have g : ∀ v w x, Good d bs 0 v w → Good d bs 0 x w := fun v w x h => h.mono fun i hi => absurd hi (Nat.not_lt_zero _)
  cases hf : (fromF d bs 16 (2 ^ bs.length - 1) (p, [])).2 with
  | true =>
    rw [hf, if_pos rfl] at f4
    cases hs : (srch d 16 bs z16).2 with
    | true =>
      rw [hs, if_pos rfl] at s2
      exact ⟨rfl, fun _ => (f4.mono fun i hi => absurd hi (Nat.not_lt_zero _)).unique s2⟩
    | false =>
      rw [hs, if_neg (by simp)] at s2
      exact (s2 _ (g _ _ _ f4.1)).elim
  | false =>
    rw [hf, if_neg (by simp)] at f4
    cases hs : (srch d 16 bs z16).2 with
    | true =>
      rw [hs, if_pos rfl] at s2
      exact (f4 _ (g _ _ _ s2.1)).elim
    | false => exact ⟨rfl, fun h => by cases h⟩
noncomputable def si_from0 : List D → St → Option (D × St) := siOf (α := Tar × Bx × List Int)
  (fun ⟨t, d, p⟩ => ([.int .i64 0, .int .i64 0, .ptr 6 0, .ptr 4 0, .ptr 8 0, .ptr 5 0, .ptr 9 0], [⟨false, 1, tarC t, false⟩, ⟨false, 1, envC 0 z16, false⟩, ⟨false, 1, bxC d, false⟩, ⟨false, 1, (p).map nI, false⟩, ⟨false, 1, bxC d, false⟩, ⟨false, 1, [.slc 0 [] true], false⟩, ⟨false, 1, [.ptr 3 0], false⟩, ⟨false, 3, memD [], false⟩, ⟨false, 1, [.mapv 7], false⟩, ⟨false, 1, [.clo 56 [.ptr 6 0, .ptr 4 0, .ptr 8 0, .ptr 5 0, .ptr 9 0]], false⟩])) (fun ⟨t, d, p⟩ => d.ok ∧ p.length = 16) (fun ⟨t, d, p⟩ => (.bool true, [⟨false, 1, tarC t, false⟩, ⟨false, 1, envC 0 z16, false⟩, ⟨false, 1, bxC d, false⟩, ⟨false, 1, (d.lo).map nI, false⟩, ⟨false, 1, bxC d, false⟩, ⟨false, 1, [.slc 0 [] true], false⟩, ⟨false, 1, [.ptr 3 0], false⟩, ⟨false, 3, memD [], false⟩, ⟨false, 1, [.mapv 7], false⟩, ⟨false, 1, [.clo 56 [.ptr 6 0, .ptr 4 0, .ptr 8 0, .ptr 5 0, .ptr 9 0]], false⟩]))
theorem call_from0 (t : Tar) (d : Bx) (p : List Int) (h : d.ok) (hp : p.length = 16) : si_from0 [.int .i64 0, .int .i64 0, .ptr 6 0, .ptr 4 0, .ptr 8 0, .ptr 5 0, .ptr 9 0] [⟨false, 1, tarC t, false⟩, ⟨false, 1, envC 0 z16, false⟩, ⟨false, 1, bxC d, false⟩, ⟨false, 1, (p).map nI, false⟩, ⟨false, 1, bxC d, false⟩, ⟨false, 1, [.slc 0 [] true], false⟩, ⟨false, 1, [.ptr 3 0], false⟩, ⟨false, 3, memD [], false⟩, ⟨false, 1, [.mapv 7], false⟩, ⟨false, 1, [.clo 56 [.ptr 6 0, .ptr 4 0, .ptr 8 0, .ptr 5 0, .ptr 9 0]], false⟩] = some (.bool true, [⟨false, 1, tarC t, false⟩, ⟨false, 1, envC 0 z16, false⟩, ⟨false, 1, bxC d, false⟩, ⟨false, 1, (d.lo).map nI, false⟩, ⟨false, 1, bxC d, false⟩, ⟨false, 1, [.slc 0 [] true], false⟩, ⟨false, 1, [.ptr 3 0], false⟩, ⟨false, 3, memD [], false⟩, ⟨false, 1, [.mapv 7], false⟩, ⟨false, 1, [.clo 56 [.ptr 6 0, .ptr 4 0, .ptr 8 0, .ptr 5 0, .ptr 9 0]], false⟩]) := by
  refine siOf_encP (α := Tar × Bx × List Int) ?_ (t, d, p) ⟨h, hp⟩ rfl
  rintro ⟨t1, d1, p1⟩ ⟨t2, d2, p2⟩ ⟨k1, _⟩ ⟨k2, _⟩ e
  dsimp only at e
  simp only [Prod.mk.injEq, List.cons.injEq, Obj.mk.injEq, ints_iff, and_true, true_and] at e
  obtain ⟨e3, e4, e5, _⟩ := e
  obtain rfl := tarC_inj e3
  obtain rfl := bxC_inj k1 k2 e4
  subst e5
  rfl
set_option maxHeartbeats 4000000 in
set_option maxRecDepth 20000 in
theorem ci_from0 : IContract Try.prog GG 56 si_from0 := by
  refine icontract_of (T := tb [] []) tr_tbox_uncovered_1 (tb_ok all_nil all_nil) ?_
  rintro ⟨t, d, p⟩ ⟨hd, hp⟩
  dsimp only at hd hp ⊢
  have c1 := cp_pt hp hd 0 (by decide)
  rw [List.take_zero, List.nil_append, List.drop_zero] at c1
  have c2 := fun st => pcpy_bsl st 3 0 16 4 0 1 false false (by omega) (by omega)
  have e1 := sliceA_from 3 0 .i64 0 (by decide)
  have e2 := sliceA_from 4 0 .i64 0 (by decide)
  rw [Int.ofNat_zero] at e1 e2
  unfold F_tbox_uncovered_1
  simp (disch := first | omega | decide) only [push_cast, ↓wF_free, ↓reduceIte, Nat.reduceEqDiff, Nat.reduceLT, Nat.reduceLeDiff, Nat.reduceAdd, Nat.reduceSub, Nat.reduceMul, Nat.reduceBEq, Int.reduceLT, Int.reduceLE, Int.reduceToNat, Int.reduceNeg, Int.reducePow, Int.reduceAdd, Int.reduceMul, Int.reduceSub, ↓Int.reduceNatCast', e1, e2, c2, c1]
def orI (s1 s2 : List D → St → Option (D × St)) : List D → St → Option (D × St) := fun ds st => match s1 ds st with
  | some r => some r
  | none => s2 ds st
theorem icontract_or {P : Program} {G : Glob} {f : Nat} {s1 s2 : List D → St → Option (D × St)} (h1 : IContract P G f s1) (h2 : IContract P G f s2) : IContract P G f (orI s1 s2) := by
  refine ⟨h1.1, ?_⟩
  intro base w g st st' ds vs d hsp
  unfold orI at hsp
  cases hs : s1 ds st with
  | some r =>
    rw [hs] at hsp
    simp only at hsp
    exact h1.2 base w g st st' ds vs d (hs.trans hsp)
  | none =>
    rw [hs] at hsp
    exact h2.2 base w g st st' ds vs d hsp
noncomputable def si_unc1 : List D → St → Option (D × St) := siOf (α := Tar × Bx × List Int)
  (fun ⟨t, d, p⟩ => ([bxD d, .slc 0 [] true, .ptr 3 0], [⟨false, 1, tarC t, false⟩, ⟨false, 1, envC 0 z16, false⟩, ⟨false, 1, bxC d, false⟩, ⟨false, 1, p.map nI, false⟩])) (fun ⟨t, d, p⟩ => d.ok ∧ p.length = 16)
  (fun ⟨t, d, p⟩ => (.bool true, [⟨false, 1, tarC t, false⟩, ⟨false, 1, envC 0 z16, false⟩, ⟨false, 1, bxC d, false⟩, ⟨false, 1, d.lo.map nI, false⟩]))
structure UncOk (d : Bx) (bs : List Bx) (p : List Int) : Prop where
  dom : Dom d
  lo : ∀ i, i < 16 → 0 ≤ at' d.lo i
  ok : okL bs
  hi : hiL bs
  ne : bs ≠ []
  le : bs.length ≤ 16
  pl : p.length = 16
noncomputable def si_unc2 : List D → St → Option (D × St) := siOf (α := Tar × Bx × List Bx × List Int)
  (fun ⟨t, d, bs, p⟩ => ([bxD d, .row 3 bs.length 0 bs.length, .ptr 4 0], [⟨false, 1, tarC t, false⟩, ⟨false, 1, envC 0 z16, false⟩, ⟨false, 1, bxC d, false⟩, ⟨true, 32, bs.map bxD, false⟩, ⟨false, 1, p.map nI, false⟩])) (fun ⟨t, d, bs, p⟩ => UncOk d bs p)
  (fun ⟨t, d, bs, p⟩ => (.bool (fromF d bs 16 (2 ^ bs.length - 1) (p, [])).2, [⟨false, 1, tarC t, false⟩, ⟨false, 1, envC 0 z16, false⟩, ⟨false, 1, bxC d, false⟩, ⟨true, 32, bs.map bxD, false⟩, ⟨false, 1, (fromF d bs 16 (2 ^ bs.length - 1) (p, [])).1.1.map nI, false⟩]))
noncomputable def si_unc : List D → St → Option (D × St) := orI si_unc1 si_unc2
theorem call_unc1 (t : Tar) (d : Bx) (p : List Int) (h : d.ok) (hp : p.length = 16) : si_unc [bxD d, .slc 0 [] true, .ptr 3 0] [⟨false, 1, tarC t, false⟩, ⟨false, 1, envC 0 z16, false⟩, ⟨false, 1, bxC d, false⟩, ⟨false, 1, p.map nI, false⟩] =
    some (.bool true, [⟨false, 1, tarC t, false⟩, ⟨false, 1, envC 0 z16, false⟩, ⟨false, 1, bxC d, false⟩, ⟨false, 1, d.lo.map nI, false⟩]) := by
  have : si_unc1 [bxD d, .slc 0 [] true, .ptr 3 0] [⟨false, 1, tarC t, false⟩, ⟨false, 1, envC 0 z16, false⟩, ⟨false, 1, bxC d, false⟩, ⟨false, 1, p.map nI, false⟩] = some (.bool true, [⟨false, 1, tarC t, false⟩, ⟨false, 1, envC 0 z16, false⟩, ⟨false, 1, bxC d, false⟩, ⟨false, 1, d.lo.map nI, false⟩]) := by
    refine siOf_encP (α := Tar × Bx × List Int) ?_ (t, d, p) ⟨h, hp⟩ rfl
    rintro ⟨t1, d1, p1⟩ ⟨t2, d2, p2⟩ ⟨k1, _⟩ ⟨k2, _⟩ e
    dsimp only at e
    simp only [Prod.mk.injEq, List.cons.injEq, Obj.mk.injEq, ints_iff, and_true, true_and] at e
    obtain ⟨_, e3, e4, e5⟩ := e
    obtain rfl := tarC_inj e3
    obtain rfl := bxC_inj k1 k2 e4
    subst e5
    rfl
  unfold si_unc orI
  rw [this]
theorem call_unc2 (t : Tar) (d : Bx) (bs : List Bx) (p : List Int) (h : UncOk d bs p) : si_unc [bxD d, .row 3 bs.length 0 bs.length, .ptr 4 0] [⟨false, 1, tarC t, false⟩, ⟨false, 1, envC 0 z16, false⟩, ⟨false, 1, bxC d, false⟩, ⟨true, 32, bs.map bxD, false⟩, ⟨false, 1, p.map nI, false⟩] =
    some (.bool (fromF d bs 16 (2 ^ bs.length - 1) (p, [])).2, [⟨false, 1, tarC t, false⟩, ⟨false, 1, envC 0 z16, false⟩, ⟨false, 1, bxC d, false⟩, ⟨true, 32, bs.map bxD, false⟩, ⟨false, 1, (fromF d bs 16 (2 ^ bs.length - 1) (p, [])).1.1.map nI, false⟩]) := by
  have h1 : si_unc1 [bxD d, .row 3 bs.length 0 bs.length, .ptr 4 0] [⟨false, 1, tarC t, false⟩, ⟨false, 1, envC 0 z16, false⟩, ⟨false, 1, bxC d, false⟩, ⟨true, 32, bs.map bxD, false⟩, ⟨false, 1, p.map nI, false⟩] = none := by
    cases hs : si_unc1 [bxD d, .row 3 bs.length 0 bs.length, .ptr 4 0] [⟨false, 1, tarC t, false⟩, ⟨false, 1, envC 0 z16, false⟩, ⟨false, 1, bxC d, false⟩, ⟨true, 32, bs.map bxD, false⟩, ⟨false, 1, p.map nI, false⟩] with
    | none => rfl
    | some r =>
      obtain ⟨⟨t1, d1, p1⟩, e, _⟩ := siOf_inv hs
      dsimp only at e
      simp at e
  have h2 : si_unc2 [bxD d, .row 3 bs.length 0 bs.length, .ptr 4 0] [⟨false, 1, tarC t, false⟩, ⟨false, 1, envC 0 z16, false⟩, ⟨false, 1, bxC d, false⟩, ⟨true, 32, bs.map bxD, false⟩, ⟨false, 1, p.map nI, false⟩] = some (.bool (fromF d bs 16 (2 ^ bs.length - 1) (p, [])).2, [⟨false, 1, tarC t, false⟩, ⟨false, 1, envC 0 z16, false⟩, ⟨false, 1, bxC d, false⟩, ⟨true, 32, bs.map bxD, false⟩, ⟨false, 1, (fromF d bs 16 (2 ^ bs.length - 1) (p, [])).1.1.map nI, false⟩]) := by
    refine siOf_encP (α := Tar × Bx × List Bx × List Int) ?_ (t, d, bs, p) h rfl
    rintro ⟨t1, d1, b1, p1⟩ ⟨t2, d2, b2, p2⟩ k1 k2 e
    dsimp only at e k1 k2
    simp only [Prod.mk.injEq, List.cons.injEq, Obj.mk.injEq, ints_iff, boxs_cond k1.ok k2.ok, and_true, true_and] at e
    obtain ⟨_, e3, e4, e6, e5⟩ := e
    obtain rfl := tarC_inj e3
    obtain rfl := bxC_inj k1.dom.ok k2.dom.ok e4
    subst e5
    subst e6
    rfl
  unfold si_unc orI
  rw [h1]
  exact h2
set_option maxHeartbeats 4000000 in
set_option maxRecDepth 20000 in
theorem ci_unc1 : IContract Try.prog GG 36 si_unc1 := by
  refine icontract_of (T := tb [] [(56, si_from0)]) tr_tbox_uncovered (tb_ok all_nil (all_cons ci_from0 all_nil)) ?_
  rintro ⟨t, d, p⟩ ⟨hd, hp⟩
  dsimp only at hd hp ⊢
  have c := call_from0 t d p hd hp
  have hm : (memD []) = [] := rfl
  rw [hm] at c
  have sh := shl_pow (k := 0) (by decide) .i64
  rw [Int.ofNat_zero, show ((2 ^ 0 : Nat) : Int) = 1 from rfl] at sh
  unfold F_tbox_uncovered
  simp (disch := first | omega | decide) only [push_cast, ↓wF_free, ↓reduceIte, Nat.reduceEqDiff, Nat.reduceLT, Nat.reduceLeDiff, Nat.reduceAdd, Nat.reduceSub, Nat.reduceMul, Nat.reduceBEq, Int.reduceLT, Int.reduceLE, Int.reduceToNat, Int.reduceNeg, Int.reducePow, Int.reduceAdd, Int.reduceMul, Int.reduceSub, ↓Int.reduceNatCast', mk_map3, sh, sub_i, c]
set_option maxHeartbeats 4000000 in
set_option maxRecDepth 20000 in
theorem ci_unc2 : IContract Try.prog GG 36 si_unc2 := by
  refine icontract_of (T := tb [] [(56, si_from 17)]) tr_tbox_uncovered (tb_ok all_nil (all_cons (ci_from 17) all_nil)) ?_
  rintro ⟨t, d, bs, p⟩ ⟨hd, hlo, hok, hhi, hne, hle, hp⟩
  dsimp only at hd hlo hok hhi hne hle hp ⊢
  have hpos := Nat.one_le_two_pow (n := bs.length)
  have c := call_from 17 t d bs p [] 0 (2 ^ bs.length - 1) ⟨hd, hlo, hok, hhi, hne, hle, Nat.zero_le _, by omega, hp⟩ (by omega)
  have hm : (memD []) = [] := rfl
  rw [hm, Nat.sub_zero, Int.ofNat_sub hpos, Int.ofNat_zero, show ((1 : Nat) : Int) = 1 from rfl] at c
  have hp2 : (2 : Nat) ^ bs.length ≤ 2 ^ 16 := Nat.pow_le_pow_right (by decide) hle
  have hp3 : (2 : Nat) ^ 16 = 65536 := rfl
  have sh := shl_pow (k := bs.length) (by omega) .i64
  have l1 := liR_map bxD 32 bs false bs.length rfl
  generalize hZ : (2 : Nat) ^ bs.length = Z at *
  unfold F_tbox_uncovered
  simp (disch := first | omega | decide) only [push_cast, ↓wF_free, ↓reduceIte, Nat.reduceEqDiff, Nat.reduceLT, Nat.reduceLeDiff, Nat.reduceAdd, Nat.reduceSub, Nat.reduceMul, Nat.reduceBEq, Int.reduceLT, Int.reduceLE, Int.reduceToNat, Int.reduceNeg, Int.reducePow, Int.reduceAdd, Int.reduceMul, Int.reduceSub, ↓Int.reduceNatCast', mk_map3, l1, sh, sub_i, c]
  rw [hZ]
theorem ci_unc : IContract Try.prog GG 36 si_unc := icontract_or ci_unc1 ci_unc2
theorem gapE_bad {cl : List Cls} {l : List Tst} (h : domB l = false) : gapE cl l = 1 ∧ gapB cl l = false ∧ gapH cl l = 0 ∧ gapV cl l = z16 := by
  have e : gapE cl l = 1 := by unfold gapE; rw [h]; rfl
  have b : gapB cl l = false := by unfold gapB; rw [e]; rfl
  exact ⟨e, b, by unfold gapH; rw [b]; rfl, by unfold gapV; rw [b]; rfl⟩
theorem gapE_many {cl : List Cls} {l : List Tst} (h : domB l = true) (h2 : 16 < cl.length) : gapE cl l = 2 ∧ gapB cl l = false ∧ gapH cl l = 0 ∧ gapV cl l = z16 := by
  have e : gapE cl l = 2 := by unfold gapE; rw [h, if_pos rfl, if_pos h2]
  have b : gapB cl l = false := by unfold gapB; rw [e]; rfl
  exact ⟨e, b, by unfold gapH; rw [b]; rfl, by unfold gapV; rw [b]; rfl⟩
theorem gapE_ok {cl : List Cls} {l : List Tst} (h : domB l = true) (h2 : ¬ 16 < cl.length) : gapE cl l = 0 ∧ gapB cl l = (gapF cl l).2 := by
  have e : gapE cl l = 0 := by unfold gapE; rw [h, if_pos rfl, if_neg h2]
  exact ⟨e, by unfold gapB; rw [e]; simp⟩
theorem gap_yes {cl : List Cls} {l : List Tst} (h : gapB cl l = true) : gapH cl l = 65535 ∧ gapV cl l = (gapF cl l).1 := ⟨by unfold gapH; rw [h]; rfl, by unfold gapV; rw [h]; rfl⟩
theorem gap_no {cl : List Cls} {l : List Tst} (h : gapB cl l = false) : gapH cl l = 0 ∧ gapV cl l = z16 := ⟨by unfold gapH; rw [h]; rfl, by unfold gapV; rw [h]; rfl⟩
theorem gapF_len {cl : List Cls} {l : List Tst} (h : domB l = true) : (gapF cl l).1.length = 16 := srch_len (dom_dom h) 16 (Nat.le_refl _) _ _ z16_length
end Go.Proofs.Ytgppecaeegaooaa.PI
namespace Go.Proofs.Ytgppecaeegaooaa.PI
open Go
set_option linter.unusedSimpArgs false
set_option linter.unusedVariables false
theorem srch_nil (d : Bx) (m : Nat) (v : List Int) : srch d (m + 1) [] v = (v.take (15 - m) ++ d.lo.drop (15 - m), true) := by
  rw [srch]
  rfl
theorem srch_nil16 (d : Bx) (v : List Int) : srch d 16 [] v = (d.lo, true) := srch_nil d 15 v
noncomputable def sp_pgap : List D → Option D := spOf (α := Tar × List Tst) (fun a => [tarD a.1, .slc (nz 3 (a.2.map tstD)) (a.2.map tstD) false]) (fun a => a.2.length ≤ 9223372036854775807 ∧ ∀ c ∈ a.1.cl, c.wh.length ≤ 9223372036854775807) (fun a => .tup [envD (gapH a.1.cl a.2) (gapV a.1.cl a.2), .bool (gapB a.1.cl a.2), .int .i64 (gapE a.1.cl a.2)])
theorem call_pgap (t : Tar) (l : List Tst) (h : l.length ≤ 9223372036854775807 ∧ ∀ c ∈ t.cl, c.wh.length ≤ 9223372036854775807) : sp_pgap [tarD t, .slc (nz 3 (l.map tstD)) (l.map tstD) false] = some (.tup [envD (gapH t.cl l) (gapV t.cl l), .bool (gapB t.cl l), .int .i64 (gapE t.cl l)]) :=
  spOf_enc (fun ⟨a0, a1⟩ ⟨b0, b1⟩ h => by simp only [List.cons.injEq, D.slc.injEq, D.int.injEq, D.bool.injEq, D.str.injEq, D.agg.injEq, digs_iff, dig_iff, digC_iff, bytes_iff, byte_iff, words_iff, word_iff, bsl_iff, true_and, and_true, ints_iff, nI_iff, tsts_iff, clss_iff, clsD_iff, tarD_iff, tstD_iff, ptD_iff, Int.ofNat_inj] at h; simp [h, Prod.ext_iff]) (t, l) h
set_option maxHeartbeats 4000000 in
set_option maxRecDepth 20000 in
theorem w_pgap (t : Tar) (l : List Tst) (h : l.length ≤ 9223372036854775807 ∧ ∀ c ∈ t.cl, c.wh.length ≤ 9223372036854775807) : @wW GG (tb [(35, sp_preg), (34, sp_pof), (37, sp_penv)] [(36, si_unc)]) F_tbox_Gap.code (argF [tarD t, .slc (nz 3 (l.map tstD)) (l.map tstD) false]) [] ⟨retQ F_tbox_Gap.res (.tup [envD (gapH t.cl l) (gapV t.cl l), .bool (gapB t.cl l), .int .i64 (gapE t.cl l)])⟩ := by
  obtain ⟨hl, hw⟩ := h
  have cd := call_preg l hl
  have hdo := domD_ok l
  unfold F_tbox_Gap
  cases hb : domB l with
  | false =>
    obtain ⟨g1, g2, g3, g4⟩ := gapE_bad (cl := t.cl) hb
    rw [hb] at cd
    simp (disch := first | omega | decide) only [push_cast, ↓wF_free, ↓reduceIte, Nat.reduceEqDiff, Nat.reduceLT, Nat.reduceLeDiff, Nat.reduceAdd, Nat.reduceSub, Nat.reduceMul, Nat.reduceBEq, Int.reduceLT, Int.reduceLE, Int.reduceToNat, Int.reduceNeg, Int.reducePow, Int.reduceAdd, Int.reduceMul, Int.reduceSub, ↓Int.reduceNatCast', cd, stB _ zBx_ok hdo, fill_env0, stE _ z16_length z16_length, ldE _ _ z16_length, g1, g2, g3, g4]
  | true =>
    rw [hb] at cd
    by_cases h16 : 16 < t.cl.length
    · obtain ⟨g1, g2, g3, g4⟩ := gapE_many (cl := t.cl) hb h16
      have h16' : (16 : Int) < (t.cl.length : Int) := by omega
      simp (disch := first | omega | decide) only [push_cast, ↓wF_free, ↓reduceIte, Nat.reduceEqDiff, Nat.reduceLT, Nat.reduceLeDiff, Nat.reduceAdd, Nat.reduceSub, Nat.reduceMul, Nat.reduceBEq, Int.reduceLT, Int.reduceLE, Int.reduceToNat, Int.reduceNeg, Int.reducePow, Int.reduceAdd, Int.reduceMul, Int.reduceSub, ↓Int.reduceNatCast', cd, stB _ zBx_ok hdo, h16', fill_env0, stE _ z16_length z16_length, ldE _ _ z16_length, g1, g2, g3, g4]
    · obtain ⟨g1, g2⟩ := gapE_ok (cl := t.cl) hb h16
      have h16' : ¬ (16 : Int) < (t.cl.length : Int) := by omega
      simp (disch := first | omega | decide) only [push_cast, ↓wF_free, ↓reduceIte, Nat.reduceEqDiff, Nat.reduceLT, Nat.reduceLeDiff, Nat.reduceAdd, Nat.reduceSub, Nat.reduceMul, Nat.reduceBEq, Int.reduceLT, Int.reduceLE, Int.reduceToNat, Int.reduceNeg, Int.reducePow, Int.reduceAdd, Int.reduceMul, Int.reduceSub, ↓Int.reduceNatCast', cd, stB _ zBx_ok hdo, h16']
      rw [nil_bufD 3]
      refine W_while (fun i : Nat => [(4, .ptr 1 0), (7, .ptr 2 0), (9, bufD 0 3 ((bsF (t.cl.take i)).map bxD)), (29, .slc (nz 9 (t.cl.map clsD)) (t.cl.map clsD) false), (30, .int .i64 (t.cl.length : Int)), (31, .int .i64 (i : Int))])
        (fun i => ⟨false, 1, tarC t, false⟩ :: ⟨false, 1, envC 0 z16, false⟩ :: ⟨false, 1, bxC (domD l), false⟩ :: bufS 32 ((bsF (t.cl.take i)).map bxD)) (fun i => i ≤ t.cl.length) (fun i => t.cl.length - i) 0 (by simp only [push_cast, ↓wF_free, ↓reduceIte, Nat.reduceEqDiff, Nat.reduceLT, Nat.reduceLeDiff, Nat.reduceAdd, Nat.reduceSub, Nat.reduceMul, Nat.reduceBEq, Int.reduceLT, Int.reduceLE, Int.reduceToNat, Int.reduceNeg, Int.reducePow, Int.reduceAdd, Int.reduceMul, Int.reduceSub, ↓Int.reduceNatCast'] <;> rfl) (Nat.zero_le _) ?_
      intro i hi
      unfold F_tbox_Gap_L0
      simp (disch := first | omega | decide) only [push_cast, ↓wF_free, ↓reduceIte, Nat.reduceEqDiff, Nat.reduceLT, Nat.reduceLeDiff, Nat.reduceAdd, Nat.reduceSub, Nat.reduceMul, Nat.reduceBEq, Int.reduceLT, Int.reduceLE, Int.reduceToNat, Int.reduceNeg, Int.reducePow, Int.reduceAdd, Int.reduceMul, Int.reduceSub, ↓Int.reduceNatCast']
      refine ifD_split (fun h2 => ?_) (fun h2 => ?_)
      · have hlt : i < t.cl.length := by omega
        have hix := fun st => idxS_nz st 9 clsD t.cl false .i64 (i : Int) (by omega) (by omega)
        rw [Int.toNat_natCast] at hix
        have cc := call_pof (t.cl.getD i default) (hw _ (getD_memC hlt))
        have hbx := ofB_ok (t.cl.getD i default).wh
        have hbt := bsF_take t.cl i hlt
        have hbl := bsF_len (t.cl.take i)
        rw [List.length_take] at hbl
        by_cases hA : bsF (t.cl.take i) = []
        · rw [hA]
          rw [hA] at hbt
          simp only [List.map_nil, bufD_nil, bufS_nil]
          cases k : (ofB (t.cl.getD i default).wh).2 with
          | false =>
            rw [k] at cc hbt
            simp (disch := first | omega | decide) only [push_cast, ↓wF_free, ↓reduceIte, Nat.reduceEqDiff, Nat.reduceLT, Nat.reduceLeDiff, Nat.reduceAdd, Nat.reduceSub, Nat.reduceMul, Nat.reduceBEq, Int.reduceLT, Int.reduceLE, Int.reduceToNat, Int.reduceNeg, Int.reducePow, Int.reduceAdd, Int.reduceMul, Int.reduceSub, ↓Int.reduceNatCast', hix, cc, stB _ zBx_ok hbx, add_i]
            refine next_head (i + 1) (by omega) (by omega) ?_
            rw [hbt]
            simp only [push_cast, ↓wF_free, ↓reduceIte, Nat.reduceEqDiff, Nat.reduceLT, Nat.reduceLeDiff, Nat.reduceAdd, Nat.reduceSub, Nat.reduceMul, Nat.reduceBEq, Int.reduceLT, Int.reduceLE, Int.reduceToNat, Int.reduceNeg, Int.reducePow, Int.reduceAdd, Int.reduceMul, Int.reduceSub, ↓Int.reduceNatCast'] <;> rfl
          | true =>
            rw [k] at cc hbt
            have pf := fun st => papp_first1 bxD st 32 0 256 (ofB (t.cl.getD i default).wh).1 true (by decide) (by decide)
            simp (disch := first | omega | decide) only [push_cast, ↓wF_free, ↓reduceIte, Nat.reduceEqDiff, Nat.reduceLT, Nat.reduceLeDiff, Nat.reduceAdd, Nat.reduceSub, Nat.reduceMul, Nat.reduceBEq, Int.reduceLT, Int.reduceLE, Int.reduceToNat, Int.reduceNeg, Int.reducePow, Int.reduceAdd, Int.reduceMul, Int.reduceSub, ↓Int.reduceNatCast', hix, cc, stB _ zBx_ok hbx, ldB _ _ hbx, litD_bx hbx, pf, add_i]
            refine next_head (i + 1) (by omega) (by omega) ?_
            rw [hbt]
            simp only [push_cast, ↓wF_free, ↓reduceIte, Nat.reduceEqDiff, Nat.reduceLT, Nat.reduceLeDiff, Nat.reduceAdd, Nat.reduceSub, Nat.reduceMul, Nat.reduceBEq, Int.reduceLT, Int.reduceLE, Int.reduceToNat, Int.reduceNeg, Int.reducePow, Int.reduceAdd, Int.reduceMul, Int.reduceSub, ↓Int.reduceNatCast'] <;> rfl
        · have hA' : (bsF (t.cl.take i)).map bxD ≠ [] := by simpa using hA
          rw [bufD_ne _ _ _ hA', bufS_ne _ _ hA', List.length_map]
          cases k : (ofB (t.cl.getD i default).wh).2 with
          | false =>
            rw [k] at cc hbt
            simp (disch := first | omega | decide) only [push_cast, ↓wF_free, ↓reduceIte, Nat.reduceEqDiff, Nat.reduceLT, Nat.reduceLeDiff, Nat.reduceAdd, Nat.reduceSub, Nat.reduceMul, Nat.reduceBEq, Int.reduceLT, Int.reduceLE, Int.reduceToNat, Int.reduceNeg, Int.reducePow, Int.reduceAdd, Int.reduceMul, Int.reduceSub, ↓Int.reduceNatCast', hix, cc, stB _ zBx_ok hbx, add_i]
            refine next_head (i + 1) (by omega) (by omega) ?_
            rw [hbt]
            simp only [Bool.false_eq_true, if_false]
            rw [bufD_ne _ _ _ hA', bufS_ne _ _ hA', List.length_map]
            simp only [push_cast, ↓wF_free, ↓reduceIte, Nat.reduceEqDiff, Nat.reduceLT, Nat.reduceLeDiff, Nat.reduceAdd, Nat.reduceSub, Nat.reduceMul, Nat.reduceBEq, Int.reduceLT, Int.reduceLE, Int.reduceToNat, Int.reduceNeg, Int.reducePow, Int.reduceAdd, Int.reduceMul, Int.reduceSub, ↓Int.reduceNatCast'] <;> rfl
          | true =>
            rw [k] at cc hbt
            have pf := fun st => apR_one bxD 32 256 (bsF (t.cl.take i)) (ofB (t.cl.getD i default).wh).1 false true st (by decide) (by omega) (by omega)
            simp (disch := first | omega | decide) only [push_cast, ↓wF_free, ↓reduceIte, Nat.reduceEqDiff, Nat.reduceLT, Nat.reduceLeDiff, Nat.reduceAdd, Nat.reduceSub, Nat.reduceMul, Nat.reduceBEq, Int.reduceLT, Int.reduceLE, Int.reduceToNat, Int.reduceNeg, Int.reducePow, Int.reduceAdd, Int.reduceMul, Int.reduceSub, ↓Int.reduceNatCast', hix, cc, stB _ zBx_ok hbx, ldB _ _ hbx, litD_bx hbx, pf, add_i]
            refine next_head (i + 1) (by omega) (by omega) ?_
            rw [hbt]
            simp only [if_true]
            rw [bufD_snoc, bufS_snoc]
            simp only [push_cast, ↓wF_free, ↓reduceIte, Nat.reduceEqDiff, Nat.reduceLT, Nat.reduceLeDiff, Nat.reduceAdd, Nat.reduceSub, Nat.reduceMul, Nat.reduceBEq, Int.reduceLT, Int.reduceLE, Int.reduceToNat, Int.reduceNeg, Int.reducePow, Int.reduceAdd, Int.reduceMul, Int.reduceSub, ↓Int.reduceNatCast'] <;> rfl
      · obtain rfl : i = t.cl.length := by omega
        rw [List.take_length]
        have hdl := hdo.1
        by_cases hA : bsF t.cl = []
        · rw [hA]
          have c1 := call_unc1 t (domD l) (domD l).lo hdo hdl
          have gf : gapF t.cl l = ((domD l).lo, true) := by
            unfold gapF
            rw [hA]
            exact srch_nil16 (domD l) z16
          rw [gf] at g2
          obtain ⟨g3, g4⟩ := gap_yes g2
          rw [gf] at g4
          have ce := call_penv (domD l).lo hdl
          simp (disch := first | omega | decide) only [push_cast, ↓wF_free, ↓reduceIte, Nat.reduceEqDiff, Nat.reduceLT, Nat.reduceLeDiff, Nat.reduceAdd, Nat.reduceSub, Nat.reduceMul, Nat.reduceBEq, Int.reduceLT, Int.reduceLE, Int.reduceToNat, Int.reduceNeg, Int.reducePow, Int.reduceAdd, Int.reduceMul, Int.reduceSub, ↓Int.reduceNatCast', List.map_nil, bufD_nil, bufS_nil, ldB_l _ _ hdo, stP _ z16_length hdl, ldB _ _ hdo, c1, ldP _ _ hdl, ce, stE _ z16_length hdl, ldE _ _ hdl, g1, g2, g3, g4]
        · have hA' : (bsF t.cl).map bxD ≠ [] := by simpa using hA
          rw [bufD_ne _ _ _ hA', bufS_ne _ _ hA', List.length_map]
          have hbl := bsF_len t.cl
          have c2 := call_unc2 t (domD l) (bsF t.cl) (domD l).lo ⟨dom_dom hb, dom_lo hb, bsF_ok _, bsF_hi _, hA, by omega, hdl⟩
          obtain ⟨f1, f2⟩ := from_srch (dom_dom hb) (bs := bsF t.cl) (p := (domD l).lo) hdl
          have hfl := gapF_len (cl := t.cl) hb
          have gfd : srch (domD l) 16 (bsF t.cl) z16 = gapF t.cl l := by unfold gapF; rfl
          rw [gfd] at f1 f2
          rw [f1, ← g2] at c2
          rw [← g2] at f2
          cases k : gapB t.cl l with
          | false =>
            rw [k] at c2
            obtain ⟨g3, g4⟩ := gap_no k
            simp (disch := first | omega | decide) only [push_cast, ↓wF_free, ↓reduceIte, Nat.reduceEqDiff, Nat.reduceLT, Nat.reduceLeDiff, Nat.reduceAdd, Nat.reduceSub, Nat.reduceMul, Nat.reduceBEq, Int.reduceLT, Int.reduceLE, Int.reduceToNat, Int.reduceNeg, Int.reducePow, Int.reduceAdd, Int.reduceMul, Int.reduceSub, ↓Int.reduceNatCast', ldB_l _ _ hdo, stP _ z16_length hdl, ldB _ _ hdo, c2, fill_env0, stE _ z16_length z16_length, ldE _ _ z16_length, g1, g3, g4]
          | true =>
            rw [k] at c2
            rw [f2 k] at c2
            obtain ⟨g3, g4⟩ := gap_yes k
            have ce := call_penv (gapF t.cl l).1 hfl
            simp (disch := first | omega | decide) only [push_cast, ↓wF_free, ↓reduceIte, Nat.reduceEqDiff, Nat.reduceLT, Nat.reduceLeDiff, Nat.reduceAdd, Nat.reduceSub, Nat.reduceMul, Nat.reduceBEq, Int.reduceLT, Int.reduceLE, Int.reduceToNat, Int.reduceNeg, Int.reducePow, Int.reduceAdd, Int.reduceMul, Int.reduceSub, ↓Int.reduceNatCast', ldB_l _ _ hdo, stP _ z16_length hdl, ldB _ _ hdo, c2, ldP _ _ hfl, ce, stE _ z16_length hfl, ldE _ _ hfl, g1, g3, g4]
theorem c_pgap : Contract Try.prog GG 17 sp_pgap :=
  contract_of tr_tbox_Gap (tb_ok (all_cons c_preg (all_cons c_pof (all_cons c_penv all_nil))) (all_cons ci_unc all_nil)) (fun a h => w_pgap a.1 a.2 h)
end Go.Proofs.Ytgppecaeegaooaa.PI
namespace Go.Proofs.Ytgppecaeegaooaa.PI
open Go
set_option linter.unusedSimpArgs false
set_option linter.unusedVariables false
end Go.Proofs.Ytgppecaeegaooaa.PI
namespace Go.Proofs.Ytgppecaeegaooaa.PI
open Go
set_option linter.unusedSimpArgs false
set_option linter.unusedVariables false
def clsR (s : List UInt8) (l : List Tst) : List D := [.str s, .slc (nz 3 (l.map tstD)) (l.map tstD) false, .int .i64 0, .int .i64 0, .int .i64 0, .int .i64 0, .int .i64 0, .int .i64 0, .slc 0 [] true]
def clsN (s : List UInt8) (l : List Tst) : Cls := ⟨s, l, 0, 0, 0, 0, 0, 0, []⟩
theorem fill_cls (s : List UInt8) (l : List Tst) : fillD [.str [], .slc 0 [] true, .int .i64 0, .int .i64 0, .int .i64 0, .int .i64 0, .int .i64 0, .int .i64 0, .slc 0 [] true] [(0, 1, .str s), (1, 1, .slc (nz 3 (l.map tstD)) (l.map tstD) false)] = some (clsR s l) := (rfl)
theorem fill_cls1 (l : List Tst) : fillD [.str [], .slc 0 [] true, .int .i64 0, .int .i64 0, .int .i64 0, .int .i64 0, .int .i64 0, .int .i64 0, .slc 0 [] true] [(1, 1, .slc (nz 3 (l.map tstD)) (l.map tstD) false)] = some (clsR [] l) := (rfl)
theorem st_clsR (sz : Nat) (s : List UInt8) (l : List Tst) : stO (some ⟨false, sz, cls0, false⟩) 9 0 (.agg (clsR s l)) = some ⟨false, sz, clsR s l, false⟩ := stO_all sz _ _ 9 rfl rfl rfl
theorem ld_clsR (sz : Nat) (lent : Bool) (s : List UInt8) (l : List Tst) : ldO (some ⟨false, sz, clsR s l, lent⟩) 9 true 0 = some (.agg (clsR s l)) := ldO_all sz lent _ 9 rfl
theorem imm_clsR (st : St) (s : List UInt8) (l : List Tst) : immL st (clsR s l) = some (clsC (clsN s l)) := by
  simp only [clsR, immL, imm1, D.pure1, if_true, nz_nz, clsC, clsN]
  rfl
theorem fill_tar (l : List Cls) : fillD [.str [], .int .i64 0, .slc 0 [] true] [(2, 1, .slc (nz 9 (l.map clsD)) (l.map clsD) false)] = some (tarC ⟨[], 0, l⟩) := (rfl)
def tar0 : List D := [.str [], .int .i64 0, .slc 0 [] true]
theorem zero_tar : boxD (.agg [.str [], .int .i64 0, .slc 0 [] true]) = some tar0 := (rfl)
theorem st_tar0 (sz : Nat) (t : Tar) : stO (some ⟨false, sz, tar0, false⟩) 3 0 (tarD t) = some ⟨false, sz, tarC t, false⟩ := stO_all sz _ _ 3 rfl rfl (tarC_cell t)
theorem tarD_eq (t : Tar) : D.agg (tarC t) = tarD t := (rfl)
theorem clsD_eq (c : Cls) : D.agg (clsC c) = clsD c := (rfl)
theorem fill_tst (a b : Int) : fillD [.int .i64 0, .int .i64 0, .int .i64 0] [(0, 1, .int .i64 4), (1, 1, .int .i64 a), (2, 1, .int .i64 b)] = some [.int .i64 4, .int .i64 a, .int .i64 b] := (rfl)
theorem tst_eq3 (a b c : Int) : D.agg [.int .i64 a, .int .i64 b, .int .i64 c] = tstD ⟨a, b, c⟩ := (rfl)
theorem zero_tst : boxD (tstD ⟨0, 0, 0⟩) = some [.int .i64 0, .int .i64 0, .int .i64 0] := (rfl)
attribute [push_cast] fill_cls fill_cls1 st_clsR ld_clsR imm_clsR fill_tar zero_tar st_tar0 tarD_eq clsD_eq fill_tst tst_eq3 zero_tst
noncomputable def sp_mkcls : List D → Option D := spOf (α := List Tst) (fun a => [.slc (nz 3 (a.map tstD)) (a.map tstD) false]) (fun a => True) (fun a => clsD (clsN [97] a))
theorem call_mkcls (l : List Tst) : sp_mkcls [.slc (nz 3 (l.map tstD)) (l.map tstD) false] = some (clsD (clsN [97] l)) :=
  spOf_enc (fun a b h => by simp only [List.cons.injEq, D.slc.injEq, D.int.injEq, D.bool.injEq, D.str.injEq, D.agg.injEq, digs_iff, dig_iff, digC_iff, bytes_iff, byte_iff, words_iff, word_iff, bsl_iff, true_and, and_true, ints_iff, nI_iff, tsts_iff, clss_iff, clsD_iff, tarD_iff, tstD_iff, ptD_iff, Int.ofNat_inj] at h; simp [h, Prod.ext_iff]) (l) trivial
set_option maxHeartbeats 4000000 in
set_option maxRecDepth 20000 in
theorem w_mkcls (l : List Tst) : @wW GG (tb [] []) F_wagonpoollaw19_clause.code (argF [.slc (nz 3 (l.map tstD)) (l.map tstD) false]) [] ⟨retQ F_wagonpoollaw19_clause.res (clsD (clsN [97] l))⟩ := by
  unfold F_wagonpoollaw19_clause
  simp (disch := first | omega | decide) only [push_cast, ↓wF_free, ↓reduceIte, Nat.reduceEqDiff, Nat.reduceLT, Nat.reduceLeDiff, Nat.reduceAdd, Nat.reduceSub, Nat.reduceMul, Nat.reduceBEq, Int.reduceLT, Int.reduceLE, Int.reduceToNat, Int.reduceNeg, Int.reducePow, Int.reduceAdd, Int.reduceMul, Int.reduceSub, ↓Int.reduceNatCast']
theorem c_mkcls : Contract Try.prog GG 27 sp_mkcls :=
  contract_of tr_wagonpoollaw19_clause (tb_ok all_nil all_nil) (fun a h => w_mkcls a)
noncomputable def sp_mktar : List D → Option D := spOf (α := List Cls) (fun a => [.slc (nz 9 (a.map clsD)) (a.map clsD) false]) (fun a => True) (fun a => tarD ⟨[], 0, a⟩)
theorem call_mktar (l : List Cls) : sp_mktar [.slc (nz 9 (l.map clsD)) (l.map clsD) false] = some (tarD ⟨[], 0, l⟩) :=
  spOf_enc (fun a b h => by simp only [List.cons.injEq, D.slc.injEq, D.int.injEq, D.bool.injEq, D.str.injEq, D.agg.injEq, digs_iff, dig_iff, digC_iff, bytes_iff, byte_iff, words_iff, word_iff, bsl_iff, true_and, and_true, ints_iff, nI_iff, tsts_iff, clss_iff, clsD_iff, tarD_iff, tstD_iff, ptD_iff, Int.ofNat_inj] at h; simp [h, Prod.ext_iff]) (l) trivial
set_option maxHeartbeats 4000000 in
set_option maxRecDepth 20000 in
theorem w_mktar (l : List Cls) : @wW GG (tb [] []) F_wagonpoollaw19_tariff.code (argF [.slc (nz 9 (l.map clsD)) (l.map clsD) false]) [] ⟨retQ F_wagonpoollaw19_tariff.res (tarD ⟨[], 0, l⟩)⟩ := by
  unfold F_wagonpoollaw19_tariff
  simp (disch := first | omega | decide) only [push_cast, ↓wF_free, ↓reduceIte, Nat.reduceEqDiff, Nat.reduceLT, Nat.reduceLeDiff, Nat.reduceAdd, Nat.reduceSub, Nat.reduceMul, Nat.reduceBEq, Int.reduceLT, Int.reduceLE, Int.reduceToNat, Int.reduceNeg, Int.reducePow, Int.reduceAdd, Int.reduceMul, Int.reduceSub, ↓Int.reduceNatCast']
theorem c_mktar : Contract Try.prog GG 16 sp_mktar :=
  contract_of tr_wagonpoollaw19_tariff (tb_ok all_nil all_nil) (fun a h => w_mktar a)
noncomputable def sp_mktst : List D → Option D := spOf (α := Int × Int) (fun a => [.int .i64 a.1, .int .i64 a.2]) (fun a => True) (fun a => tstD ⟨4, a.1, a.2⟩)
theorem call_mktst (a : Int) (b : Int) : sp_mktst [.int .i64 a, .int .i64 b] = some (tstD ⟨4, a, b⟩) :=
  spOf_enc (fun ⟨a0, a1⟩ ⟨b0, b1⟩ h => by simp only [List.cons.injEq, D.slc.injEq, D.int.injEq, D.bool.injEq, D.str.injEq, D.agg.injEq, digs_iff, dig_iff, digC_iff, bytes_iff, byte_iff, words_iff, word_iff, bsl_iff, true_and, and_true, ints_iff, nI_iff, tsts_iff, clss_iff, clsD_iff, tarD_iff, tstD_iff, ptD_iff, Int.ofNat_inj] at h; simp [h, Prod.ext_iff]) (a, b) trivial
set_option maxHeartbeats 4000000 in
set_option maxRecDepth 20000 in
theorem w_mktst (a : Int) (b : Int) : @wW GG (tb [] []) F_wagonpoollaw19_class.code (argF [.int .i64 a, .int .i64 b]) [] ⟨retQ F_wagonpoollaw19_class.res (tstD ⟨4, a, b⟩)⟩ := by
  unfold F_wagonpoollaw19_class
  simp (disch := first | omega | decide) only [push_cast, ↓wF_free, ↓reduceIte, Nat.reduceEqDiff, Nat.reduceLT, Nat.reduceLeDiff, Nat.reduceAdd, Nat.reduceSub, Nat.reduceMul, Nat.reduceBEq, Int.reduceLT, Int.reduceLE, Int.reduceToNat, Int.reduceNeg, Int.reducePow, Int.reduceAdd, Int.reduceMul, Int.reduceSub, ↓Int.reduceNatCast']
theorem c_mktst : Contract Try.prog GG 28 sp_mktst :=
  contract_of tr_wagonpoollaw19_class (tb_ok all_nil all_nil) (fun a h => w_mktst a.1 a.2)
end Go.Proofs.Ytgppecaeegaooaa.PI
namespace Go.Proofs.Ytgppecaeegaooaa.PI
open Go
set_option linter.unusedSimpArgs false
set_option linter.unusedVariables false
theorem flat_ints : ∀ (n : Nat) (l m : List Int), l.length = n → m.length = n → flatEq (List.replicate n 0) (l.map nI) (m.map nI) = some (decide (l = m))
  | 0, [], [], _, _ => (rfl)
  | 0, x :: l, m, h, _ => by cases h
  | 0, [], x :: m, _, h => by cases h
  | n + 1, [], m, h, _ => by cases h
  | n + 1, x :: l, [], _, h => by cases h
  | n + 1, x :: l, y :: m, h1, h2 => by
    have := flat_ints n l m (by simpa using h1) (by simpa using h2)
    simp only [List.replicate_succ, List.map_cons, flatEq, this, nI, flatEq1, if_true, List.cons.injEq]
    by_cases e : x = y
    · subst e; simp
    · have : (x == y) = false := by simp [e]
      simp [this, e]
theorem aeq_pt (neg : Bool) (p q : List Int) (hp : p.length = 16) (hq : q.length = 16) : paeq [0, 0, 0, 0, 0, 0, 0, 0, 0, 0, 0, 0, 0, 0, 0, 0] neg (ptD p) (ptD q) = some (.bool (decide (p = q) != neg)) := by
  have := flat_ints 16 p q hp hq
  show ((flatEq (List.replicate 16 0) (p.map nI) (q.map nI)).map fun b => D.bool (b != neg)) = _
  rw [this]; rfl
theorem aeq_env (neg : Bool) (h k : Int) (p q : List Int) (hp : p.length = 16) (hq : q.length = 16) : paeq [0, 0, 0, 0, 0, 0, 0, 0, 0, 0, 0, 0, 0, 0, 0, 0, 0] neg (envD h p) (envD k q) = some (.bool (decide (h = k ∧ p = q) != neg)) := by
  have := flat_ints 17 (h :: p) (k :: q) (by simp [hp]) (by simp [hq])
  show ((flatEq (List.replicate 17 0) ((h :: p).map nI) ((k :: q).map nI)).map fun b => D.bool (b != neg)) = _
  rw [this]; simp only [List.cons.injEq]; rfl
theorem nbeq (b : Bool) : (!(b == false)) = b := by cases b <;> rfl
theorem litT1 (x : Tst) : litD 3 [tstD x] = some (.slc 3 [tstD x] true) := (rfl)
theorem litT2 (x y : Tst) : litD 3 [tstD x, tstD y] = some (.slc 3 [tstD x, tstD y] true) := (rfl)
theorem litC1 (x : Cls) : litD 9 [clsD x] = some (.slc 9 [clsD x] true) := (rfl)
theorem litC2 (x y : Cls) : litD 9 [clsD x, clsD y] = some (.slc 9 [clsD x, clsD y] true) := (rfl)
theorem stE_h : stO (some ⟨false, 1, envC 0 z16, false⟩) 1 0 (.int .i64 65535) = some ⟨false, 1, envC 65535 z16, false⟩ := (rfl)
theorem stE_4 (w : Int) : stO (some ⟨false, 1, envC 65535 z16, false⟩) 1 5 (.int .i64 w) = some ⟨false, 1, envC 65535 (z16.set 4 w), false⟩ := (rfl)
theorem z16_set (w : Int) : (z16.set 4 w).length = 16 := (rfl)
def gapQ (cl : List Cls) (l : List Tst) (w : Int) : Bool := decide (gapE cl l = 0) && (gapB cl l == decide (0 ≤ w)) && decide (gapH cl l = (if 0 ≤ w then 65535 else 0) ∧ gapV cl l = (if 0 ≤ w then z16.set 4 w else z16))
theorem gapV_len (cl : List Cls) (l : List Tst) : (gapV cl l).length = 16 := by
  cases h : gapB cl l with
  | true =>
    rw [(gap_yes h).2]
    refine gapF_len ?_
    cases hd : domB l with
    | true => rfl
    | false => rw [(gapE_bad (cl := cl) hd).2.1] at h; cases h
  | false => rw [(gap_no h).2]; rfl
noncomputable def sp_lgap : List D → Option D := spOf (α := Tar × Tst × Int) (fun a => [tarD a.1, tstD a.2.1, .int .i64 a.2.2]) (fun a => ∀ c ∈ a.1.cl, c.wh.length ≤ 9223372036854775807) (fun a => .bool (gapQ a.1.cl [a.2.1] a.2.2))
theorem call_lgap (t : Tar) (d : Tst) (w : Int) (h : ∀ c ∈ t.cl, c.wh.length ≤ 9223372036854775807) : sp_lgap [tarD t, tstD d, .int .i64 w] = some (.bool (gapQ t.cl [d] w)) :=
  spOf_enc (fun ⟨a0, a1, a2⟩ ⟨b0, b1, b2⟩ h => by simp only [List.cons.injEq, D.slc.injEq, D.int.injEq, D.bool.injEq, D.str.injEq, D.agg.injEq, digs_iff, dig_iff, digC_iff, bytes_iff, byte_iff, words_iff, word_iff, bsl_iff, true_and, and_true, ints_iff, nI_iff, tsts_iff, clss_iff, clsD_iff, tarD_iff, tstD_iff, ptD_iff, Int.ofNat_inj] at h; simp [h, Prod.ext_iff]) (t, d, w) h
set_option maxHeartbeats 4000000 in
set_option maxRecDepth 20000 in
theorem w_lgap (t : Tar) (d : Tst) (w : Int) (h : ∀ c ∈ t.cl, c.wh.length ≤ 9223372036854775807) : @wW GG (tb [(17, sp_pgap)] []) F_wagonpoollaw19_gap.code (argF [tarD t, tstD d, .int .i64 w]) [] ⟨retQ F_wagonpoollaw19_gap.res (.bool (gapQ t.cl [d] w))⟩ := by
  have cg : sp_pgap [tarD t, .slc 3 [tstD d] false] = _ := call_pgap t [d] ⟨by simp, h⟩
  have hl := gapV_len t.cl [d]
  unfold F_wagonpoollaw19_gap
  unfold gapQ
  generalize gapV t.cl [d] = V at *
  generalize gapH t.cl [d] = H at *
  generalize gapB t.cl [d] = B at *
  generalize gapE t.cl [d] = E at *
  by_cases hw : 0 ≤ w
  · have hdw : decide (0 ≤ w) = true := decide_eq_true hw
    simp (disch := first | omega | decide) only [push_cast, ↓wF_free, ↓reduceIte, Nat.reduceEqDiff, Nat.reduceLT, Nat.reduceLeDiff, Nat.reduceAdd, Nat.reduceSub, Nat.reduceMul, Nat.reduceBEq, Int.reduceLT, Int.reduceLE, Int.reduceToNat, Int.reduceNeg, Int.reducePow, Int.reduceAdd, Int.reduceMul, Int.reduceSub, ↓Int.reduceNatCast', litT1, cg, stE _ z16_length hl, fill_env0, stE _ z16_length z16_length, hw, idxA_ptr, stE_h, stE_4, ldE _ _ hl, ldE _ _ (z16_set w), aeq_env _ _ _ _ _ hl (z16_set w)]
    by_cases hE : E = 0
    · by_cases hB : B = true
      · simp (disch := first | omega | decide) only [push_cast, ↓wF_free, ↓reduceIte, Nat.reduceEqDiff, Nat.reduceLT, Nat.reduceLeDiff, Nat.reduceAdd, Nat.reduceSub, Nat.reduceMul, Nat.reduceBEq, Int.reduceLT, Int.reduceLE, Int.reduceToNat, Int.reduceNeg, Int.reducePow, Int.reduceAdd, Int.reduceMul, Int.reduceSub, ↓Int.reduceNatCast', hE, hB, hdw, hw, if_true, if_false, nbeq, beq_self_eq_true, Bool.true_beq, Bool.false_beq, Bool.and_true, Bool.and_false, Bool.true_and, Bool.false_and, bne, Bool.not_true, Bool.not_false, Bool.not_not, ldE _ _ hl, ldE _ _ (z16_set w), ldE _ _ z16_length, aeq_env _ _ _ _ _ hl (z16_set w), aeq_env _ _ _ _ _ hl z16_length]
      · rw [Bool.not_eq_true] at hB
        simp (disch := first | omega | decide) only [push_cast, ↓wF_free, ↓reduceIte, Nat.reduceEqDiff, Nat.reduceLT, Nat.reduceLeDiff, Nat.reduceAdd, Nat.reduceSub, Nat.reduceMul, Nat.reduceBEq, Int.reduceLT, Int.reduceLE, Int.reduceToNat, Int.reduceNeg, Int.reducePow, Int.reduceAdd, Int.reduceMul, Int.reduceSub, ↓Int.reduceNatCast', hE, hB, hdw, hw, if_true, if_false, nbeq, beq_self_eq_true, Bool.true_beq, Bool.false_beq, Bool.and_true, Bool.and_false, Bool.true_and, Bool.false_and, bne, Bool.not_true, Bool.not_false, Bool.not_not, ldE _ _ hl, ldE _ _ (z16_set w), ldE _ _ z16_length, aeq_env _ _ _ _ _ hl (z16_set w), aeq_env _ _ _ _ _ hl z16_length]
    · simp (disch := first | omega | decide) only [push_cast, ↓wF_free, ↓reduceIte, Nat.reduceEqDiff, Nat.reduceLT, Nat.reduceLeDiff, Nat.reduceAdd, Nat.reduceSub, Nat.reduceMul, Nat.reduceBEq, Int.reduceLT, Int.reduceLE, Int.reduceToNat, Int.reduceNeg, Int.reducePow, Int.reduceAdd, Int.reduceMul, Int.reduceSub, ↓Int.reduceNatCast', hE, Bool.false_and]
  · have hdw : decide (0 ≤ w) = false := decide_eq_false hw
    simp (disch := first | omega | decide) only [push_cast, ↓wF_free, ↓reduceIte, Nat.reduceEqDiff, Nat.reduceLT, Nat.reduceLeDiff, Nat.reduceAdd, Nat.reduceSub, Nat.reduceMul, Nat.reduceBEq, Int.reduceLT, Int.reduceLE, Int.reduceToNat, Int.reduceNeg, Int.reducePow, Int.reduceAdd, Int.reduceMul, Int.reduceSub, ↓Int.reduceNatCast', litT1, cg, stE _ z16_length hl, fill_env0, stE _ z16_length z16_length, hw, idxA_ptr, stE_h, stE_4, ldE _ _ hl, ldE _ _ z16_length, aeq_env _ _ _ _ _ hl z16_length]
    by_cases hE : E = 0
    · by_cases hB : B = true
      · simp (disch := first | omega | decide) only [push_cast, ↓wF_free, ↓reduceIte, Nat.reduceEqDiff, Nat.reduceLT, Nat.reduceLeDiff, Nat.reduceAdd, Nat.reduceSub, Nat.reduceMul, Nat.reduceBEq, Int.reduceLT, Int.reduceLE, Int.reduceToNat, Int.reduceNeg, Int.reducePow, Int.reduceAdd, Int.reduceMul, Int.reduceSub, ↓Int.reduceNatCast', hE, hB, hdw, hw, if_true, if_false, nbeq, beq_self_eq_true, Bool.true_beq, Bool.false_beq, Bool.and_true, Bool.and_false, Bool.true_and, Bool.false_and, bne, Bool.not_true, Bool.not_false, Bool.not_not, ldE _ _ hl, ldE _ _ (z16_set w), ldE _ _ z16_length, aeq_env _ _ _ _ _ hl (z16_set w), aeq_env _ _ _ _ _ hl z16_length]
      · rw [Bool.not_eq_true] at hB
        simp (disch := first | omega | decide) only [push_cast, ↓wF_free, ↓reduceIte, Nat.reduceEqDiff, Nat.reduceLT, Nat.reduceLeDiff, Nat.reduceAdd, Nat.reduceSub, Nat.reduceMul, Nat.reduceBEq, Int.reduceLT, Int.reduceLE, Int.reduceToNat, Int.reduceNeg, Int.reducePow, Int.reduceAdd, Int.reduceMul, Int.reduceSub, ↓Int.reduceNatCast', hE, hB, hdw, hw, if_true, if_false, nbeq, beq_self_eq_true, Bool.true_beq, Bool.false_beq, Bool.and_true, Bool.and_false, Bool.true_and, Bool.false_and, bne, Bool.not_true, Bool.not_false, Bool.not_not, ldE _ _ hl, ldE _ _ (z16_set w), ldE _ _ z16_length, aeq_env _ _ _ _ _ hl (z16_set w), aeq_env _ _ _ _ _ hl z16_length]
    · simp (disch := first | omega | decide) only [push_cast, ↓wF_free, ↓reduceIte, Nat.reduceEqDiff, Nat.reduceLT, Nat.reduceLeDiff, Nat.reduceAdd, Nat.reduceSub, Nat.reduceMul, Nat.reduceBEq, Int.reduceLT, Int.reduceLE, Int.reduceToNat, Int.reduceNeg, Int.reducePow, Int.reduceAdd, Int.reduceMul, Int.reduceSub, ↓Int.reduceNatCast', hE, Bool.false_and]
theorem c_lgap : Contract Try.prog GG 30 sp_lgap :=
  contract_of tr_wagonpoollaw19_gap (tb_ok (all_cons c_pgap all_nil) all_nil) (fun a h => w_lgap a.1 a.2.1 a.2.2 h)
def xA : Cls := clsN [97] [⟨4, 1, 3⟩]
def xB : Cls := clsN [97] [⟨4, 3, 5⟩, ⟨0, 2, 2⟩]
def xC : Cls := clsN [97] [⟨4, 4, 2⟩]
def loA : List Int := [0, 0, 0, 0, 1, 0, 0, 0, 0, 0, 0, 0, 0, 0, 0, 0]
def hiA : List Int := [9007199254740992, 9007199254740992, 9007199254740992, 9007199254740992, 3, 9007199254740992, 9007199254740992, 9007199254740992, 9007199254740992, 9007199254740992, 9007199254740992, 9007199254740992, 9007199254740992, 9007199254740992, 9007199254740992, 9007199254740992]
def vAB : List Int := [2, 0, 0, 0, 3, 0, 0, 0, 0, 0, 0, 0, 0, 0, 0, 0]
theorem len_loA : loA.length = 16 := (rfl)
theorem len_hiA : hiA.length = 16 := (rfl)
theorem len_vAB : vAB.length = 16 := (rfl)
theorem fill_loA : fillD [.int .i64 0, .int .i64 0, .int .i64 0, .int .i64 0, .int .i64 0, .int .i64 0, .int .i64 0, .int .i64 0, .int .i64 0, .int .i64 0, .int .i64 0, .int .i64 0, .int .i64 0, .int .i64 0, .int .i64 0, .int .i64 0] [(4, 1, .int .i64 1)] = some (loA.map nI) := (rfl)
theorem fill_vAB : fillD [.int .i64 0, .int .i64 0, .int .i64 0, .int .i64 0, .int .i64 0, .int .i64 0, .int .i64 0, .int .i64 0, .int .i64 0, .int .i64 0, .int .i64 0, .int .i64 0, .int .i64 0, .int .i64 0, .int .i64 0, .int .i64 0] [(0, 1, .int .i64 2), (4, 1, .int .i64 3)] = some (vAB.map nI) := (rfl)
theorem hiA_4 : ldO (some ⟨false, 1, hiA.map nI, false⟩) 1 false 4 = some (.int .i64 3) := (rfl)
theorem hiA_0 : ldO (some ⟨false, 1, hiA.map nI, false⟩) 1 false 0 = some (.int .i64 9007199254740992) := (rfl)
theorem hiA_15 : ldO (some ⟨false, 1, hiA.map nI, false⟩) 1 false 15 = some (.int .i64 9007199254740992) := (rfl)
theorem fill_tst3 (a b c : Int) : fillD [.int .i64 0, .int .i64 0, .int .i64 0] [(0, 1, .int .i64 a), (1, 1, .int .i64 b), (2, 1, .int .i64 c)] = some [.int .i64 a, .int .i64 b, .int .i64 c] := (rfl)
theorem box_A : ofB xA.wh = (⟨loA, hiA⟩, true) := by decide +kernel
theorem box_C : ofB xC.wh = (zBx, false) := by decide +kernel
theorem ov_AB : ovF [xA, xB] = some (0, 1, vAB) := by decide +kernel
theorem ov_AC : ovF [xA, xC] = none := by decide +kernel
theorem chk_A : chkO [xA] = 0 := by decide +kernel
theorem chk_AB : chkO [xA, xB] = 190 := by decide +kernel
theorem chk_AC : chkO [xA, xC] = 190 := by decide +kernel
theorem gap_1 : gapQ [xA] [⟨4, 1, 3⟩] (-1) = true := by decide +kernel
theorem gap_2 : gapQ [xA] [⟨4, 1, 4⟩] 4 = true := by decide +kernel
theorem gap_3 : gapQ [xA] [⟨4, 0, 3⟩] 0 = true := by decide +kernel
theorem gap_4 : gapQ [xA, xB] [⟨4, 2, 5⟩] 4 = true := by decide +kernel
theorem gap_5 : gapE [xA] [⟨4, 3, 2⟩] = 1 ∧ gapB [xA] [⟨4, 3, 2⟩] = false ∧ gapH [xA] [⟨4, 3, 2⟩] = 0 ∧ gapV [xA] [⟨4, 3, 2⟩] = z16 := by decide +kernel
theorem gap_6 : gapE [xA] [⟨4, 1, 1⟩, ⟨4, 2, 2⟩] = 1 ∧ gapB [xA] [⟨4, 1, 1⟩, ⟨4, 2, 2⟩] = false ∧ gapH [xA] [⟨4, 1, 1⟩, ⟨4, 2, 2⟩] = 0 ∧ gapV [xA] [⟨4, 1, 1⟩, ⟨4, 2, 2⟩] = z16 := by decide +kernel
def c17 : List D := List.replicate 17 (.agg cls0)
def tarX : List D := [.str [], .int .i64 0, .slc 9 c17 false]
theorem mk_17 : mkslcD 9 112 (.agg [.str [], .slc 0 [] true, .int .i64 0, .int .i64 0, .int .i64 0, .int .i64 0, .int .i64 0, .int .i64 0, .slc 0 [] true]) (.int .i64 17) (.int .i64 17) = some (17, ⟨true, 9, c17, false⟩) := (rfl)
theorem box_tarX : boxD (.agg tarX) = some tarX := (rfl)
theorem ldX : ldO (some ⟨false, 1, tarX, false⟩) 1 false 2 = some (.slc 9 c17 false) := (rfl)
theorem len17 : (c17.length : Int) = 17 := (rfl)
def tarY (k : Nat) : List D := [.str [], .int .i64 0, .row k 17 0 17]
theorem fill_Y (k : Nat) : fillD [.str [], .int .i64 0, .slc 0 [] true] [(2, 1, .row k 17 0 17)] = some (tarY k) := (rfl)
theorem immL_Y (a b c d e f g h i j k : Obj) : immL [a, b, c, d, e, f, g, h, i, j, k, ⟨true, 9, c17, false⟩] (tarY 11) = some tarX := (rfl)
theorem keys_Y : keys (.agg (tarY 11)) = [11] := (rfl)
theorem nr_0 (b : Bool) (n : Int) : (D.tup [envD 0 z16, .bool b, .int .i64 n]).noRef = true := (rfl)
def orP (s1 s2 : List D → Option D) : List D → Option D := fun ds => match s1 ds with
  | some r => some r
  | none => s2 ds
theorem contract_or {P : Program} {G : Glob} {f : Nat} {s1 s2 : List D → Option D} (h1 : Contract P G f s1) (h2 : Contract P G f s2) : Contract P G f (orP s1 s2) := by
  intro w g ds vs d hsp
  unfold orP at hsp
  cases hs : s1 ds with
  | some r =>
    rw [hs] at hsp
    simp only at hsp
    exact h1 w g ds vs d (hs.trans hsp)
  | none =>
    rw [hs] at hsp
    exact h2 w g ds vs d hsp
theorem orP_1 {s1 s2 : List D → Option D} {ds : List D} {d : D} (h : s1 ds = some d) : orP s1 s2 ds = some d := by unfold orP; rw [h]
theorem domB_nil : domB [] = true := by decide +kernel
noncomputable def sp_pgapX : List D → Option D := spOf (α := Unit) (fun _ => [.agg tarX, .slc 0 [] false]) (fun _ => True) (fun _ => .tup [envD 0 z16, .bool false, .int .i64 2])
theorem call_pgapX : sp_pgapX [.agg tarX, .slc 0 [] false] = some (.tup [envD 0 z16, .bool false, .int .i64 2]) := spOf_enc (fun _ _ _ => rfl) () trivial
set_option maxHeartbeats 4000000 in
set_option maxRecDepth 20000 in
theorem w_pgapX : @wW GG (tb [(35, sp_preg)] []) F_tbox_Gap.code (argF [.agg tarX, .slc 0 [] false]) [] ⟨retQ F_tbox_Gap.res (.tup [envD 0 z16, .bool false, .int .i64 2])⟩ := by
  have cd : sp_preg [.slc 0 [] false] = _ := call_preg [] (by decide)
  rw [domB_nil] at cd
  have hdo := domD_ok []
  unfold F_tbox_Gap
  simp (disch := first | omega | decide) only [push_cast, ↓wF_free, ↓reduceIte, Nat.reduceEqDiff, Nat.reduceLT, Nat.reduceLeDiff, Nat.reduceAdd, Nat.reduceSub, Nat.reduceMul, Nat.reduceBEq, Int.reduceLT, Int.reduceLE, Int.reduceToNat, Int.reduceNeg, Int.reducePow, Int.reduceAdd, Int.reduceMul, Int.reduceSub, ↓Int.reduceNatCast', box_tarX, cd, stB _ zBx_ok hdo, ldX, len17, fill_env0, stE _ z16_length z16_length, ldE _ _ z16_length]
theorem c_pgapX : Contract Try.prog GG 17 sp_pgapX :=
  contract_of tr_tbox_Gap (tb_ok (all_cons c_preg all_nil) all_nil) (fun _ _ => w_pgapX)
noncomputable def sp_pgap2 : List D → Option D := orP sp_pgap sp_pgapX
theorem c_pgap2 : Contract Try.prog GG 17 sp_pgap2 := contract_or c_pgap c_pgapX
theorem call_pgap2X : sp_pgap2 [.agg tarX, .slc 0 [] false] = some (.tup [envD 0 z16, .bool false, .int .i64 2]) := by
  unfold sp_pgap2 orP
  cases h : sp_pgap [.agg tarX, .slc 0 [] false] with
  | none => exact call_pgapX
  | some r =>
    obtain ⟨⟨a, l⟩, e, _⟩ := spOf_inv h
    exfalso
    have e1 := (List.cons.injEq _ _ _ _ ▸ e).1
    have e2 : tarC a = tarX := by
      simp only [tarD, List.cons.injEq, D.agg.injEq] at e
      exact e.1
    unfold tarC tarX at e2
    simp only [List.cons.injEq, D.slc.injEq] at e2
    have e3 := e2.2.2.1.2.1
    have e4 := congrArg List.head? e3
    cases hc : a.cl with
    | nil => rw [hc] at e3; cases e3
    | cons c r =>
      rw [hc] at e4
      simp only [List.map_cons, List.head?_cons, clsD, clsC, Option.some.injEq, c17, cls0, List.replicate_succ, D.agg.injEq, List.cons.injEq, D.slc.injEq] at e4
      simp at e4
noncomputable def sp_lsane : List D → Option D := spOf (α := Unit) (fun _ => []) (fun _ => True) (fun _ => .bool true)
theorem call_lsane : sp_lsane [] = some (.bool true) :=
  spOf_enc (fun _ _ _ => rfl) () trivial
set_option maxHeartbeats 4000000 in
set_option maxRecDepth 20000 in
theorem w_lsane : @wW GG (tb [(28, sp_mktst), (27, sp_mkcls), (16, sp_mktar), (13, sp_pBox), (21, sp_pov), (23, sp_pchk), (29, sp_renv), (30, sp_lgap), (17, sp_pgap2)] []) F_wagonpoollaw19_sane.code (argF []) [] ⟨retQ F_wagonpoollaw19_sane.res (.bool true)⟩ := by
  have mt : ∀ a b : Int, sp_mktst [.int .i64 a, .int .i64 b] = some (tstD ⟨4, a, b⟩) := fun a b => call_mktst a b
  have k1 : ∀ x : Tst, sp_mkcls [.slc 3 [tstD x] false] = some (clsD (clsN [97] [x])) := fun x => call_mkcls [x]
  have k2 : ∀ x y : Tst, sp_mkcls [.slc 3 [tstD x, tstD y] false] = some (clsD (clsN [97] [x, y])) := fun x y => call_mkcls [x, y]
  have t1 : ∀ x : Cls, sp_mktar [.slc 9 [clsD x] false] = some (tarD ⟨[], 0, [x]⟩) := fun x => call_mktar [x]
  have t2 : ∀ x y : Cls, sp_mktar [.slc 9 [clsD x, clsD y] false] = some (tarD ⟨[], 0, [x, y]⟩) := fun x y => call_mktar [x, y]
  have b1 : sp_pBox [clsD xA] = some (.tup [ptD loA, ptD hiA, .bool true]) := by
    have := call_pBox xA (by decide)
    rw [box_A] at this
    exact this
  have b2 : sp_pBox [clsD xC] = some (.tup [ptD z16, ptD z16, .bool false]) := by
    have := call_pBox xC (by decide)
    rw [box_C] at this
    exact this
  have o1 : sp_pov [tarD ⟨[], 0, [xA, xB]⟩] = some (.tup [.int .i64 0, .int .i64 1, envD 65535 vAB, .bool true]) := by
    have := call_pov ⟨[], 0, [xA, xB]⟩ (by decide)
    rw [ov_AB] at this
    exact this
  have o2 : sp_pov [tarD ⟨[], 0, [xA, xC]⟩] = some (.tup [.int .i64 0, .int .i64 0, envD 0 z16, .bool false]) := by
    have := call_pov ⟨[], 0, [xA, xC]⟩ (by decide)
    rw [ov_AC] at this
    exact this
  have c1 : sp_pchk [tarD ⟨[], 0, [xA]⟩] = some (.int .i64 0) := by
    have := call_pchk ⟨[], 0, [xA]⟩ (by decide)
    rw [chk_A] at this
    exact this
  have c2 : sp_pchk [tarD ⟨[], 0, [xA, xB]⟩] = some (.int .i64 190) := by
    have := call_pchk ⟨[], 0, [xA, xB]⟩ (by decide)
    rw [chk_AB] at this
    exact this
  have c3 : sp_pchk [tarD ⟨[], 0, [xA, xC]⟩] = some (.int .i64 190) := by
    have := call_pchk ⟨[], 0, [xA, xC]⟩ (by decide)
    rw [chk_AC] at this
    exact this
  have ev : sp_renv [ptD vAB] = some (envD 65535 vAB) := call_renv vAB len_vAB
  have g1 : sp_lgap [tarD ⟨[], 0, [xA]⟩, tstD ⟨4, 1, 3⟩, .int .i64 (-1)] = some (.bool true) := by
    have := call_lgap ⟨[], 0, [xA]⟩ ⟨4, 1, 3⟩ (-1) (by decide)
    rw [gap_1] at this
    exact this
  have g2 : sp_lgap [tarD ⟨[], 0, [xA]⟩, tstD ⟨4, 1, 4⟩, .int .i64 4] = some (.bool true) := by
    have := call_lgap ⟨[], 0, [xA]⟩ ⟨4, 1, 4⟩ 4 (by decide)
    rw [gap_2] at this
    exact this
  have g3 : sp_lgap [tarD ⟨[], 0, [xA]⟩, tstD ⟨4, 0, 3⟩, .int .i64 0] = some (.bool true) := by
    have := call_lgap ⟨[], 0, [xA]⟩ ⟨4, 0, 3⟩ 0 (by decide)
    rw [gap_3] at this
    exact this
  have g4 : sp_lgap [tarD ⟨[], 0, [xA, xB]⟩, tstD ⟨4, 2, 5⟩, .int .i64 4] = some (.bool true) := by
    have := call_lgap ⟨[], 0, [xA, xB]⟩ ⟨4, 2, 5⟩ 4 (by decide)
    rw [gap_4] at this
    exact this
  have g5 : sp_pgap [tarD ⟨[], 0, [xA]⟩, .slc 3 [tstD ⟨4, 3, 2⟩] false] = some (.tup [envD 0 z16, .bool false, .int .i64 1]) := by
    have := call_pgap ⟨[], 0, [xA]⟩ [⟨4, 3, 2⟩] (by decide)
    rw [gap_5.1, gap_5.2.1, gap_5.2.2.1, gap_5.2.2.2] at this
    exact this
  have g6 : sp_pgap [tarD ⟨[], 0, [xA]⟩, .slc 3 [tstD ⟨4, 1, 1⟩, tstD ⟨4, 2, 2⟩] false] = some (.tup [envD 0 z16, .bool false, .int .i64 1]) := by
    have := call_pgap ⟨[], 0, [xA]⟩ [⟨4, 1, 1⟩, ⟨4, 2, 2⟩] (by decide)
    rw [gap_6.1, gap_6.2.1, gap_6.2.2.1, gap_6.2.2.2] at this
    exact this
  have g7 := call_pgap2X
  replace g5 := orP_1 (s2 := sp_pgapX) g5
  replace g6 := orP_1 (s2 := sp_pgapX) g6
  change sp_pgap2 _ = _ at g5 g6
  have eA : clsN [97] [⟨4, 1, 3⟩] = xA := rfl
  have eB : clsN [97] [⟨4, 3, 5⟩, ⟨0, 2, 2⟩] = xB := rfl
  have eC : clsN [97] [⟨4, 4, 2⟩] = xC := rfl
  unfold F_wagonpoollaw19_sane
  simp (disch := first | omega | decide) only [push_cast, ↓wF_free, ↓reduceIte, Nat.reduceEqDiff, Nat.reduceLT, Nat.reduceLeDiff, Nat.reduceAdd, Nat.reduceSub, Nat.reduceMul, Nat.reduceBEq, Int.reduceLT, Int.reduceLE, Int.reduceToNat, Int.reduceNeg, Int.reducePow, Int.reduceAdd, Int.reduceMul, Int.reduceSub, ↓Int.reduceNatCast', mk_17, fill_Y, immL_Y, keys_Y, nr_0, eA, eB, eC, mt, litT1, litT2, litC1, litC2, k1, k2, t1, t2, b1, b2, o1, o2, c1, c2, c3, ev, g1, g2, g3, g4, g5, g6, g7, fill_tst3, fill_loA, fill_vAB, hiA_4, hiA_0, hiA_15, idxA_ptr, stP _ z16_length len_loA, stP _ z16_length len_hiA, stP _ z16_length z16_length, ldP _ _ len_loA, fill_env0, stE _ z16_length z16_length, stE _ z16_length len_vAB, ldE _ _ z16_length, ldE _ _ len_vAB, aeq_pt _ _ _ len_loA len_loA, aeq_env _ _ _ _ _ z16_length z16_length, aeq_env _ _ _ _ _ len_vAB len_vAB]
theorem c_lsane : Contract Try.prog GG 10 sp_lsane :=
  contract_of tr_wagonpoollaw19_sane (tb_ok (all_cons c_mktst (all_cons c_mkcls (all_cons c_mktar (all_cons c_pBox (all_cons c_pov (all_cons c_pchk (all_cons c_renv (all_cons c_lgap (all_cons c_pgap2 all_nil))))))))) all_nil) (fun a h => w_lsane )
end Go.Proofs.Ytgppecaeegaooaa.PI
namespace Go.Proofs.Ytgppecaeegaooaa.PI
open Go
set_option linter.unusedSimpArgs false
set_option linter.unusedVariables false
def tyT : Ty := .agg [.int .i64, .int .i64, .int .i64]
def tyO : Ty := .opq (TyD Try.prog 25)
def tyE (X : Ty) : Ty := .agg [.int .i64, .int .i64, .agg (List.replicate 4 (.int .i64)), X]
def tyC (X : Ty) : Ty := .agg [.str, .slc tyT, tyE X]
def tyCls4 : Ty := tyC tyO
def tyTar : Ty := .agg [.str, .int .i64, .slc tyCls4]
def tyEnv : Ty := .agg [.int .i64, .agg (List.replicate 16 (.int .i64))]
theorem has_slcP {α : Type} {f : α → D} {p : α → Prop} {e : Ty} {d : D} (hf : ∀ x, Has e x → ∃ a, x = f a ∧ p a) (h : Has (.slc e) d) : ∃ l : List α, d = .slc (nz e.size (l.map f)) (l.map f) false ∧ l.length ≤ maxLen ∧ ∀ a ∈ l, p a := by
  cases h with
  | slc _ els h1 h2 =>
    have : ∀ els : List D, (∀ x ∈ els, Has e x) → ∃ l : List α, els = l.map f ∧ ∀ a ∈ l, p a := by
      intro els
      induction els with
      | nil => exact fun _ => ⟨[], rfl, fun _ h => by cases h⟩
      | cons x r ih =>
        intro hx
        obtain ⟨a, ha, hp⟩ := hf x (hx x (by simp))
        obtain ⟨l, hl, hq⟩ := ih fun y hy => hx y (by simp [hy])
        refine ⟨a :: l, by rw [ha, hl]; rfl, ?_⟩
        intro b hb
        rcases List.mem_cons.1 hb with rfl | hb
        · exact hp
        · exact hq b hb
    obtain ⟨l, rfl, hp⟩ := this els fun x hx => by
      obtain ⟨i, hi⟩ := List.getElem?_of_mem hx
      exact h1 i x hi
    exact ⟨l, rfl, by simpa using h2, hp⟩
theorem has_tst {d : D} (h : Has tyT d) : ∃ t, d = tstD t := by
  obtain ⟨x, y, z, rfl, h1, h2, h3⟩ := has_agg3 h
  obtain ⟨a, rfl, _, _⟩ := has_i64 h1
  obtain ⟨b, rfl, _, _⟩ := has_i64 h2
  obtain ⟨c, rfl, _, _⟩ := has_i64 h3
  exact ⟨⟨a, b, c⟩, rfl⟩
theorem has_dom {d : D} (h : Has (.slc tyT) d) : ∃ l : List Tst, d = .slc (nz 3 (l.map tstD)) (l.map tstD) false ∧ l.length ≤ maxLen := has_slc (f := tstD) (fun x hx => has_tst hx) h
theorem has_ints {n : Nat} {d : D} (h : Has (.agg (List.replicate n (.int .i64))) d) : ∃ l : List Int, d = .agg (l.map nI) ∧ l.length = n := by
  cases h with
  | agg _ xs h1 h2 =>
    obtain ⟨l, rfl⟩ := lift_map (f := nI) (els := xs) fun x hx => by
      obtain ⟨i, hi⟩ := List.getElem?_of_mem hx
      have hlt : i < n := by
        have := (List.getElem?_eq_some_iff.1 hi).1
        rw [← h1, List.length_replicate] at this
        exact this
      obtain ⟨a, rfl, _, _⟩ := has_i64 (h2 i (.int .i64) x (by rw [List.getElem?_replicate, if_pos hlt]) hi)
      exact ⟨a, rfl⟩
    refine ⟨l, ?_, by simpa using h1.symm⟩
    congr 1
    clear h1 h2
    induction l with
    | nil => rfl
    | cons a l ih => simp only [List.map_cons, List.flatMap_cons, ih]; rfl
def tarOk (t : Tar) : Prop := t.cl.length ≤ maxLen ∧ ∀ c ∈ t.cl, c.wh.length ≤ maxLen
theorem has_env {d : D} (h : Has tyEnv d) : ∃ v : Int × List Int, d = envD v.1 v.2 ∧ v.2.length = 16 := by
  obtain ⟨x, y, rfl, h1, h2⟩ := has_agg2 h
  obtain ⟨n, rfl, _, _⟩ := has_i64 h1
  obtain ⟨l, rfl, hl⟩ := has_ints h2
  exact ⟨(n, l), rfl, hl⟩
theorem maxLen_le : maxLen ≤ 9223372036854775807 := by decide
end Go.Proofs.Ytgppecaeegaooaa.PI
namespace Go.Proofs.Ytgppecaeegaooaa.PI
open Go
set_option linter.unusedSimpArgs false
set_option linter.unusedVariables false
noncomputable def relI (R : List D → St → D × St → Prop) : List D → St → Option (D × St) := fun ds st => @dite _ (∃ r, R ds st r) (Classical.propDecidable _) (fun h => some h.choose) (fun _ => none)
theorem relI_inv {R : List D → St → D × St → Prop} {ds : List D} {st : St} {r : D × St} (h : relI R ds st = some r) : R ds st r := by
  unfold relI at h
  split at h
  · rename_i hx
    simp only [Option.some.injEq] at h
    rw [← h]; exact hx.choose_spec
  · cases h
theorem relI_eq {R : List D → St → D × St → Prop} {ds : List D} {st : St} {r : D × St} (h : R ds st r) (hu : ∀ r', R ds st r' → r' = r) : relI R ds st = some r := by
  have hx : ∃ r, R ds st r := ⟨r, h⟩
  unfold relI
  rw [dif_pos hx, hu _ hx.choose_spec]
theorem relI_none {R : List D → St → D × St → Prop} {ds : List D} {st : St} (h : ∀ r, ¬ R ds st r) : relI R ds st = none := by
  unfold relI
  rw [dif_neg (fun ⟨r, hr⟩ => h r hr)]
noncomputable def relX (R : List D → St → Nat × D × St → Prop) : List D → St → Option (Nat × D × St) := fun ds st => @dite _ (∃ r, R ds st r) (Classical.propDecidable _) (fun h => some h.choose) (fun _ => none)
theorem relX_inv {R : List D → St → Nat × D × St → Prop} {ds : List D} {st : St} {r : Nat × D × St} (h : relX R ds st = some r) : R ds st r := by
  unfold relX at h
  split at h
  · rename_i hx
    simp only [Option.some.injEq] at h
    rw [← h]; exact hx.choose_spec
  · cases h
theorem relX_eq {R : List D → St → Nat × D × St → Prop} {ds : List D} {st : St} {r : Nat × D × St} (h : R ds st r) (hu : ∀ r', R ds st r' → r' = r) : relX R ds st = some r := by
  have hx : ∃ r, R ds st r := ⟨r, h⟩
  unfold relX
  rw [dif_pos hx, hu _ hx.choose_spec]
def caseV (v : List Int) : Prop := v.length = 16 ∧ ∀ i, i < 16 → 0 ≤ at' v i ∧ at' v i ≤ 9007199254740992
def holdsF (v : List Int) : List Tst → Bool × Int
  | [] => (true, 0)
  | t :: l => if t.a < 0 ∨ 16 ≤ t.a then (false, 1) else if at' v t.a.toNat < t.lo ∨ t.hi < at' v t.a.toNat then (false, 0) else holdsF v l
def evA : List (Int × Nat) := [(3, 5000045), (4, 5000046), (5, 5000047), (6, 5000048), (7, 5000049), (8, 5000050), (9, 5000051), (10, 5000052), (11, 5000053)]
def evEnt (k : Nat) (p : Int × Nat) : D := .agg [.int .i64 p.1, .clo p.2 [.ptr k 0]]
def evN (k i : Nat) : List D := (evA.take i).map (evEnt k)
def evC (h : Int) (v : List Int) (m : D) : List D := envC h v ++ [m]
theorem evC_length {h : Int} {v : List Int} {m : D} (hv : v.length = 16) : (evC h v m).length = 18 := by simp [evC, envC, hv]
theorem mu_0 (k : Nat) : muO (some ⟨false, 2, [], false⟩) 2 [0] (.int .i64 3) (.clo 5000045 [.ptr k 0]) = some ⟨false, 2, evN k 1, false⟩ := (rfl)
theorem mu_1 (k : Nat) : muO (some ⟨false, 2, evN k 1, false⟩) 2 [0] (.int .i64 4) (.clo 5000046 [.ptr k 0]) = some ⟨false, 2, evN k 2, false⟩ := (rfl)
theorem mu_2 (k : Nat) : muO (some ⟨false, 2, evN k 2, false⟩) 2 [0] (.int .i64 5) (.clo 5000047 [.ptr k 0]) = some ⟨false, 2, evN k 3, false⟩ := (rfl)
theorem mu_3 (k : Nat) : muO (some ⟨false, 2, evN k 3, false⟩) 2 [0] (.int .i64 6) (.clo 5000048 [.ptr k 0]) = some ⟨false, 2, evN k 4, false⟩ := (rfl)
theorem mu_4 (k : Nat) : muO (some ⟨false, 2, evN k 4, false⟩) 2 [0] (.int .i64 7) (.clo 5000049 [.ptr k 0]) = some ⟨false, 2, evN k 5, false⟩ := (rfl)
theorem mu_5 (k : Nat) : muO (some ⟨false, 2, evN k 5, false⟩) 2 [0] (.int .i64 8) (.clo 5000050 [.ptr k 0]) = some ⟨false, 2, evN k 6, false⟩ := (rfl)
theorem mu_6 (k : Nat) : muO (some ⟨false, 2, evN k 6, false⟩) 2 [0] (.int .i64 9) (.clo 5000051 [.ptr k 0]) = some ⟨false, 2, evN k 7, false⟩ := (rfl)
theorem mu_7 (k : Nat) : muO (some ⟨false, 2, evN k 7, false⟩) 2 [0] (.int .i64 10) (.clo 5000052 [.ptr k 0]) = some ⟨false, 2, evN k 8, false⟩ := (rfl)
theorem mu_8 (k : Nat) : muO (some ⟨false, 2, evN k 8, false⟩) 2 [0] (.int .i64 11) (.clo 5000053 [.ptr k 0]) = some ⟨false, 2, evN k 9, false⟩ := (rfl)
theorem hkB_ev (k : Nat) : (evN k 9).flatMap hk = [k, k, k, k, k, k, k, k, k] := (rfl)
theorem ren_ent {n k : Nat} (σ : List Nat) (h : k < n) (p : Int × Nat) : ren n σ (evEnt k p) = evEnt k p := by
  have : renK n σ k = some k := by unfold renK; rw [if_pos h]
  simp only [evEnt, ren, ren1, ren0, List.map_cons, List.map_nil, this, orJunk]
theorem renB_ev (n k : Nat) (σ : List Nat) (h : k < n) : (evN k 9).map (ren n σ) = evN k 9 := by
  unfold evN
  rw [List.map_map]
  exact List.map_congr_left fun p _ => ren_ent σ h p
theorem hkB_evC (h : Int) (v : List Int) (k : Nat) : (evC h v (.mapv k)).flatMap hk = [k] := by
  unfold evC
  rw [List.flatMap_append, hkB_env]
  rfl
theorem renB_evC (h : Int) (v : List Int) (n k : Nat) (σ : List Nat) (hk : k < n) : (evC h v (.mapv k)).map (ren n σ) = evC h v (.mapv k) := by
  have : renK n σ k = some k := by unfold renK; rw [if_pos hk]
  unfold evC
  rw [List.map_append, renB_env]
  simp only [List.map_cons, List.map_nil, ren, ren1, ren0, this, orJunk]
theorem fill_ev (h : Int) {p : List Int} (hp : p.length = 16) : fillD [D.int .i64 0, .int .i64 0, .int .i64 0, .int .i64 0, .int .i64 0, .int .i64 0, .int .i64 0, .int .i64 0, .int .i64 0, .int .i64 0, .int .i64 0, .int .i64 0, .int .i64 0, .int .i64 0, .int .i64 0, .int .i64 0, .int .i64 0, .nilm] [(0, 17, envD h p)] = some (evC h p .nilm) := by
  have hl : (envC h p).length = 17 := by simp [envC, hp]
  have hc : (envC h p).all D.isCell = true := ints_cell _
  have hs : splice [D.int .i64 0, .int .i64 0, .int .i64 0, .int .i64 0, .int .i64 0, .int .i64 0, .int .i64 0, .int .i64 0, .int .i64 0, .int .i64 0, .int .i64 0, .int .i64 0, .int .i64 0, .int .i64 0, .int .i64 0, .int .i64 0, .int .i64 0, .nilm] 0 (envC h p) = evC h p .nilm := by
    rw [splice, hl]; rfl
  have hcl : (envD h p).cells = envC h p := rfl
  simp only [fillD, hcl, hl, hc, hs]
  rfl
theorem box_ev (h : Int) (p : List Int) : boxD (.agg (evC h p .nilm)) = some (evC h p .nilm) := by
  have hc : (evC h p .nilm).all D.isCell = true := by
    unfold evC
    rw [List.all_append, show (envC h p).all D.isCell = true from ints_cell _]
    rfl
  simp only [boxD, D.cells, hc, if_true]
theorem st_ev (h : Int) {p : List Int} (hp : p.length = 16) (k : Nat) : stO (some ⟨false, 1, evC h p .nilm, false⟩) 1 17 (.mapv k) = some ⟨false, 1, evC h p (.mapv k), false⟩ := by
  have hl : (envC h p).length = 17 := by simp [envC, hp]
  have hs : splice (evC h p .nilm) 17 [.mapv k] = evC h p (.mapv k) := by
    unfold evC
    rw [splice, ← hl]
    simp
  simp [stO, evC_length hp, D.cells, D.isCell, hs]
theorem ldV_h (lent : Bool) (h : Int) (v : List Int) (m : D) : ldO (some ⟨false, 1, evC h v m, lent⟩) 1 false 0 = some (.int .i64 h) := by
  simp [ldO, evC, envC, D.mk, nI]
theorem ldV (lent : Bool) (h : Int) {v : List Int} (m : D) (hv : v.length = 16) (i : Nat) (hi : i < 16) : ldO (some ⟨false, 1, evC h v m, lent⟩) 1 false (1 + i) = some (.int .i64 (at' v i)) := by
  have hl := evC_length (h := h) (m := m) hv
  have e : (evC h v m).drop (1 + i) = nI v[i] :: (evC h v m).drop (2 + i) := by
    have h1 : 1 + i < (evC h v m).length := by omega
    rw [List.drop_eq_getElem_cons h1, show 1 + i + 1 = 2 + i by omega]
    congr 1
    have h2 : (evC h v m)[1 + i]? = some (nI v[i]) := by
      unfold evC envC
      rw [List.getElem?_append_left (by simp [hv]; omega), List.getElem?_map, show 1 + i = i + 1 by omega, List.getElem?_cons_succ, List.getElem?_eq_getElem (by omega)]
      rfl
    rw [List.getElem?_eq_getElem h1] at h2
    exact Option.some.inj h2
  have e2 : at' v i = v[i] := by simp [at', List.getD_eq_getElem?_getD, hv, hi]
  simp only [ldO, Option.bind_some, e, List.take_succ_cons, List.take_zero, e2]
  rw [if_neg (by decide), if_pos (by simp [hl]; omega)]
  rfl
theorem ldV_m (lent : Bool) (h : Int) {v : List Int} (m : D) (hv : v.length = 16) : ldO (some ⟨false, 1, evC h v m, lent⟩) 1 false 17 = some m := by
  have hl : (envC h v).length = 17 := by simp [envC, hv]
  have e : (evC h v m).drop 17 = [m] := by
    unfold evC
    rw [← hl]
    simp
  simp only [ldO, Option.bind_some, e]
  rw [if_neg (by decide), if_pos (by simp [evC_length hv])]
  rfl
theorem evC_inj {h h' : Int} {v v' : List Int} {m m' : D} (hv : v.length = 16) (hv' : v'.length = 16) (e : evC h v m = evC h' v' m') : h = h' ∧ v = v' ∧ m = m' := by
  unfold evC envC at e
  obtain ⟨e1, e2⟩ := List.append_inj e (by simp [hv, hv'])
  simp only [ints_iff, List.cons.injEq, and_true] at e1 e2
  exact ⟨e1.1, e1.2, e2⟩
attribute [push_cast] mu_0 mu_1 mu_2 mu_3 mu_4 mu_5 mu_6 mu_7 mu_8 hkB_ev renB_ev hkB_evC renB_evC box_ev ldV_h
theorem mkmap_2 : mkmapD 2 = some ⟨false, 2, [], false⟩ := (rfl)
def newR (ds : List D) (st : St) (r : D × St) : Prop := ∃ (o0 o1 o2 : Obj) (h : Int) (v : List Int), v.length = 16 ∧ st = [o0, o1, o2] ∧ ds = [envD h v] ∧
  r = (.ptr 4 0, [o0, o1, o2, ⟨false, 1, envC h v, false⟩, ⟨false, 1, evC h v (.mapv 5), false⟩, ⟨false, 2, evN 4 9, false⟩])
noncomputable def si_newEv : List D → St → Option (D × St) := relI newR
theorem envD_inj' {h h' : Int} {v v' : List Int} (e : envD h v = envD h' v') : h = h' ∧ v = v' := by
  simp only [envD, envC, D.agg.injEq, ints_iff, List.cons.injEq] at e
  exact e
theorem call_newEv (o0 o1 o2 : Obj) (h : Int) (v : List Int) (hv : v.length = 16) : si_newEv [envD h v] [o0, o1, o2] = some (.ptr 4 0, [o0, o1, o2, ⟨false, 1, envC h v, false⟩, ⟨false, 1, evC h v (.mapv 5), false⟩, ⟨false, 2, evN 4 9, false⟩]) := by
  refine relI_eq ⟨o0, o1, o2, h, v, hv, rfl, rfl, rfl⟩ ?_
  rintro r ⟨p0, p1, p2, h', v', _, e1, e2, rfl⟩
  simp only [List.cons.injEq, and_true] at e1 e2
  obtain ⟨rfl, rfl⟩ := envD_inj' e2
  obtain ⟨rfl, rfl, rfl⟩ := e1
  rfl
set_option maxHeartbeats 4000000 in
set_option maxRecDepth 20000 in
theorem ci_newEv : IContract Try.prog GG 32 si_newEv := by
  refine icontract_keep' (T := tb [] []) tr_teval_newEvaluator (tb_ok all_nil all_nil) ?_
  intro ds st r hr
  obtain ⟨o0, o1, o2, h, v, hv, rfl, rfl, rfl⟩ := relI_inv hr
  unfold F_teval_newEvaluator
  simp (disch := first | omega | decide) only [push_cast, ↓wF_free, ↓reduceIte, Nat.reduceEqDiff, Nat.reduceLT, Nat.reduceLeDiff, Nat.reduceAdd, Nat.reduceSub, Nat.reduceMul, Nat.reduceBEq, Int.reduceLT, Int.reduceLE, Int.reduceToNat, Int.reduceNeg, Int.reducePow, Int.reduceAdd, Int.reduceMul, Int.reduceSub, ↓Int.reduceNatCast', ldE _ _ hv, fill_ev h hv, st_ev h hv, mkmap_2]
theorem shl_n : ∀ n : Fin 16, ishift .shl .i64 1 (n.val : Int) = some (2 ^ n.val) := by decide
theorem and_n : ∀ n : Fin 16, ibits .and .i64 65535 (2 ^ n.val) = some (2 ^ n.val) := by decide
theorem pow_n : ∀ n : Fin 16, (decide ((2 : Int) ^ n.val = 0)) = false := by decide
theorem bin_shl1 (a : Int) (h0 : 0 ≤ a) (h1 : a < 16) : pbin .shl (.int .i64 1) (.int .i64 a) = some (.int .i64 (2 ^ a.toNat)) := by
  obtain ⟨n, rfl⟩ : ∃ n : Nat, a = n := ⟨a.toNat, by omega⟩
  have := shl_n ⟨n, by omega⟩
  simp only [pbin, this, Option.map_some, Int.toNat_natCast]
theorem bin_and1 (a : Int) (h0 : 0 ≤ a) (h1 : a < 16) : pbin .and (.int .i64 65535) (.int .i64 (2 ^ a.toNat)) = some (.int .i64 (2 ^ a.toNat)) := by
  obtain ⟨n, rfl⟩ : ∃ n : Nat, a = n := ⟨a.toNat, by omega⟩
  have := and_n ⟨n, by omega⟩
  simp only [pbin, if_true, this, Option.map_some, Int.toNat_natCast]
theorem pow_a (a : Int) (h0 : 0 ≤ a) (h1 : a < 16) : ((2 : Int) ^ a.toNat = 0) = False := by
  have := pow_n ⟨a.toNat, by omega⟩
  simpa using this
def loadR (ds : List D) (st : St) (r : D × St) : Prop := ∃ (k : Nat) (a : Int) (v : List Int) (m : D) (lent : Bool), ds = [.ptr k 0, .int .i64 a] ∧ caseV v ∧ st[k]? = some ⟨false, 1, evC 65535 v m, lent⟩ ∧ 0 ≤ a ∧ a < 16 ∧ r = (.int .i64 (at' v a.toNat), st)
def loadX (ds : List D) (st : St) (r : Nat × D × St) : Prop := ∃ (k : Nat) (a : Int), ds = [.ptr k 0, .int .i64 a] ∧ (a < 0 ∨ 16 ≤ a) ∧ r = (96, .agg [.int .i64 1], st)
noncomputable def si_load : List D → St → Option (D × St) := relI loadR
noncomputable def sx_load : List D → St → Option (Nat × D × St) := relX loadX
theorem call_load {st : St} {k : Nat} {a : Int} {v : List Int} {m : D} {lent : Bool} (hv : caseV v) (hk : st[k]? = some ⟨false, 1, evC 65535 v m, lent⟩) (h0 : 0 ≤ a) (h1 : a < 16) : si_load [.ptr k 0, .int .i64 a] st = some (.int .i64 (at' v a.toNat), st) := by
  refine relI_eq ⟨k, a, v, m, lent, rfl, hv, hk, h0, h1, rfl⟩ ?_
  rintro r ⟨k', a', v', m', lent', e1, hv', hk', _, _, rfl⟩
  simp only [List.cons.injEq, D.ptr.injEq, D.int.injEq, true_and, and_true] at e1
  obtain ⟨rfl, rfl⟩ := e1
  rw [hk] at hk'
  simp only [Option.some.injEq, Obj.mk.injEq, true_and] at hk'
  obtain ⟨_, rfl, _⟩ := evC_inj hv.1 hv'.1 hk'.1
  rfl
theorem call_load_none {st : St} {k : Nat} {a : Int} (h : a < 0 ∨ 16 ≤ a) : si_load [.ptr k 0, .int .i64 a] st = none := by
  refine relI_none ?_
  rintro r ⟨k', a', v', m', lent', e1, _, _, h0, h1, _⟩
  simp only [List.cons.injEq, D.ptr.injEq, D.int.injEq, true_and, and_true] at e1
  obtain ⟨rfl, rfl⟩ := e1
  omega
theorem call_loadX {st : St} {k : Nat} {a : Int} (h : a < 0 ∨ 16 ≤ a) : sx_load [.ptr k 0, .int .i64 a] st = some (96, .agg [.int .i64 1], st) := by
  refine relX_eq ⟨k, a, rfl, h, rfl⟩ ?_
  rintro r ⟨k', a', _, _, rfl⟩
  rfl
theorem fill_1 (n : Int) : fillD [.int .i64 0] [(0, 1, .int .i64 n)] = some [.int .i64 n] := (rfl)
set_option maxHeartbeats 4000000 in
set_option maxRecDepth 20000 in
theorem ci_load : IContract Try.prog GG 33 si_load := by
  refine icontract_keep' (T := tb [] []) tr_teval_evaluator_load (tb_ok all_nil all_nil) ?_
  intro ds st r hr
  obtain ⟨k, a, v, m, lent, rfl, hv, hk, h0, h1, rfl⟩ := relI_inv hr
  have b1 := bin_shl1 a h0 h1
  have b2 := bin_and1 a h0 h1
  have b3 := pow_a a h0 h1
  obtain ⟨hl, hvv⟩ := hv
  obtain ⟨n, rfl⟩ : ∃ n : Nat, a = n := ⟨a.toNat, by omega⟩
  rw [Int.toNat_natCast] at *
  have hb := hvv n (by omega)
  have l1 := ldV lent 65535 m hl n (by omega)
  generalize at' v n = z at *
  have e1 : ¬ ((n : Int) < 0) := by omega
  have e2 : ¬ ((16 : Int) ≤ (n : Int)) := by omega
  have e3 : ¬ (z < -9007199254740992) := by omega
  have e4 : ¬ (9007199254740992 < z) := by omega
  unfold F_teval_evaluator_load
  simp (disch := first | omega | decide) only [push_cast, ↓wF_free, ↓reduceIte, Nat.reduceEqDiff, Nat.reduceLT, Nat.reduceLeDiff, Nat.reduceAdd, Nat.reduceSub, Nat.reduceMul, Nat.reduceBEq, Int.reduceLT, Int.reduceLE, Int.reduceToNat, Int.reduceNeg, Int.reducePow, Int.reduceAdd, Int.reduceMul, Int.reduceSub, ↓Int.reduceNatCast', e1, e2, e3, e4, hk, b1, b2, b3, idxA_ptr, l1, nilc_ptr]
set_option maxHeartbeats 4000000 in
set_option maxRecDepth 20000 in
theorem cx_load : XIContract Try.prog GG 33 sx_load := by
  refine xcontract_of (T := tb [] []) tr_teval_evaluator_load (tb_ok all_nil all_nil) ?_
  intro ds st r hr
  obtain ⟨k, a, rfl, h, rfl⟩ := relX_inv hr
  unfold F_teval_evaluator_load
  by_cases h0 : a < 0
  · simp (disch := first | omega | decide) only [push_cast, ↓wF_free, ↓reduceIte, Nat.reduceEqDiff, Nat.reduceLT, Nat.reduceLeDiff, Nat.reduceAdd, Nat.reduceSub, Nat.reduceMul, Nat.reduceBEq, Int.reduceLT, Int.reduceLE, Int.reduceToNat, Int.reduceNeg, Int.reducePow, Int.reduceAdd, Int.reduceMul, Int.reduceSub, ↓Int.reduceNatCast', h0, fill_1]
  · have h1 : 16 ≤ a := by omega
    simp (disch := first | omega | decide) only [push_cast, ↓wF_free, ↓reduceIte, Nat.reduceEqDiff, Nat.reduceLT, Nat.reduceLeDiff, Nat.reduceAdd, Nat.reduceSub, Nat.reduceMul, Nat.reduceBEq, Int.reduceLT, Int.reduceLE, Int.reduceToNat, Int.reduceNeg, Int.reducePow, Int.reduceAdd, Int.reduceMul, Int.reduceSub, ↓Int.reduceNatCast', h0, h1, fill_1]
def ph_caught : PH := ⟨96, [5, 7, 8, 9], 10, [{ dst := some 3, op := .box (.c (.agg [.int .i64 0])) }, { dst := none, op := .stor 1 (.s 3) (.s 10) }, { dst := some 11, op := .mov (.s 0) }, { dst := some 12, op := .fld 0 (.s 3) }, { dst := some 13, op := .load 1 false (.s 12) }, { dst := some 14, op := .nilc (.s 11) }, { dst := none, op := .stor 1 (.s 14) (.s 13) }]⟩
theorem c_caught : HContract Try.prog GG 31 (PH.run GG ph_caught) :=
  handlerA (fn := Try.f31) (by kernel_rfl) rfl rfl rfl ⟨rfl, rfl, rfl⟩ ⟨rfl, rfl, rfl⟩ ⟨rfl, rfl⟩ ⟨rfl, rfl, rfl⟩ ⟨rfl, rfl, rfl⟩ ⟨rfl, rfl, rfl⟩ (by decide) (by decide) (by kernel_rfl) (by kernel_rfl) (by kernel_rfl)
theorem run_caught (k : Nat) (st : St) (e n : Int) (hk : st[k]? = some ⟨false, 1, [.int .i64 n], false⟩) : PH.run GG ph_caught 96 (.agg [.int .i64 e]) [.ptr k 0] st = some ((st ++ [(⟨false, 1, [.int .i64 e], false⟩ : Obj)]).set k ⟨false, 1, [.int .i64 e], false⟩) := by
  have hlt : k < st.length := (List.getElem?_eq_some_iff.1 hk).1
  have h1 : (st ++ [(⟨false, 1, [.int .i64 0], false⟩ : Obj)])[st.length]? = some ⟨false, 1, [.int .i64 0], false⟩ := by simp
  have h2 : ((st ++ [(⟨false, 1, [.int .i64 0], false⟩ : Obj)]).set st.length ⟨false, 1, [.int .i64 e], false⟩) = st ++ [⟨false, 1, [.int .i64 e], false⟩] := by simp
  have h3 : (st ++ [(⟨false, 1, [.int .i64 e], false⟩ : Obj)])[st.length]? = some ⟨false, 1, [.int .i64 e], false⟩ := by simp
  have h4 : (st ++ [(⟨false, 1, [.int .i64 e], false⟩ : Obj)])[k]? = some ⟨false, 1, [.int .i64 n], false⟩ := by rw [List.getElem?_append_left hlt]; exact hk
  unfold PH.run
  have hc : 96 = ph_caught.t ∧ intsD (.agg [.int .i64 e]) = true := ⟨rfl, rfl⟩
  rw [if_pos hc]
  simp [ph_caught, execs, PI.exec, PI.wanted, POp.exec, junks, Frame.set, Frame.put, rho, argF, D.cells, D.isCell, pstor, splice, h1, h2, pfld, pload, h3, D.mk, h4, noT]
theorem putOff_clo (f : Nat) (caps ds : List D) (h : f < 5000000) : putOff (.clo f caps) ds = some (f, ds ++ caps) := by simp only [putOff, if_pos h]
def hT : HTbl := fun f => if f = 31 then some (PH.run GG ph_caught) else none
theorem hT_eq : hT 31 = some (PH.run GG ph_caught) := (rfl)
theorem hT_ok : ∀ f h, hT f = some h → HContract Try.prog GG f h := by
  intro f h e
  unfold hT at e
  split at e
  · rename_i hf
    simp only [Option.some.injEq] at e
    subst e; subst hf
    exact c_caught
  · cases e
theorem holds_drop (v : List Int) (l : List Tst) (i : Nat) (h : i < l.length) : holdsF v (l.drop i) = if (l.getD i default).a < 0 ∨ 16 ≤ (l.getD i default).a then (false, 1) else if at' v (l.getD i default).a.toNat < (l.getD i default).lo ∨ (l.getD i default).hi < at' v (l.getD i default).a.toNat then (false, 0) else holdsF v (l.drop (i + 1)) := by
  rw [drop_getD l i h, holdsF]
noncomputable abbrev TBH : Tbl := tbx [] [(32, si_newEv), (33, si_load)] [(33, sx_load)]
noncomputable def sp_pholds : List D → Option D := spOf (α := Cls × (Int × List Int)) (fun a => [clsD a.1, envD (Prod.fst a.2) (Prod.snd a.2)]) (fun a => a.2.1 = 65535 ∧ caseV a.2.2 ∧ a.1.wh.length ≤ 9223372036854775807) (fun a => .tup [.bool (holdsF a.2.2 a.1.wh).1, .int .i64 (holdsF a.2.2 a.1.wh).2])
theorem call_pholds (c : Cls) (v : Int × List Int) (h : v.1 = 65535 ∧ caseV v.2 ∧ c.wh.length ≤ 9223372036854775807) : sp_pholds [clsD c, envD (Prod.fst v) (Prod.snd v)] = some (.tup [.bool (holdsF v.2 c.wh).1, .int .i64 (holdsF v.2 c.wh).2]) :=
  spOf_enc (fun ⟨a0, a1⟩ ⟨b0, b1⟩ h => by simp only [List.cons.injEq, D.slc.injEq, D.int.injEq, D.bool.injEq, D.str.injEq, D.agg.injEq, digs_iff, dig_iff, digC_iff, bytes_iff, byte_iff, words_iff, word_iff, bsl_iff, true_and, and_true, ints_iff, nI_iff, tsts_iff, clss_iff, clsD_iff, tarD_iff, tstD_iff, ptD_iff, Int.ofNat_inj, env_iff] at h; simp [h, Prod.ext_iff]) (c, v) h
set_option maxHeartbeats 4000000 in
set_option maxRecDepth 20000 in
theorem wd_pholds (c : Cls) (v : List Int) (hv : caseV v) (hc : c.wh.length ≤ 9223372036854775807) : wDf GG TBH F_teval_Holds hT [clsD c, envD 65535 v] [] fun h das => retDQ h das F_teval_Holds.res (.tup [.bool (holdsF v c.wh).1, .int .i64 (holdsF v c.wh).2]) := by
  have hl := hv.1
  unfold wDf F_teval_Holds
  simp (disch := first | omega | decide) only [push_cast, ↓wF_free, ↓reduceIte, Nat.reduceEqDiff, Nat.reduceLT, Nat.reduceLeDiff, Nat.reduceAdd, Nat.reduceSub, Nat.reduceMul, Nat.reduceBEq, Int.reduceLT, Int.reduceLE, Int.reduceToNat, Int.reduceNeg, Int.reducePow, Int.reduceAdd, Int.reduceMul, Int.reduceSub, ↓Int.reduceNatCast', putOff_clo, hT_eq, ldE _ _ hl, call_newEv _ _ _ _ _ hl]
  generalize hw : c.wh = l at *
  refine W_while (fun i : Nat => [(4, .bool false), (5, .ptr 2 0), (6, .ptr 4 0), (13, .slc (nz 3 (l.map tstD)) (l.map tstD) false), (14, .int .i64 (l.length : Int)), (15, .int .i64 (i : Int))])
    (fun i => [⟨false, 1, clsC c, false⟩, ⟨false, 1, envC 65535 v, false⟩, ⟨false, 1, [.int .i64 0], false⟩, ⟨false, 1, envC 65535 v, false⟩, ⟨false, 1, evC 65535 v (.mapv 5), false⟩, ⟨false, 2, evN 4 9, false⟩])
    (fun i => i ≤ l.length ∧ holdsF v l = holdsF v (l.drop i)) (fun i => l.length - i) 0 (by simp (disch := first | omega | decide) only [push_cast, ↓wF_free, ↓reduceIte, Nat.reduceEqDiff, Nat.reduceLT, Nat.reduceLeDiff, Nat.reduceAdd, Nat.reduceSub, Nat.reduceMul, Nat.reduceBEq, Int.reduceLT, Int.reduceLE, Int.reduceToNat, Int.reduceNeg, Int.reducePow, Int.reduceAdd, Int.reduceMul, Int.reduceSub, ↓Int.reduceNatCast'] <;> rfl) ⟨Nat.zero_le _, rfl⟩ ?_
  rintro i ⟨hi, hh⟩
  unfold F_teval_Holds_L0
  simp (disch := first | omega | decide) only [push_cast, ↓wF_free, ↓reduceIte, Nat.reduceEqDiff, Nat.reduceLT, Nat.reduceLeDiff, Nat.reduceAdd, Nat.reduceSub, Nat.reduceMul, Nat.reduceBEq, Int.reduceLT, Int.reduceLE, Int.reduceToNat, Int.reduceNeg, Int.reducePow, Int.reduceAdd, Int.reduceMul, Int.reduceSub, ↓Int.reduceNatCast']
  refine ifD_split (fun h2 => ?_) (fun h2 => ?_)
  · have hlt : i < l.length := by omega
    rw [holds_drop v l i hlt] at hh
    simp (disch := first | omega | decide) only [push_cast, ↓wF_free, ↓reduceIte, Nat.reduceEqDiff, Nat.reduceLT, Nat.reduceLeDiff, Nat.reduceAdd, Nat.reduceSub, Nat.reduceMul, Nat.reduceBEq, Int.reduceLT, Int.reduceLE, Int.reduceToNat, Int.reduceNeg, Int.reducePow, Int.reduceAdd, Int.reduceMul, Int.reduceSub, ↓Int.reduceNatCast', idxS_nz]
    generalize l.getD i default = t at *
    by_cases ha : t.a < 0 ∨ 16 ≤ t.a
    · rw [if_pos ha] at hh
      have c1 := fun o => call_load_none (st := [⟨false, 1, clsC c, false⟩, ⟨false, 1, envC 65535 v, false⟩, ⟨false, 1, [.int .i64 0], false⟩, ⟨false, 1, envC 65535 v, false⟩, ⟨false, 1, evC 65535 v (.mapv 5), false⟩, ⟨false, 2, evN 4 9, false⟩, o]) (k := 4) ha
      have c2 := fun o => call_loadX (st := [⟨false, 1, clsC c, false⟩, ⟨false, 1, envC 65535 v, false⟩, ⟨false, 1, [.int .i64 0], false⟩, ⟨false, 1, envC 65535 v, false⟩, ⟨false, 1, evC 65535 v (.mapv 5), false⟩, ⟨false, 2, evN 4 9, false⟩, o]) (k := 4) ha
      have c3 := fun o => run_caught 2 [⟨false, 1, clsC c, false⟩, ⟨false, 1, envC 65535 v, false⟩, ⟨false, 1, [.int .i64 0], false⟩, ⟨false, 1, envC 65535 v, false⟩, ⟨false, 1, evC 65535 v (.mapv 5), false⟩, ⟨false, 2, evN 4 9, false⟩, o] 1 0 rfl
      simp (disch := first | omega | decide) only [push_cast, ↓wF_free, ↓reduceIte, Nat.reduceEqDiff, Nat.reduceLT, Nat.reduceLeDiff, Nat.reduceAdd, Nat.reduceSub, Nat.reduceMul, Nat.reduceBEq, Int.reduceLT, Int.reduceLE, Int.reduceToNat, Int.reduceNeg, Int.reducePow, Int.reduceAdd, Int.reduceMul, Int.reduceSub, ↓Int.reduceNatCast', st_tst0, ld_tst, c1, c2, c3, hh]
    · rw [if_neg ha] at hh
      have c1 := fun o => call_load (st := [⟨false, 1, clsC c, false⟩, ⟨false, 1, envC 65535 v, false⟩, ⟨false, 1, [.int .i64 0], false⟩, ⟨false, 1, envC 65535 v, false⟩, ⟨false, 1, evC 65535 v (.mapv 5), false⟩, ⟨false, 2, evN 4 9, false⟩, o]) (k := 4) (a := t.a) hv rfl (by omega) (by omega)
      simp (disch := first | omega | decide) only [push_cast, ↓wF_free, ↓reduceIte, Nat.reduceEqDiff, Nat.reduceLT, Nat.reduceLeDiff, Nat.reduceAdd, Nat.reduceSub, Nat.reduceMul, Nat.reduceBEq, Int.reduceLT, Int.reduceLE, Int.reduceToNat, Int.reduceNeg, Int.reducePow, Int.reduceAdd, Int.reduceMul, Int.reduceSub, ↓Int.reduceNatCast', st_tst0, c1]
      generalize at' v t.a.toNat = z at *
      by_cases h5 : z < t.lo
      · rw [if_pos (.inl h5)] at hh
        simp (disch := first | omega | decide) only [push_cast, ↓wF_free, ↓reduceIte, Nat.reduceEqDiff, Nat.reduceLT, Nat.reduceLeDiff, Nat.reduceAdd, Nat.reduceSub, Nat.reduceMul, Nat.reduceBEq, Int.reduceLT, Int.reduceLE, Int.reduceToNat, Int.reduceNeg, Int.reducePow, Int.reduceAdd, Int.reduceMul, Int.reduceSub, ↓Int.reduceNatCast', h5, hh]
      · by_cases h6 : t.hi < z
        · rw [if_pos (.inr h6)] at hh
          simp (disch := first | omega | decide) only [push_cast, ↓wF_free, ↓reduceIte, Nat.reduceEqDiff, Nat.reduceLT, Nat.reduceLeDiff, Nat.reduceAdd, Nat.reduceSub, Nat.reduceMul, Nat.reduceBEq, Int.reduceLT, Int.reduceLE, Int.reduceToNat, Int.reduceNeg, Int.reducePow, Int.reduceAdd, Int.reduceMul, Int.reduceSub, ↓Int.reduceNatCast', h5, h6, hh]
        · rw [if_neg (by omega)] at hh
          simp (disch := first | omega | decide) only [push_cast, ↓wF_free, ↓reduceIte, Nat.reduceEqDiff, Nat.reduceLT, Nat.reduceLeDiff, Nat.reduceAdd, Nat.reduceSub, Nat.reduceMul, Nat.reduceBEq, Int.reduceLT, Int.reduceLE, Int.reduceToNat, Int.reduceNeg, Int.reducePow, Int.reduceAdd, Int.reduceMul, Int.reduceSub, ↓Int.reduceNatCast', h5, h6, add_i]
          refine next_head (i + 1) (by exact ⟨by omega, hh⟩) (by omega) ?_
          simp (disch := first | omega | decide) only [push_cast, ↓wF_free, ↓reduceIte, Nat.reduceEqDiff, Nat.reduceLT, Nat.reduceLeDiff, Nat.reduceAdd, Nat.reduceSub, Nat.reduceMul, Nat.reduceBEq, Int.reduceLT, Int.reduceLE, Int.reduceToNat, Int.reduceNeg, Int.reducePow, Int.reduceAdd, Int.reduceMul, Int.reduceSub, ↓Int.reduceNatCast'] <;> rfl
  · obtain rfl : i = l.length := by omega
    rw [List.drop_length] at hh
    simp (disch := first | omega | decide) only [push_cast, ↓wF_free, ↓reduceIte, Nat.reduceEqDiff, Nat.reduceLT, Nat.reduceLeDiff, Nat.reduceAdd, Nat.reduceSub, Nat.reduceMul, Nat.reduceBEq, Int.reduceLT, Int.reduceLE, Int.reduceToNat, Int.reduceNeg, Int.reducePow, Int.reduceAdd, Int.reduceMul, Int.reduceSub, ↓Int.reduceNatCast', hh, holdsF]
theorem c_pholds : Contract Try.prog GG 12 sp_pholds :=
  dcontract_of tr_teval_Holds (tbx_ok all_nil (all_cons ci_newEv (all_cons ci_load all_nil)) (all_cons cx_load all_nil)) hT_ok (fun a h => by
    obtain ⟨c, ⟨n, v⟩⟩ := a
    obtain ⟨h1, h2, h3⟩ := h
    dsimp only at h1 h2 h3
    subst h1
    exact wd_pholds c v h2 h3)
end Go.Proofs.Ytgppecaeegaooaa.PI
namespace Go.Proofs.Ytgppecaeegaooaa.PI
open Go
set_option linter.unusedSimpArgs false
set_option linter.unusedVariables false
def caseN (v : List Int) : Nat → Bool
  | 0 => true
  | n + 1 => caseN v n && (decide (0 ≤ at' v n) && decide (at' v n ≤ 9007199254740992))
def caseB (h : Int) (v : List Int) : Bool := caseN v 16 && decide (h = 65535)
theorem caseN_iff (v : List Int) : ∀ n, caseN v n = true ↔ ∀ i, i < n → 0 ≤ at' v i ∧ at' v i ≤ 9007199254740992
  | 0 => by simp [caseN]
  | n + 1 => by
    simp only [caseN, Bool.and_eq_true, decide_eq_true_eq, caseN_iff v n]
    constructor
    · rintro ⟨h1, h2⟩ i hi
      rcases Nat.lt_or_ge i n with h | h
      · exact h1 i h
      · obtain rfl : i = n := by omega
        exact h2
    · exact fun h => ⟨fun i hi => h i (by omega), h n (by omega)⟩
theorem caseB_spec {h : Int} {v : List Int} (hl : v.length = 16) (hb : caseB h v = true) : h = 65535 ∧ caseV v := by
  simp only [caseB, Bool.and_eq_true, decide_eq_true_eq, caseN_iff] at hb
  exact ⟨hb.2, hl, hb.1⟩
def inT (v : List Int) (t : Tst) : Prop := okA t ∧ t.lo ≤ at' v t.a.toNat ∧ at' v t.a.toNat ≤ t.hi
theorem holds_iff (v : List Int) : ∀ l : List Tst, (holdsF v l).1 = true ↔ ∀ t ∈ l, inT v t
  | [] => by simp [holdsF]
  | t :: l => by
    simp only [holdsF, List.forall_mem_cons, inT, okA]
    split
    · exact ⟨fun h => (by cases h), fun h => by have := h.1; omega⟩
    · split
      · exact ⟨fun h => (by cases h), fun h => by have := h.1; omega⟩
      · rw [holds_iff v l]
        simp only [inT, okA]
        constructor
        · exact fun h => ⟨by omega, h⟩
        · exact fun h => h.2
theorem run_cov {v : List Int} : ∀ {l : List Tst} {b c : Bx}, b.ok → runT b l = some c → (cov 0 c v ↔ cov 0 b v ∧ ∀ t ∈ l, inT v t)
  | [], b, c, hb, h => by
    simp only [runT, Option.some.injEq] at h
    subst h
    simp
  | t :: l, b, c, hb, h => by
    simp only [runT] at h
    split at h
    case isFalse => cases h
    rename_i ht
    rw [run_cov (cutB_ok hb t) h]
    simp only [List.forall_mem_cons]
    have key : cov 0 (cutB b t) v ↔ cov 0 b v ∧ inT v t := by
      have hh := ht
      unfold okA at hh
      constructor
      · intro hc
        refine ⟨fun i h0 hi => ?_, ht, ?_⟩
        · have := hc i h0 hi
          rw [cutB_lo hb ht, cutB_hi hb ht] at this
          split at this
          · omega
          · exact this
        · have := hc t.a.toNat (Nat.zero_le _) (by omega)
          rw [cutB_lo hb ht, cutB_hi hb ht, if_pos rfl, if_pos rfl] at this
          omega
      · rintro ⟨h1, _, h2, h3⟩ i h0 hi
        have := h1 i h0 hi
        rw [cutB_lo hb ht, cutB_hi hb ht]
        split
        · rename_i e
          subst e
          omega
        · exact this
    rw [key, and_assoc]
theorem run_okA : ∀ {l : List Tst} (b : Bx), (∀ t ∈ l, okA t) → ∃ c, runT b l = some c
  | [], b, _ => ⟨b, rfl⟩
  | t :: l, b, h => by
    simp only [runT]
    rw [if_pos (h t (by simp))]
    exact run_okA _ fun x hx => h x (by simp [hx])
theorem cov_all {v : List Int} (hv : caseV v) : cov 0 allB v := by
  intro i _ hi
  have := hv.2 i hi
  have e1 : at' allB.lo i = 0 := at_rep 16 0 i hi
  have e2 : at' allB.hi i = 9007199254740992 := at_rep 16 _ i hi
  omega
theorem cov_some {b : Bx} {v : List Int} (h : cov 0 b v) : someB b = true := (someB_iff b).2 fun i hi => by have := h i (Nat.zero_le _) hi; omega
theorem box_holds {v : List Int} (hv : caseV v) (l : List Tst) : (holdsF v l).1 = true ↔ (ofB l).2 = true ∧ cov 0 (ofB l).1 v := by
  rw [holds_iff]
  constructor
  · intro h
    obtain ⟨c, hc⟩ := run_okA (l := l) allB fun t ht => (h t ht).1
    have hcv := (run_cov allB_ok hc).2 ⟨cov_all hv, h⟩
    rw [ofB_some hc, if_pos (cov_some hcv)]
    exact ⟨rfl, hcv⟩
  · rintro ⟨h1, h2⟩
    cases hr : runT allB l with
    | none => rw [ofB_none hr] at h1; cases h1
    | some c =>
      rw [ofB_some hr] at h1 h2
      split at h1
      · rename_i hs
        rw [if_pos hs] at h2
        exact ((run_cov allB_ok hr).1 h2).2
      · cases h1
noncomputable def sp_isc : List D → Option D := spOf (α := (Int × List Int)) (fun a => [envD (Prod.fst a) (Prod.snd a)]) (fun a => a.2.length = 16) (fun a => .bool (caseB a.1 a.2))
theorem call_isc (v : Int × List Int) (h : v.2.length = 16) : sp_isc [envD (Prod.fst v) (Prod.snd v)] = some (.bool (caseB v.1 v.2)) :=
  spOf_enc (fun a b h => by simp only [List.cons.injEq, D.slc.injEq, D.int.injEq, D.bool.injEq, D.str.injEq, D.agg.injEq, digs_iff, dig_iff, digC_iff, bytes_iff, byte_iff, words_iff, word_iff, bsl_iff, true_and, and_true, ints_iff, nI_iff, tsts_iff, clss_iff, clsD_iff, tarD_iff, tstD_iff, ptD_iff, Int.ofNat_inj, env_iff] at h; simp [h, Prod.ext_iff]) (v) h
set_option maxHeartbeats 4000000 in
set_option maxRecDepth 20000 in
theorem w_isc (v : Int × List Int) (h : v.2.length = 16) : @wW GG (tb [] []) F_wagonpoolref19_IsCase.code (argF [envD (Prod.fst v) (Prod.snd v)]) [] ⟨retQ F_wagonpoolref19_IsCase.res (.bool (caseB v.1 v.2))⟩ := by
  obtain ⟨k, v⟩ := v
  dsimp only at h ⊢
  unfold F_wagonpoolref19_IsCase
  simp (disch := first | omega | decide) only [push_cast, ↓wF_free, ↓reduceIte, Nat.reduceEqDiff, Nat.reduceLT, Nat.reduceLeDiff, Nat.reduceAdd, Nat.reduceSub, Nat.reduceMul, Nat.reduceBEq, Int.reduceLT, Int.reduceLE, Int.reduceToNat, Int.reduceNeg, Int.reducePow, Int.reduceAdd, Int.reduceMul, Int.reduceSub, ↓Int.reduceNatCast']
  refine W_while (fun i : Nat => [(1, .ptr 0 0), (3, .int .i64 (i : Int))]) (fun i => [⟨false, 1, envC k v, false⟩]) (fun i => i ≤ 16 ∧ caseN v i = true) (fun i => 16 - i) 0 (by simp only [push_cast, ↓wF_free, ↓reduceIte, Nat.reduceEqDiff, Nat.reduceLT, Nat.reduceLeDiff, Nat.reduceAdd, Nat.reduceSub, Nat.reduceMul, Nat.reduceBEq, Int.reduceLT, Int.reduceLE, Int.reduceToNat, Int.reduceNeg, Int.reducePow, Int.reduceAdd, Int.reduceMul, Int.reduceSub, ↓Int.reduceNatCast'] <;> rfl) ⟨Nat.zero_le _, rfl⟩ ?_
  rintro i ⟨hi, hr⟩
  unfold F_wagonpoolref19_IsCase_L0
  simp (disch := first | omega | decide) only [push_cast, ↓wF_free, ↓reduceIte, Nat.reduceEqDiff, Nat.reduceLT, Nat.reduceLeDiff, Nat.reduceAdd, Nat.reduceSub, Nat.reduceMul, Nat.reduceBEq, Int.reduceLT, Int.reduceLE, Int.reduceToNat, Int.reduceNeg, Int.reducePow, Int.reduceAdd, Int.reduceMul, Int.reduceSub, ↓Int.reduceNatCast']
  refine ifD_split (fun h2 => ?_) (fun h2 => ?_)
  · have hlt : i < 16 := by omega
    have l1 := ldEv 1 false k v h i hlt
    by_cases e1 : at' v i < 0
    · have e : caseB k v = false := by
        cases hc : caseB k v with
        | false => rfl
        | true => have := (caseB_spec h hc).2.2 i hlt; omega
      simp (disch := first | omega | decide) only [push_cast, ↓wF_free, ↓reduceIte, Nat.reduceEqDiff, Nat.reduceLT, Nat.reduceLeDiff, Nat.reduceAdd, Nat.reduceSub, Nat.reduceMul, Nat.reduceBEq, Int.reduceLT, Int.reduceLE, Int.reduceToNat, Int.reduceNeg, Int.reducePow, Int.reduceAdd, Int.reduceMul, Int.reduceSub, ↓Int.reduceNatCast', idxA_ptr, l1, e1, e]
    · by_cases e2 : 9007199254740992 < at' v i
      · have e : caseB k v = false := by
          cases hc : caseB k v with
          | false => rfl
          | true => have := (caseB_spec h hc).2.2 i hlt; omega
        simp (disch := first | omega | decide) only [push_cast, ↓wF_free, ↓reduceIte, Nat.reduceEqDiff, Nat.reduceLT, Nat.reduceLeDiff, Nat.reduceAdd, Nat.reduceSub, Nat.reduceMul, Nat.reduceBEq, Int.reduceLT, Int.reduceLE, Int.reduceToNat, Int.reduceNeg, Int.reducePow, Int.reduceAdd, Int.reduceMul, Int.reduceSub, ↓Int.reduceNatCast', idxA_ptr, l1, e1, e2, e]
      · have hn : caseN v (i + 1) = true := by
          simp only [caseN, hr, Bool.true_and, Bool.and_eq_true, decide_eq_true_eq]
          omega
        simp (disch := first | omega | decide) only [push_cast, ↓wF_free, ↓reduceIte, Nat.reduceEqDiff, Nat.reduceLT, Nat.reduceLeDiff, Nat.reduceAdd, Nat.reduceSub, Nat.reduceMul, Nat.reduceBEq, Int.reduceLT, Int.reduceLE, Int.reduceToNat, Int.reduceNeg, Int.reducePow, Int.reduceAdd, Int.reduceMul, Int.reduceSub, ↓Int.reduceNatCast', idxA_ptr, l1, e1, e2, add_i]
        refine next_head (i + 1) (by exact ⟨by omega, hn⟩) (by omega) ?_
        simp only [push_cast, ↓wF_free, ↓reduceIte, Nat.reduceEqDiff, Nat.reduceLT, Nat.reduceLeDiff, Nat.reduceAdd, Nat.reduceSub, Nat.reduceMul, Nat.reduceBEq, Int.reduceLT, Int.reduceLE, Int.reduceToNat, Int.reduceNeg, Int.reducePow, Int.reduceAdd, Int.reduceMul, Int.reduceSub, ↓Int.reduceNatCast'] <;> rfl
  · obtain rfl : i = 16 := by omega
    have e : caseB k v = decide (k = 65535) := by unfold caseB; rw [hr, Bool.true_and]
    have l0 : ldO (some ⟨false, 1, envC k v, false⟩) 1 false 0 = some (.int .i64 k) := (rfl)
    simp (disch := first | omega | decide) only [push_cast, ↓wF_free, ↓reduceIte, Nat.reduceEqDiff, Nat.reduceLT, Nat.reduceLeDiff, Nat.reduceAdd, Nat.reduceSub, Nat.reduceMul, Nat.reduceBEq, Int.reduceLT, Int.reduceLE, Int.reduceToNat, Int.reduceNeg, Int.reducePow, Int.reduceAdd, Int.reduceMul, Int.reduceSub, ↓Int.reduceNatCast', l0, e]
theorem c_isc : Contract Try.prog GG 11 sp_isc :=
  contract_of tr_wagonpoolref19_IsCase (tb_ok all_nil all_nil) (fun a h => w_isc a h)
end Go.Proofs.Ytgppecaeegaooaa.PI
namespace Go.Proofs.Ytgppecaeegaooaa.PI
open Go
set_option linter.unusedSimpArgs false
set_option linter.unusedVariables false
def hldB (cl : List Cls) (v : List Int) (i : Nat) : Bool := (holdsF v (cl.getD i default).wh).1
theorem hld_iff {cl : List Cls} {v : List Int} (hv : caseV v) {i : Nat} (h : i < cl.length) : hldB cl v i = true ↔ smA cl i = true ∧ cov 0 (bxA cl i) v := by
  unfold hldB smA bxA
  rw [sms_at cl i h, bxs_at cl i h]
  exact box_holds hv _
theorem cov_meet {b c : Bx} (hb : b.ok) (hc : c.ok) (v : List Int) : cov 0 (meetB b c) v ↔ cov 0 b v ∧ cov 0 c v := by
  constructor
  · intro h
    refine ⟨fun i h0 hi => ?_, fun i h0 hi => ?_⟩ <;>
    · have := h i h0 hi
      rw [meetB_lo hb hc i hi, meetB_hi hb hc i hi] at this
      omega
  · rintro ⟨h1, h2⟩ i h0 hi
    have := h1 i h0 hi
    have := h2 i h0 hi
    rw [meetB_lo hb hc i hi, meetB_hi hb hc i hi]
    omega
theorem hit_both {cl : List Cls} {v : List Int} (hv : caseV v) {i j : Nat} (hi : i < cl.length) (hj : j < cl.length) (h1 : hldB cl v i = true) (h2 : hldB cl v j = true) : hitB cl i j = true ∧ cov 0 (meetB (bxA cl i) (bxA cl j)) v := by
  obtain ⟨a1, a2⟩ := (hld_iff hv hi).1 h1
  obtain ⟨b1, b2⟩ := (hld_iff hv hj).1 h2
  have hc := (cov_meet (bxA_ok hi) (bxA_ok hj) v).2 ⟨a2, b2⟩
  refine ⟨?_, hc⟩
  unfold hitB
  rw [a1, b1, cov_some hc]; rfl
theorem ov_not {cl : List Cls} (h : ovF cl = none) {v : List Int} (hv : caseV v) {k l : Nat} (hkl : k < l) (hl : l < cl.length) (hk : hldB cl v k = true) : hldB cl v l = false := by
  cases hl2 : hldB cl v l with
  | false => rfl
  | true =>
    have := (hit_both hv (Nat.lt_trans hkl hl) hl hk hl2).1
    rw [ovI_none (k := cl.length) (i := 0) rfl h k l (Nat.zero_le _) hkl hl] at this
    cases this
end Go.Proofs.Ytgppecaeegaooaa.PI
namespace Go.Proofs.Ytgppecaeegaooaa.PI
open Go
set_option linter.unusedSimpArgs false
set_option linter.unusedVariables false
theorem holds_valid (v : List Int) : ∀ l : List Tst, (∀ t ∈ l, okA t) → (holdsF v l).2 = 0
  | [], _ => rfl
  | t :: l, h => by
    have ht := h t (by simp)
    unfold okA at ht
    simp only [holdsF]
    rw [if_neg (by omega)]
    split
    · rfl
    · exact holds_valid v l fun x hx => h x (by simp [hx])
def clsT (L : List Tst) : List D := [.str [], .slc (nz 3 (L.map tstD)) (L.map tstD) false, .int .i64 0, .int .i64 0, .int .i64 0, .int .i64 0, .int .i64 0, .int .i64 0, .slc 0 [] true]
theorem hkB_clsT (L : List Tst) : (clsT L).flatMap hk = [] := (rfl)
theorem renB_clsT (n : Nat) (σ : List Nat) (L : List Tst) : (clsT L).map (ren n σ) = clsT L := (rfl)
attribute [push_cast] hkB_clsT renB_clsT
end Go.Proofs.Ytgppecaeegaooaa.PI
namespace Go.Proofs.Ytgppecaeegaooaa.PI
open Go
set_option linter.unusedSimpArgs false
set_option linter.unusedVariables false
def exC (op k u0 u1 u2 u3 : Int) (els : List D) : List D := [.int .i64 op, .int .i64 k, .int .i64 u0, .int .i64 u1, .int .i64 u2, .int .i64 u3, .slc (nz 7 els) els false]
def exD (op k u0 u1 u2 u3 : Int) (els : List D) : D := .agg (exC op k u0 u1 u2 u3 els)
inductive ExP : D → Prop
  | mk (op k u0 u1 u2 u3 : Int) (els : List D) : els.length ≤ 9223372036854775807 → (∀ x ∈ els, ExP x) → ExP (exD op k u0 u1 u2 u3 els)
def opsF (op : Int) : Int := if op < 1 ∨ 11 < op then -1 else if op = 1 ∨ op = 2 then 0 else if op = 11 then 4 else 2
def formF : Nat → D → Bool
  | 0, _ => false
  | n + 1, .agg [.int .i64 op, .int .i64 k, _, _, _, _, .slc _ els _] => if (els.length : Int) = opsF op then (if op = 1 then decide (0 ≤ k) && decide (k ≤ 1099511627776) else if op = 2 then decide (0 ≤ k) && decide (k < 16) else els.all (formF n)) else false
  | _ + 1, _ => false
theorem formF_ex (n : Nat) (op k u0 u1 u2 u3 : Int) (els : List D) : formF (n + 1) (exD op k u0 u1 u2 u3 els) = if (els.length : Int) = opsF op then (if op = 1 then decide (0 ≤ k) && decide (k ≤ 1099511627776) else if op = 2 then decide (0 ≤ k) && decide (k < 16) else els.all (formF n)) else false := by
  simp only [exD, exC, formF]
noncomputable def sp_opers : List D → Option D := spOf (α := Int) (fun a => [.int .i64 a]) (fun a => True) (fun a => .int .i64 (opsF a))
theorem call_opers (op : Int) : sp_opers [.int .i64 op] = some (.int .i64 (opsF op)) :=
  spOf_enc (fun a b h => by simp only [List.cons.injEq, D.slc.injEq, D.int.injEq, D.bool.injEq, D.str.injEq, D.agg.injEq, digs_iff, dig_iff, digC_iff, bytes_iff, byte_iff, words_iff, word_iff, bsl_iff, true_and, and_true, ints_iff, nI_iff, tsts_iff, clss_iff, clsD_iff, tarD_iff, tstD_iff, ptD_iff, Int.ofNat_inj] at h; simp [h, Prod.ext_iff]) (op) trivial
set_option maxHeartbeats 4000000 in
set_option maxRecDepth 20000 in
theorem w_opers (op : Int) : @wW GG (tb [] []) F_teval_operands.code (argF [.int .i64 op]) [] ⟨retQ F_teval_operands.res (.int .i64 (opsF op))⟩ := by
  unfold F_teval_operands opsF
  by_cases h1 : op < 1
  · simp (disch := first | omega | decide) only [push_cast, ↓wF_free, ↓reduceIte, Nat.reduceEqDiff, Nat.reduceLT, Nat.reduceLeDiff, Nat.reduceAdd, Nat.reduceSub, Nat.reduceMul, Nat.reduceBEq, Int.reduceLT, Int.reduceLE, Int.reduceToNat, Int.reduceNeg, Int.reducePow, Int.reduceAdd, Int.reduceMul, Int.reduceSub, ↓Int.reduceNatCast', h1, true_or]
  · by_cases h2 : 11 < op
    · simp (disch := first | omega | decide) only [push_cast, ↓wF_free, ↓reduceIte, Nat.reduceEqDiff, Nat.reduceLT, Nat.reduceLeDiff, Nat.reduceAdd, Nat.reduceSub, Nat.reduceMul, Nat.reduceBEq, Int.reduceLT, Int.reduceLE, Int.reduceToNat, Int.reduceNeg, Int.reducePow, Int.reduceAdd, Int.reduceMul, Int.reduceSub, ↓Int.reduceNatCast', h1, h2, or_true]
    · by_cases h3 : op = 1
      · simp (disch := first | omega | decide) only [push_cast, ↓wF_free, ↓reduceIte, Nat.reduceEqDiff, Nat.reduceLT, Nat.reduceLeDiff, Nat.reduceAdd, Nat.reduceSub, Nat.reduceMul, Nat.reduceBEq, Int.reduceLT, Int.reduceLE, Int.reduceToNat, Int.reduceNeg, Int.reducePow, Int.reduceAdd, Int.reduceMul, Int.reduceSub, ↓Int.reduceNatCast', h1, h2, h3, or_self, true_or]
      · by_cases h4 : op = 2
        · subst h4
          simp (disch := first | omega | decide) only [push_cast, ↓wF_free, ↓reduceIte, Nat.reduceEqDiff, Nat.reduceLT, Nat.reduceLeDiff, Nat.reduceAdd, Nat.reduceSub, Nat.reduceMul, Nat.reduceBEq, Int.reduceLT, Int.reduceLE, Int.reduceToNat, Int.reduceNeg, Int.reducePow, Int.reduceAdd, Int.reduceMul, Int.reduceSub, ↓Int.reduceNatCast', h1, h2, h3, or_self, or_true]
        · by_cases h5 : op = 11
          · subst h5
            simp (disch := first | omega | decide) only [push_cast, ↓wF_free, ↓reduceIte, Nat.reduceEqDiff, Nat.reduceLT, Nat.reduceLeDiff, Nat.reduceAdd, Nat.reduceSub, Nat.reduceMul, Nat.reduceBEq, Int.reduceLT, Int.reduceLE, Int.reduceToNat, Int.reduceNeg, Int.reducePow, Int.reduceAdd, Int.reduceMul, Int.reduceSub, ↓Int.reduceNatCast', h1, h2, h3, h4, or_self]
          · simp (disch := first | omega | decide) only [push_cast, ↓wF_free, ↓reduceIte, Nat.reduceEqDiff, Nat.reduceLT, Nat.reduceLeDiff, Nat.reduceAdd, Nat.reduceSub, Nat.reduceMul, Nat.reduceBEq, Int.reduceLT, Int.reduceLE, Int.reduceToNat, Int.reduceNeg, Int.reducePow, Int.reduceAdd, Int.reduceMul, Int.reduceSub, ↓Int.reduceNatCast', h1, h2, h3, h4, h5, or_self]
theorem c_opers : Contract Try.prog GG 69 sp_opers :=
  contract_of tr_teval_operands (tb_ok all_nil all_nil) (fun a h => w_opers a)
noncomputable def sp_form (N : Nat) : List D → Option D := spOf (α := D × Nat) (fun a => [a.1, .int .i64 (a.2 : Int)]) (fun a => a.2 ≤ N ∧ N ≤ 100 ∧ ExP a.1) (fun a => .bool (formF a.2 a.1))
theorem call_form (N n : Nat) (x : D) (h : n ≤ N ∧ N ≤ 100 ∧ ExP x) : sp_form N [x, .int .i64 (n : Int)] = some (.bool (formF n x)) :=
  spOf_enc (fun ⟨a0, a1⟩ ⟨b0, b1⟩ h => by simp only [List.cons.injEq, D.int.injEq, true_and, and_true, Int.ofNat_inj] at h; simp [h]) (x, n) h
theorem box_ex (op k u0 u1 u2 u3 : Int) (els : List D) : boxD (exD op k u0 u1 u2 u3 els) = some (exC op k u0 u1 u2 u3 els) := (rfl)
theorem ld_op (lent : Bool) (op k u0 u1 u2 u3 : Int) (els : List D) : ldO (some ⟨false, 1, exC op k u0 u1 u2 u3 els, lent⟩) 1 false 0 = some (.int .i64 op) := (rfl)
theorem ld_k (lent : Bool) (op k u0 u1 u2 u3 : Int) (els : List D) : ldO (some ⟨false, 1, exC op k u0 u1 u2 u3 els, lent⟩) 1 false 1 = some (.int .i64 k) := (rfl)
theorem ld_l (lent : Bool) (op k u0 u1 u2 u3 : Int) (els : List D) : ldO (some ⟨false, 1, exC op k u0 u1 u2 u3 els, lent⟩) 1 false 6 = some (.slc (nz 7 els) els false) := (rfl)
theorem ld_ex (lent : Bool) (op k u0 u1 u2 u3 : Int) (els : List D) : ldO (some ⟨false, 1, exC op k u0 u1 u2 u3 els, lent⟩) 7 true 0 = some (exD op k u0 u1 u2 u3 els) := (rfl)
theorem st_ex (op k u0 u1 u2 u3 : Int) (els : List D) : stO (some ⟨false, 1, [.int .i64 0, .int .i64 0, .int .i64 0, .int .i64 0, .int .i64 0, .int .i64 0, .slc 0 [] true], false⟩) 7 0 (exD op k u0 u1 u2 u3 els) = some ⟨false, 1, exC op k u0 u1 u2 u3 els, false⟩ := (rfl)
theorem pld_ex (st : St) (op k u0 u1 u2 u3 : Int) (els : List D) : pload st 7 true (.eptr (exD op k u0 u1 u2 u3 els) 0) = some (exD op k u0 u1 u2 u3 els) := (rfl)
theorem imm_ex (st : St) (op k u0 u1 u2 u3 : Int) (els : List D) : imm st (exD op k u0 u1 u2 u3 els) = some (exD op k u0 u1 u2 u3 els) := by
  simp only [exD, exC, imm, immL, imm1, nz_nz]
  rfl
theorem keys_ex (op k u0 u1 u2 u3 : Int) (els : List D) : keys (exD op k u0 u1 u2 u3 els) = [] := (rfl)
theorem idx_ex (st : St) (els : List D) (t : Bool) (i : Nat) (h : i < els.length) : pidxS st 7 (.slc (nz 7 els) els t) (.int .i64 (i : Int)) = some (.eptr (els.getD i default) 0) := by
  have := idxS_nz st 7 (id : D → D) els t .i64 (i : Int) (by omega) (by omega)
  rwa [Int.toNat_natCast, List.map_id] at this
theorem box_ex0 : boxD (.agg [.int .i64 0, .int .i64 0, .int .i64 0, .int .i64 0, .int .i64 0, .int .i64 0, .slc 0 [] true]) = some [.int .i64 0, .int .i64 0, .int .i64 0, .int .i64 0, .int .i64 0, .int .i64 0, .slc 0 [] true] := (rfl)
theorem hkB_ex (op k u0 u1 u2 u3 : Int) (els : List D) : (exC op k u0 u1 u2 u3 els).flatMap hk = [] := (rfl)
theorem renB_ex (n : Nat) (σ : List Nat) (op k u0 u1 u2 u3 : Int) (els : List D) : (exC op k u0 u1 u2 u3 els).map (ren n σ) = exC op k u0 u1 u2 u3 els := (rfl)
attribute [push_cast] box_ex0 hkB_ex renB_ex box_ex ld_op ld_k ld_l ld_ex st_ex pld_ex imm_ex keys_ex
theorem drop_allD {p : D → Bool} {l : List D} {i : Nat} (h : i < l.length) : (l.drop i).all p = (p (l.getD i default) && (l.drop (i + 1)).all p) := by
  rw [List.drop_eq_getElem_cons h, List.all_cons]
  simp [List.getD_eq_getElem?_getD, h]
theorem getD_memD {l : List D} {i : Nat} (h : i < l.length) : l.getD i default ∈ l := by
  rw [List.getD_eq_getElem?_getD, List.getElem?_eq_getElem h]
  exact List.getElem_mem h
noncomputable abbrev TBF (N : Nat) : Tbl := tb [(69, sp_opers), (57, sp_form N)] []
set_option maxHeartbeats 4000000 in
set_option maxRecDepth 20000 in
theorem w_form (N n : Nat) (x : D) (h : n ≤ N + 1 ∧ N + 1 ≤ 100 ∧ ExP x) : @wW GG (TBF N) F_teval_formed.code (argF [x, .int .i64 (n : Int)]) [] ⟨retQ F_teval_formed.res (.bool (formF n x))⟩ := by
  obtain ⟨h1, h2, hx⟩ := h
  obtain ⟨op, k, u0, u1, u2, u3, els, hl, hel⟩ := hx
  unfold F_teval_formed
  cases n with
  | zero => simp (disch := first | omega | decide) only [push_cast, ↓wF_free, ↓reduceIte, Nat.reduceEqDiff, Nat.reduceLT, Nat.reduceLeDiff, Nat.reduceAdd, Nat.reduceSub, Nat.reduceMul, Nat.reduceBEq, Int.reduceLT, Int.reduceLE, Int.reduceToNat, Int.reduceNeg, Int.reducePow, Int.reduceAdd, Int.reduceMul, Int.reduceSub, ↓Int.reduceNatCast', formF, Int.cast_ofNat_Int]
  | succ m =>
    have n0 : ((m : Int) + 1 = 0) = False := by simp; omega
    have co := call_opers op
    rw [formF_ex]
    by_cases ho : (els.length : Int) = opsF op
    · rw [if_pos ho]
      replace ho := eq_true ho
      by_cases o1 : op = 1
      · subst o1
        rw [if_pos rfl]
        by_cases k1 : 0 ≤ k
        · by_cases k2 : k ≤ 1099511627776 <;> simp (disch := first | omega | decide) only [push_cast, ↓wF_free, ↓reduceIte, Nat.reduceEqDiff, Nat.reduceLT, Nat.reduceLeDiff, Nat.reduceAdd, Nat.reduceSub, Nat.reduceMul, Nat.reduceBEq, Int.reduceLT, Int.reduceLE, Int.reduceToNat, Int.reduceNeg, Int.reducePow, Int.reduceAdd, Int.reduceMul, Int.reduceSub, ↓Int.reduceNatCast', n0, co, ho, k1, k2]
        · simp (disch := first | omega | decide) only [push_cast, ↓wF_free, ↓reduceIte, Nat.reduceEqDiff, Nat.reduceLT, Nat.reduceLeDiff, Nat.reduceAdd, Nat.reduceSub, Nat.reduceMul, Nat.reduceBEq, Int.reduceLT, Int.reduceLE, Int.reduceToNat, Int.reduceNeg, Int.reducePow, Int.reduceAdd, Int.reduceMul, Int.reduceSub, ↓Int.reduceNatCast', n0, co, ho, k1]
      · rw [if_neg o1]
        by_cases o2 : op = 2
        · subst o2
          rw [if_pos rfl]
          by_cases k1 : 0 ≤ k
          · by_cases k2 : k < 16 <;> simp (disch := first | omega | decide) only [push_cast, ↓wF_free, ↓reduceIte, Nat.reduceEqDiff, Nat.reduceLT, Nat.reduceLeDiff, Nat.reduceAdd, Nat.reduceSub, Nat.reduceMul, Nat.reduceBEq, Int.reduceLT, Int.reduceLE, Int.reduceToNat, Int.reduceNeg, Int.reducePow, Int.reduceAdd, Int.reduceMul, Int.reduceSub, ↓Int.reduceNatCast', n0, co, ho, o1, k1, k2]
          · simp (disch := first | omega | decide) only [push_cast, ↓wF_free, ↓reduceIte, Nat.reduceEqDiff, Nat.reduceLT, Nat.reduceLeDiff, Nat.reduceAdd, Nat.reduceSub, Nat.reduceMul, Nat.reduceBEq, Int.reduceLT, Int.reduceLE, Int.reduceToNat, Int.reduceNeg, Int.reducePow, Int.reduceAdd, Int.reduceMul, Int.reduceSub, ↓Int.reduceNatCast', n0, co, ho, o1, k1]
        · rw [if_neg o2]
          simp (disch := first | omega | decide) only [push_cast, ↓wF_free, ↓reduceIte, Nat.reduceEqDiff, Nat.reduceLT, Nat.reduceLeDiff, Nat.reduceAdd, Nat.reduceSub, Nat.reduceMul, Nat.reduceBEq, Int.reduceLT, Int.reduceLE, Int.reduceToNat, Int.reduceNeg, Int.reducePow, Int.reduceAdd, Int.reduceMul, Int.reduceSub, ↓Int.reduceNatCast', n0, co, ho, o1, o2]
          refine W_while (fun i : Nat => [(1, .int .i64 (((m + 1 : Nat)) : Int)), (41, .slc (nz 7 els) els false), (42, .int .i64 (els.length : Int)), (43, .int .i64 (i : Int))]) (fun _ => [⟨false, 1, exC op k u0 u1 u2 u3 els, false⟩]) (fun i => i ≤ els.length ∧ els.all (formF m) = (els.drop i).all (formF m)) (fun i => els.length - i) 0 (by simp only [push_cast, ↓wF_free, ↓reduceIte, Nat.reduceEqDiff, Nat.reduceLT, Nat.reduceLeDiff, Nat.reduceAdd, Nat.reduceSub, Nat.reduceMul, Nat.reduceBEq, Int.reduceLT, Int.reduceLE, Int.reduceToNat, Int.reduceNeg, Int.reducePow, Int.reduceAdd, Int.reduceMul, Int.reduceSub, ↓Int.reduceNatCast'] <;> rfl) ⟨Nat.zero_le _, rfl⟩ ?_
          rintro i ⟨hi, hh⟩
          unfold F_teval_formed_L0
          simp (disch := first | omega | decide) only [push_cast, ↓wF_free, ↓reduceIte, Nat.reduceEqDiff, Nat.reduceLT, Nat.reduceLeDiff, Nat.reduceAdd, Nat.reduceSub, Nat.reduceMul, Nat.reduceBEq, Int.reduceLT, Int.reduceLE, Int.reduceToNat, Int.reduceNeg, Int.reducePow, Int.reduceAdd, Int.reduceMul, Int.reduceSub, ↓Int.reduceNatCast']
          refine ifD_split (fun h2 => ?_) (fun h2 => ?_)
          · have hlt : i < els.length := by omega
            rw [drop_allD hlt] at hh
            have hix := fun st t => idx_ex st els t i hlt
            have hy := hel _ (getD_memD hlt)
            have cf := call_form N m (els.getD i default) ⟨by omega, by omega, hy⟩
            generalize els.getD i default = y at *
            obtain ⟨op', k', v0, v1, v2, v3, els', hl', hel'⟩ := hy
            have hs : pbin .sub (.int .i64 ((m : Int) + 1)) (.int .i64 1) = some (.int .i64 (m : Int)) := by
              rw [sub_i (by omega) (by omega)]; congr 2; omega
            cases hf : formF m (exD op' k' v0 v1 v2 v3 els') with
            | false =>
              rw [hf] at cf hh
              rw [Bool.false_and] at hh
              simp (disch := first | omega | decide) only [push_cast, ↓wF_free, ↓reduceIte, Nat.reduceEqDiff, Nat.reduceLT, Nat.reduceLeDiff, Nat.reduceAdd, Nat.reduceSub, Nat.reduceMul, Nat.reduceBEq, Int.reduceLT, Int.reduceLE, Int.reduceToNat, Int.reduceNeg, Int.reducePow, Int.reduceAdd, Int.reduceMul, Int.reduceSub, ↓Int.reduceNatCast', hix, hs, cf, hh]
            | true =>
              rw [hf] at cf hh
              rw [Bool.true_and] at hh
              simp (disch := first | omega | decide) only [push_cast, ↓wF_free, ↓reduceIte, Nat.reduceEqDiff, Nat.reduceLT, Nat.reduceLeDiff, Nat.reduceAdd, Nat.reduceSub, Nat.reduceMul, Nat.reduceBEq, Int.reduceLT, Int.reduceLE, Int.reduceToNat, Int.reduceNeg, Int.reducePow, Int.reduceAdd, Int.reduceMul, Int.reduceSub, ↓Int.reduceNatCast', hix, hs, cf, add_i]
              refine next_head (i + 1) (by exact ⟨by omega, hh⟩) (by omega) ?_
              simp only [push_cast, ↓wF_free, ↓reduceIte, Nat.reduceEqDiff, Nat.reduceLT, Nat.reduceLeDiff, Nat.reduceAdd, Nat.reduceSub, Nat.reduceMul, Nat.reduceBEq, Int.reduceLT, Int.reduceLE, Int.reduceToNat, Int.reduceNeg, Int.reducePow, Int.reduceAdd, Int.reduceMul, Int.reduceSub, ↓Int.reduceNatCast'] <;> rfl
          · obtain rfl : i = els.length := by omega
            rw [List.drop_length] at hh
            simp (disch := first | omega | decide) only [push_cast, ↓wF_free, ↓reduceIte, Nat.reduceEqDiff, Nat.reduceLT, Nat.reduceLeDiff, Nat.reduceAdd, Nat.reduceSub, Nat.reduceMul, Nat.reduceBEq, Int.reduceLT, Int.reduceLE, Int.reduceToNat, Int.reduceNeg, Int.reducePow, Int.reduceAdd, Int.reduceMul, Int.reduceSub, ↓Int.reduceNatCast', hh, List.all_nil]
    · rw [if_neg ho]
      replace ho := eq_false ho
      simp (disch := first | omega | decide) only [push_cast, ↓wF_free, ↓reduceIte, Nat.reduceEqDiff, Nat.reduceLT, Nat.reduceLeDiff, Nat.reduceAdd, Nat.reduceSub, Nat.reduceMul, Nat.reduceBEq, Int.reduceLT, Int.reduceLE, Int.reduceToNat, Int.reduceNeg, Int.reducePow, Int.reduceAdd, Int.reduceMul, Int.reduceSub, ↓Int.reduceNatCast', n0, co, ho]
theorem c_form : ∀ N, Contract Try.prog GG 57 (sp_form N)
  | 0 => contract_of tr_teval_formed (T := tb [(69, sp_opers), (57, fun _ => none)] []) (tb_ok (all_cons c_opers (all_cons (fun w g ds vs d h => by cases h) all_nil)) all_nil) (fun a h => by
    obtain ⟨x, n⟩ := a
    obtain ⟨h1, h2, hx⟩ := h
    dsimp only at h1 hx
    obtain rfl : n = 0 := by omega
    obtain ⟨op, k, u0, u1, u2, u3, els, hl, hel⟩ := hx
    unfold F_teval_formed
    simp (disch := first | omega | decide) only [push_cast, ↓wF_free, ↓reduceIte, Nat.reduceEqDiff, Nat.reduceLT, Nat.reduceLeDiff, Nat.reduceAdd, Nat.reduceSub, Nat.reduceMul, Nat.reduceBEq, Int.reduceLT, Int.reduceLE, Int.reduceToNat, Int.reduceNeg, Int.reducePow, Int.reduceAdd, Int.reduceMul, Int.reduceSub, ↓Int.reduceNatCast', formF, Int.cast_ofNat_Int])
  | N + 1 => contract_of tr_teval_formed (T := TBF N) (tb_ok (all_cons c_opers (all_cons (c_form N) all_nil)) all_nil) (fun a h => w_form N a.2 a.1 h)
end Go.Proofs.Ytgppecaeegaooaa.PI
