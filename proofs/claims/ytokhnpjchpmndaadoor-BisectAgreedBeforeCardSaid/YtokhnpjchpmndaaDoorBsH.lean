/-
  bisect: the laws of where a bisection ends, of an honest party, and of the leaf before.
  Conditions: none; these are lemmas.
-/
import Derived.Test.YtokhnpjchpmndaaDoorBsG
namespace Go.Proofs.YtokhnpjchpmndaaDoor.PI
open Go
set_option linter.unusedSimpArgs false
set_option linter.unusedVariables false

theorem has_bools {d : D} (h : Has (.slc .bool) d) : ∃ l : List Bool, d = .slc (nz 1 (l.map D.bool)) (l.map D.bool) false ∧ l.length ≤ maxLen :=
  has_slc (f := D.bool) (fun _ => has_bool) h
theorem stK_r (a b : List Dig) (h : Int) (k : Nat) : (stK a b h k).r = (k : Int) := by
  show h - (h - (k : Int)) = (k : Int); omega
theorem stK_valid (a b : List Dig) {h : Int} {k : Nat} (hk : (k : Int) ≤ h) (h4 : h ≤ 16) : bvalid (stK a b h k) = true := by
  have hr := idxS_range a b h k hk
  exact stAt_valid a b (by omega) (by omega) h4 hr.1 hr.2
theorem done_early (a b : List Dig) {h : Int} {k : Nat} (hk : (k : Int) < h) : sp_bDone [bisD (stK a b h k)] = some (.tup [.int .i64 0, .agg (d2C zeroDig zeroDig), .bool false]) := by
  have := call_bDone (stK a b h k)
  have e : doneOk (stK a b h k) = false := by
    unfold doneOk
    have : decide ((stK a b h k).l ≤ 0) = false := decide_eq_false (by rw [stK_l]; omega)
    rw [this, Bool.and_false]
  simp only [doneI, doneA, doneB, e, Bool.false_eq_true, if_false] at this
  exact this
theorem done_end (a b : List Dig) {N : Nat} (h4 : N ≤ 4) : sp_bDone [bisD (stK a b N N)] = some (.tup [.int .i64 (idxS a b N N), .agg (d2C (atL a (idxS a b N N) padL) (atL b (idxS a b N N) padL)), .bool true]) := by
  have := call_bDone (stK a b N N)
  have e : doneOk (stK a b N N) = true := by
    unfold doneOk
    rw [stK_valid a b (by omega) (by omega), stK_l, Int.sub_self]
    rfl
  have e2 : (stK a b N N).n0 = atL a (idxS a b N N) padL := by
    show nodeL a ((N : Int) - (N : Int)).toNat (idxS a b N N) = _
    rw [Int.sub_self]; rfl
  have e3 : (stK a b N N).n1 = atL b (idxS a b N N) padL := by
    show nodeL b ((N : Int) - (N : Int)).toNat (idxS a b N N) = _
    rw [Int.sub_self]; rfl
  simp only [doneI, doneA, doneB, e, if_true, e2, e3] at this
  exact this
theorem stK_zero (a b : List Dig) (h : Int) : stAt a b h h 0 = stK a b h 0 := by
  unfold stK; rw [show h - ((0 : Nat) : Int) = h by omega]; rfl
theorem load_bool (st : St) (b : Bool) : pload st 1 false (.eptr (.bool b) 0) = some (.bool b) := rfl

set_option maxHeartbeats 4000000 in
set_option maxRecDepth 20000 in
theorem lw_BisectFindsFirst (a : List Dig) (ha : a.length ≤ maxLen) (b : List Dig) (hb : b.length ≤ maxLen) (o : List Bool) (ho : o.length ≤ maxLen) : @wW GG (tb [(11, sp_bsane), (12, sp_few38), (14, sp_root), (13, sp_bBegin), (25, sp_rFirst), (17, sp_collides38), (22, sp_mDepth), (16, sp_bDone), (15, sp_round), (26, sp_rAt)] []) F_wagonpoollaw38_BisectFindsFirst.code (argF [.slc (nz 32 (a.map digD)) (a.map digD) false, .slc (nz 32 (b.map digD)) (b.map digD) false, .slc (nz 1 (o.map D.bool)) (o.map D.bool) false]) [] ⟨retQ F_wagonpoollaw38_BisectFindsFirst.res (.bool true)⟩ := by
  unfold F_wagonpoollaw38_BisectFindsFirst
  simp (disch := first | omega | decide) only [push_cast, ↓wF_free, ↓reduceIte, Nat.reduceEqDiff, Nat.reduceLT, Nat.reduceLeDiff, Nat.reduceAdd, Nat.reduceSub, Nat.reduceMul, Nat.reduceBEq, Int.reduceLT, Int.reduceLE, Int.reduceToNat, Int.reduceNeg, Int.reducePow, Int.reduceAdd, Int.reduceMul, Int.reduceSub, ↓Int.reduceNatCast', call_bsane, call_few38]
  refine ifD_split (fun h1 => ?_) (fun h1 => ?_)
  · obtain ⟨ha1, hb1⟩ := h1
    have hr := hgt_range a b ha1 hb1
    obtain ⟨g1, g2⟩ := begin_lists a b ha1 hb1
    have c1 := call_bBegin (rootL a) (rootL b)
    rw [g1, g2] at c1
    have c2 : sp_mDepth [.int .i64 (max (a.length : Int) (b.length : Int))] = some (.int .i64 (hgt a b)) := call_mDepth _
    have n380 : ¬ (380 : Int) = 0 := by decide
    have cf := call_rFirst a b ⟨by omega, by omega⟩
    have cc := call_collides38 a b ⟨ha1, hb1⟩
    by_cases he : nodeL a (hgt a b).toNat 0 = nodeL b (hgt a b).toNat 0
    · rw [if_pos he, if_pos he] at c1
      by_cases hf : firstL a b < 0
      · simp (disch := first | omega | decide) only [push_cast, ↓wF_free, ↓reduceIte, Nat.reduceEqDiff, Nat.reduceLT, Nat.reduceLeDiff, Nat.reduceAdd, Nat.reduceSub, Nat.reduceMul, Nat.reduceBEq, Int.reduceLT, Int.reduceLE, Int.reduceToNat, Int.reduceNeg, Int.reducePow, Int.reduceAdd, Int.reduceMul, Int.reduceSub, ↓Int.reduceNatCast', ha1, hb1, call_root, c1, cf, hf, n380, and_self]
      · have hcol : colB a b = true := by
          rcases firstL_spec a b with ⟨h, _⟩ | ⟨f0, f1, f2, f3⟩
          · omega
          · refine colB_of rfl (by omega) (n := (hgt a b).toNat) (Nat.le_refl _) (k := 0) (by omega) (by rw [Nat.sub_self]; decide) he ⟨firstL a b, f0, ?_, f2⟩
            have hl := depthL_le (n := max (a.length : Int) (b.length : Int)) (by omega) (by omega)
            have hl' : max (a.length : Int) (b.length : Int) ≤ 2 ^ (hgt a b).toNat := hl
            exact Int.ediv_eq_zero_of_lt f0 (by omega)
        rw [hcol] at cc
        simp (disch := first | omega | decide) only [push_cast, ↓wF_free, ↓reduceIte, Nat.reduceEqDiff, Nat.reduceLT, Nat.reduceLeDiff, Nat.reduceAdd, Nat.reduceSub, Nat.reduceMul, Nat.reduceBEq, Int.reduceLT, Int.reduceLE, Int.reduceToNat, Int.reduceNeg, Int.reducePow, Int.reduceAdd, Int.reduceMul, Int.reduceSub, ↓Int.reduceNatCast', ha1, hb1, call_root, c1, cf, hf, cc, n380, and_self]
    · rw [if_neg he, if_neg he] at c1
      obtain ⟨N, hN⟩ : ∃ N : Nat, hgt a b = (N : Int) := ⟨(hgt a b).toNat, by omega⟩
      have hN2 : (hgt a b).toNat = N := by omega
      rw [hN2] at he
      obtain ⟨z1, z2, z3, z4⟩ := end_k hN2 (by omega) he
      rw [stK_zero] at c1
      rw [hN] at c1 c2
      have ce := done_end a b (N := N) (by omega)
      have ca := call_rAt a (idxS a b N N) z1
      have cb := call_rAt b (idxS a b N N) z1
      simp (disch := first | omega | decide) only [push_cast, ↓wF_free, ↓reduceIte, Nat.reduceEqDiff, Nat.reduceLT, Nat.reduceLeDiff, Nat.reduceAdd, Nat.reduceSub, Nat.reduceMul, Nat.reduceBEq, Int.reduceLT, Int.reduceLE, Int.reduceToNat, Int.reduceNeg, Int.reducePow, Int.reduceAdd, Int.reduceMul, Int.reduceSub, ↓Int.reduceNatCast', ha1, hb1, call_root, c1, c2, cf, and_self]
      refine W_while (fun k : Nat => [(0, .slc (nz 32 (a.map digD)) (a.map digD) false), (1, .slc (nz 32 (b.map digD)) (b.map digD) false), (2, .slc (nz 1 (o.map D.bool)) (o.map D.bool) false), (7, .ptr 0 0), (9, .int .i64 (firstL a b)), (10, .int .i64 (N : Int)), (11, .int .i64 (k : Int))]) (fun k => [⟨false, 1, bisC (stK a b N k), false⟩]) (fun k => k ≤ N) (fun k => N - k) 0 (by simp only [push_cast, ↓wF_free, ↓reduceIte, Nat.reduceEqDiff, Nat.reduceLT, Nat.reduceLeDiff, Nat.reduceAdd, Nat.reduceSub, Nat.reduceMul, Nat.reduceBEq, Int.reduceLT, Int.reduceLE, Int.reduceToNat, Int.reduceNeg, Int.reducePow, Int.reduceAdd, Int.reduceMul, Int.reduceSub, ↓Int.reduceNatCast'] <;> rfl) (by omega) ?_
      intro k hk
      unfold F_wagonpoollaw38_BisectFindsFirst_L0
      by_cases hlt : (k : Int) < (N : Int)
      · obtain ⟨r1, r2⟩ := round_k a b (by omega) (by omega) (p := 0) (k := k) (.inl rfl) hlt (by omega)
        obtain ⟨r3, r4⟩ := round_k a b (by omega) (by omega) (p := 1) (k := k) (.inr rfl) hlt (by omega)
        have c5 := call_round (stK a b N k) a b 0 (.inl rfl)
        have c6 := call_round (stK a b N k) a b 1 (.inr rfl)
        rw [r1, r2] at c5
        rw [r3, r4] at c6
        have cd := done_early a b hlt
        have er : (stK a b N (k + 1)).r = (k : Int) + 1 := by rw [stK_r]; omega
        have a2 : ∀ x : Int, decide (x = x) = true := fun _ => by simp
        have hnx : k + 1 ≤ N := by omega
        by_cases hko : (k : Int) < (o.length : Int)
        · cases hb : o.getD k default with
          | false =>
            simp (disch := first | omega | decide) only [push_cast, ↓wF_free, ↓reduceIte, Nat.reduceEqDiff, Nat.reduceLT, Nat.reduceLeDiff, Nat.reduceAdd, Nat.reduceSub, Nat.reduceMul, Nat.reduceBEq, Int.reduceLT, Int.reduceLE, Int.reduceToNat, Int.reduceNeg, Int.reducePow, Int.reduceAdd, Int.reduceMul, Int.reduceSub, ↓Int.reduceNatCast', hlt, hko, idxS_nz, hb, load_bool, c5, cd, er, a2, add_i]
            refine next_head (k + 1) hnx (by omega) ?_
            simp only [push_cast, ↓wF_free, ↓reduceIte, Nat.reduceEqDiff, Nat.reduceLT, Nat.reduceLeDiff, Nat.reduceAdd, Nat.reduceSub, Nat.reduceMul, Nat.reduceBEq, Int.reduceLT, Int.reduceLE, Int.reduceToNat, Int.reduceNeg, Int.reducePow, Int.reduceAdd, Int.reduceMul, Int.reduceSub, ↓Int.reduceNatCast'] <;> rfl
          | true =>
            simp (disch := first | omega | decide) only [push_cast, ↓wF_free, ↓reduceIte, Nat.reduceEqDiff, Nat.reduceLT, Nat.reduceLeDiff, Nat.reduceAdd, Nat.reduceSub, Nat.reduceMul, Nat.reduceBEq, Int.reduceLT, Int.reduceLE, Int.reduceToNat, Int.reduceNeg, Int.reducePow, Int.reduceAdd, Int.reduceMul, Int.reduceSub, ↓Int.reduceNatCast', hlt, hko, idxS_nz, hb, load_bool, c6, cd, er, a2, add_i]
            refine next_head (k + 1) hnx (by omega) ?_
            simp only [push_cast, ↓wF_free, ↓reduceIte, Nat.reduceEqDiff, Nat.reduceLT, Nat.reduceLeDiff, Nat.reduceAdd, Nat.reduceSub, Nat.reduceMul, Nat.reduceBEq, Int.reduceLT, Int.reduceLE, Int.reduceToNat, Int.reduceNeg, Int.reducePow, Int.reduceAdd, Int.reduceMul, Int.reduceSub, ↓Int.reduceNatCast'] <;> rfl
        · simp (disch := first | omega | decide) only [push_cast, ↓wF_free, ↓reduceIte, Nat.reduceEqDiff, Nat.reduceLT, Nat.reduceLeDiff, Nat.reduceAdd, Nat.reduceSub, Nat.reduceMul, Nat.reduceBEq, Int.reduceLT, Int.reduceLE, Int.reduceToNat, Int.reduceNeg, Int.reducePow, Int.reduceAdd, Int.reduceMul, Int.reduceSub, ↓Int.reduceNatCast', hlt, hko, c5, cd, er, a2, add_i]
          refine next_head (k + 1) hnx (by omega) ?_
          simp only [push_cast, ↓wF_free, ↓reduceIte, Nat.reduceEqDiff, Nat.reduceLT, Nat.reduceLeDiff, Nat.reduceAdd, Nat.reduceSub, Nat.reduceMul, Nat.reduceBEq, Int.reduceLT, Int.reduceLE, Int.reduceToNat, Int.reduceNeg, Int.reducePow, Int.reduceAdd, Int.reduceMul, Int.reduceSub, ↓Int.reduceNatCast'] <;> rfl
      · obtain rfl : k = N := by omega
        have q0 : ¬ firstL a b < 0 := by omega
        have a3 : ∀ x y : Dig, decide (x = x ∧ y = y) = true := fun _ _ => by simp
        by_cases hcol : colB a b = true
        · rw [hcol] at cc
          by_cases hff : idxS a b k k = firstL a b
          · have a2 : decide (idxS a b k k = firstL a b) = true := decide_eq_true hff
            simp (disch := first | omega | decide) only [push_cast, ↓wF_free, ↓reduceIte, Nat.reduceEqDiff, Nat.reduceLT, Nat.reduceLeDiff, Nat.reduceAdd, Nat.reduceSub, Nat.reduceMul, Nat.reduceBEq, Int.reduceLT, Int.reduceLE, Int.reduceToNat, Int.reduceNeg, Int.reducePow, Int.reduceAdd, Int.reduceMul, Int.reduceSub, ↓Int.reduceNatCast', hlt, ce, ca, cb, cc, q0, a2, a3]
          · have a2 : decide (idxS a b k k = firstL a b) = false := decide_eq_false hff
            simp (disch := first | omega | decide) only [push_cast, ↓wF_free, ↓reduceIte, Nat.reduceEqDiff, Nat.reduceLT, Nat.reduceLeDiff, Nat.reduceAdd, Nat.reduceSub, Nat.reduceMul, Nat.reduceBEq, Int.reduceLT, Int.reduceLE, Int.reduceToNat, Int.reduceNeg, Int.reducePow, Int.reduceAdd, Int.reduceMul, Int.reduceSub, ↓Int.reduceNatCast', hlt, ce, ca, cb, cc, q0, a2, a3]
        · rcases z4 with z4 | ⟨z4, _⟩
          · exact absurd z4 hcol
          have a2 : decide (idxS a b k k = firstL a b) = true := decide_eq_true z4
          simp (disch := first | omega | decide) only [push_cast, ↓wF_free, ↓reduceIte, Nat.reduceEqDiff, Nat.reduceLT, Nat.reduceLeDiff, Nat.reduceAdd, Nat.reduceSub, Nat.reduceMul, Nat.reduceBEq, Int.reduceLT, Int.reduceLE, Int.reduceToNat, Int.reduceNeg, Int.reducePow, Int.reduceAdd, Int.reduceMul, Int.reduceSub, ↓Int.reduceNatCast', hlt, ce, ca, cb, q0, a2, a3]
  · simp (disch := first | omega | decide) only [push_cast, ↓wF_free, ↓reduceIte, Nat.reduceEqDiff, Nat.reduceLT, Nat.reduceLeDiff, Nat.reduceAdd, Nat.reduceSub, Nat.reduceMul, Nat.reduceBEq, Int.reduceLT, Int.reduceLE, Int.reduceToNat, Int.reduceNeg, Int.reducePow, Int.reduceAdd, Int.reduceMul, Int.reduceSub, ↓Int.reduceNatCast', h1]
theorem law_BisectFindsFirst : Contract Tryd.prog GG 6 (lawSp [.slc tDig, .slc tDig, .slc .bool]) := by
  refine lawC tr_wagonpoollaw38_BisectFindsFirst (T := tb [(11, sp_bsane), (12, sp_few38), (14, sp_root), (13, sp_bBegin), (25, sp_rFirst), (17, sp_collides38), (22, sp_mDepth), (16, sp_bDone), (15, sp_round), (26, sp_rAt)] []) (tb_ok (all_cons c_bsane (all_cons c_few38 (all_cons c_root (all_cons c_bBegin (all_cons c_rFirst (all_cons c_collides38 (all_cons c_mDepth (all_cons c_bDone (all_cons c_round (all_cons c_rAt all_nil)))))))))) all_nil) ?_
  intro xs h
  obtain ⟨x0, xs, rfl, h0, h⟩ := hasAll_cons h
  obtain ⟨x1, xs, rfl, h1, h⟩ := hasAll_cons h
  obtain ⟨x2, xs, rfl, h2, h⟩ := hasAll_cons h
  obtain rfl := hasAll_nil h
  obtain ⟨y0, rfl, ya0⟩ := has_digs h0
  obtain ⟨y1, rfl, ya1⟩ := has_digs h1
  obtain ⟨y2, rfl, ya2⟩ := has_bools h2
  exact lw_BisectFindsFirst y0 ya0 y1 ya1 y2 ya2

/-- two commitments -/
def c2C (m n : Int × Dig) : List D := (.int .i64 m.1 :: digC m.2) ++ (.int .i64 n.1 :: digC n.2)
theorem zC2 : [D.int .i64 0, D.int .u8 0, D.int .u8 0, D.int .u8 0, D.int .u8 0, D.int .u8 0, D.int .u8 0, D.int .u8 0, D.int .u8 0, D.int .u8 0, D.int .u8 0, D.int .u8 0, D.int .u8 0, D.int .u8 0, D.int .u8 0, D.int .u8 0, D.int .u8 0, D.int .u8 0, D.int .u8 0, D.int .u8 0, D.int .u8 0, D.int .u8 0, D.int .u8 0, D.int .u8 0, D.int .u8 0, D.int .u8 0, D.int .u8 0, D.int .u8 0, D.int .u8 0, D.int .u8 0, D.int .u8 0, D.int .u8 0, D.int .u8 0, D.int .i64 0, D.int .u8 0, D.int .u8 0, D.int .u8 0, D.int .u8 0, D.int .u8 0, D.int .u8 0, D.int .u8 0, D.int .u8 0, D.int .u8 0, D.int .u8 0, D.int .u8 0, D.int .u8 0, D.int .u8 0, D.int .u8 0, D.int .u8 0, D.int .u8 0, D.int .u8 0, D.int .u8 0, D.int .u8 0, D.int .u8 0, D.int .u8 0, D.int .u8 0, D.int .u8 0, D.int .u8 0, D.int .u8 0, D.int .u8 0, D.int .u8 0, D.int .u8 0, D.int .u8 0, D.int .u8 0, D.int .u8 0, D.int .u8 0] = c2C (0, zeroDig) (0, zeroDig) := rfl
theorem c1C_length (k : IntKind) (n : Int) (d : Dig) : (D.int k n :: digC d).length = 33 := by simp [digC_length]
theorem c1C_cell (k : IntKind) (n : Int) (d : Dig) : (D.int k n :: digC d).all D.isCell = true := by simp [digC_cells, D.isCell]
theorem c2C_length (m n : Int × Dig) : (c2C m n).length = 66 := by simp [c2C, digC_length]
theorem c2C_cell (m n : Int × Dig) : (c2C m n).all D.isCell = true := by simp [c2C, digC_cells, D.isCell]
theorem fic_0 (m n : Int × Dig) (v : Int) (d : Dig) (r : List (Nat × Nat × D)) : fillD (c2C m n) ((0, 33, .agg (.int .i64 v :: digC d)) :: r) = fillD (c2C (v, d) n) r := fill_mid (A := []) (B := .int .i64 m.1 :: digC m.2) (xs := .int .i64 v :: digC d) rfl rfl rfl (c1C_length _ _ _) rfl (c1C_length _ _ _) (c1C_cell _ _ _)
theorem fic_1 (m n : Int × Dig) (v : Int) (d : Dig) (r : List (Nat × Nat × D)) : fillD (c2C m n) ((33, 33, .agg (.int .i64 v :: digC d)) :: r) = fillD (c2C m (v, d)) r := fill_mid (A := .int .i64 m.1 :: digC m.2) (B := .int .i64 n.1 :: digC n.2) (C := []) (xs := .int .i64 v :: digC d) (by simp [c2C]) (by simp [c2C]) (c1C_length _ _ _) (c1C_length _ _ _) rfl (c1C_length _ _ _) (c1C_cell _ _ _)
theorem boxc (m n : Int × Dig) : boxD (.agg (c2C m n)) = some (c2C m n) := by simp only [boxD, D.cells, c2C_cell, if_true]
theorem stc (sz : Nat) (m n p q : Int × Dig) : stO (some ⟨false, sz, c2C m n, false⟩) 66 0 (.agg (c2C p q)) = some ⟨false, sz, c2C p q, false⟩ := stO_all sz _ _ 66 (c2C_length _ _) (c2C_length _ _) (c2C_cell _ _)
theorem ldc_0 (sz : Nat) (lent : Bool) (m n : Int × Dig) : ldO (some ⟨false, sz, c2C m n, lent⟩) 33 true 0 = some (.agg (.int .i64 m.1 :: digC m.2)) := ldO_mid (A := []) (B := .int .i64 m.1 :: digC m.2) rfl rfl (c1C_length _ _ _)
theorem ldc_1 (sz : Nat) (lent : Bool) (m n : Int × Dig) : ldO (some ⟨false, sz, c2C m n, lent⟩) 33 true 33 = some (.agg (.int .i64 n.1 :: digC n.2)) := ldO_mid (A := .int .i64 m.1 :: digC m.2) (B := .int .i64 n.1 :: digC n.2) (C := []) (by simp [c2C]) (c1C_length _ _ _) (c1C_length _ _ _)
theorem load_edig (st : St) (d : Dig) : pload st 32 true (.eptr (digD d) 0) = some (digD d) := by
  simp [pload, digD_cells, digC_length, take_dig, mk_dig]

theorem c2C_solid (m n : Int × Dig) : (c2C m n).all solid1 = true := by simp [c2C, digC_solid, solid1]
theorem renC_c2 (n : Nat) (σ : List Nat) (x y : Int × Dig) : (c2C x y).map (ren1 n σ) = c2C x y := renL_solid n σ (c2C_solid x y)
theorem hkC_c2 (x y : Int × Dig) : (c2C x y).flatMap hk1 = [] := hkL_solid (c2C_solid x y)

set_option maxHeartbeats 4000000 in
set_option maxRecDepth 20000 in
theorem lw_BisectHonestParty (a : List Dig) (ha : a.length ≤ maxLen) (b : List Dig) (hb : b.length ≤ maxLen) (p : Int) (hp1 : -9223372036854775808 ≤ p) (hp2 : p < 9223372036854775808) (o : List Dig) (ho : o.length ≤ maxLen) : @wW GG (tb [(11, sp_bsane), (12, sp_few38), (14, sp_root), (13, sp_bBegin), (23, sp_mNode), (27, sp_mParent), (28, sp_bDisc), (20, sp_bAns), (16, sp_bDone), (26, sp_rAt)] []) F_wagonpoollaw38_BisectHonestParty.code (argF [.slc (nz 32 (a.map digD)) (a.map digD) false, .slc (nz 32 (b.map digD)) (b.map digD) false, .int .i64 p, .slc (nz 32 (o.map digD)) (o.map digD) false]) [] ⟨retQ F_wagonpoollaw38_BisectHonestParty.res (.bool true)⟩ := by
  unfold F_wagonpoollaw38_BisectHonestParty
  rw [zC2]
  simp (disch := first | omega | decide) only [push_cast, ↓wF_free, ↓reduceIte, Nat.reduceEqDiff, Nat.reduceLT, Nat.reduceLeDiff, Nat.reduceAdd, Nat.reduceSub, Nat.reduceMul, Nat.reduceBEq, Int.reduceLT, Int.reduceLE, Int.reduceToNat, Int.reduceNeg, Int.reducePow, Int.reduceAdd, Int.reduceMul, Int.reduceSub, ↓Int.reduceNatCast', call_bsane, call_few38]
  refine ifD_split (fun h1 => ?_) (fun h1 => ?_)
  · obtain ⟨ha1, hb1⟩ := h1
    by_cases hp1 : p < 0
    · simp (disch := first | omega | decide) only [push_cast, ↓wF_free, ↓reduceIte, Nat.reduceEqDiff, Nat.reduceLT, Nat.reduceLeDiff, Nat.reduceAdd, Nat.reduceSub, Nat.reduceMul, Nat.reduceBEq, Int.reduceLT, Int.reduceLE, Int.reduceToNat, Int.reduceNeg, Int.reducePow, Int.reduceAdd, Int.reduceMul, Int.reduceSub, ↓Int.reduceNatCast', ha1, hb1, hp1, and_self]
    by_cases hp2 : 1 < p
    · simp (disch := first | omega | decide) only [push_cast, ↓wF_free, ↓reduceIte, Nat.reduceEqDiff, Nat.reduceLT, Nat.reduceLeDiff, Nat.reduceAdd, Nat.reduceSub, Nat.reduceMul, Nat.reduceBEq, Int.reduceLT, Int.reduceLE, Int.reduceToNat, Int.reduceNeg, Int.reducePow, Int.reduceAdd, Int.reduceMul, Int.reduceSub, ↓Int.reduceNatCast', ha1, hb1, hp1, hp2, and_self]
    have tn : ∀ (d : Dig) (q : Bool), (D.tup [digD d, .bool q]).noRef = true := fun d q => by simp [D.noRef, digD, noRef_digA, D.noRef1]
    have n380 : ¬ (380 : Int) = 0 := by decide
    have a2 : ∀ x : Int, decide (x = x) = true := fun _ => by simp
    have a3 : ∀ x : Dig, decide (x = x) = true := fun _ => by simp
    have q1 : ¬ (1 : Int) = 0 := by decide
    have hp : p = 0 ∨ p = 1 := by omega
    rcases hp with rfl | rfl
    · obtain ⟨g1, g2⟩ := begin_lists a b ha1 hb1
      have hr := hgt_range a b ha1 hb1
      have c1 := call_bBegin (rootL a) (rootL b)
      rw [g1, g2] at c1
      by_cases he : nodeL a (hgt a b).toNat 0 = nodeL b (hgt a b).toNat 0
      · rw [if_pos he, if_pos he] at c1
        simp (disch := first | omega | decide) only [push_cast, ↓wF_free, ↓reduceIte, Nat.reduceEqDiff, Nat.reduceLT, Nat.reduceLeDiff, Nat.reduceAdd, Nat.reduceSub, Nat.reduceMul, Nat.reduceBEq, Int.reduceLT, Int.reduceLE, Int.reduceToNat, Int.reduceNeg, Int.reducePow, Int.reduceAdd, Int.reduceMul, Int.reduceSub, ↓Int.reduceNatCast', ha1, hb1, call_root, fic_0, fic_1, fill_nil, boxc, stc, ldc_0, ldc_1, renC_c2, hkC_c2, idxA_pp, sub_i, c1, n380, and_self]
      · rw [if_neg he, if_neg he] at c1
        obtain ⟨N, hN⟩ : ∃ N : Nat, hgt a b = (N : Int) := ⟨(hgt a b).toNat, by omega⟩
        rw [stK_zero] at c1
        rw [hN] at c1
        have ce := done_end a b (N := N) (by omega)
        have hrN := idxS_range a b N N (by omega)
        have ca := call_rAt a (idxS a b N N) hrN.1
        simp (disch := first | omega | decide) only [push_cast, ↓wF_free, ↓reduceIte, Nat.reduceEqDiff, Nat.reduceLT, Nat.reduceLeDiff, Nat.reduceAdd, Nat.reduceSub, Nat.reduceMul, Nat.reduceBEq, Int.reduceLT, Int.reduceLE, Int.reduceToNat, Int.reduceNeg, Int.reducePow, Int.reduceAdd, Int.reduceMul, Int.reduceSub, ↓Int.reduceNatCast', ha1, hb1, call_root, fic_0, fic_1, fill_nil, boxc, stc, ldc_0, ldc_1, renC_c2, hkC_c2, idxA_pp, sub_i, c1, and_self]
        refine W_while (fun k : Nat => [(0, .slc (nz 32 (a.map digD)) (a.map digD) false), (1, .slc (nz 32 (b.map digD)) (b.map digD) false), (2, .int .i64 0), (3, .slc (nz 32 (o.map digD)) (o.map digD) false), (10, .ptr 1 0), (12, .int .i64 (k : Int))]) (fun k => [⟨false, 1, c2C (rootL a) (rootL b), false⟩, ⟨false, 1, bisC (stK a b N k), false⟩]) (fun k => k ≤ N) (fun k => N - k) 0 (by simp only [push_cast, ↓wF_free, ↓reduceIte, Nat.reduceEqDiff, Nat.reduceLT, Nat.reduceLeDiff, Nat.reduceAdd, Nat.reduceSub, Nat.reduceMul, Nat.reduceBEq, Int.reduceLT, Int.reduceLE, Int.reduceToNat, Int.reduceNeg, Int.reducePow, Int.reduceAdd, Int.reduceMul, Int.reduceSub, ↓Int.reduceNatCast', renC_c2, hkC_c2] <;> rfl) (by omega) ?_
        intro k hk
        have hr2 := idxS_range a b N k (by omega)
        unfold F_wagonpoollaw38_BisectHonestParty_L0
        by_cases hlt : (k : Int) < (N : Int)
        · have q5 : (k : Int) < 5 := by omega
          have ql : 0 < (N : Int) - (k : Int) := by omega
          obtain ⟨⟨t1, t2⟩, t3, t4⟩ := two_disc a b (h := N) (lv := (N : Int) - k) (i := idxS a b N k) (p := 0) (.inl rfl) (by omega) (by omega) (by omega) hr2.1 hr2.2
          obtain ⟨x1, x2, x3⟩ := ans_st a b a (h := N) (lv := (N : Int) - k) (i := idxS a b N k) (by omega) (by omega) (by omega) (by omega) hr2.1 hr2.2
          obtain ⟨y1, y2, y3⟩ := ans_st a b b (h := N) (lv := (N : Int) - k) (i := idxS a b N k) (by omega) (by omega) (by omega) (by omega) hr2.1 hr2.2
          simp only [if_true] at t1 t2 t3 t4
          have d1 := call_bAns a (stK a b N k)
          have d2 := call_bAns b (stK a b N k)
          rw [show stK a b N k = stAt a b N ((N : Int) - k) (idxS a b N k) from rfl] at d1 d2
          rw [x1, x2, x3] at d1
          rw [y1, y2, y3] at d2
          have d3 := call_bDisc (stAt a b N ((N : Int) - k) (idxS a b N k)) 0 (nodeL a ((N : Int) - k - 1).toNat (2 * idxS a b N k)) (nodeL a ((N : Int) - k - 1).toNat (2 * idxS a b N k + 1)) (by decide)
          rw [t1, t2] at d3
          have d4 := call_bDisc (setB (stAt a b N ((N : Int) - k) (idxS a b N k)) 0 (nodeL a ((N : Int) - k - 1).toNat (2 * idxS a b N k)) (nodeL a ((N : Int) - k - 1).toNat (2 * idxS a b N k + 1))) (1 - 0) (nodeL b ((N : Int) - k - 1).toNat (2 * idxS a b N k)) (nodeL b ((N : Int) - k - 1).toNat (2 * idxS a b N k + 1)) (by decide)
          rw [t3, t4, stK_succ, show (1 : Int) - 0 = 1 from rfl] at d4
          have nn := nodeR_in a ((N : Int) - k) (idxS a b N k) (by omega) (by omega) (by omega) hr2.1 (by
            have := pow_mono (a := ((N : Int) - ((N : Int) - k)).toNat) (b := (16 - ((N : Int) - k)).toNat) (by omega)
            omega)
          have hv := stK_valid a b (h := N) (k := k) (by omega) (by omega)
          have b1 : (stK a b N k).n0 = nodeL a ((N : Int) - k).toNat (idxS a b N k) := rfl
          have b2 : (stK a b N k).n1 = nodeL b ((N : Int) - k).toNat (idxS a b N k) := rfl
          have b3 : (stK a b N k).i = idxS a b N k := rfl
          have b5 : decide ((N : Int) - ((k : Int) + 1) = (N : Int) - k - 1) = true := decide_eq_true (by omega)
          rw [show stAt a b N ((N : Int) - k) (idxS a b N k) = stK a b N k from rfl] at d1 d2 d3 d4
          by_cases hw : (k : Int) + 1 < (o.length : Int)
          · by_cases hpar : parentL (o.getD k default) (o.getD (k + 1) default) = (stK a b N k).n1
            · have hpar2 := hpar
              rw [b2] at hpar2
              have ti : ((k : Int) + 1).toNat = k + 1 := by omega
              simp (disch := first | omega | decide) only [push_cast, ↓wF_free, ↓reduceIte, Nat.reduceEqDiff, Nat.reduceLT, Nat.reduceLeDiff, Nat.reduceAdd, Nat.reduceSub, Nat.reduceMul, Nat.reduceBEq, Int.reduceLT, Int.reduceLE, Int.reduceToNat, Int.reduceNeg, Int.reducePow, Int.reduceAdd, Int.reduceMul, Int.reduceSub, ↓Int.reduceNatCast', q5, ql, stK_l, b1, b2, b3, b5, call_mNode, nn, tn, idxA_pp, a2, a3, hw, idxS_nz, load_edig, call_mParent, ti, hpar2, d1, d2, d3, d4, sub_i, add_i]
              refine next_head (k + 1) (by omega) (by omega) ?_
              simp only [push_cast, ↓wF_free, ↓reduceIte, Nat.reduceEqDiff, Nat.reduceLT, Nat.reduceLeDiff, Nat.reduceAdd, Nat.reduceSub, Nat.reduceMul, Nat.reduceBEq, Int.reduceLT, Int.reduceLE, Int.reduceToNat, Int.reduceNeg, Int.reducePow, Int.reduceAdd, Int.reduceMul, Int.reduceSub, ↓Int.reduceNatCast', renC_c2, hkC_c2] <;> rfl
            · have hw2 := disc_wrong (x := stK a b N k) (p := 1) (l := o.getD k default) (r := o.getD (k + 1) default) hv (.inr rfl) (by rw [stK_l]; omega) rfl hpar
              have d6 := call_bDisc (stK a b N k) 1 (o.getD k default) (o.getD (k + 1) default) (by decide)
              rw [hw2] at d6
              have hpar2 := hpar
              rw [b2] at hpar2
              have ti : ((k : Int) + 1).toNat = k + 1 := by omega
              simp (disch := first | omega | decide) only [push_cast, ↓wF_free, ↓reduceIte, Nat.reduceEqDiff, Nat.reduceLT, Nat.reduceLeDiff, Nat.reduceAdd, Nat.reduceSub, Nat.reduceMul, Nat.reduceBEq, Int.reduceLT, Int.reduceLE, Int.reduceToNat, Int.reduceNeg, Int.reducePow, Int.reduceAdd, Int.reduceMul, Int.reduceSub, ↓Int.reduceNatCast', q5, ql, stK_l, b1, b2, b3, b5, call_mNode, nn, tn, idxA_pp, a2, a3, hw, idxS_nz, load_edig, call_mParent, ti, hpar2, d1, d2, d3, d4, d6, sub_i, add_i]
              refine next_head (k + 1) (by omega) (by omega) ?_
              simp only [push_cast, ↓wF_free, ↓reduceIte, Nat.reduceEqDiff, Nat.reduceLT, Nat.reduceLeDiff, Nat.reduceAdd, Nat.reduceSub, Nat.reduceMul, Nat.reduceBEq, Int.reduceLT, Int.reduceLE, Int.reduceToNat, Int.reduceNeg, Int.reducePow, Int.reduceAdd, Int.reduceMul, Int.reduceSub, ↓Int.reduceNatCast', renC_c2, hkC_c2] <;> rfl
          · simp (disch := first | omega | decide) only [push_cast, ↓wF_free, ↓reduceIte, Nat.reduceEqDiff, Nat.reduceLT, Nat.reduceLeDiff, Nat.reduceAdd, Nat.reduceSub, Nat.reduceMul, Nat.reduceBEq, Int.reduceLT, Int.reduceLE, Int.reduceToNat, Int.reduceNeg, Int.reducePow, Int.reduceAdd, Int.reduceMul, Int.reduceSub, ↓Int.reduceNatCast', q5, ql, stK_l, b1, b2, b3, b5, call_mNode, nn, tn, idxA_pp, a2, a3, hw, d1, d2, d3, d4, sub_i, add_i]
            refine next_head (k + 1) (by omega) (by omega) ?_
            simp only [push_cast, ↓wF_free, ↓reduceIte, Nat.reduceEqDiff, Nat.reduceLT, Nat.reduceLeDiff, Nat.reduceAdd, Nat.reduceSub, Nat.reduceMul, Nat.reduceBEq, Int.reduceLT, Int.reduceLE, Int.reduceToNat, Int.reduceNeg, Int.reducePow, Int.reduceAdd, Int.reduceMul, Int.reduceSub, ↓Int.reduceNatCast', renC_c2, hkC_c2] <;> rfl
        · obtain rfl : k = N := by omega
          have q5 : (k : Int) < 5 := by omega
          have ql : ¬ 0 < (k : Int) - (k : Int) := by omega
          have z0 : 0 ≤ idxS a b k k := hrN.1
          simp (disch := first | omega | decide) only [push_cast, ↓wF_free, ↓reduceIte, Nat.reduceEqDiff, Nat.reduceLT, Nat.reduceLeDiff, Nat.reduceAdd, Nat.reduceSub, Nat.reduceMul, Nat.reduceBEq, Int.reduceLT, Int.reduceLE, Int.reduceToNat, Int.reduceNeg, Int.reducePow, Int.reduceAdd, Int.reduceMul, Int.reduceSub, ↓Int.reduceNatCast', q5, ql, stK_l, ce, ca, z0, idxA_pp, a3]
    · obtain ⟨g1, g2⟩ := begin_lists b a hb1 ha1
      have hr := hgt_range b a hb1 ha1
      have c1 := call_bBegin (rootL b) (rootL a)
      rw [g1, g2] at c1
      by_cases he : nodeL b (hgt b a).toNat 0 = nodeL a (hgt b a).toNat 0
      · rw [if_pos he, if_pos he] at c1
        simp (disch := first | omega | decide) only [push_cast, ↓wF_free, ↓reduceIte, Nat.reduceEqDiff, Nat.reduceLT, Nat.reduceLeDiff, Nat.reduceAdd, Nat.reduceSub, Nat.reduceMul, Nat.reduceBEq, Int.reduceLT, Int.reduceLE, Int.reduceToNat, Int.reduceNeg, Int.reducePow, Int.reduceAdd, Int.reduceMul, Int.reduceSub, ↓Int.reduceNatCast', ha1, hb1, call_root, fic_0, fic_1, fill_nil, boxc, stc, ldc_0, ldc_1, renC_c2, hkC_c2, idxA_pp, sub_i, c1, n380, and_self]
      · rw [if_neg he, if_neg he] at c1
        obtain ⟨N, hN⟩ : ∃ N : Nat, hgt b a = (N : Int) := ⟨(hgt b a).toNat, by omega⟩
        rw [stK_zero] at c1
        rw [hN] at c1
        have ce := done_end b a (N := N) (by omega)
        have hrN := idxS_range b a N N (by omega)
        have ca := call_rAt a (idxS b a N N) hrN.1
        simp (disch := first | omega | decide) only [push_cast, ↓wF_free, ↓reduceIte, Nat.reduceEqDiff, Nat.reduceLT, Nat.reduceLeDiff, Nat.reduceAdd, Nat.reduceSub, Nat.reduceMul, Nat.reduceBEq, Int.reduceLT, Int.reduceLE, Int.reduceToNat, Int.reduceNeg, Int.reducePow, Int.reduceAdd, Int.reduceMul, Int.reduceSub, ↓Int.reduceNatCast', ha1, hb1, call_root, fic_0, fic_1, fill_nil, boxc, stc, ldc_0, ldc_1, renC_c2, hkC_c2, idxA_pp, sub_i, c1, and_self]
        refine W_while (fun k : Nat => [(0, .slc (nz 32 (a.map digD)) (a.map digD) false), (1, .slc (nz 32 (b.map digD)) (b.map digD) false), (2, .int .i64 1), (3, .slc (nz 32 (o.map digD)) (o.map digD) false), (10, .ptr 1 0), (12, .int .i64 (k : Int))]) (fun k => [⟨false, 1, c2C (rootL a) (rootL b), false⟩, ⟨false, 1, bisC (stK b a N k), false⟩]) (fun k => k ≤ N) (fun k => N - k) 0 (by simp only [push_cast, ↓wF_free, ↓reduceIte, Nat.reduceEqDiff, Nat.reduceLT, Nat.reduceLeDiff, Nat.reduceAdd, Nat.reduceSub, Nat.reduceMul, Nat.reduceBEq, Int.reduceLT, Int.reduceLE, Int.reduceToNat, Int.reduceNeg, Int.reducePow, Int.reduceAdd, Int.reduceMul, Int.reduceSub, ↓Int.reduceNatCast', renC_c2, hkC_c2] <;> rfl) (by omega) ?_
        intro k hk
        have hr2 := idxS_range b a N k (by omega)
        unfold F_wagonpoollaw38_BisectHonestParty_L0
        by_cases hlt : (k : Int) < (N : Int)
        · have q5 : (k : Int) < 5 := by omega
          have ql : 0 < (N : Int) - (k : Int) := by omega
          obtain ⟨⟨t1, t2⟩, t3, t4⟩ := two_disc b a (h := N) (lv := (N : Int) - k) (i := idxS b a N k) (p := 1) (.inr rfl) (by omega) (by omega) (by omega) hr2.1 hr2.2
          obtain ⟨x1, x2, x3⟩ := ans_st b a a (h := N) (lv := (N : Int) - k) (i := idxS b a N k) (by omega) (by omega) (by omega) (by omega) hr2.1 hr2.2
          obtain ⟨y1, y2, y3⟩ := ans_st b a b (h := N) (lv := (N : Int) - k) (i := idxS b a N k) (by omega) (by omega) (by omega) (by omega) hr2.1 hr2.2
          simp only [if_neg q1] at t1 t2 t3 t4
          have d1 := call_bAns a (stK b a N k)
          have d2 := call_bAns b (stK b a N k)
          rw [show stK b a N k = stAt b a N ((N : Int) - k) (idxS b a N k) from rfl] at d1 d2
          rw [x1, x2, x3] at d1
          rw [y1, y2, y3] at d2
          have d3 := call_bDisc (stAt b a N ((N : Int) - k) (idxS b a N k)) 1 (nodeL a ((N : Int) - k - 1).toNat (2 * idxS b a N k)) (nodeL a ((N : Int) - k - 1).toNat (2 * idxS b a N k + 1)) (by decide)
          rw [t1, t2] at d3
          have d4 := call_bDisc (setB (stAt b a N ((N : Int) - k) (idxS b a N k)) 1 (nodeL a ((N : Int) - k - 1).toNat (2 * idxS b a N k)) (nodeL a ((N : Int) - k - 1).toNat (2 * idxS b a N k + 1))) (1 - 1) (nodeL b ((N : Int) - k - 1).toNat (2 * idxS b a N k)) (nodeL b ((N : Int) - k - 1).toNat (2 * idxS b a N k + 1)) (by decide)
          rw [t3, t4, stK_succ, show (1 : Int) - 1 = 0 from rfl] at d4
          have nn := nodeR_in a ((N : Int) - k) (idxS b a N k) (by omega) (by omega) (by omega) hr2.1 (by
            have := pow_mono (a := ((N : Int) - ((N : Int) - k)).toNat) (b := (16 - ((N : Int) - k)).toNat) (by omega)
            omega)
          have hv := stK_valid b a (h := N) (k := k) (by omega) (by omega)
          have b1 : (stK b a N k).n1 = nodeL a ((N : Int) - k).toNat (idxS b a N k) := rfl
          have b2 : (stK b a N k).n0 = nodeL b ((N : Int) - k).toNat (idxS b a N k) := rfl
          have b3 : (stK b a N k).i = idxS b a N k := rfl
          have b5 : decide ((N : Int) - ((k : Int) + 1) = (N : Int) - k - 1) = true := decide_eq_true (by omega)
          rw [show stAt b a N ((N : Int) - k) (idxS b a N k) = stK b a N k from rfl] at d1 d2 d3 d4
          by_cases hw : (k : Int) + 1 < (o.length : Int)
          · by_cases hpar : parentL (o.getD k default) (o.getD (k + 1) default) = (stK b a N k).n0
            · have hpar2 := hpar
              rw [b2] at hpar2
              have ti : ((k : Int) + 1).toNat = k + 1 := by omega
              simp (disch := first | omega | decide) only [push_cast, ↓wF_free, ↓reduceIte, Nat.reduceEqDiff, Nat.reduceLT, Nat.reduceLeDiff, Nat.reduceAdd, Nat.reduceSub, Nat.reduceMul, Nat.reduceBEq, Int.reduceLT, Int.reduceLE, Int.reduceToNat, Int.reduceNeg, Int.reducePow, Int.reduceAdd, Int.reduceMul, Int.reduceSub, ↓Int.reduceNatCast', q5, ql, stK_l, b1, b2, b3, b5, call_mNode, nn, tn, idxA_pp, a2, a3, hw, idxS_nz, load_edig, call_mParent, ti, hpar2, d1, d2, d3, d4, sub_i, add_i]
              refine next_head (k + 1) (by omega) (by omega) ?_
              simp only [push_cast, ↓wF_free, ↓reduceIte, Nat.reduceEqDiff, Nat.reduceLT, Nat.reduceLeDiff, Nat.reduceAdd, Nat.reduceSub, Nat.reduceMul, Nat.reduceBEq, Int.reduceLT, Int.reduceLE, Int.reduceToNat, Int.reduceNeg, Int.reducePow, Int.reduceAdd, Int.reduceMul, Int.reduceSub, ↓Int.reduceNatCast', renC_c2, hkC_c2] <;> rfl
            · have hw2 := disc_wrong (x := stK b a N k) (p := 0) (l := o.getD k default) (r := o.getD (k + 1) default) hv (.inl rfl) (by rw [stK_l]; omega) rfl hpar
              have d6 := call_bDisc (stK b a N k) 0 (o.getD k default) (o.getD (k + 1) default) (by decide)
              rw [hw2] at d6
              have hpar2 := hpar
              rw [b2] at hpar2
              have ti : ((k : Int) + 1).toNat = k + 1 := by omega
              simp (disch := first | omega | decide) only [push_cast, ↓wF_free, ↓reduceIte, Nat.reduceEqDiff, Nat.reduceLT, Nat.reduceLeDiff, Nat.reduceAdd, Nat.reduceSub, Nat.reduceMul, Nat.reduceBEq, Int.reduceLT, Int.reduceLE, Int.reduceToNat, Int.reduceNeg, Int.reducePow, Int.reduceAdd, Int.reduceMul, Int.reduceSub, ↓Int.reduceNatCast', q5, ql, stK_l, b1, b2, b3, b5, call_mNode, nn, tn, idxA_pp, a2, a3, hw, idxS_nz, load_edig, call_mParent, ti, hpar2, d1, d2, d3, d4, d6, sub_i, add_i]
              refine next_head (k + 1) (by omega) (by omega) ?_
              simp only [push_cast, ↓wF_free, ↓reduceIte, Nat.reduceEqDiff, Nat.reduceLT, Nat.reduceLeDiff, Nat.reduceAdd, Nat.reduceSub, Nat.reduceMul, Nat.reduceBEq, Int.reduceLT, Int.reduceLE, Int.reduceToNat, Int.reduceNeg, Int.reducePow, Int.reduceAdd, Int.reduceMul, Int.reduceSub, ↓Int.reduceNatCast', renC_c2, hkC_c2] <;> rfl
          · simp (disch := first | omega | decide) only [push_cast, ↓wF_free, ↓reduceIte, Nat.reduceEqDiff, Nat.reduceLT, Nat.reduceLeDiff, Nat.reduceAdd, Nat.reduceSub, Nat.reduceMul, Nat.reduceBEq, Int.reduceLT, Int.reduceLE, Int.reduceToNat, Int.reduceNeg, Int.reducePow, Int.reduceAdd, Int.reduceMul, Int.reduceSub, ↓Int.reduceNatCast', q5, ql, stK_l, b1, b2, b3, b5, call_mNode, nn, tn, idxA_pp, a2, a3, hw, d1, d2, d3, d4, sub_i, add_i]
            refine next_head (k + 1) (by omega) (by omega) ?_
            simp only [push_cast, ↓wF_free, ↓reduceIte, Nat.reduceEqDiff, Nat.reduceLT, Nat.reduceLeDiff, Nat.reduceAdd, Nat.reduceSub, Nat.reduceMul, Nat.reduceBEq, Int.reduceLT, Int.reduceLE, Int.reduceToNat, Int.reduceNeg, Int.reducePow, Int.reduceAdd, Int.reduceMul, Int.reduceSub, ↓Int.reduceNatCast', renC_c2, hkC_c2] <;> rfl
        · obtain rfl : k = N := by omega
          have q5 : (k : Int) < 5 := by omega
          have ql : ¬ 0 < (k : Int) - (k : Int) := by omega
          have z0 : 0 ≤ idxS b a k k := hrN.1
          simp (disch := first | omega | decide) only [push_cast, ↓wF_free, ↓reduceIte, Nat.reduceEqDiff, Nat.reduceLT, Nat.reduceLeDiff, Nat.reduceAdd, Nat.reduceSub, Nat.reduceMul, Nat.reduceBEq, Int.reduceLT, Int.reduceLE, Int.reduceToNat, Int.reduceNeg, Int.reducePow, Int.reduceAdd, Int.reduceMul, Int.reduceSub, ↓Int.reduceNatCast', q5, ql, stK_l, ce, ca, z0, idxA_pp, a3]
  · simp (disch := first | omega | decide) only [push_cast, ↓wF_free, ↓reduceIte, Nat.reduceEqDiff, Nat.reduceLT, Nat.reduceLeDiff, Nat.reduceAdd, Nat.reduceSub, Nat.reduceMul, Nat.reduceBEq, Int.reduceLT, Int.reduceLE, Int.reduceToNat, Int.reduceNeg, Int.reducePow, Int.reduceAdd, Int.reduceMul, Int.reduceSub, ↓Int.reduceNatCast', h1]
theorem law_BisectHonestParty : Contract Tryd.prog GG 7 (lawSp [.slc tDig, .slc tDig, .int .i64, .slc tDig]) := by
  refine lawC tr_wagonpoollaw38_BisectHonestParty (T := tb [(11, sp_bsane), (12, sp_few38), (14, sp_root), (13, sp_bBegin), (23, sp_mNode), (27, sp_mParent), (28, sp_bDisc), (20, sp_bAns), (16, sp_bDone), (26, sp_rAt)] []) (tb_ok (all_cons c_bsane (all_cons c_few38 (all_cons c_root (all_cons c_bBegin (all_cons c_mNode (all_cons c_mParent (all_cons c_bDisc (all_cons c_bAns (all_cons c_bDone (all_cons c_rAt all_nil)))))))))) all_nil) ?_
  intro xs h
  obtain ⟨x0, xs, rfl, h0, h⟩ := hasAll_cons h
  obtain ⟨x1, xs, rfl, h1, h⟩ := hasAll_cons h
  obtain ⟨x2, xs, rfl, h2, h⟩ := hasAll_cons h
  obtain ⟨x3, xs, rfl, h3, h⟩ := hasAll_cons h
  obtain rfl := hasAll_nil h
  obtain ⟨y0, rfl, ya0⟩ := has_digs h0
  obtain ⟨y1, rfl, ya1⟩ := has_digs h1
  obtain ⟨y2, rfl, ya2, yb2⟩ := has_i64 h2
  obtain ⟨y3, rfl, ya3⟩ := has_digs h3
  exact lw_BisectHonestParty y0 ya0 y1 ya1 y2 ya2 yb2 y3 ya3

theorem done_zero : sp_bDone [bisD zeroBis] = some (.tup [.int .i64 0, .agg (d2C zeroDig zeroDig), .bool true]) := call_bDone zeroBis
set_option maxHeartbeats 4000000 in
set_option maxRecDepth 20000 in
theorem lw_BisectAgreedBefore (a : List Dig) (ha : a.length ≤ maxLen) (b : List Dig) (hb : b.length ≤ maxLen) : @wW GG (tb [(11, sp_bsane), (12, sp_few38), (14, sp_root), (13, sp_bBegin), (15, sp_round), (16, sp_bDone), (17, sp_collides38), (18, sp_mPath), (19, sp_mIncludes)] []) F_wagonpoollaw38_BisectAgreedBefore.code (argF [.slc (nz 32 (a.map digD)) (a.map digD) false, .slc (nz 32 (b.map digD)) (b.map digD) false]) [] ⟨retQ F_wagonpoollaw38_BisectAgreedBefore.res (.bool true)⟩ := by
  unfold F_wagonpoollaw38_BisectAgreedBefore
  simp (disch := first | omega | decide) only [push_cast, ↓wF_free, ↓reduceIte, Nat.reduceEqDiff, Nat.reduceLT, Nat.reduceLeDiff, Nat.reduceAdd, Nat.reduceSub, Nat.reduceMul, Nat.reduceBEq, Int.reduceLT, Int.reduceLE, Int.reduceToNat, Int.reduceNeg, Int.reducePow, Int.reduceAdd, Int.reduceMul, Int.reduceSub, ↓Int.reduceNatCast', call_bsane, call_few38]
  refine ifD_split (fun h1 => ?_) (fun h1 => ?_)
  · obtain ⟨ha1, hb1⟩ := h1
    have hr := hgt_range a b ha1 hb1
    obtain ⟨g1, g2⟩ := begin_lists a b ha1 hb1
    have c1 := call_bBegin (rootL a) (rootL b)
    rw [g1, g2] at c1
    have n380 : ¬ (380 : Int) = 0 := by decide
    have n0 : ¬ (0 : Int) = 380 := by decide
    have cc := call_collides38 a b ⟨ha1, hb1⟩
    by_cases he : nodeL a (hgt a b).toNat 0 = nodeL b (hgt a b).toNat 0
    · rw [if_pos he, if_pos he] at c1
      simp (disch := first | omega | decide) only [push_cast, ↓wF_free, ↓reduceIte, Nat.reduceEqDiff, Nat.reduceLT, Nat.reduceLeDiff, Nat.reduceAdd, Nat.reduceSub, Nat.reduceMul, Nat.reduceBEq, Int.reduceLT, Int.reduceLE, Int.reduceToNat, Int.reduceNeg, Int.reducePow, Int.reduceAdd, Int.reduceMul, Int.reduceSub, ↓Int.reduceNatCast', ha1, hb1, call_root, c1, and_self]
      refine W_while (fun _ : Unit => [(0, .slc (nz 32 (a.map digD)) (a.map digD) false), (1, .slc (nz 32 (b.map digD)) (b.map digD) false), (5, .ptr 0 0), (6, .int .i64 380), (7, .int .i64 0)]) (fun _ => [⟨false, 1, bisC zeroBis, false⟩]) (fun _ => True) (fun _ => 0) () (by simp only [push_cast, ↓wF_free, ↓reduceIte, Nat.reduceEqDiff, Nat.reduceLT, Nat.reduceLeDiff, Nat.reduceAdd, Nat.reduceSub, Nat.reduceMul, Nat.reduceBEq, Int.reduceLT, Int.reduceLE, Int.reduceToNat, Int.reduceNeg, Int.reducePow, Int.reduceAdd, Int.reduceMul, Int.reduceSub, ↓Int.reduceNatCast'] <;> rfl) trivial ?_
      intro _ _
      unfold F_wagonpoollaw38_BisectAgreedBefore_L0
      simp (disch := first | omega | decide) only [push_cast, ↓wF_free, ↓reduceIte, Nat.reduceEqDiff, Nat.reduceLT, Nat.reduceLeDiff, Nat.reduceAdd, Nat.reduceSub, Nat.reduceMul, Nat.reduceBEq, Int.reduceLT, Int.reduceLE, Int.reduceToNat, Int.reduceNeg, Int.reducePow, Int.reduceAdd, Int.reduceMul, Int.reduceSub, ↓Int.reduceNatCast', n380, done_zero]
    · rw [if_neg he, if_neg he] at c1
      obtain ⟨N, hN⟩ : ∃ N : Nat, hgt a b = (N : Int) := ⟨(hgt a b).toNat, by omega⟩
      have hN2 : (hgt a b).toNat = N := by omega
      rw [hN2] at he
      obtain ⟨z1, z2, z3, z4⟩ := end_k hN2 (by omega) he
      rw [stK_zero] at c1
      rw [hN] at c1
      have ce := done_end a b (N := N) (by omega)
      simp (disch := first | omega | decide) only [push_cast, ↓wF_free, ↓reduceIte, Nat.reduceEqDiff, Nat.reduceLT, Nat.reduceLeDiff, Nat.reduceAdd, Nat.reduceSub, Nat.reduceMul, Nat.reduceBEq, Int.reduceLT, Int.reduceLE, Int.reduceToNat, Int.reduceNeg, Int.reducePow, Int.reduceAdd, Int.reduceMul, Int.reduceSub, ↓Int.reduceNatCast', ha1, hb1, call_root, c1, and_self]
      refine W_while (fun k : Nat => [(0, .slc (nz 32 (a.map digD)) (a.map digD) false), (1, .slc (nz 32 (b.map digD)) (b.map digD) false), (5, .ptr 0 0), (6, .int .i64 0), (7, .int .i64 (k : Int))]) (fun k => [⟨false, 1, bisC (stK a b N k), false⟩]) (fun k => k ≤ N) (fun k => N - k) 0 (by simp only [push_cast, ↓wF_free, ↓reduceIte, Nat.reduceEqDiff, Nat.reduceLT, Nat.reduceLeDiff, Nat.reduceAdd, Nat.reduceSub, Nat.reduceMul, Nat.reduceBEq, Int.reduceLT, Int.reduceLE, Int.reduceToNat, Int.reduceNeg, Int.reducePow, Int.reduceAdd, Int.reduceMul, Int.reduceSub, ↓Int.reduceNatCast'] <;> rfl) (by omega) ?_
      intro k hk
      unfold F_wagonpoollaw38_BisectAgreedBefore_L0
      by_cases hlt : (k : Int) < (N : Int)
      · obtain ⟨r1, r2⟩ := round_k a b (by omega) (by omega) (p := 0) (k := k) (.inl rfl) hlt (by omega)
        have c2 := call_round (stK a b N k) a b 0 (.inl rfl)
        rw [r1, r2] at c2
        have q1 : (k : Int) < 5 := by omega
        have q2 : 0 < (N : Int) - (k : Int) := by omega
        simp (disch := first | omega | decide) only [push_cast, ↓wF_free, ↓reduceIte, Nat.reduceEqDiff, Nat.reduceLT, Nat.reduceLeDiff, Nat.reduceAdd, Nat.reduceSub, Nat.reduceMul, Nat.reduceBEq, Int.reduceLT, Int.reduceLE, Int.reduceToNat, Int.reduceNeg, Int.reducePow, Int.reduceAdd, Int.reduceMul, Int.reduceSub, ↓Int.reduceNatCast', q1, q2, stK_l, c2, add_i]
        refine next_head (k + 1) (by omega) (by omega) ?_
        simp only [push_cast, ↓wF_free, ↓reduceIte, Nat.reduceEqDiff, Nat.reduceLT, Nat.reduceLeDiff, Nat.reduceAdd, Nat.reduceSub, Nat.reduceMul, Nat.reduceBEq, Int.reduceLT, Int.reduceLE, Int.reduceToNat, Int.reduceNeg, Int.reducePow, Int.reduceAdd, Int.reduceMul, Int.reduceSub, ↓Int.reduceNatCast'] <;> rfl
      · obtain rfl : k = N := by omega
        have q1 : (k : Int) < 5 := by omega
        have q2 : ¬ 0 < (k : Int) - (k : Int) := by omega
        by_cases w1 : idxS a b k k < 1
        · simp (disch := first | omega | decide) only [push_cast, ↓wF_free, ↓reduceIte, Nat.reduceEqDiff, Nat.reduceLT, Nat.reduceLeDiff, Nat.reduceAdd, Nat.reduceSub, Nat.reduceMul, Nat.reduceBEq, Int.reduceLT, Int.reduceLE, Int.reduceToNat, Int.reduceNeg, Int.reducePow, Int.reduceAdd, Int.reduceMul, Int.reduceSub, ↓Int.reduceNatCast', n0, q1, q2, stK_l, ce, w1]
        by_cases w2 : (a.length : Int) < idxS a b k k
        · simp (disch := first | omega | decide) only [push_cast, ↓wF_free, ↓reduceIte, Nat.reduceEqDiff, Nat.reduceLT, Nat.reduceLeDiff, Nat.reduceAdd, Nat.reduceSub, Nat.reduceMul, Nat.reduceBEq, Int.reduceLT, Int.reduceLE, Int.reduceToNat, Int.reduceNeg, Int.reducePow, Int.reduceAdd, Int.reduceMul, Int.reduceSub, ↓Int.reduceNatCast', n0, q1, q2, stK_l, ce, w1, w2]
        by_cases w3 : (b.length : Int) < idxS a b k k
        · simp (disch := first | omega | decide) only [push_cast, ↓wF_free, ↓reduceIte, Nat.reduceEqDiff, Nat.reduceLT, Nat.reduceLeDiff, Nat.reduceAdd, Nat.reduceSub, Nat.reduceMul, Nat.reduceBEq, Int.reduceLT, Int.reduceLE, Int.reduceToNat, Int.reduceNeg, Int.reducePow, Int.reduceAdd, Int.reduceMul, Int.reduceSub, ↓Int.reduceNatCast', n0, q1, q2, stK_l, ce, w1, w2, w3]
        by_cases hcol : colB a b = true
        · rw [hcol] at cc
          simp (disch := first | omega | decide) only [push_cast, ↓wF_free, ↓reduceIte, Nat.reduceEqDiff, Nat.reduceLT, Nat.reduceLeDiff, Nat.reduceAdd, Nat.reduceSub, Nat.reduceMul, Nat.reduceBEq, Int.reduceLT, Int.reduceLE, Int.reduceToNat, Int.reduceNeg, Int.reducePow, Int.reduceAdd, Int.reduceMul, Int.reduceSub, ↓Int.reduceNatCast', n0, q1, q2, stK_l, ce, w1, w2, w3, cc]
        rcases z4 with z4 | ⟨_, z4⟩
        · exact absurd z4 hcol
        have hcol' : colB a b = false := by simpa using hcol
        rw [hcol'] at cc
        have hag := z4 (idxS a b k k - 1) (by omega) (by omega)
        generalize idxS a b k k = L at *
        have da := depthL_le (n := (a.length : Int)) (by omega) (by omega)
        have db := depthL_le (n := (b.length : Int)) (by omega) (by omega)
        have pa : pathE a (L - 1) = 0 := by unfold pathE; rw [if_neg (by omega), if_pos ⟨by omega, by omega⟩]
        have pb : pathE b (L - 1) = 0 := by unfold pathE; rw [if_neg (by omega), if_pos ⟨by omega, by omega⟩]
        have ea : nodeL a 0 (L - 1) = a.getD (L - 1).toNat default := by
          show atL a (L - 1) padL = _
          unfold atL; rw [if_pos (by omega)]
        have eb : nodeL b 0 (L - 1) = a.getD (L - 1).toNat default := by
          rw [← ea]; exact hag.symm
        have i1 := includes_path a (L - 1) (by omega) (by omega) (by omega)
        have i2 := includes_path b (L - 1) (by omega) (by omega) (by omega)
        rw [ea] at i1
        rw [eb] at i2
        have c3 := call_mPath a (L - 1)
        have c4 := call_mPath b (L - 1)
        rw [pa] at c3
        rw [pb] at c4
        have c5 := call_mIncludes (rootL a) (L - 1) (a.getD (L - 1).toNat default) (pathOf a (L - 1)) ⟨by omega, by omega⟩
        have c6 := call_mIncludes (rootL b) (L - 1) (a.getD (L - 1).toNat default) (pathOf b (L - 1)) ⟨by omega, by omega⟩
        rw [i1] at c5
        rw [i2] at c6
        simp (disch := first | omega | decide) only [push_cast, ↓wF_free, ↓reduceIte, Nat.reduceEqDiff, Nat.reduceLT, Nat.reduceLeDiff, Nat.reduceAdd, Nat.reduceSub, Nat.reduceMul, Nat.reduceBEq, Int.reduceLT, Int.reduceLE, Int.reduceToNat, Int.reduceNeg, Int.reducePow, Int.reduceAdd, Int.reduceMul, Int.reduceSub, ↓Int.reduceNatCast', n0, q1, q2, stK_l, ce, w1, w2, w3, cc, c3, c4, c5, c6, call_root, sub_i, idxS_nz, load_edig]
  · simp (disch := first | omega | decide) only [push_cast, ↓wF_free, ↓reduceIte, Nat.reduceEqDiff, Nat.reduceLT, Nat.reduceLeDiff, Nat.reduceAdd, Nat.reduceSub, Nat.reduceMul, Nat.reduceBEq, Int.reduceLT, Int.reduceLE, Int.reduceToNat, Int.reduceNeg, Int.reducePow, Int.reduceAdd, Int.reduceMul, Int.reduceSub, ↓Int.reduceNatCast', h1]
theorem law_BisectAgreedBefore : Contract Tryd.prog GG 3 (lawSp [.slc tDig, .slc tDig]) := by
  refine lawC tr_wagonpoollaw38_BisectAgreedBefore (T := tb [(11, sp_bsane), (12, sp_few38), (14, sp_root), (13, sp_bBegin), (15, sp_round), (16, sp_bDone), (17, sp_collides38), (18, sp_mPath), (19, sp_mIncludes)] []) (tb_ok (all_cons c_bsane (all_cons c_few38 (all_cons c_root (all_cons c_bBegin (all_cons c_round (all_cons c_bDone (all_cons c_collides38 (all_cons c_mPath (all_cons c_mIncludes all_nil))))))))) all_nil) ?_
  intro xs h
  obtain ⟨x0, xs, rfl, h0, h⟩ := hasAll_cons h
  obtain ⟨x1, xs, rfl, h1, h⟩ := hasAll_cons h
  obtain rfl := hasAll_nil h
  obtain ⟨y0, rfl, ya0⟩ := has_digs h0
  obtain ⟨y1, rfl, ya1⟩ := has_digs h1
  exact lw_BisectAgreedBefore y0 ya0 y1 ya1
end Go.Proofs.YtokhnpjchpmndaaDoor.PI
