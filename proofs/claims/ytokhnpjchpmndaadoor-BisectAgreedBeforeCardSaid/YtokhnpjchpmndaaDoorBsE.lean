/-
  bisect: trees over two lists; the laws of agreement with the reference, and of Begin.
  Conditions: none; these are lemmas.
-/
import Derived.Test.YtokhnpjchpmndaaDoorBsD
namespace Go.Proofs.YtokhnpjchpmndaaDoor.PI
open Go
set_option linter.unusedSimpArgs false
set_option linter.unusedVariables false

abbrev tDig : Ty := .agg (List.replicate 32 (.int .u8))
abbrev tCommit : Ty := .agg [.int .i64, .agg (List.replicate 32 (.int .u8))]
abbrev tBis : Ty := .agg [.int .i64, .int .i64, .int .i64, .agg [.agg (List.replicate 32 (.int .u8)), .agg (List.replicate 32 (.int .u8))], .agg [.bool, .bool], .agg [.agg (List.replicate 32 (.int .u8)), .agg (List.replicate 32 (.int .u8))], .agg [.agg (List.replicate 32 (.int .u8)), .agg (List.replicate 32 (.int .u8))], .int .i64]
theorem has_d2 {d : D} (h : Has (.agg [.agg (List.replicate 32 (.int .u8)), .agg (List.replicate 32 (.int .u8))]) d) : ∃ a b, d = .agg (d2C a b) := by
  obtain ⟨x, y, rfl, h1, h2⟩ := has_agg2 h
  obtain ⟨a, rfl⟩ := has_dig h1
  obtain ⟨b, rfl⟩ := has_dig h2
  exact ⟨a, b, rfl⟩
theorem has_bis {d : D} (h : Has tBis d) : ∃ x : Bis, d = bisD x := by
  cases h with
  | agg _ xs h1 h2 =>
    match xs, h1 with
    | [x0, x1, x2, x3, x4, x5, x6, x7], _ =>
      obtain ⟨h, rfl, _⟩ := has_i64 (h2 0 _ x0 rfl rfl)
      obtain ⟨l, rfl, _⟩ := has_i64 (h2 1 _ x1 rfl rfl)
      obtain ⟨i, rfl, _⟩ := has_i64 (h2 2 _ x2 rfl rfl)
      obtain ⟨n0, n1, rfl⟩ := has_d2 (h2 3 _ x3 rfl rfl)
      obtain ⟨y0, y1, rfl, g0, g1⟩ := has_agg2 (h2 4 _ x4 rfl rfl)
      obtain ⟨t0, rfl⟩ := has_bool g0
      obtain ⟨t1, rfl⟩ := has_bool g1
      obtain ⟨l0, l1, rfl⟩ := has_d2 (h2 5 _ x5 rfl rfl)
      obtain ⟨r0, r1, rfl⟩ := has_d2 (h2 6 _ x6 rfl rfl)
      obtain ⟨r, rfl, _⟩ := has_i64 (h2 7 _ x7 rfl rfl)
      refine ⟨⟨h, l, i, n0, n1, t0, t1, l0, l1, r0, r1, r⟩, ?_⟩
      simp [bisD, bisC, d2C, D.cells]

set_option maxHeartbeats 4000000 in
set_option maxRecDepth 20000 in
theorem lw_BisectMatchesReference (a : Int × Dig) (b : Int × Dig) (x : Bis) (p : Int) (hp1 : -9223372036854775808 ≤ p) (hp2 : p < 9223372036854775808) (l : Dig) (r : Dig) : @wW GG (tb [(11, sp_bsane), (13, sp_bBegin), (29, sp_rBegin), (28, sp_bDisc), (30, sp_rDisc), (16, sp_bDone), (31, sp_rDone)] []) F_wagonpoollaw38_BisectMatchesReference.code (argF [.agg (.int .i64 (Prod.fst a) :: digC (Prod.snd a)), .agg (.int .i64 (Prod.fst b) :: digC (Prod.snd b)), bisD x, .int .i64 p, digD l, digD r]) [] ⟨retQ F_wagonpoollaw38_BisectMatchesReference.res (.bool true)⟩ := by
  unfold F_wagonpoollaw38_BisectMatchesReference
  have a0 : ∀ x y : Dig, decide (x = x ∧ y = y) = true := fun _ _ => by simp
  have a1 : ∀ x : Bis, decide (x = x) = true := fun _ => by simp
  have a2 : ∀ x : Int, decide (x = x) = true := fun _ => by simp
  simp (disch := first | omega | decide) only [push_cast, ↓wF_free, ↓reduceIte, Nat.reduceEqDiff, Nat.reduceLT, Nat.reduceLeDiff, Nat.reduceAdd, Nat.reduceSub, Nat.reduceMul, Nat.reduceBEq, Int.reduceLT, Int.reduceLE, Int.reduceToNat, Int.reduceNeg, Int.reducePow, Int.reduceAdd, Int.reduceMul, Int.reduceSub, ↓Int.reduceNatCast', call_bsane, box_commit, ldO_commit, call_bBegin, call_rBegin, call_bDisc, call_rDisc, call_bDone, call_rDone, a0, a1, a2]
theorem law_BisectMatchesReference : Contract Tryd.prog GG 8 (lawSp [tCommit, tCommit, tBis, .int .i64, tDig, tDig]) := by
  refine lawC tr_wagonpoollaw38_BisectMatchesReference (T := tb [(11, sp_bsane), (13, sp_bBegin), (29, sp_rBegin), (28, sp_bDisc), (30, sp_rDisc), (16, sp_bDone), (31, sp_rDone)] []) (tb_ok (all_cons c_bsane (all_cons c_bBegin (all_cons c_rBegin (all_cons c_bDisc (all_cons c_rDisc (all_cons c_bDone (all_cons c_rDone all_nil))))))) all_nil) ?_
  intro xs h
  obtain ⟨x0, xs, rfl, h0, h⟩ := hasAll_cons h
  obtain ⟨x1, xs, rfl, h1, h⟩ := hasAll_cons h
  obtain ⟨x2, xs, rfl, h2, h⟩ := hasAll_cons h
  obtain ⟨x3, xs, rfl, h3, h⟩ := hasAll_cons h
  obtain ⟨x4, xs, rfl, h4, h⟩ := hasAll_cons h
  obtain ⟨x5, xs, rfl, h5, h⟩ := hasAll_cons h
  obtain rfl := hasAll_nil h
  obtain ⟨y0, rfl⟩ := has_commit h0
  obtain ⟨y1, rfl⟩ := has_commit h1
  obtain ⟨y2, rfl⟩ := has_bis h2
  obtain ⟨y3, rfl, ya3, yb3⟩ := has_i64 h3
  obtain ⟨y4, rfl⟩ := has_dig h4
  obtain ⟨y5, rfl⟩ := has_dig h5
  exact lw_BisectMatchesReference y0 y1 y2 y3 ya3 yb3 y4 y5

set_option maxHeartbeats 4000000 in
set_option maxRecDepth 20000 in
theorem lw_BisectAnswerMatchesReference (s : List Dig) (hs : s.length ≤ maxLen) (x : Bis) : @wW GG (tb [(11, sp_bsane), (20, sp_bAns), (21, sp_rAns)] []) F_wagonpoollaw38_BisectAnswerMatchesReference.code (argF [.slc (nz 32 (s.map digD)) (s.map digD) false, bisD x]) [] ⟨retQ F_wagonpoollaw38_BisectAnswerMatchesReference.res (.bool true)⟩ := by
  unfold F_wagonpoollaw38_BisectAnswerMatchesReference
  have a1 : ∀ x : Dig, decide (x = x) = true := fun _ => by simp
  have a2 : ∀ x : Int, decide (x = x) = true := fun _ => by simp
  simp (disch := first | omega | decide) only [push_cast, ↓wF_free, ↓reduceIte, Nat.reduceEqDiff, Nat.reduceLT, Nat.reduceLeDiff, Nat.reduceAdd, Nat.reduceSub, Nat.reduceMul, Nat.reduceBEq, Int.reduceLT, Int.reduceLE, Int.reduceToNat, Int.reduceNeg, Int.reducePow, Int.reduceAdd, Int.reduceMul, Int.reduceSub, ↓Int.reduceNatCast', call_bsane]
  refine ifD_split (fun h1 => ?_) (fun h1 => ?_)
  · simp (disch := first | omega | decide) only [push_cast, ↓wF_free, ↓reduceIte, Nat.reduceEqDiff, Nat.reduceLT, Nat.reduceLeDiff, Nat.reduceAdd, Nat.reduceSub, Nat.reduceMul, Nat.reduceBEq, Int.reduceLT, Int.reduceLE, Int.reduceToNat, Int.reduceNeg, Int.reducePow, Int.reduceAdd, Int.reduceMul, Int.reduceSub, ↓Int.reduceNatCast', h1]
  · simp (disch := first | omega | decide) only [push_cast, ↓wF_free, ↓reduceIte, Nat.reduceEqDiff, Nat.reduceLT, Nat.reduceLeDiff, Nat.reduceAdd, Nat.reduceSub, Nat.reduceMul, Nat.reduceBEq, Int.reduceLT, Int.reduceLE, Int.reduceToNat, Int.reduceNeg, Int.reducePow, Int.reduceAdd, Int.reduceMul, Int.reduceSub, ↓Int.reduceNatCast', h1, call_bAns, call_rAns, a1, a2]
theorem law_BisectAnswerMatchesReference : Contract Tryd.prog GG 4 (lawSp [.slc tDig, tBis]) := by
  refine lawC tr_wagonpoollaw38_BisectAnswerMatchesReference (T := tb [(11, sp_bsane), (20, sp_bAns), (21, sp_rAns)] []) (tb_ok (all_cons c_bsane (all_cons c_bAns (all_cons c_rAns all_nil))) all_nil) ?_
  intro xs h
  obtain ⟨x0, xs, rfl, h0, h⟩ := hasAll_cons h
  obtain ⟨x1, xs, rfl, h1, h⟩ := hasAll_cons h
  obtain rfl := hasAll_nil h
  obtain ⟨y0, rfl, ya0⟩ := has_digs h0
  obtain ⟨y1, rfl⟩ := has_bis h1
  exact lw_BisectAnswerMatchesReference y0 ya0 y1

/-! ### Trees -/
theorem rowN_bound (l : List Dig) : ∀ (n m : Nat), l.length ≤ m * 2 ^ n → (rowN l n).length ≤ m
  | 0, m, h => by simpa [rowN] using h
  | n + 1, m, h => by
    have h1 := rowN_bound l n (2 * m) (by rw [Nat.pow_succ] at h; rw [Nat.mul_comm 2 m, Nat.mul_assoc, Nat.mul_comm 2]; exact h)
    show (upL (padN n) (rowN l n)).length ≤ m
    rw [upL_length]
    omega
theorem node_one (l : List Dig) (n : Nat) (h : l.length ≤ 2 ^ n) : nodeL l n 1 = padN n := by
  have := rowN_bound l n 1 (by omega)
  exact at_end _ _ _ (by omega)
theorem depth_len (l : List Dig) (hl : (l.length : Int) ≤ 65536) : l.length ≤ 2 ^ (depthL l.length).toNat := by
  have := depthL_le (n := (l.length : Int)) (by omega) hl
  have h2 : ((2 ^ (depthL l.length).toNat : Nat) : Int) = 2 ^ (depthL l.length).toNat := by simp
  omega
theorem padF_node (l : List Dig) (hl : (l.length : Int) ≤ 65536) : ∀ n : Nat, depthL l.length ≤ (n : Int) → padF (rootL l).1 (rootL l).2 n = nodeL l n 0 := by
  have hd := depthL_ok (n := (l.length : Int)) (by omega) hl
  rw [root_small l hl]
  dsimp only
  intro n
  induction n with
  | zero =>
    intro h
    have : (depthL l.length).toNat = 0 := by omega
    rw [this]; rfl
  | succ n ih =>
    intro h
    by_cases h1 : depthL l.length ≤ (n : Int)
    · rw [padF, if_pos h1, ih h1, node_succ _ _ _ (by omega)]
      have h2 : l.length ≤ 2 ^ n := by
        have a := depth_len l hl
        exact Nat.le_trans a (Nat.pow_le_pow_right (by decide) (by omega))
      rw [show (2 : Int) * 0 = 0 from rfl, show (0 : Int) + 1 = 1 from rfl, node_one l n h2]
    · rw [padF, if_neg h1, padF_low _ _ _ (by omega)]
      have : (depthL l.length).toNat = n + 1 := by omega
      rw [this]
theorem bitlen_mono {m n : Nat} (h : m ≤ n) : bitlen m ≤ bitlen n := bitlen_lt (Nat.lt_of_le_of_lt h bitlen_spec)
theorem depth_mono {m n : Int} (h0 : 0 ≤ m) (h : m ≤ n) (hn : n ≤ 65536) : depthL m ≤ depthL n := by
  rw [(depthL_ok h0 (by omega)).1, (depthL_ok (by omega) hn).1]
  have := bitlen_mono (m := (max m 1).toNat - 1) (n := (max n 1).toNat - 1) (by omega)
  omega
theorem depth_max {m n : Int} (hm : 0 ≤ m) (hn : 0 ≤ n) (hm1 : m ≤ 65536) (hn1 : n ≤ 65536) : depthL (max m n) = max (depthL m) (depthL n) := by
  rcases Int.le_total m n with h | h
  · have := depth_mono hm h hn1
    rw [Int.max_eq_right h]; omega
  · have := depth_mono hn h hm1
    rw [Int.max_eq_left h]; omega
theorem node_neq (a b : List Dig) (n : Nat) (k : Int) (hk : 0 ≤ k) (h : nodeL a n k ≠ nodeL b n k) : ∃ j : Int, 0 ≤ j ∧ j / 2 ^ n = k ∧ atL a j padL ≠ atL b j padL := by
  refine Classical.byContradiction fun hne => h (node_congr a b n k hk fun j h0 hj => ?_)
  refine Classical.byContradiction fun hj2 => hne ⟨j, h0, hj, hj2⟩
/-- the height of the trees over two lists -/
def hgt (a b : List Dig) : Int := depthL (max (a.length : Int) (b.length : Int))
theorem hgt_range (a b : List Dig) (ha : (a.length : Int) ≤ 10) (hb : (b.length : Int) ≤ 10) : 0 ≤ hgt a b ∧ hgt a b ≤ 4 := by
  have h10 : depthL 10 = 4 := by decide +kernel
  have h1 := depth_mono (m := max (a.length : Int) (b.length : Int)) (n := 10) (by omega) (by omega) (by omega)
  have h2 := depthL_ok (n := max (a.length : Int) (b.length : Int)) (by omega) (by omega)
  unfold hgt
  omega
/-- the state over two lists, at a place of their trees -/
def stAt (a b : List Dig) (h lv i : Int) : Bis := bis0 h lv i (nodeL a lv.toNat i) (nodeL b lv.toNat i) (h - lv)
theorem begin_lists (a b : List Dig) (ha : (a.length : Int) ≤ 10) (hb : (b.length : Int) ≤ 10) :
    beginL (rootL a) (rootL b) = (if nodeL a (hgt a b).toNat 0 = nodeL b (hgt a b).toNat 0 then zeroBis else stAt a b (hgt a b) (hgt a b) 0) ∧ beginE (rootL a) (rootL b) = (if nodeL a (hgt a b).toNat 0 = nodeL b (hgt a b).toNat 0 then 380 else 0) := by
  have hr := hgt_range a b ha hb
  have d1 := depthL_ok (n := (a.length : Int)) (by omega) (by omega)
  have d2 := depthL_ok (n := (b.length : Int)) (by omega) (by omega)
  have e0 : hgt a b = max (depthL a.length) (depthL b.length) := depth_max (by omega) (by omega) (by omega) (by omega)
  have r1 : (rootL a).1 = (a.length : Int) := by rw [root_small a (by omega)]
  have r2 : (rootL b).1 = (b.length : Int) := by rw [root_small b (by omega)]
  have p1 := padF_node a (by omega) (hgt a b).toNat (by omega)
  have p2 := padF_node b (by omega) (hgt a b).toNat (by omega)
  have e : beginH (rootL a) (rootL b) = stAt a b (hgt a b) (hgt a b) 0 := by
    unfold beginH stAt bis0
    rw [r1, r2, ← e0, ← r1, ← r2, p1, p2, Int.sub_self]
  unfold beginL beginE
  have q1 : ¬ depthL (a.length : Int) < 0 := by omega
  have q2 : ¬ depthL (b.length : Int) < 0 := by omega
  rw [e, r1, r2, if_neg q1, if_neg q2, if_neg q1, if_neg q2]
  exact ⟨rfl, rfl⟩
theorem nodeR_in (l : List Dig) (lv i : Int) (hl : (l.length : Int) ≤ 65536) (h0 : 0 ≤ lv) (h1 : lv ≤ 16) (hi : 0 ≤ i) (h2 : i < 2 ^ (16 - lv).toNat) : nodeR l lv i = nodeL l lv.toNat i := by
  unfold nodeR
  rw [if_pos (by unfold nodeOk; exact decide_eq_true ⟨hl, h0, h1, hi, h2⟩)]

set_option maxHeartbeats 4000000 in
set_option maxRecDepth 20000 in
theorem lw_BisectBegins (a : List Dig) (ha : a.length ≤ maxLen) (b : List Dig) (hb : b.length ≤ maxLen) : @wW GG (tb [(11, sp_bsane), (12, sp_few38), (14, sp_root), (13, sp_bBegin), (22, sp_mDepth), (23, sp_mNode), (24, sp_mFirst)] []) F_wagonpoollaw38_BisectBegins.code (argF [.slc (nz 32 (a.map digD)) (a.map digD) false, .slc (nz 32 (b.map digD)) (b.map digD) false]) [] ⟨retQ F_wagonpoollaw38_BisectBegins.res (.bool true)⟩ := by
  unfold F_wagonpoollaw38_BisectBegins
  have a1 : ∀ x : Bis, decide (x = x) = true := fun _ => by simp
  simp (disch := first | omega | decide) only [push_cast, ↓wF_free, ↓reduceIte, Nat.reduceEqDiff, Nat.reduceLT, Nat.reduceLeDiff, Nat.reduceAdd, Nat.reduceSub, Nat.reduceMul, Nat.reduceBEq, Int.reduceLT, Int.reduceLE, Int.reduceToNat, Int.reduceNeg, Int.reducePow, Int.reduceAdd, Int.reduceMul, Int.reduceSub, ↓Int.reduceNatCast', call_bsane, call_few38]
  refine ifD_split (fun h1 => ?_) (fun h1 => ?_)
  · obtain ⟨ha1, hb1⟩ := h1
    have hr := hgt_range a b ha1 hb1
    obtain ⟨g1, g2⟩ := begin_lists a b ha1 hb1
    have c1 := call_bBegin (rootL a) (rootL b)
    rw [g1, g2] at c1
    have p16 := pow_pos2 (16 - hgt a b).toNat
    have n1 := nodeR_in a (hgt a b) 0 (by omega) hr.1 (by omega) (by omega) (by omega)
    have n2 := nodeR_in b (hgt a b) 0 (by omega) hr.1 (by omega) (by omega) (by omega)
    have c2 : sp_mDepth [.int .i64 (max (a.length : Int) (b.length : Int))] = some (.int .i64 (hgt a b)) := call_mDepth _
    have tn : ∀ (d : Dig) (q : Bool), (D.tup [digD d, .bool q]).noRef = true := fun d q => by simp [D.noRef, digD, noRef_digA, D.noRef1]
    have c3 := call_mFirst a b ⟨by omega, by omega⟩
    by_cases he : nodeL a (hgt a b).toNat 0 = nodeL b (hgt a b).toNat 0
    · rw [if_pos he, if_pos he] at c1
      rw [he] at n1
      simp (disch := first | omega | decide) only [push_cast, ↓wF_free, ↓reduceIte, Nat.reduceEqDiff, Nat.reduceLT, Nat.reduceLeDiff, Nat.reduceAdd, Nat.reduceSub, Nat.reduceMul, Nat.reduceBEq, Int.reduceLT, Int.reduceLE, Int.reduceToNat, Int.reduceNeg, Int.reducePow, Int.reduceAdd, Int.reduceMul, Int.reduceSub, ↓Int.reduceNatCast', ha1, hb1, call_root, c1, c2, call_mNode, n1, n2, tn, fill_nil, a1, and_self]
    · rw [if_neg he, if_neg he] at c1
      obtain ⟨j, j0, j1, j2⟩ := node_neq a b _ _ (by omega) he
      have hf : 0 ≤ firstL a b := by
        rcases firstL_spec a b with ⟨_, h⟩ | ⟨h, _⟩
        · exact absurd (h j j0) j2
        · exact h
      have es : stAt a b (hgt a b) (hgt a b) 0 = { zeroBis with h := hgt a b, l := hgt a b, n0 := nodeL a (hgt a b).toNat 0, n1 := nodeL b (hgt a b).toNat 0 } := by
        unfold stAt bis0; rw [Int.sub_self]; rfl
      rw [es] at c1
      simp (disch := first | omega | decide) only [push_cast, ↓wF_free, ↓reduceIte, Nat.reduceEqDiff, Nat.reduceLT, Nat.reduceLeDiff, Nat.reduceAdd, Nat.reduceSub, Nat.reduceMul, Nat.reduceBEq, Int.reduceLT, Int.reduceLE, Int.reduceToNat, Int.reduceNeg, Int.reducePow, Int.reduceAdd, Int.reduceMul, Int.reduceSub, ↓Int.reduceNatCast', ha1, hb1, call_root, c1, c2, c3, call_mNode, n1, n2, tn, fill_nil, a1, he, hf, and_self]
  · simp (disch := first | omega | decide) only [push_cast, ↓wF_free, ↓reduceIte, Nat.reduceEqDiff, Nat.reduceLT, Nat.reduceLeDiff, Nat.reduceAdd, Nat.reduceSub, Nat.reduceMul, Nat.reduceBEq, Int.reduceLT, Int.reduceLE, Int.reduceToNat, Int.reduceNeg, Int.reducePow, Int.reduceAdd, Int.reduceMul, Int.reduceSub, ↓Int.reduceNatCast', h1]
theorem law_BisectBegins : Contract Tryd.prog GG 5 (lawSp [.slc tDig, .slc tDig]) := by
  refine lawC tr_wagonpoollaw38_BisectBegins (T := tb [(11, sp_bsane), (12, sp_few38), (14, sp_root), (13, sp_bBegin), (22, sp_mDepth), (23, sp_mNode), (24, sp_mFirst)] []) (tb_ok (all_cons c_bsane (all_cons c_few38 (all_cons c_root (all_cons c_bBegin (all_cons c_mDepth (all_cons c_mNode (all_cons c_mFirst all_nil))))))) all_nil) ?_
  intro xs h
  obtain ⟨x0, xs, rfl, h0, h⟩ := hasAll_cons h
  obtain ⟨x1, xs, rfl, h1, h⟩ := hasAll_cons h
  obtain rfl := hasAll_nil h
  obtain ⟨y0, rfl, ya0⟩ := has_digs h0
  obtain ⟨y1, rfl, ya1⟩ := has_digs h1
  exact lw_BisectBegins y0 ya0 y1 ya1
end Go.Proofs.YtokhnpjchpmndaaDoor.PI
