/-
  sign: the laws of challenges and of limits.
  Conditions: none; these are lemmas.
-/
import Derived.Test.YtgnekjlciiefbaaDoorSgN
namespace Go.Proofs.YtgnekjlciiefbaaDoor.PI
open Go
set_option linter.unusedSimpArgs false
set_option linter.unusedVariables false

def boxS (c s : Int) : Obj := ⟨false, 1, [.int .u64 c, .int .u64 s], false⟩
def stP : (Int × Int) × Option (List UInt8) → St
  | ((c, s), none) => [⟨false, 1, [.int .u64 c, .int .u64 s], false⟩]
  | ((c, s), some l) => [⟨false, 1, [.int .u64 c, .int .u64 s], false⟩, ⟨true, 1, l.map byteD, false⟩]
/-- the bytes of a number as a new object behind a signature and perhaps a row -/
noncomputable def si_packed : List D → St → Option (D × St) := siOf (α := ((Int × Int) × Option (List UInt8)) × Int)
  (fun a => ([.int .u64 a.2], stP a.1))
  (fun a => 0 ≤ a.2 ∧ a.2 < 18446744073709551616)
  (fun a => (.row (stP a.1).length (be8 a.2).length 0 (be8 a.2).length, stP a.1 ++ [⟨true, 1, (be8 a.2).map byteD, false⟩]))
theorem packed_inj : ∀ a b : ((Int × Int) × Option (List UInt8)) × Int, (([.int .u64 a.2], stP a.1) : List D × St) = ([.int .u64 b.2], stP b.1) → a = b := by
  rintro ⟨⟨⟨c, s⟩, o⟩, n⟩ ⟨⟨⟨c', s'⟩, o'⟩, n'⟩ h
  rcases o with _ | l <;> rcases o' with _ | l' <;> simp [stP, bytes_iff] at h
  · obtain ⟨rfl, rfl, rfl⟩ := h; rfl
  · obtain ⟨rfl, ⟨rfl, rfl⟩, rfl⟩ := h; rfl
theorem call_packed1 (c s n : Int) (h : 0 ≤ n ∧ n < 18446744073709551616) : si_packed [.int .u64 n] [⟨false, 1, [.int .u64 c, .int .u64 s], false⟩] = some (.row 1 (be8 n).length 0 (be8 n).length, [⟨false, 1, [.int .u64 c, .int .u64 s], false⟩, ⟨true, 1, (be8 n).map byteD, false⟩]) :=
  siOf_enc (fun a b e => by rw [packed_inj a b e]) ((((c, s), none), n) : ((Int × Int) × Option (List UInt8)) × Int) h rfl
theorem call_packed2 (c s : Int) (l : List UInt8) (n : Int) (h : 0 ≤ n ∧ n < 18446744073709551616) : si_packed [.int .u64 n] [⟨false, 1, [.int .u64 c, .int .u64 s], false⟩, ⟨true, 1, l.map byteD, false⟩] = some (.row 2 (be8 n).length 0 (be8 n).length, [⟨false, 1, [.int .u64 c, .int .u64 s], false⟩, ⟨true, 1, l.map byteD, false⟩, ⟨true, 1, (be8 n).map byteD, false⟩]) :=
  siOf_enc (fun a b e => by rw [packed_inj a b e]) ((((c, s), some l), n) : ((Int × Int) × Option (List UInt8)) × Int) h rfl
set_option maxHeartbeats 4000000 in
theorem ci_packed : IContract Tryd.prog GG 16 si_packed := by
  refine icontract_keep (T := tb [] []) tr_wagonpoollaw03_packed (tb_ok all_nil all_nil) ?_
  rintro ⟨⟨⟨c, s⟩, o⟩, n⟩ ⟨h0, h1⟩
  unfold F_wagonpoollaw03_packed
  rcases o with _ | l
  · dsimp only [stP]
    simp (disch := omega) only [push_cast, ↓wF_free, ↓reduceIte, Nat.reduceEqDiff, Nat.reduceLT, Nat.reduceLeDiff, Nat.reduceAdd, Nat.reduceSub, Nat.reduceMul, Nat.reduceBEq, Int.reduceLT, Int.reduceLE, Int.reduceToNat, Int.reduceNeg, Int.reducePow, Int.reduceAdd, Int.reduceMul, Int.reduceSub, ↓Int.reduceNatCast', nil_bufD1 0 1]
    refine W_while (fun j : Nat => [(0, .int .u64 n), (3, bufD 0 1 ((be8N n j).map byteD)), (4, .int .i64 (j : Int))]) (fun j => (⟨false, 1, [.int .u64 c, .int .u64 s], false⟩ : Obj) :: bufS 1 ((be8N n j).map byteD)) (fun j => j ≤ 8) (fun j => 8 - j) 0 (by simp only [push_cast, ↓wF_free, ↓reduceIte, Nat.reduceEqDiff, Nat.reduceLT, Nat.reduceLeDiff, Nat.reduceAdd, Nat.reduceSub, Nat.reduceMul, Nat.reduceBEq, Int.reduceLT, Int.reduceLE, Int.reduceToNat, Int.reduceNeg, Int.reducePow, Int.reduceAdd, Int.reduceMul, Int.reduceSub, ↓Int.reduceNatCast', show be8N n 0 = [] from rfl] <;> rfl) (by omega) ?_
    intro j hj
    have hl := be8N_length n j
    unfold F_wagonpoollaw03_packed_L0
    simp (disch := omega) only [push_cast, ↓wF_free, ↓reduceIte, Nat.reduceEqDiff, Nat.reduceLT, Nat.reduceLeDiff, Nat.reduceAdd, Nat.reduceSub, Nat.reduceMul, Nat.reduceBEq, Int.reduceLT, Int.reduceLE, Int.reduceToNat, Int.reduceNeg, Int.reducePow, Int.reduceAdd, Int.reduceMul, Int.reduceSub, ↓Int.reduceNatCast']
    refine ifD_split (fun h2 => ?_) (fun h2 => ?_)
    · have et : (56 - 8 * (j : Int)).toNat = 56 - 8 * j := by omega
      have hq : 0 ≤ n / 2 ^ (56 - 8 * j) := Int.ediv_nonneg h0 (Int.le_of_lt (Int.pow_pos (by decide)))
      simp (disch := first | omega | decide) only [push_cast, ↓wF_free, ↓reduceIte, Nat.reduceEqDiff, Nat.reduceLT, Nat.reduceLeDiff, Nat.reduceAdd, Nat.reduceSub, Nat.reduceMul, Nat.reduceBEq, Int.reduceLT, Int.reduceLE, Int.reduceToNat, Int.reduceNeg, Int.reducePow, Int.reduceAdd, Int.reduceMul, Int.reduceSub, ↓Int.reduceNatCast', shr_u, et, conv_ub, sub_i, mul_i, add_i]
      refine next_head (j + 1) (by omega) (by omega) ?_
      rw [be8N_succ]
      simp only [push_cast, ↓wF_free, ↓reduceIte, Nat.reduceEqDiff, Nat.reduceLT, Nat.reduceLeDiff, Nat.reduceAdd, Nat.reduceSub, Nat.reduceMul, Nat.reduceBEq, Int.reduceLT, Int.reduceLE, Int.reduceToNat, Int.reduceNeg, Int.reducePow, Int.reduceAdd, Int.reduceMul, Int.reduceSub, ↓Int.reduceNatCast'] <;> rfl
    · obtain rfl : j = 8 := by omega
      simp (disch := omega) only [push_cast, ↓wF_free, ↓reduceIte, Nat.reduceEqDiff, Nat.reduceLT, Nat.reduceLeDiff, Nat.reduceAdd, Nat.reduceSub, Nat.reduceMul, Nat.reduceBEq, Int.reduceLT, Int.reduceLE, Int.reduceToNat, Int.reduceNeg, Int.reducePow, Int.reduceAdd, Int.reduceMul, Int.reduceSub, ↓Int.reduceNatCast', bufD_ne 0 1 _ (be8_ne n), bufS_ne 1 _ (be8_ne n), show be8N n 8 = be8 n from rfl]
      rfl
  · dsimp only [stP]
    simp (disch := omega) only [push_cast, ↓wF_free, ↓reduceIte, Nat.reduceEqDiff, Nat.reduceLT, Nat.reduceLeDiff, Nat.reduceAdd, Nat.reduceSub, Nat.reduceMul, Nat.reduceBEq, Int.reduceLT, Int.reduceLE, Int.reduceToNat, Int.reduceNeg, Int.reducePow, Int.reduceAdd, Int.reduceMul, Int.reduceSub, ↓Int.reduceNatCast', nil_bufD1 0 2]
    refine W_while (fun j : Nat => [(0, .int .u64 n), (3, bufD 0 2 ((be8N n j).map byteD)), (4, .int .i64 (j : Int))]) (fun j => (⟨false, 1, [.int .u64 c, .int .u64 s], false⟩ : Obj) :: (⟨true, 1, l.map byteD, false⟩ : Obj) :: bufS 1 ((be8N n j).map byteD)) (fun j => j ≤ 8) (fun j => 8 - j) 0 (by simp only [push_cast, ↓wF_free, ↓reduceIte, Nat.reduceEqDiff, Nat.reduceLT, Nat.reduceLeDiff, Nat.reduceAdd, Nat.reduceSub, Nat.reduceMul, Nat.reduceBEq, Int.reduceLT, Int.reduceLE, Int.reduceToNat, Int.reduceNeg, Int.reducePow, Int.reduceAdd, Int.reduceMul, Int.reduceSub, ↓Int.reduceNatCast', show be8N n 0 = [] from rfl] <;> rfl) (by omega) ?_
    intro j hj
    have hl := be8N_length n j
    unfold F_wagonpoollaw03_packed_L0
    simp (disch := omega) only [push_cast, ↓wF_free, ↓reduceIte, Nat.reduceEqDiff, Nat.reduceLT, Nat.reduceLeDiff, Nat.reduceAdd, Nat.reduceSub, Nat.reduceMul, Nat.reduceBEq, Int.reduceLT, Int.reduceLE, Int.reduceToNat, Int.reduceNeg, Int.reducePow, Int.reduceAdd, Int.reduceMul, Int.reduceSub, ↓Int.reduceNatCast']
    refine ifD_split (fun h2 => ?_) (fun h2 => ?_)
    · have et : (56 - 8 * (j : Int)).toNat = 56 - 8 * j := by omega
      have hq : 0 ≤ n / 2 ^ (56 - 8 * j) := Int.ediv_nonneg h0 (Int.le_of_lt (Int.pow_pos (by decide)))
      simp (disch := first | omega | decide) only [push_cast, ↓wF_free, ↓reduceIte, Nat.reduceEqDiff, Nat.reduceLT, Nat.reduceLeDiff, Nat.reduceAdd, Nat.reduceSub, Nat.reduceMul, Nat.reduceBEq, Int.reduceLT, Int.reduceLE, Int.reduceToNat, Int.reduceNeg, Int.reducePow, Int.reduceAdd, Int.reduceMul, Int.reduceSub, ↓Int.reduceNatCast', shr_u, et, conv_ub, sub_i, mul_i, add_i]
      refine next_head (j + 1) (by omega) (by omega) ?_
      rw [be8N_succ]
      simp only [push_cast, ↓wF_free, ↓reduceIte, Nat.reduceEqDiff, Nat.reduceLT, Nat.reduceLeDiff, Nat.reduceAdd, Nat.reduceSub, Nat.reduceMul, Nat.reduceBEq, Int.reduceLT, Int.reduceLE, Int.reduceToNat, Int.reduceNeg, Int.reducePow, Int.reduceAdd, Int.reduceMul, Int.reduceSub, ↓Int.reduceNatCast'] <;> rfl
    · obtain rfl : j = 8 := by omega
      simp (disch := omega) only [push_cast, ↓wF_free, ↓reduceIte, Nat.reduceEqDiff, Nat.reduceLT, Nat.reduceLeDiff, Nat.reduceAdd, Nat.reduceSub, Nat.reduceMul, Nat.reduceBEq, Int.reduceLT, Int.reduceLE, Int.reduceToNat, Int.reduceNeg, Int.reducePow, Int.reduceAdd, Int.reduceMul, Int.reduceSub, ↓Int.reduceNatCast', bufD_ne 0 2 _ (be8_ne n), bufS_ne 1 _ (be8_ne n), show be8N n 8 = be8 n from rfl]
      rfl


theorem mk_bytes (n : Int) (h0 : 0 ≤ n) (h1 : n ≤ 4294967296) : mkslcD 1 1 (.int .u8 0) (.int .i64 n) (.int .i64 n) = some ((List.replicate n.toNat (0 : UInt8)).length, ⟨true, 1, (List.replicate n.toNat (0 : UInt8)).map byteD, false⟩) := by
  simp only [mkslcD, natOf_int .i64 n h0, List.length_replicate, List.map_replicate]
  rw [if_pos ⟨Nat.le_refl _, by omega, by omega, by decide, rfl, rfl⟩]
  rfl

set_option maxHeartbeats 4000000 in
set_option maxRecDepth 20000 in
theorem lw_SignLimits (seed : List UInt8) (hseed : seed.length ≤ maxLen) (m : List UInt8) (hm : m.length ≤ maxLen) (add : Int) (hadd1 : 0 ≤ add) (hadd2 : add < 18446744073709551616) : @wW GG (tb [(11, sp_ssane), (12, sp_sSecret), (13, sp_sPublic), (14, sp_sSign), (20, sp_sVerify)] []) F_wagonpoollaw03_SignLimits.code (argF [.slc (nz 1 (seed.map byteD)) (seed.map byteD) false, .slc (nz 1 (m.map byteD)) (m.map byteD) false, .int .u64 add]) [] ⟨retQ F_wagonpoollaw03_SignLimits.res (.bool true)⟩ := by
  unfold F_wagonpoollaw03_SignLimits
  simp (disch := first | omega | decide) only [push_cast, ↓wF_free, ↓reduceIte, Nat.reduceEqDiff, Nat.reduceLT, Nat.reduceLeDiff, Nat.reduceAdd, Nat.reduceSub, Nat.reduceMul, Nat.reduceBEq, Int.reduceLT, Int.reduceLE, Int.reduceToNat, Int.reduceNeg, Int.reducePow, Int.reduceAdd, Int.reduceMul, Int.reduceSub, ↓Int.reduceNatCast', call_ssane]
  refine ifD_split (fun h1 => ?_) (fun h1 => ?_)
  · simp (disch := first | omega | decide) only [push_cast, ↓wF_free, ↓reduceIte, Nat.reduceEqDiff, Nat.reduceLT, Nat.reduceLeDiff, Nat.reduceAdd, Nat.reduceSub, Nat.reduceMul, Nat.reduceBEq, Int.reduceLT, Int.reduceLE, Int.reduceToNat, Int.reduceNeg, Int.reducePow, Int.reduceAdd, Int.reduceMul, Int.reduceSub, ↓Int.reduceNatCast', h1]
  simp (disch := first | omega | decide) only [push_cast, ↓wF_free, ↓reduceIte, Nat.reduceEqDiff, Nat.reduceLT, Nat.reduceLeDiff, Nat.reduceAdd, Nat.reduceSub, Nat.reduceMul, Nat.reduceBEq, Int.reduceLT, Int.reduceLE, Int.reduceToNat, Int.reduceNeg, Int.reducePow, Int.reduceAdd, Int.reduceMul, Int.reduceSub, ↓Int.reduceNatCast', h1]
  refine ifD_split (fun h2 => ?_) (fun h2 => ?_)
  · simp (disch := first | omega | decide) only [push_cast, ↓wF_free, ↓reduceIte, Nat.reduceEqDiff, Nat.reduceLT, Nat.reduceLeDiff, Nat.reduceAdd, Nat.reduceSub, Nat.reduceMul, Nat.reduceBEq, Int.reduceLT, Int.reduceLE, Int.reduceToNat, Int.reduceNeg, Int.reducePow, Int.reduceAdd, Int.reduceMul, Int.reduceSub, ↓Int.reduceNatCast', h1, h2]
  simp (disch := first | omega | decide) only [push_cast, ↓wF_free, ↓reduceIte, Nat.reduceEqDiff, Nat.reduceLT, Nat.reduceLeDiff, Nat.reduceAdd, Nat.reduceSub, Nat.reduceMul, Nat.reduceBEq, Int.reduceLT, Int.reduceLE, Int.reduceToNat, Int.reduceNeg, Int.reducePow, Int.reduceAdd, Int.reduceMul, Int.reduceSub, ↓Int.reduceNatCast', h1, h2]
  refine ifD_split (fun h3 => ?_) (fun h3 => ?_)
  · simp (disch := first | omega | decide) only [push_cast, ↓wF_free, ↓reduceIte, Nat.reduceEqDiff, Nat.reduceLT, Nat.reduceLeDiff, Nat.reduceAdd, Nat.reduceSub, Nat.reduceMul, Nat.reduceBEq, Int.reduceLT, Int.reduceLE, Int.reduceToNat, Int.reduceNeg, Int.reducePow, Int.reduceAdd, Int.reduceMul, Int.reduceSub, ↓Int.reduceNatCast', h1, h2, h3]
  obtain ⟨s0, s1, s2⟩ := sec_ok seed (by omega) (by omega)
  have c1 := call_sSecret seed
  rw [s0] at c1
  generalize secL seed = x at *
  have c2 := call_sPublic x ⟨by omega, by omega⟩
  rw [show pubE x = 0 from if_pos ⟨s1, s2⟩, show pubL x = powZ 4 x from if_pos ⟨s1, s2⟩] at c2
  have w := powZ_range 4 x
  obtain ⟨c, s, g1, g2, g3, g4, g5, g6, g7, g8⟩ := sig_ok m s1 s2 (by omega)
  have c3 := call_sSign x m ⟨by omega, by omega⟩
  rw [g1, g2, g3] at c3
  have hv := pub_valid s1 s2
  have v1 : 2 ≤ powZ 4 x ∧ powZ 4 x ≤ 2305843009213690797 := by
    refine ⟨?_, ?_⟩
    · refine Int.not_lt.1 fun h => ?_
      rw [valid_edge w.1 w.2 (.inl h)] at hv; cases hv
    · refine Int.not_lt.1 fun h => ?_
      rw [valid_edge w.1 w.2 (.inr h)] at hv; cases hv
  have v2 : validL (2305843009213690799 - powZ 4 x) = false := by rw [valid_half v1.1 v1.2, hv]; rfl
  have v3 : validL (powZ 4 x + 2305843009213690799) = false := by
    unfold validL
    exact decide_eq_false fun h => by have := h.2.1; omega
  clear g1 g2 g3 g8
  generalize powZ 4 x = p at *
  have a0 : 0 ≤ add % 1152921504606845399 := Int.emod_nonneg _ (by decide)
  have a1 : add % 1152921504606845399 < 1152921504606845399 := Int.emod_lt_of_pos _ (by decide)
  have cm := mk_bytes 65537 (by decide) (by decide)
  have hz : (List.replicate (65537 : Int).toNat (0 : UInt8)).length = 65537 := List.length_replicate
  generalize List.replicate (65537 : Int).toNat (0 : UInt8) = z at cm hz
  rw [hz] at cm
  have c4 := call_sSign x z ⟨by omega, by omega⟩
  have hE : sigE x z = 2 := by unfold sigE; rw [if_pos ⟨s1, s2⟩, if_neg (by omega)]
  rw [hE] at c4
  have nz : ∀ (q : Int) (mm : List UInt8) (cc ss : Int), 0 ≤ q → q < 18446744073709551616 → 0 ≤ cc → cc < 18446744073709551616 → 0 ≤ ss → ss < 18446744073709551616 → (65536 < (mm.length : Int) ∨ 1152921504606845399 ≤ cc ∨ 1152921504606845399 ≤ ss ∨ validL q = false) →
      sp_sVerify [.int .u64 q, .slc (PI.nz 1 (mm.map byteD)) (mm.map byteD) false, .agg [.int .u64 cc, .int .u64 ss]] = some (.bool false) := by
    intro q mm cc ss a b cc0 d e f g
    have := call_sVerify q mm (cc, ss) ⟨a, b, cc0, d, e, f⟩
    dsimp only at this
    rw [verL_no mm g] at this
    exact this
  have k1 := nz p z c s (by omega) (by omega) (by omega) (by omega) (by omega) (by omega) (.inl (by omega))
  have k2 := nz p m (c + 1152921504606845399) s (by omega) (by omega) (by omega) (by omega) (by omega) (by omega) (.inr (.inl (by omega)))
  have k3 := nz p m c (s + 1152921504606845399) (by omega) (by omega) (by omega) (by omega) (by omega) (by omega) (.inr (.inr (.inl (by omega))))
  have k4 := nz (2305843009213690799 - p) m c s (by omega) (by omega) (by omega) (by omega) (by omega) (by omega) (.inr (.inr (.inr v2)))
  have k5 := nz (p + 2305843009213690799) m c s (by omega) (by omega) (by omega) (by omega) (by omega) (by omega) (.inr (.inr (.inr v3)))
  have k6 := nz p m (1152921504606845399 + add % 1152921504606845399) s (by omega) (by omega) (by omega) (by omega) (by omega) (by omega) (.inr (.inl (by omega)))
  have cb : boxD (.agg [.int .u64 0, .int .u64 0]) = some [.int .u64 0, .int .u64 0] := rfl
  have hrow : D.row 1 65537 0 65537 = .row 1 z.length 0 z.length := by rw [hz]
  have cn : ∀ a b e : Int, (D.tup [.agg [.int .u64 a, .int .u64 b], .int .i64 e]).noRef = true := fun _ _ _ => rfl
  simp (disch := first | omega | decide) only [push_cast, ↓wF_free, ↓reduceIte, Nat.reduceEqDiff, Nat.reduceLT, Nat.reduceLeDiff, Nat.reduceAdd, Nat.reduceSub, Nat.reduceMul, Nat.reduceBEq, Int.reduceLT, Int.reduceLE, Int.reduceToNat, Int.reduceNeg, Int.reducePow, Int.reduceAdd, Int.reduceMul, Int.reduceSub, ↓Int.reduceNatCast', h1, h2, h3, c1, c2, c3, c4, k1, k2, k3, k4, k5, k6, cb, cm, cn, hrow, add_u, u64_sub, rem_u, fill_2, stO_2, ldO_2, ldO_one, ldO_succ]
theorem law_SignLimits : Contract Tryd.prog GG 6 (lawSp [.slc (.int .u8), .slc (.int .u8), .int .u64]) := by
  refine lawC tr_wagonpoollaw03_SignLimits (T := tb [(11, sp_ssane), (12, sp_sSecret), (13, sp_sPublic), (14, sp_sSign), (20, sp_sVerify)] []) (tb_ok (all_cons c_ssane (all_cons c_sSecret (all_cons c_sPublic (all_cons c_sSign (all_cons c_sVerify all_nil))))) all_nil) ?_
  intro xs h
  obtain ⟨x0, xs, rfl, h0, h⟩ := hasAll_cons h
  obtain ⟨x1, xs, rfl, h1, h⟩ := hasAll_cons h
  obtain ⟨x2, xs, rfl, h2, h⟩ := hasAll_cons h
  obtain rfl := hasAll_nil h
  obtain ⟨y0, rfl, ya0⟩ := has_bytes h0
  obtain ⟨y1, rfl, ya1⟩ := has_bytes h1
  obtain ⟨y2, rfl, ya2, yb2⟩ := has_u64 h2
  exact lw_SignLimits y0 ya0 y1 ya1 y2 ya2 yb2

theorem els_row (st : St) (k t o l : Nat) : elsOf st (.row k t o l) = reR st[k]? t o l := rowEls_eq st k t o l
theorem papp_tr (a : Obj) (r : St) (L : List UInt8) (hL : L ≠ []) (hl : L.length ≤ 4294967296) : papp (a :: ⟨true, 1, L.map byteD, false⟩ :: r) 1 1 (.slc 1 [] true) (.row 1 L.length 0 L.length) =
    some (.row (r.length + 1 + 1) L.length 0 L.length, a :: ⟨true, 1, L.map byteD, false⟩ :: (r ++ [⟨true, 1, L.map byteD, false⟩])) := by
  have e : elsOf (a :: ⟨true, 1, L.map byteD, false⟩ :: r) (.row 1 L.length 0 L.length) = some (1, L.map byteD) := by
    rw [els_row, List.getElem?_cons_succ, List.getElem?_cons_zero, reR_all]
  have hne : (L.map byteD).isEmpty = false := by
    cases L with
    | nil => exact absurd rfl hL
    | cons x l => rfl
  unfold papp
  rw [e]
  simp [hne, hL]
  omega
set_option maxHeartbeats 4000000 in
set_option maxRecDepth 20000 in
theorem lw_SignChallenges (seed : List UInt8) (hseed : seed.length ≤ maxLen) (m : List UInt8) (hm : m.length ≤ maxLen) (o : List UInt8) (ho : o.length ≤ maxLen) : @wW GG (tb [(11, sp_ssane), (12, sp_sSecret), (13, sp_sPublic), (14, sp_sSign), (15, sp_sPow), (17, sp_times), (19, sp_tagged), (18, sp_sNumber), (20, sp_sVerify)] [(16, si_packed)]) F_wagonpoollaw03_SignChallenges.code (argF [.slc (nz 1 (seed.map byteD)) (seed.map byteD) false, .slc (nz 1 (m.map byteD)) (m.map byteD) false, .slc (nz 1 (o.map byteD)) (o.map byteD) false]) [] ⟨retQ F_wagonpoollaw03_SignChallenges.res (.bool true)⟩ := by
  unfold F_wagonpoollaw03_SignChallenges
  simp (disch := first | omega | decide) only [push_cast, ↓wF_free, ↓reduceIte, Nat.reduceEqDiff, Nat.reduceLT, Nat.reduceLeDiff, Nat.reduceAdd, Nat.reduceSub, Nat.reduceMul, Nat.reduceBEq, Int.reduceLT, Int.reduceLE, Int.reduceToNat, Int.reduceNeg, Int.reducePow, Int.reduceAdd, Int.reduceMul, Int.reduceSub, ↓Int.reduceNatCast', call_ssane]
  refine ifD_split (fun h1 => ?_) (fun h1 => ?_)
  · simp (disch := first | omega | decide) only [push_cast, ↓wF_free, ↓reduceIte, Nat.reduceEqDiff, Nat.reduceLT, Nat.reduceLeDiff, Nat.reduceAdd, Nat.reduceSub, Nat.reduceMul, Nat.reduceBEq, Int.reduceLT, Int.reduceLE, Int.reduceToNat, Int.reduceNeg, Int.reducePow, Int.reduceAdd, Int.reduceMul, Int.reduceSub, ↓Int.reduceNatCast', h1]
  simp (disch := first | omega | decide) only [push_cast, ↓wF_free, ↓reduceIte, Nat.reduceEqDiff, Nat.reduceLT, Nat.reduceLeDiff, Nat.reduceAdd, Nat.reduceSub, Nat.reduceMul, Nat.reduceBEq, Int.reduceLT, Int.reduceLE, Int.reduceToNat, Int.reduceNeg, Int.reducePow, Int.reduceAdd, Int.reduceMul, Int.reduceSub, ↓Int.reduceNatCast', h1]
  refine ifD_split (fun h2 => ?_) (fun h2 => ?_)
  · simp (disch := first | omega | decide) only [push_cast, ↓wF_free, ↓reduceIte, Nat.reduceEqDiff, Nat.reduceLT, Nat.reduceLeDiff, Nat.reduceAdd, Nat.reduceSub, Nat.reduceMul, Nat.reduceBEq, Int.reduceLT, Int.reduceLE, Int.reduceToNat, Int.reduceNeg, Int.reducePow, Int.reduceAdd, Int.reduceMul, Int.reduceSub, ↓Int.reduceNatCast', h1, h2]
  simp (disch := first | omega | decide) only [push_cast, ↓wF_free, ↓reduceIte, Nat.reduceEqDiff, Nat.reduceLT, Nat.reduceLeDiff, Nat.reduceAdd, Nat.reduceSub, Nat.reduceMul, Nat.reduceBEq, Int.reduceLT, Int.reduceLE, Int.reduceToNat, Int.reduceNeg, Int.reducePow, Int.reduceAdd, Int.reduceMul, Int.reduceSub, ↓Int.reduceNatCast', h1, h2]
  refine ifD_split (fun h3 => ?_) (fun h3 => ?_)
  · simp (disch := first | omega | decide) only [push_cast, ↓wF_free, ↓reduceIte, Nat.reduceEqDiff, Nat.reduceLT, Nat.reduceLeDiff, Nat.reduceAdd, Nat.reduceSub, Nat.reduceMul, Nat.reduceBEq, Int.reduceLT, Int.reduceLE, Int.reduceToNat, Int.reduceNeg, Int.reducePow, Int.reduceAdd, Int.reduceMul, Int.reduceSub, ↓Int.reduceNatCast', h1, h2, h3]
  simp (disch := first | omega | decide) only [push_cast, ↓wF_free, ↓reduceIte, Nat.reduceEqDiff, Nat.reduceLT, Nat.reduceLeDiff, Nat.reduceAdd, Nat.reduceSub, Nat.reduceMul, Nat.reduceBEq, Int.reduceLT, Int.reduceLE, Int.reduceToNat, Int.reduceNeg, Int.reducePow, Int.reduceAdd, Int.reduceMul, Int.reduceSub, ↓Int.reduceNatCast', h1, h2, h3]
  refine ifD_split (fun h4 => ?_) (fun h4 => ?_)
  · simp (disch := first | omega | decide) only [push_cast, ↓wF_free, ↓reduceIte, Nat.reduceEqDiff, Nat.reduceLT, Nat.reduceLeDiff, Nat.reduceAdd, Nat.reduceSub, Nat.reduceMul, Nat.reduceBEq, Int.reduceLT, Int.reduceLE, Int.reduceToNat, Int.reduceNeg, Int.reducePow, Int.reduceAdd, Int.reduceMul, Int.reduceSub, ↓Int.reduceNatCast', h1, h2, h3, h4]
  obtain ⟨s0, s1, s2⟩ := sec_ok seed (by omega) (by omega)
  have c1 := call_sSecret seed
  rw [s0] at c1
  generalize secL seed = x at *
  have c2 := call_sPublic x ⟨by omega, by omega⟩
  rw [show pubE x = 0 from if_pos ⟨s1, s2⟩, show pubL x = powZ 4 x from if_pos ⟨s1, s2⟩] at c2
  have w := powZ_range 4 x
  obtain ⟨c, s, g1, g2, g3, g4, g5, g6, g7, g8⟩ := sig_ok m s1 s2 (by omega)
  have c3 := call_sSign x m ⟨by omega, by omega⟩
  rw [g1, g2, g3] at c3
  have hv := pub_valid s1 s2
  clear g1 g2 g3
  generalize powZ 4 x = p at *
  have w1 := powZ_range 4 s
  have w2 := powZ_range p (1152921504606845399 - c)
  have c4 := call_sPow 4 s ⟨by omega, by omega, by omega, by omega⟩
  have c5 := call_sPow p (1152921504606845399 - c) ⟨by omega, by omega, by omega, by omega⟩
  have c6 := call_times (powZ 4 s) (powZ p (1152921504606845399 - c)) 2305843009213690799 ⟨by omega, by omega, by omega, by omega, by omega⟩
  have c7 := call_sVerify p o (c, s) ⟨by omega, by omega, by dsimp only; omega, by dsimp only; omega, by dsimp only; omega, by dsimp only; omega⟩
  dsimp only at c7
  rw [verL_ok o (by omega) hv g5 g7] at c7
  have r0 : 0 ≤ powZ 4 s * powZ p (1152921504606845399 - c) % 2305843009213690799 := Int.emod_nonneg _ (by decide)
  have r1 : powZ 4 s * powZ p (1152921504606845399 - c) % 2305843009213690799 < 2305843009213690799 := Int.emod_lt_of_pos _ (by decide)
  generalize hA : powZ 4 s = A at *
  generalize hB : powZ p (1152921504606845399 - c) = B at *
  generalize A * B % 2305843009213690799 = R at *
  have l1 : (be8 R).length = 8 := be8N_length R 8
  have l2 : (be8 p).length = 8 := be8N_length p 8
  have p1 := call_packed1 c s R ⟨by omega, by omega⟩
  have p2 := call_packed2 c s (be8 R) p ⟨by omega, by omega⟩
  have t1 := call_tagged [99, 104, 97, 108, 108, 101, 110, 103, 101] (be8 R ++ be8 p ++ m) (by simp only [List.length_cons, List.length_nil, List.length_append]; omega)
  have t2 := call_tagged [99, 104, 97, 108, 108, 101, 110, 103, 101] (be8 R ++ be8 p ++ o) (by simp only [List.length_cons, List.length_nil, List.length_append]; omega)
  have n1 := numF8 (taggedL [99, 104, 97, 108, 108, 101, 110, 103, 101] (be8 R ++ be8 p ++ m))
  have n2 := numF8 (taggedL [99, 104, 97, 108, 108, 101, 110, 103, 101] (be8 R ++ be8 p ++ o))
  have e1 : numF ((taggedL [99, 104, 97, 108, 108, 101, 110, 103, 101] (be8 R ++ be8 p ++ m)).bs.take 8) % 1152921504606845399 = chL R p m := rfl
  have e2 : numF ((taggedL [99, 104, 97, 108, 108, 101, 110, 103, 101] (be8 R ++ be8 p ++ o)).bs.take 8) % 1152921504606845399 = chL R p o := rfl
  have q1 : ¬ 1152921504606845399 ≤ c := by omega
  have q2 : ¬ 1152921504606845399 ≤ s := by omega
  have q3 : ¬ 2305843009213690799 ≤ A := by omega
  have q4 : ¬ 2305843009213690799 ≤ B := by omega
  have hne : be8 R ++ be8 p ≠ [] := fun h => by
    have := congrArg List.length h
    rw [List.length_append, l1, l2] at this
    cases this
  have hl16 : (be8 R ++ be8 p).length = 16 := by rw [List.length_append, l1, l2]
  have hlen : (be8 R ++ be8 p).length ≤ 4294967296 := by omega
  have pt := fun a r => papp_tr a r (be8 R ++ be8 p) hne hlen
  have ab1 := apR_b (be8 R) (be8 p) false (by omega)
  have cb : boxD (.agg [.int .u64 0, .int .u64 0]) = some [.int .u64 0, .int .u64 0] := rfl
  simp (disch := first | omega | decide) only [push_cast, ↓wF_free, ↓reduceIte, Nat.reduceEqDiff, Nat.reduceLT, Nat.reduceLeDiff, Nat.reduceAdd, Nat.reduceSub, Nat.reduceMul, Nat.reduceBEq, Int.reduceLT, Int.reduceLE, Int.reduceToNat, Int.reduceNeg, Int.reducePow, Int.reduceAdd, Int.reduceMul, Int.reduceSub, ↓Int.reduceNatCast', h1, h2, h3, h4, q1, q2, q3, q4, hA, hB, c1, c2, c3, c4, c5, c6, c7, cb, p1, p2, t1, t2, e1, e2, ← g8, els_row, reR_all, pt, ab1, apR_nz, call_sNumber, rem_u, u64_sub, stO_2, ldO_2, ldO_one, ldO_succ]
theorem law_SignChallenges : Contract Tryd.prog GG 3 (lawSp [.slc (.int .u8), .slc (.int .u8), .slc (.int .u8)]) := by
  refine lawC tr_wagonpoollaw03_SignChallenges (T := tb [(11, sp_ssane), (12, sp_sSecret), (13, sp_sPublic), (14, sp_sSign), (15, sp_sPow), (17, sp_times), (19, sp_tagged), (18, sp_sNumber), (20, sp_sVerify)] [(16, si_packed)]) (tb_ok (all_cons c_ssane (all_cons c_sSecret (all_cons c_sPublic (all_cons c_sSign (all_cons c_sPow (all_cons c_times (all_cons c_tagged (all_cons c_sNumber (all_cons c_sVerify all_nil))))))))) (all_cons ci_packed all_nil)) ?_
  intro xs h
  obtain ⟨x0, xs, rfl, h0, h⟩ := hasAll_cons h
  obtain ⟨x1, xs, rfl, h1, h⟩ := hasAll_cons h
  obtain ⟨x2, xs, rfl, h2, h⟩ := hasAll_cons h
  obtain rfl := hasAll_nil h
  obtain ⟨y0, rfl, ya0⟩ := has_bytes h0
  obtain ⟨y1, rfl, ya1⟩ := has_bytes h1
  obtain ⟨y2, rfl, ya2⟩ := has_bytes h2
  exact lw_SignChallenges y0 ya0 y1 ya1 y2 ya2
end Go.Proofs.YtgnekjlciiefbaaDoor.PI
