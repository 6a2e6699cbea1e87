/-
  sign: keys that are valid, signatures that are verified; the laws of Verify.
  Conditions: none; these are lemmas.
-/
import Derived.Test.YtgnekjlciiefbaaDoorSgM
namespace Go.Proofs.YtgnekjlciiefbaaDoor.PI
open Go
set_option linter.unusedSimpArgs false
set_option linter.unusedVariables false

theorem pub_valid {x : Int} (h1 : 1 ≤ x) (h2 : x < 1152921504606845399) : validL (powZ 4 x) = true := by
  have hq : powZ (powZ 4 x) 1152921504606845399 = 1 := by rw [powZ_comm, powZ_g, powZ_one]
  have hr := powZ_range 4 x
  have h0 : powZ 4 x ≠ 0 := by
    intro e
    rw [e, powZ_Q] at hq
    have hz : ∀ k, powI 0 (k + 1) = 0 := by
      intro k; unfold powI; rw [Int.pow_succ, Int.mul_zero]; rfl
    have := hz m2
    rw [show m2 + 1 = mQ by decide] at this
    rw [this] at hq
    exact absurd hq (by decide)
  have h3 : powZ 4 x ≠ 1 := by
    intro e
    have e1 : ((4 ^ x.toNat % 2305843009213690799 : Nat) : Int) = 1 := by rw [← powI_nat]; exact e
    have e2 : ((4 ^ mQ % 2305843009213690799 : Nat) : Int) = 1 := by rw [← powI_nat]; exact powI_g
    have e3 := pow_gcd 4 2305843009213690799 (by decide) x.toNat mQ (by omega) (by omega)
    have hnd : ¬ 1152921504606845399 ∣ x.toNat := by
      intro hd
      have := Nat.le_of_dvd (by omega) hd
      omega
    have hc : Nat.gcd x.toNat mQ = 1 := by
      rw [Nat.gcd_comm]
      exact pr_cop pr2 hnd
    rw [hc] at e3
    exact absurd e3 (by decide)
  unfold validL
  exact decide_eq_true ⟨by omega, by omega, hq⟩

theorem sig_key {x k c : Int} (hx : 0 ≤ x) (hk : 0 ≤ k) (hc0 : 0 ≤ c) (hc1 : c < 1152921504606845399) :
    powZ 4 ((k + c * x % 1152921504606845399) % 1152921504606845399) * powZ (powZ 4 x) (1152921504606845399 - c) % 2305843009213690799 = powZ 4 k := by
  have m0 : 0 ≤ c * x := Int.mul_nonneg hc0 hx
  have m1 : 0 ≤ c * x % 1152921504606845399 := Int.emod_nonneg _ (by decide)
  have m2 : 0 ≤ x * (1152921504606845399 - c) := Int.mul_nonneg hx (by omega)
  have m3 : 0 ≤ (1152921504606845399 : Int) * x := Int.mul_nonneg (by decide) hx
  have hr := powZ_range 4 k
  rw [powZ_red powZ_g _ (by omega), powZ_add 4 hk m1, powZ_red powZ_g _ m0, ← powZ_add 4 hk m0, powZ_mul 4 hx (by omega), ← powZ_add 4 (by omega) m2]
  have e : k + c * x + x * (1152921504606845399 - c) = k + 1152921504606845399 * x := by
    rw [Int.mul_sub, Int.mul_comm x c, Int.mul_comm x]; omega
  rw [e, powZ_add 4 hk m3, ← powZ_mul 4 (by decide) hx, powZ_g, powZ_one, Int.mul_one]
  exact Int.emod_eq_of_lt hr.1 hr.2

theorem sec_ok (b : List UInt8) (h0 : 1 ≤ (b.length : Int)) (h1 : (b.length : Int) ≤ 64) : secE b = 0 ∧ 1 ≤ secL b ∧ secL b < 1152921504606845399 := by
  have e1 : secL b = numF ((taggedL [115, 101, 99, 114, 101, 116] b).bs.take 8) % 1152921504606845398 + 1 := if_neg (by omega)
  have g3 : 0 ≤ numF ((taggedL [115, 101, 99, 114, 101, 116] b).bs.take 8) % 1152921504606845398 := Int.emod_nonneg _ (by decide)
  have g4 : numF ((taggedL [115, 101, 99, 114, 101, 116] b).bs.take 8) % 1152921504606845398 < 1152921504606845398 := Int.emod_lt_of_pos _ (by decide)
  exact ⟨if_neg (by omega), by omega, by omega⟩

theorem sig_ok {x : Int} (m : List UInt8) (hx0 : 1 ≤ x) (hx1 : x < 1152921504606845399) (hm : (m.length : Int) ≤ 65536) :
    ∃ c s, sigC x m = c ∧ sigS x m = s ∧ sigE x m = 0 ∧ 0 ≤ c ∧ c < 1152921504606845399 ∧ 0 ≤ s ∧ s < 1152921504606845399 ∧ c = chL (powZ 4 s * powZ (powZ 4 x) (1152921504606845399 - c) % 2305843009213690799) (powZ 4 x) m := by
  have hn : sigOk x m := ⟨⟨hx0, hx1⟩, hm⟩
  have e1 : sigC x m = chL (powZ 4 (nonceL x m)) (powZ 4 x) m := if_pos hn
  have e2 : sigS x m = (nonceL x m + chL (powZ 4 (nonceL x m)) (powZ 4 x) m * x % 1152921504606845399) % 1152921504606845399 := if_pos hn
  have e3 : sigE x m = 0 := by unfold sigE; rw [if_pos ⟨hx0, hx1⟩, if_pos hm]
  obtain ⟨n0, n1⟩ := nonce_range x m
  obtain ⟨g0, g1⟩ := ch_range (powZ 4 (nonceL x m)) (powZ 4 x) m
  refine ⟨_, _, e1, e2, e3, g0, g1, Int.emod_nonneg _ (by decide), Int.emod_lt_of_pos _ (by decide), ?_⟩
  rw [sig_key (by omega) (by omega) g0 g1]

theorem verL_ok {p c s : Int} (m : List UInt8) (hm : (m.length : Int) ≤ 65536) (hv : validL p = true) (hc : c < 1152921504606845399) (hs : s < 1152921504606845399) :
    verL p m c s = decide (chL (powZ 4 s * powZ p (1152921504606845399 - c) % 2305843009213690799) p m = c) := by
  unfold verL
  rw [if_neg (by omega), if_neg (by omega), if_neg (by omega), if_pos hv]
theorem verL_no {p c s : Int} (m : List UInt8) (h : 65536 < (m.length : Int) ∨ 1152921504606845399 ≤ c ∨ 1152921504606845399 ≤ s ∨ validL p = false) : verL p m c s = false := by
  unfold verL
  split
  · rfl
  · split
    · rfl
    · split
      · rfl
      · split
        · rename_i h1 h2 h3 h4
          rcases h with h | h | h | h
          · exact absurd h h1
          · exact absurd h h2
          · exact absurd h h3
          · rw [h] at h4; cases h4
        · rfl

set_option maxHeartbeats 4000000 in
set_option maxRecDepth 20000 in
theorem lw_SignMatchesVerify (p : Int) (hp1 : 0 ≤ p) (hp2 : p < 18446744073709551616) (m : List UInt8) (hm : m.length ≤ maxLen) (z : Int × Int) (hz1 : 0 ≤ z.1) (hz2 : z.1 < 18446744073709551616) (hz3 : 0 ≤ z.2) (hz4 : z.2 < 18446744073709551616) : @wW GG (tb [(11, sp_ssane), (22, sp_short), (20, sp_sVerify), (26, sp_rVerify), (21, sp_sValid), (27, sp_rValid), (15, sp_sPow), (28, sp_rPow)] []) F_wagonpoollaw03_SignMatchesVerify.code (argF [.int .u64 p, .slc (nz 1 (m.map byteD)) (m.map byteD) false, .agg [.int .u64 (z).1, .int .u64 (z).2]]) [] ⟨retQ F_wagonpoollaw03_SignMatchesVerify.res (.bool true)⟩ := by
  obtain ⟨c, s⟩ := z
  dsimp only at *
  have cb : boxD (.agg [.int .u64 c, .int .u64 s]) = some [.int .u64 c, .int .u64 s] := rfl
  unfold F_wagonpoollaw03_SignMatchesVerify
  simp (disch := first | omega | decide) only [push_cast, ↓wF_free, ↓reduceIte, Nat.reduceEqDiff, Nat.reduceLT, Nat.reduceLeDiff, Nat.reduceAdd, Nat.reduceSub, Nat.reduceMul, Nat.reduceBEq, Int.reduceLT, Int.reduceLE, Int.reduceToNat, Int.reduceNeg, Int.reducePow, Int.reduceAdd, Int.reduceMul, Int.reduceSub, ↓Int.reduceNatCast', cb, call_ssane, call_short]
  refine ifD_split (fun h2 => ?_) (fun h2 => ?_)
  · have c1 := call_sVerify p m (c, s) ⟨by omega, by omega, by dsimp only; omega, by dsimp only; omega, by dsimp only; omega, by dsimp only; omega⟩
    have c2 := call_rVerify p m (c, s) ⟨by omega, by omega, by dsimp only; omega, by dsimp only; omega, by dsimp only; omega, by dsimp only; omega⟩
    dsimp only at c1 c2
    simp (disch := first | omega | decide) only [push_cast, ↓wF_free, ↓reduceIte, Nat.reduceEqDiff, Nat.reduceLT, Nat.reduceLeDiff, Nat.reduceAdd, Nat.reduceSub, Nat.reduceMul, Nat.reduceBEq, Int.reduceLT, Int.reduceLE, Int.reduceToNat, Int.reduceNeg, Int.reducePow, Int.reduceAdd, Int.reduceMul, Int.reduceSub, ↓Int.reduceNatCast', h2, c1, c2, call_sValid, call_rValid, call_sPow, call_rPow, ldO_2, ldO_one, ldO_succ]
  · simp (disch := first | omega | decide) only [push_cast, ↓wF_free, ↓reduceIte, Nat.reduceEqDiff, Nat.reduceLT, Nat.reduceLeDiff, Nat.reduceAdd, Nat.reduceSub, Nat.reduceMul, Nat.reduceBEq, Int.reduceLT, Int.reduceLE, Int.reduceToNat, Int.reduceNeg, Int.reducePow, Int.reduceAdd, Int.reduceMul, Int.reduceSub, ↓Int.reduceNatCast', h2]
theorem law_SignMatchesVerify : Contract Tryd.prog GG 8 (lawSp [.int .u64, .slc (.int .u8), .agg [.int .u64, .int .u64]]) := by
  refine lawC tr_wagonpoollaw03_SignMatchesVerify (T := tb [(11, sp_ssane), (22, sp_short), (20, sp_sVerify), (26, sp_rVerify), (21, sp_sValid), (27, sp_rValid), (15, sp_sPow), (28, sp_rPow)] []) (tb_ok (all_cons c_ssane (all_cons c_short (all_cons c_sVerify (all_cons c_rVerify (all_cons c_sValid (all_cons c_rValid (all_cons c_sPow (all_cons c_rPow all_nil)))))))) all_nil) ?_
  intro xs h
  obtain ⟨x0, xs, rfl, h0, h⟩ := hasAll_cons h
  obtain ⟨x1, xs, rfl, h1, h⟩ := hasAll_cons h
  obtain ⟨x2, xs, rfl, h2, h⟩ := hasAll_cons h
  obtain rfl := hasAll_nil h
  obtain ⟨y0, rfl, ya0, yb0⟩ := has_u64 h0
  obtain ⟨y1, rfl, ya1⟩ := has_bytes h1
  obtain ⟨y2, rfl, ya2, yb2, yc2, yd2⟩ := has_sig h2
  exact lw_SignMatchesVerify y0 ya0 yb0 y1 ya1 y2 ya2 yb2 yc2 yd2

set_option maxHeartbeats 4000000 in
set_option maxRecDepth 20000 in
theorem lw_SignVerifies (seed : List UInt8) (hseed : seed.length ≤ maxLen) (m : List UInt8) (hm : m.length ≤ maxLen) : @wW GG (tb [(11, sp_ssane), (12, sp_sSecret), (13, sp_sPublic), (14, sp_sSign), (21, sp_sValid), (20, sp_sVerify)] []) F_wagonpoollaw03_SignVerifies.code (argF [.slc (nz 1 (seed.map byteD)) (seed.map byteD) false, .slc (nz 1 (m.map byteD)) (m.map byteD) false]) [] ⟨retQ F_wagonpoollaw03_SignVerifies.res (.bool true)⟩ := by
  unfold F_wagonpoollaw03_SignVerifies
  simp (disch := first | omega | decide) only [push_cast, ↓wF_free, ↓reduceIte, Nat.reduceEqDiff, Nat.reduceLT, Nat.reduceLeDiff, Nat.reduceAdd, Nat.reduceSub, Nat.reduceMul, Nat.reduceBEq, Int.reduceLT, Int.reduceLE, Int.reduceToNat, Int.reduceNeg, Int.reducePow, Int.reduceAdd, Int.reduceMul, Int.reduceSub, ↓Int.reduceNatCast', call_ssane]
  refine ifD_split (fun h1 => ?_) (fun h1 => ?_)
  · simp (disch := first | omega | decide) only [push_cast, ↓wF_free, ↓reduceIte, Nat.reduceEqDiff, Nat.reduceLT, Nat.reduceLeDiff, Nat.reduceAdd, Nat.reduceSub, Nat.reduceMul, Nat.reduceBEq, Int.reduceLT, Int.reduceLE, Int.reduceToNat, Int.reduceNeg, Int.reducePow, Int.reduceAdd, Int.reduceMul, Int.reduceSub, ↓Int.reduceNatCast', h1]
  simp (disch := first | omega | decide) only [push_cast, ↓wF_free, ↓reduceIte, Nat.reduceEqDiff, Nat.reduceLT, Nat.reduceLeDiff, Nat.reduceAdd, Nat.reduceSub, Nat.reduceMul, Nat.reduceBEq, Int.reduceLT, Int.reduceLE, Int.reduceToNat, Int.reduceNeg, Int.reducePow, Int.reduceAdd, Int.reduceMul, Int.reduceSub, ↓Int.reduceNatCast', h1]
  refine ifD_split (fun h2 => ?_) (fun h2 => ?_)
  · simp (disch := first | omega | decide) only [push_cast, ↓wF_free, ↓reduceIte, Nat.reduceEqDiff, Nat.reduceLT, Nat.reduceLeDiff, Nat.reduceAdd, Nat.reduceSub, Nat.reduceMul, Nat.reduceBEq, Int.reduceLT, Int.reduceLE, Int.reduceToNat, Int.reduceNeg, Int.reducePow, Int.reduceAdd, Int.reduceMul, Int.reduceSub, ↓Int.reduceNatCast', h1, h2]
  simp (disch := first | omega | decide) only [push_cast, ↓wF_free, ↓reduceIte, Nat.reduceEqDiff, Nat.reduceLT, Nat.reduceLeDiff, Nat.reduceAdd, Nat.reduceSub, Nat.reduceMul, Nat.reduceBEq, Int.reduceLT, Int.reduceLE, Int.reduceToNat, Int.reduceNeg, Int.reducePow, Int.reduceAdd, Int.reduceMul, Int.reduceSub, ↓Int.reduceNatCast', h1, h2]
  refine ifD_split (fun h3 => ?_) (fun h3 => ?_)
  · simp (disch := first | omega | decide) only [push_cast, ↓wF_free, ↓reduceIte, Nat.reduceEqDiff, Nat.reduceLT, Nat.reduceLeDiff, Nat.reduceAdd, Nat.reduceSub, Nat.reduceMul, Nat.reduceBEq, Int.reduceLT, Int.reduceLE, Int.reduceToNat, Int.reduceNeg, Int.reducePow, Int.reduceAdd, Int.reduceMul, Int.reduceSub, ↓Int.reduceNatCast', h1, h2, h3]
  obtain ⟨s0, s1, s2⟩ := sec_ok seed (by omega) (by omega)
  have c1 := call_sSecret seed
  rw [s0] at c1
  generalize secL seed = x at *
  have c2 := call_sPublic x ⟨by omega, by omega⟩
  rw [show pubE x = 0 from if_pos ⟨s1, s2⟩, show pubL x = powZ 4 x from if_pos ⟨s1, s2⟩] at c2
  have w := powZ_range 4 x
  obtain ⟨c, s, g1, g2, g3, g4, g5, g6, g7, g8⟩ := sig_ok m s1 s2 (by omega)
  have c3 := call_sSign x m ⟨by omega, by omega⟩
  rw [g1, g2, g3] at c3
  have hv := pub_valid s1 s2
  have c4 := call_sValid (powZ 4 x) ⟨by omega, by omega⟩
  have c5 := call_sVerify (powZ 4 x) m (c, s) ⟨by omega, by omega, by dsimp only; omega, by dsimp only; omega, by dsimp only; omega, by dsimp only; omega⟩
  dsimp only at c5
  rw [verL_ok m (by omega) hv g5 g7, decide_eq_true g8.symm] at c5
  rw [hv] at c4
  have cb : boxD (.agg [.int .u64 0, .int .u64 0]) = some [.int .u64 0, .int .u64 0] := rfl
  simp (disch := first | omega | decide) only [push_cast, ↓wF_free, ↓reduceIte, Nat.reduceEqDiff, Nat.reduceLT, Nat.reduceLeDiff, Nat.reduceAdd, Nat.reduceSub, Nat.reduceMul, Nat.reduceBEq, Int.reduceLT, Int.reduceLE, Int.reduceToNat, Int.reduceNeg, Int.reducePow, Int.reduceAdd, Int.reduceMul, Int.reduceSub, ↓Int.reduceNatCast', h1, h2, h3, c1, c2, c3, c4, c5, cb, g5, g7, stO_2, ldO_2, ldO_one, ldO_succ]
theorem law_SignVerifies : Contract Tryd.prog GG 10 (lawSp [.slc (.int .u8), .slc (.int .u8)]) := by
  refine lawC tr_wagonpoollaw03_SignVerifies (T := tb [(11, sp_ssane), (12, sp_sSecret), (13, sp_sPublic), (14, sp_sSign), (21, sp_sValid), (20, sp_sVerify)] []) (tb_ok (all_cons c_ssane (all_cons c_sSecret (all_cons c_sPublic (all_cons c_sSign (all_cons c_sValid (all_cons c_sVerify all_nil)))))) all_nil) ?_
  intro xs h
  obtain ⟨x0, xs, rfl, h0, h⟩ := hasAll_cons h
  obtain ⟨x1, xs, rfl, h1, h⟩ := hasAll_cons h
  obtain rfl := hasAll_nil h
  obtain ⟨y0, rfl, ya0⟩ := has_bytes h0
  obtain ⟨y1, rfl, ya1⟩ := has_bytes h1
  exact lw_SignVerifies y0 ya0 y1 ya1
end Go.Proofs.YtgnekjlciiefbaaDoor.PI
