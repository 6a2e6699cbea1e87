/-
  math/bits: Mul64 and Div64.
  Conditions: none; these are lemmas.
-/
import Derived.Test.YtgnekjlciiefbaaDoorSgL
import Derived.Test.YtgnekjlciiefbaaDoorSgA
namespace Go.Proofs.YtgnekjlciiefbaaDoor.PI
open Go
set_option linter.unusedSimpArgs false
set_option linter.unusedVariables false

theorem half_mul {a b : Int} (ha : 0 ≤ a) (hb : 0 ≤ b) (ha2 : a ≤ 4294967295) (hb2 : b ≤ 4294967295) : 0 ≤ a * b ∧ a * b ≤ 18446744065119617025 := by
  refine ⟨Int.mul_nonneg ha hb, ?_⟩
  have h1 : a * b ≤ 4294967295 * b := Int.mul_le_mul_of_nonneg_right ha2 hb
  omega
theorem mul4 (a b c d : Int) : a * b * (c * d) = a * c * (b * d) := by rw [Int.mul_assoc, Int.mul_left_comm b, ← Int.mul_assoc]
theorem mul_split (x y : Int) : x * y = (x / 4294967296) * (y / 4294967296) * 18446744073709551616 + ((x / 4294967296) * (y % 4294967296) + (x % 4294967296) * (y / 4294967296)) * 4294967296 + (x % 4294967296) * (y % 4294967296) := by
  have e1 : x = (x / 4294967296) * 4294967296 + x % 4294967296 := (Int.ediv_mul_add_emod x 4294967296).symm
  have e2 : y = (y / 4294967296) * 4294967296 + y % 4294967296 := (Int.ediv_mul_add_emod y 4294967296).symm
  conv => lhs; rw [e1, e2]
  rw [Int.add_mul, Int.mul_add, Int.mul_add, mul4, Int.mul_right_comm (x / 4294967296) 4294967296, ← Int.mul_assoc (x % 4294967296), Int.add_mul]
  omega

noncomputable def sp_bLz : List D → Option D := spOf (α := Int) (fun a => [.int .u64 a]) (fun a => 0 ≤ a ∧ a < 18446744073709551616) (fun a => .int .i64 (64 - (bitlen a.toNat : Int)))
theorem call_bLz (x : Int) (h : 0 ≤ x ∧ x < 18446744073709551616) : sp_bLz [.int .u64 x] = some (.int .i64 (64 - (bitlen x.toNat : Int))) :=
  spOf_enc (fun a b h => by simp only [List.cons.injEq, D.slc.injEq, D.int.injEq, D.bool.injEq, D.str.injEq, D.agg.injEq, digs_iff, dig_iff, digC_iff, bytes_iff, byte_iff, words_iff, word_iff, Sha.St8.list_iff, bsl_iff, true_and, and_true] at h; simp [h, Prod.ext_iff]) (x) h
set_option maxHeartbeats 4000000 in
set_option maxRecDepth 20000 in
theorem w_bLz (x : Int) (h : 0 ≤ x ∧ x < 18446744073709551616) : @wW GG (tb [(32, sp_bLen64)] []) F_math_bits_LeadingZeros64.code (argF [.int .u64 x]) [] ⟨retQ F_math_bits_LeadingZeros64.res (.int .i64 (64 - (bitlen x.toNat : Int)))⟩ := by
  have hb : bitlen x.toNat ≤ 64 := bitlen_lt (k := 64) (by show x.toNat < 18446744073709551616; omega)
  unfold F_math_bits_LeadingZeros64
  simp (disch := omega) only [push_cast, ↓wF_free, ↓reduceIte, Nat.reduceEqDiff, Nat.reduceLT, Nat.reduceLeDiff, Nat.reduceAdd, Nat.reduceSub, Nat.reduceMul, Nat.reduceBEq, Int.reduceLT, Int.reduceLE, Int.reduceToNat, Int.reduceNeg, Int.reducePow, Int.reduceAdd, Int.reduceMul, Int.reduceSub, ↓Int.reduceNatCast', call_bLen64, sub_i]
theorem c_bLz : Contract Tryd.prog GG 45 sp_bLz :=
  contract_of tr_math_bits_LeadingZeros64 (tb_ok (all_cons c_bLen64 all_nil) all_nil) (fun a h => w_bLz a h)

noncomputable def sp_bMul : List D → Option D := spOf (α := Int × Int) (fun a => [.int .u64 a.1, .int .u64 a.2]) (fun a => 0 ≤ a.1 ∧ a.1 < 18446744073709551616 ∧ 0 ≤ a.2 ∧ a.2 < 18446744073709551616) (fun a => .tup [.int .u64 (a.1 * a.2 / 18446744073709551616), .int .u64 (a.1 * a.2 % 18446744073709551616)])
theorem call_bMul (x : Int) (y : Int) (h : 0 ≤ x ∧ x < 18446744073709551616 ∧ 0 ≤ y ∧ y < 18446744073709551616) : sp_bMul [.int .u64 x, .int .u64 y] = some (.tup [.int .u64 (x * y / 18446744073709551616), .int .u64 (x * y % 18446744073709551616)]) :=
  spOf_enc (fun ⟨a0, a1⟩ ⟨b0, b1⟩ h => by simp only [List.cons.injEq, D.slc.injEq, D.int.injEq, D.bool.injEq, D.str.injEq, D.agg.injEq, digs_iff, dig_iff, digC_iff, bytes_iff, byte_iff, words_iff, word_iff, Sha.St8.list_iff, bsl_iff, true_and, and_true] at h; simp [h, Prod.ext_iff]) (x, y) h
set_option maxHeartbeats 4000000 in
set_option maxRecDepth 20000 in
theorem w_bMul (x : Int) (y : Int) (h : 0 ≤ x ∧ x < 18446744073709551616 ∧ 0 ≤ y ∧ y < 18446744073709551616) : @wW GG (tb [] []) F_math_bits_Mul64.code (argF [.int .u64 x, .int .u64 y]) [] ⟨retQ F_math_bits_Mul64.res (.tup [.int .u64 (x * y / 18446744073709551616), .int .u64 (x * y % 18446744073709551616)])⟩ := by
  obtain ⟨hx0, hx1, hy0, hy1⟩ := h
  have e := mul_split x y
  have ha := half_mul (a := x / 4294967296) (b := y / 4294967296) (by omega) (by omega) (by omega) (by omega)
  have hb := half_mul (a := x / 4294967296) (b := y % 4294967296) (by omega) (by omega) (by omega) (by omega)
  have hc := half_mul (a := x % 4294967296) (b := y / 4294967296) (by omega) (by omega) (by omega) (by omega)
  have hd := half_mul (a := x % 4294967296) (b := y % 4294967296) (by omega) (by omega) (by omega) (by omega)
  unfold F_math_bits_Mul64
  simp (disch := omega) only [push_cast, ↓wF_free, ↓reduceIte, Nat.reduceEqDiff, Nat.reduceLT, Nat.reduceLeDiff, Nat.reduceAdd, Nat.reduceSub, Nat.reduceMul, Nat.reduceBEq, Int.reduceLT, Int.reduceLE, Int.reduceToNat, Int.reduceNeg, Int.reducePow, Int.reduceAdd, Int.reduceMul, Int.reduceSub, ↓Int.reduceNatCast', and_mask, shr_u, mul_u, add_u, mul_uw x y]
  rw [e]
  generalize (x / 4294967296) * (y / 4294967296) = a at *
  generalize (x / 4294967296) * (y % 4294967296) = b at *
  generalize (x % 4294967296) * (y / 4294967296) = c at *
  generalize (x % 4294967296) * (y % 4294967296) = d at *
  have e9 : a + (b + d / 4294967296) / 4294967296 + ((b + d / 4294967296) % 4294967296 + c) / 4294967296 = (a * 18446744073709551616 + (b + c) * 4294967296 + d) / 18446744073709551616 := by omega
  rw [e9]
theorem c_bMul : Contract Tryd.prog GG 40 sp_bMul :=
  contract_of tr_math_bits_Mul64 (tb_ok all_nil all_nil) (fun a h => w_bMul a.1 a.2 h)

theorem dv_norm {hi lo y t r : Int} (h0 : 0 ≤ hi) (h1 : hi < y) (h2 : 0 ≤ lo) (h3 : lo < 18446744073709551616) (ht : 0 < t) (hr : 0 < r) (htr : t * r = 18446744073709551616) (hy : y * t < 18446744073709551616) :
    0 ≤ hi * t ∧ hi * t < 18446744073709551616 ∧ 0 ≤ lo / r ∧ lo / r < t ∧ hi * t + lo / r < y * t ∧ (hi * 18446744073709551616 + lo) * t = (hi * t + lo / r) * 18446744073709551616 + lo * t % 18446744073709551616 := by
  have a1 : 0 ≤ hi * t := Int.mul_nonneg h0 (by omega)
  have a2 : (hi + 1) * t ≤ y * t := Int.mul_le_mul_of_nonneg_right h1 (by omega)
  rw [Int.add_mul, Int.one_mul] at a2
  have a3 : 0 ≤ lo / r := Int.ediv_nonneg h2 (by omega)
  have a4 : lo / r < t := by rw [Int.ediv_lt_iff_lt_mul hr, htr]; exact h3
  refine ⟨a1, by omega, a3, a4, by omega, ?_⟩
  have e : lo * t / 18446744073709551616 = lo / r := by
    rw [← htr, Int.mul_comm t r]
    exact Int.mul_ediv_mul_of_pos_left _ _ ht
  have e2 := Int.ediv_mul_add_emod (lo * t) 18446744073709551616
  rw [e] at e2
  rw [Int.add_mul, Int.add_mul, Int.mul_right_comm hi]
  omega
theorem dv_fit {u y1 : Int} (hy : 0 < y1) (hy2 : y1 < 4294967296) (h0 : 0 ≤ u) (h1 : u < 18446744073709551616) :
    pbin .quo (.int .u64 u) (.int .u64 y1) = some (.int .u64 (u / y1)) ∧ pbin .mul (.int .u64 (u / y1)) (.int .u64 y1) = some (.int .u64 (u / y1 * y1)) ∧ pbin .sub (.int .u64 u) (.int .u64 (u / y1 * y1)) = some (.int .u64 (u % y1)) := by
  have e := Int.ediv_mul_add_emod u y1
  have h3 : 0 ≤ u % y1 := Int.emod_nonneg _ (by omega)
  have h4 : u % y1 < y1 := Int.emod_lt_of_pos _ hy
  have h5 : 0 ≤ u / y1 := Int.ediv_nonneg h0 (by omega)
  have h6 : 0 ≤ u / y1 * y1 := Int.mul_nonneg h5 (by omega)
  refine ⟨quo_u hy h0 h1, mul_u h6 (by omega), ?_⟩
  rw [sub_u (by omega) (by omega)]
  congr 2
  omega
theorem dv_shift {y : Int} (h0 : 0 < y) (h1 : y < 18446744073709551616) : ∃ s : Nat, s + bitlen y.toNat = 64 ∧ 0 < bitlen y.toNat ∧ 9223372036854775808 ≤ y * 2 ^ s ∧ y * 2 ^ s < 18446744073709551616 ∧ (2 : Int) ^ s * 2 ^ (64 - s) = 18446744073709551616 := by
  have hb : bitlen y.toNat ≤ 64 := bitlen_lt (k := 64) (by show y.toNat < 18446744073709551616; omega)
  have hb1 := bitlen_ge (n := y.toNat) (k := 0) (by show 1 ≤ y.toNat; omega)
  have hb2 := bitlen_spec (n := y.toNat)
  have hb3 : 2 ^ (bitlen y.toNat - 1) ≤ y.toNat := by
    rcases Nat.lt_or_ge y.toNat (2 ^ (bitlen y.toNat - 1)) with h | h
    · have := bitlen_lt h; omega
    · exact h
  generalize bitlen y.toNat = k at *
  obtain ⟨n, rfl⟩ := Int.eq_ofNat_of_zero_le (Int.le_of_lt h0)
  rw [Int.toNat_natCast] at *
  refine ⟨64 - k, by omega, by omega, ?_, ?_, ?_⟩
  · have h : 2 ^ (k - 1) * 2 ^ (64 - k) ≤ n * 2 ^ (64 - k) := Nat.mul_le_mul_right _ hb3
    rw [← Nat.pow_add, show k - 1 + (64 - k) = 63 by omega] at h
    have e : ((n * 2 ^ (64 - k) : Nat) : Int) = (n : Int) * 2 ^ (64 - k) := by rw [Int.natCast_mul, Int.natCast_pow]; rfl
    rw [← e]
    have h' : 9223372036854775808 ≤ n * 2 ^ (64 - k) := h
    omega
  · have h : n * 2 ^ (64 - k) < 2 ^ k * 2 ^ (64 - k) := Nat.mul_lt_mul_of_pos_right hb2 (Nat.two_pow_pos _)
    rw [← Nat.pow_add, show k + (64 - k) = 64 by omega] at h
    have e : ((n * 2 ^ (64 - k) : Nat) : Int) = (n : Int) * 2 ^ (64 - k) := by rw [Int.natCast_mul, Int.natCast_pow]; rfl
    rw [← e]
    have h' : n * 2 ^ (64 - k) < 18446744073709551616 := h
    omega
  · rw [← Int.pow_add, show 64 - k + (64 - (64 - k)) = 64 by omega]; rfl

noncomputable def sp_bDiv : List D → Option D := spOf (α := Int × Int × Int) (fun a => [.int .u64 a.1, .int .u64 a.2.1, .int .u64 a.2.2]) (fun a => 0 ≤ a.1 ∧ a.1 < a.2.2 ∧ 0 ≤ a.2.1 ∧ a.2.1 < 18446744073709551616 ∧ a.2.2 < 18446744073709551616) (fun a => .tup [.int .u64 ((a.1 * 18446744073709551616 + a.2.1) / a.2.2), .int .u64 ((a.1 * 18446744073709551616 + a.2.1) % a.2.2)])
theorem call_bDiv (hi : Int) (lo : Int) (y : Int) (h : 0 ≤ hi ∧ hi < y ∧ 0 ≤ lo ∧ lo < 18446744073709551616 ∧ y < 18446744073709551616) : sp_bDiv [.int .u64 hi, .int .u64 lo, .int .u64 y] = some (.tup [.int .u64 ((hi * 18446744073709551616 + lo) / y), .int .u64 ((hi * 18446744073709551616 + lo) % y)]) :=
  spOf_enc (fun ⟨a0, a1, a2⟩ ⟨b0, b1, b2⟩ h => by simp only [List.cons.injEq, D.slc.injEq, D.int.injEq, D.bool.injEq, D.str.injEq, D.agg.injEq, digs_iff, dig_iff, digC_iff, bytes_iff, byte_iff, words_iff, word_iff, Sha.St8.list_iff, bsl_iff, true_and, and_true] at h; simp [h, Prod.ext_iff]) (hi, lo, y) h
set_option maxHeartbeats 4000000 in
set_option maxRecDepth 20000 in
theorem w_bDiv (hi : Int) (lo : Int) (y : Int) (h : 0 ≤ hi ∧ hi < y ∧ 0 ≤ lo ∧ lo < 18446744073709551616 ∧ y < 18446744073709551616) : @wW GG (tb [(45, sp_bLz)] []) F_math_bits_Div64.code (argF [.int .u64 hi, .int .u64 lo, .int .u64 y]) [] ⟨retQ F_math_bits_Div64.res (.tup [.int .u64 ((hi * 18446744073709551616 + lo) / y), .int .u64 ((hi * 18446744073709551616 + lo) % y)])⟩ := by
  obtain ⟨hh0, hh1, hl0, hl1, hy1⟩ := h
  unfold F_math_bits_Div64
  simp (disch := omega) only [push_cast, ↓wF_free, ↓reduceIte, Nat.reduceEqDiff, Nat.reduceLT, Nat.reduceLeDiff, Nat.reduceAdd, Nat.reduceSub, Nat.reduceMul, Nat.reduceBEq, Int.reduceLT, Int.reduceLE, Int.reduceToNat, Int.reduceNeg, Int.reducePow, Int.reduceAdd, Int.reduceMul, Int.reduceSub, ↓Int.reduceNatCast']
  refine ifD_split (fun h1 => ?_) (fun h1 => ?_)
  · omega
  · simp (disch := omega) only [push_cast, ↓wF_free, ↓reduceIte, Nat.reduceEqDiff, Nat.reduceLT, Nat.reduceLeDiff, Nat.reduceAdd, Nat.reduceSub, Nat.reduceMul, Nat.reduceBEq, Int.reduceLT, Int.reduceLE, Int.reduceToNat, Int.reduceNeg, Int.reducePow, Int.reduceAdd, Int.reduceMul, Int.reduceSub, ↓Int.reduceNatCast', h1]
    refine ifD_split (fun h2 => ?_) (fun h2 => ?_)
    · omega
    · simp (disch := omega) only [push_cast, ↓wF_free, ↓reduceIte, Nat.reduceEqDiff, Nat.reduceLT, Nat.reduceLeDiff, Nat.reduceAdd, Nat.reduceSub, Nat.reduceMul, Nat.reduceBEq, Int.reduceLT, Int.reduceLE, Int.reduceToNat, Int.reduceNeg, Int.reducePow, Int.reduceAdd, Int.reduceMul, Int.reduceSub, ↓Int.reduceNatCast', h1, h2]
      refine ifD_split (fun h3 => ?_) (fun h3 => ?_)
      · simp (disch := omega) only [push_cast, ↓wF_free, ↓reduceIte, Nat.reduceEqDiff, Nat.reduceLT, Nat.reduceLeDiff, Nat.reduceAdd, Nat.reduceSub, Nat.reduceMul, Nat.reduceBEq, Int.reduceLT, Int.reduceLE, Int.reduceToNat, Int.reduceNeg, Int.reducePow, Int.reduceAdd, Int.reduceMul, Int.reduceSub, ↓Int.reduceNatCast', h1, h2, h3, quo_u, rem_u]
        rw [Int.zero_add]
      · obtain ⟨s, hs1, hs2, hY0, hY1, htr⟩ := dv_shift (y := y) (by omega) hy1
        have ht : (0 : Int) < 2 ^ s := Int.pow_pos (by decide)
        have hr : (0 : Int) < 2 ^ (64 - s) := Int.pow_pos (by decide)
        obtain ⟨n1, n2, n3, n4, n5, n6⟩ := dv_norm hh0 hh1 hl0 hl1 ht hr htr hY1
        have cz := call_bLz y ⟨by omega, hy1⟩
        rw [show 64 - (bitlen y.toNat : Int) = (s : Int) by omega] at cz
        have e64 : (64 - (s : Int)).toNat = 64 - s := by omega
        have eY : y * 2 ^ s % 18446744073709551616 = y * 2 ^ s := Int.emod_eq_of_lt (by omega) hY1
        have eH : hi * 2 ^ s % 18446744073709551616 = hi * 2 ^ s := Int.emod_eq_of_lt n1 n2
        have hu1 : hi * 2 ^ s + lo / 2 ^ (64 - s) < 18446744073709551616 := by omega
        have cor := or_disj (a := hi) (b := lo / 2 ^ (64 - s)) s hh0 n2 n3 n4 hu1
        have kN := kn_norm (hi * 18446744073709551616 + lo) y s
        rw [n6] at kN
        simp (disch := omega) only [push_cast, ↓wF_free, ↓reduceIte, Nat.reduceEqDiff, Nat.reduceLT, Nat.reduceLeDiff, Nat.reduceAdd, Nat.reduceSub, Nat.reduceMul, Nat.reduceBEq, Int.reduceLT, Int.reduceLE, Int.reduceToNat, Int.reduceNeg, Int.reducePow, Int.reduceAdd, Int.reduceMul, Int.reduceSub, ↓Int.reduceNatCast', h1, h2, h3, cz, conv_iu, shl_u, eY, eH, sub_u, shr_u, e64, cor, and_mask]
        have hL0 : 0 ≤ lo * 2 ^ s % 18446744073709551616 := Int.emod_nonneg _ (by decide)
        have hL1 : lo * 2 ^ s % 18446744073709551616 < 18446744073709551616 := Int.emod_lt_of_pos _ (by decide)
        have hu0 : 0 ≤ hi * 2 ^ s + lo / 2 ^ (64 - s) := by omega
        clear cz eY eH cor n6 e64
        generalize hi * 2 ^ s + lo / 2 ^ (64 - s) = u at *
        generalize lo * 2 ^ s % 18446744073709551616 = L at *
        generalize hYe : y * 2 ^ s = Y at *
        have hyy1 : 2147483648 ≤ Y / 4294967296 := by omega
        have hyy2 : Y / 4294967296 < 4294967296 := by omega
        have hyy3 : 0 ≤ Y % 4294967296 ∧ Y % 4294967296 < 4294967296 := by omega
        have eYd : Y / 4294967296 * 4294967296 + Y % 4294967296 = Y := by omega
        have hld1 : 0 ≤ L / 4294967296 ∧ L / 4294967296 < 4294967296 := by omega
        have hld0 : 0 ≤ L % 4294967296 ∧ L % 4294967296 < 4294967296 := by omega
        have eLd : L / 4294967296 * 4294967296 + L % 4294967296 = L := by omega
        generalize Y / 4294967296 = y1 at *
        generalize Y % 4294967296 = y0 at *
        generalize L / 4294967296 = d1 at *
        generalize L % 4294967296 = d0 at *
        have hYp : 0 < Y := by omega
        have hub0 : 0 ≤ u := hu0
        have hub1 : u < Y := n5
        have kdiv := kn_div (u * 4294967296 + d1) d0 Y hYp
        rw [show (u * 4294967296 + d1) * 4294967296 + d0 = u * 18446744073709551616 + L by omega] at kdiv
        have ka := kn_start (u := u) (y1 := y1) (y0 := y0) (d := d1) hyy1 hyy3.2 hyy3.1 hld1.1 hld1.2 hub0
        have kb := kn_bound (u := u) (y1 := y1) (y0 := y0) (q := u / y1) (rhat := u % y1) hyy1 hyy3.2 ka.2.2.1 (by rw [eYd]; exact hub1) ka.2.1
        have kc := kn_lt (u := u) (d := d1) (y1 := y1) (y0 := y0) (by rw [eYd]; exact hYp) hld1.2 (by rw [eYd]; exact hub1)
        have kt1 := fun (q rh : Int) (hq : q * y1 + rh = u) => kn_test (u := u) (d := d1) (y1 := y1) (y0 := y0) (q := q) (rhat := rh) (by rw [eYd]; exact hYp) hld1.2 (by rw [eYd]; exact hub1) hq
        have ks1 := fun (q rh : Int) (hq : q * y1 + rh = u) (hb : q ≤ 4294967297) (hr : 4294967296 ≤ rh) => kn_stop (u := u) (d := d1) (y1 := y1) (y0 := y0) (q := q) (rhat := rh) (by rw [eYd]; exact hYp) hyy3.2 hyy3.1 hld1.1 hq hb hr
        rw [eYd] at ka kc kt1 ks1
        have eR1 := Int.ediv_mul_add_emod (u * 4294967296 + d1) Y
        have gR1a : 0 ≤ (u * 4294967296 + d1) % Y := Int.emod_nonneg _ (by omega)
        have gR1b : (u * 4294967296 + d1) % Y < Y := Int.emod_lt_of_pos _ hYp
        generalize hQ1 : (u * 4294967296 + d1) / Y = Q1 at *
        generalize hR1 : (u * 4294967296 + d1) % Y = R1 at *
        have st1 : u / y1 * y1 + u % y1 = u ∧ Q1 ≤ u / y1 ∧ 0 ≤ u % y1 ∧ u % y1 < 4294967296 ∧ u / y1 ≤ 4294967298 := ⟨ka.2.1, ka.1, ka.2.2.1, Int.lt_trans ka.2.2.2.1 hyy2, kb⟩
        have bQ1 : 0 ≤ Q1 ∧ Q1 < 4294967296 := ⟨ka.2.2.2.2.2, kc⟩
        clear ka kb kc
        have hrb0 : 0 ≤ R1 := gR1a
        have hrb1 : R1 < Y := gR1b
        have ja := kn_start (u := R1) (y1 := y1) (y0 := y0) (d := d0) hyy1 hyy3.2 hyy3.1 hld0.1 hld0.2 hrb0
        have jb := kn_bound (u := R1) (y1 := y1) (y0 := y0) (q := R1 / y1) (rhat := R1 % y1) hyy1 hyy3.2 ja.2.2.1 (by rw [eYd]; exact hrb1) ja.2.1
        have jc := kn_lt (u := R1) (d := d0) (y1 := y1) (y0 := y0) (by rw [eYd]; exact hYp) hld0.2 (by rw [eYd]; exact hrb1)
        have kt2 := fun (q rh : Int) (hq : q * y1 + rh = R1) => kn_test (u := R1) (d := d0) (y1 := y1) (y0 := y0) (q := q) (rhat := rh) (by rw [eYd]; exact hYp) hld0.2 (by rw [eYd]; exact hrb1) hq
        have ks2 := fun (q rh : Int) (hq : q * y1 + rh = R1) (hb : q ≤ 4294967297) (hr : 4294967296 ≤ rh) => kn_stop (u := R1) (d := d0) (y1 := y1) (y0 := y0) (q := q) (rhat := rh) (by rw [eYd]; exact hYp) hyy3.2 hyy3.1 hld0.1 hq hb hr
        rw [eYd] at ja jc kt2 ks2
        have eR2 := Int.ediv_mul_add_emod (R1 * 4294967296 + d0) Y
        have gR2a : 0 ≤ (R1 * 4294967296 + d0) % Y := Int.emod_nonneg _ (by omega)
        have gR2b : (R1 * 4294967296 + d0) % Y < Y := Int.emod_lt_of_pos _ hYp
        generalize hQ2 : (R1 * 4294967296 + d0) / Y = Q2 at *
        generalize hR2 : (R1 * 4294967296 + d0) % Y = R2 at *
        have st2 : R1 / y1 * y1 + R1 % y1 = R1 ∧ Q2 ≤ R1 / y1 ∧ 0 ≤ R1 % y1 ∧ R1 % y1 < 4294967296 ∧ R1 / y1 ≤ 4294967298 := ⟨ja.2.1, ja.1, ja.2.2.1, Int.lt_trans ja.2.2.2.1 hyy2, jb⟩
        have bQ2 : 0 ≤ Q2 ∧ Q2 < 4294967296 := ⟨ja.2.2.2.2.2, jc⟩
        clear ja jb jc
        have fin : some (D.tup [.int .u64 (Q1 * 4294967296 + Q2), .int .u64 (R2 / 2 ^ s)]) = some (D.tup [.int .u64 ((hi * 18446744073709551616 + lo) / y), .int .u64 ((hi * 18446744073709551616 + lo) % y)]) := by
          rw [← kN.1, ← kN.2, kdiv.1, kdiv.2]
        clear kN kdiv
        obtain ⟨f1, f2, f3⟩ := dv_fit (u := u) (y1 := y1) (by omega) hyy2 hub0 hu1
        obtain ⟨f4, f5, f6⟩ := dv_fit (u := R1) (y1 := y1) (by omega) hyy2 hrb0 (by omega)
        have cM1 := mul_uw u 4294967296
        have cA1 := add_uw (u * 4294967296 % 18446744073709551616) d1
        have cM2 := mul_uw Q1 Y
        have cS1 : pbin .sub (.int .u64 ((u * 4294967296 % 18446744073709551616 + d1) % 18446744073709551616)) (.int .u64 (Q1 * Y % 18446744073709551616)) = some (.int .u64 R1) := by
          rw [sub_uw]
          congr 2
          clear eR2 hQ1 hQ2 hR1 hR2
          omega
        have cM3 := mul_uw R1 4294967296
        have cA3 := add_uw (R1 * 4294967296 % 18446744073709551616) d0
        have cM4 := mul_uw Q2 Y
        have cS2 : pbin .sub (.int .u64 ((R1 * 4294967296 % 18446744073709551616 + d0) % 18446744073709551616)) (.int .u64 (Q2 * Y % 18446744073709551616)) = some (.int .u64 R2) := by
          rw [sub_uw]
          congr 2
          clear eR1 hQ1 hQ2 hR1 hR2
          omega
        clear hQ1 hQ2 hR1 hR2 eR1 eR2 eLd eYd
        simp (disch := omega) only [push_cast, ↓wF_free, ↓reduceIte, Nat.reduceEqDiff, Nat.reduceLT, Nat.reduceLeDiff, Nat.reduceAdd, Nat.reduceSub, Nat.reduceMul, Nat.reduceBEq, Int.reduceLT, Int.reduceLE, Int.reduceToNat, Int.reduceNeg, Int.reducePow, Int.reduceAdd, Int.reduceMul, Int.reduceSub, ↓Int.reduceNatCast', f1, f2, f3]
        refine W_while (fun c : Int × Int => [(2, .int .u64 Y), (8, .int .u64 (s : Int)), (9, .int .u64 y1), (10, .int .u64 y0), (11, .int .u64 u), (13, .int .u64 d1), (14, .int .u64 d0), (15, .int .u64 c.1), (16, .int .u64 c.2)]) (fun _ => []) (fun c => c.1 * y1 + c.2 = u ∧ Q1 ≤ c.1 ∧ 0 ≤ c.2 ∧ c.2 < 4294967296 ∧ c.1 ≤ 4294967298) (fun c => c.1.toNat) (u / y1, u % y1) (by simp only [push_cast, ↓wF_free, ↓reduceIte, Nat.reduceEqDiff, Nat.reduceLT, Nat.reduceLeDiff, Nat.reduceAdd, Nat.reduceSub, Nat.reduceMul, Nat.reduceBEq, Int.reduceLT, Int.reduceLE, Int.reduceToNat, Int.reduceNeg, Int.reducePow, Int.reduceAdd, Int.reduceMul, Int.reduceSub, ↓Int.reduceNatCast'] <;> rfl) st1 ?_
        rintro ⟨q, rh⟩ hP
        obtain ⟨p1, p2, p3, p4, p5⟩ := hP
        dsimp only at p1 p2 p3 p4 p5
        have t1 := (kt1 q rh p1).1
        have t2 := (kt1 q rh p1).2
        have kd := kn_dec p1
        have t3 := ks1 (q - 1) (rh + y1) kd
        unfold F_math_bits_Div64_L0
        clear p1
        simp (disch := omega) only [push_cast, ↓wF_free, ↓reduceIte, Nat.reduceEqDiff, Nat.reduceLT, Nat.reduceLeDiff, Nat.reduceAdd, Nat.reduceSub, Nat.reduceMul, Nat.reduceBEq, Int.reduceLT, Int.reduceLE, Int.reduceToNat, Int.reduceNeg, Int.reducePow, Int.reduceAdd, Int.reduceMul, Int.reduceSub, ↓Int.reduceNatCast']
        refine ifD_split (fun h4 => ?_) (fun h4 => ?_)
        · have hlt := t1 h4
          simp (disch := omega) only [push_cast, ↓wF_free, ↓reduceIte, Nat.reduceEqDiff, Nat.reduceLT, Nat.reduceLeDiff, Nat.reduceAdd, Nat.reduceSub, Nat.reduceMul, Nat.reduceBEq, Int.reduceLT, Int.reduceLE, Int.reduceToNat, Int.reduceNeg, Int.reducePow, Int.reduceAdd, Int.reduceMul, Int.reduceSub, ↓Int.reduceNatCast', h4, sub_u, add_u]
          refine ifD_split (fun h5 => ?_) (fun h5 => ?_)
          · have e : q - 1 = Q1 := Int.le_antisymm (t3 (by omega) h5) (by omega)
            rw [e]
            simp (disch := omega) only [push_cast, ↓wF_free, ↓reduceIte, Nat.reduceEqDiff, Nat.reduceLT, Nat.reduceLeDiff, Nat.reduceAdd, Nat.reduceSub, Nat.reduceMul, Nat.reduceBEq, Int.reduceLT, Int.reduceLE, Int.reduceToNat, Int.reduceNeg, Int.reducePow, Int.reduceAdd, Int.reduceMul, Int.reduceSub, ↓Int.reduceNatCast', cM1, cA1, cM2, cS1, f4, f5, f6]
            refine W_while (fun c : Int × Int => [(2, .int .u64 Y), (8, .int .u64 (s : Int)), (9, .int .u64 y1), (10, .int .u64 y0), (14, .int .u64 d0), (15, .int .u64 Q1), (16, .int .u64 c.2), (17, .int .u64 R1), (18, .int .u64 c.1)]) (fun _ => []) (fun c => c.1 * y1 + c.2 = R1 ∧ Q2 ≤ c.1 ∧ 0 ≤ c.2 ∧ c.2 < 4294967296 ∧ c.1 ≤ 4294967298) (fun c => c.1.toNat) (R1 / y1, R1 % y1) (by simp only [push_cast, ↓wF_free, ↓reduceIte, Nat.reduceEqDiff, Nat.reduceLT, Nat.reduceLeDiff, Nat.reduceAdd, Nat.reduceSub, Nat.reduceMul, Nat.reduceBEq, Int.reduceLT, Int.reduceLE, Int.reduceToNat, Int.reduceNeg, Int.reducePow, Int.reduceAdd, Int.reduceMul, Int.reduceSub, ↓Int.reduceNatCast'] <;> rfl) st2 ?_
            rintro ⟨q, rh⟩ hP
            obtain ⟨p1, p2, p3, p4, p5⟩ := hP
            dsimp only at p1 p2 p3 p4 p5
            have t1 := (kt2 q rh p1).1
            have t2 := (kt2 q rh p1).2
            have kd := kn_dec p1
            have t3 := ks2 (q - 1) (rh + y1) kd
            unfold F_math_bits_Div64_L1
            clear p1
            simp (disch := omega) only [push_cast, ↓wF_free, ↓reduceIte, Nat.reduceEqDiff, Nat.reduceLT, Nat.reduceLeDiff, Nat.reduceAdd, Nat.reduceSub, Nat.reduceMul, Nat.reduceBEq, Int.reduceLT, Int.reduceLE, Int.reduceToNat, Int.reduceNeg, Int.reducePow, Int.reduceAdd, Int.reduceMul, Int.reduceSub, ↓Int.reduceNatCast']
            refine ifD_split (fun h4 => ?_) (fun h4 => ?_)
            · have hlt := t1 h4
              simp (disch := omega) only [push_cast, ↓wF_free, ↓reduceIte, Nat.reduceEqDiff, Nat.reduceLT, Nat.reduceLeDiff, Nat.reduceAdd, Nat.reduceSub, Nat.reduceMul, Nat.reduceBEq, Int.reduceLT, Int.reduceLE, Int.reduceToNat, Int.reduceNeg, Int.reducePow, Int.reduceAdd, Int.reduceMul, Int.reduceSub, ↓Int.reduceNatCast', h4, sub_u, add_u]
              refine ifD_split (fun h5 => ?_) (fun h5 => ?_)
              · have e : q - 1 = Q2 := Int.le_antisymm (t3 (by omega) h5) (by omega)
                rw [e]
                simp (disch := omega) only [push_cast, ↓wF_free, ↓reduceIte, Nat.reduceEqDiff, Nat.reduceLT, Nat.reduceLeDiff, Nat.reduceAdd, Nat.reduceSub, Nat.reduceMul, Nat.reduceBEq, Int.reduceLT, Int.reduceLE, Int.reduceToNat, Int.reduceNeg, Int.reducePow, Int.reduceAdd, Int.reduceMul, Int.reduceSub, ↓Int.reduceNatCast', mul_u, add_u, shr_u, cM3, cA3, cM4, cS2]
                exact fin

              · have hn : (q - 1) * y1 + (rh + y1) = R1 ∧ Q2 ≤ q - 1 ∧ 0 ≤ rh + y1 ∧ rh + y1 < 4294967296 ∧ q - 1 ≤ 4294967298 := ⟨kd, by omega, by omega, by omega, by omega⟩
                simp (disch := omega) only [push_cast, ↓wF_free, ↓reduceIte, Nat.reduceEqDiff, Nat.reduceLT, Nat.reduceLeDiff, Nat.reduceAdd, Nat.reduceSub, Nat.reduceMul, Nat.reduceBEq, Int.reduceLT, Int.reduceLE, Int.reduceToNat, Int.reduceNeg, Int.reducePow, Int.reduceAdd, Int.reduceMul, Int.reduceSub, ↓Int.reduceNatCast', h5]
                refine next_head (q - 1, rh + y1) hn (by show (q - 1).toNat < q.toNat; omega) ?_
                simp only [push_cast, ↓wF_free, ↓reduceIte, Nat.reduceEqDiff, Nat.reduceLT, Nat.reduceLeDiff, Nat.reduceAdd, Nat.reduceSub, Nat.reduceMul, Nat.reduceBEq, Int.reduceLT, Int.reduceLE, Int.reduceToNat, Int.reduceNeg, Int.reducePow, Int.reduceAdd, Int.reduceMul, Int.reduceSub, ↓Int.reduceNatCast'] <;> rfl
            · have hqy : 0 ≤ q * y0 ∧ q * y0 ≤ 18446744065119617025 := half_mul (by omega) (by omega) (by omega) (by omega)
              simp (disch := omega) only [push_cast, ↓wF_free, ↓reduceIte, Nat.reduceEqDiff, Nat.reduceLT, Nat.reduceLeDiff, Nat.reduceAdd, Nat.reduceSub, Nat.reduceMul, Nat.reduceBEq, Int.reduceLT, Int.reduceLE, Int.reduceToNat, Int.reduceNeg, Int.reducePow, Int.reduceAdd, Int.reduceMul, Int.reduceSub, ↓Int.reduceNatCast', h4, mul_u, add_u]
              refine ifD_split (fun h6 => ?_) (fun h6 => ?_)
              · have hlt := t2.1 h6
                simp (disch := omega) only [push_cast, ↓wF_free, ↓reduceIte, Nat.reduceEqDiff, Nat.reduceLT, Nat.reduceLeDiff, Nat.reduceAdd, Nat.reduceSub, Nat.reduceMul, Nat.reduceBEq, Int.reduceLT, Int.reduceLE, Int.reduceToNat, Int.reduceNeg, Int.reducePow, Int.reduceAdd, Int.reduceMul, Int.reduceSub, ↓Int.reduceNatCast', h4, h6, sub_u, add_u]
                refine ifD_split (fun h5 => ?_) (fun h5 => ?_)
                · have e : q - 1 = Q2 := Int.le_antisymm (t3 (by omega) h5) (by omega)
                  rw [e]
                  simp (disch := omega) only [push_cast, ↓wF_free, ↓reduceIte, Nat.reduceEqDiff, Nat.reduceLT, Nat.reduceLeDiff, Nat.reduceAdd, Nat.reduceSub, Nat.reduceMul, Nat.reduceBEq, Int.reduceLT, Int.reduceLE, Int.reduceToNat, Int.reduceNeg, Int.reducePow, Int.reduceAdd, Int.reduceMul, Int.reduceSub, ↓Int.reduceNatCast', mul_u, add_u, shr_u, cM3, cA3, cM4, cS2]
                  exact fin

                · have hn : (q - 1) * y1 + (rh + y1) = R1 ∧ Q2 ≤ q - 1 ∧ 0 ≤ rh + y1 ∧ rh + y1 < 4294967296 ∧ q - 1 ≤ 4294967298 := ⟨kd, by omega, by omega, by omega, by omega⟩
                  simp (disch := omega) only [push_cast, ↓wF_free, ↓reduceIte, Nat.reduceEqDiff, Nat.reduceLT, Nat.reduceLeDiff, Nat.reduceAdd, Nat.reduceSub, Nat.reduceMul, Nat.reduceBEq, Int.reduceLT, Int.reduceLE, Int.reduceToNat, Int.reduceNeg, Int.reducePow, Int.reduceAdd, Int.reduceMul, Int.reduceSub, ↓Int.reduceNatCast', h5]
                  refine next_head (q - 1, rh + y1) hn (by show (q - 1).toNat < q.toNat; omega) ?_
                  simp only [push_cast, ↓wF_free, ↓reduceIte, Nat.reduceEqDiff, Nat.reduceLT, Nat.reduceLeDiff, Nat.reduceAdd, Nat.reduceSub, Nat.reduceMul, Nat.reduceBEq, Int.reduceLT, Int.reduceLE, Int.reduceToNat, Int.reduceNeg, Int.reducePow, Int.reduceAdd, Int.reduceMul, Int.reduceSub, ↓Int.reduceNatCast'] <;> rfl
              · have hge : ¬ Q2 < q := fun h => h6 (t2.2 h)
                have e : q = Q2 := by omega
                rw [e]
                simp (disch := omega) only [push_cast, ↓wF_free, ↓reduceIte, Nat.reduceEqDiff, Nat.reduceLT, Nat.reduceLeDiff, Nat.reduceAdd, Nat.reduceSub, Nat.reduceMul, Nat.reduceBEq, Int.reduceLT, Int.reduceLE, Int.reduceToNat, Int.reduceNeg, Int.reducePow, Int.reduceAdd, Int.reduceMul, Int.reduceSub, ↓Int.reduceNatCast', mul_u, add_u, shr_u, cM3, cA3, cM4, cS2]
                exact fin

          · have hn : (q - 1) * y1 + (rh + y1) = u ∧ Q1 ≤ q - 1 ∧ 0 ≤ rh + y1 ∧ rh + y1 < 4294967296 ∧ q - 1 ≤ 4294967298 := ⟨kd, by omega, by omega, by omega, by omega⟩
            simp (disch := omega) only [push_cast, ↓wF_free, ↓reduceIte, Nat.reduceEqDiff, Nat.reduceLT, Nat.reduceLeDiff, Nat.reduceAdd, Nat.reduceSub, Nat.reduceMul, Nat.reduceBEq, Int.reduceLT, Int.reduceLE, Int.reduceToNat, Int.reduceNeg, Int.reducePow, Int.reduceAdd, Int.reduceMul, Int.reduceSub, ↓Int.reduceNatCast', h5]
            refine next_head (q - 1, rh + y1) hn (by show (q - 1).toNat < q.toNat; omega) ?_
            simp only [push_cast, ↓wF_free, ↓reduceIte, Nat.reduceEqDiff, Nat.reduceLT, Nat.reduceLeDiff, Nat.reduceAdd, Nat.reduceSub, Nat.reduceMul, Nat.reduceBEq, Int.reduceLT, Int.reduceLE, Int.reduceToNat, Int.reduceNeg, Int.reducePow, Int.reduceAdd, Int.reduceMul, Int.reduceSub, ↓Int.reduceNatCast'] <;> rfl
        · have hqy : 0 ≤ q * y0 ∧ q * y0 ≤ 18446744065119617025 := half_mul (by omega) (by omega) (by omega) (by omega)
          simp (disch := omega) only [push_cast, ↓wF_free, ↓reduceIte, Nat.reduceEqDiff, Nat.reduceLT, Nat.reduceLeDiff, Nat.reduceAdd, Nat.reduceSub, Nat.reduceMul, Nat.reduceBEq, Int.reduceLT, Int.reduceLE, Int.reduceToNat, Int.reduceNeg, Int.reducePow, Int.reduceAdd, Int.reduceMul, Int.reduceSub, ↓Int.reduceNatCast', h4, mul_u, add_u]
          refine ifD_split (fun h6 => ?_) (fun h6 => ?_)
          · have hlt := t2.1 h6
            simp (disch := omega) only [push_cast, ↓wF_free, ↓reduceIte, Nat.reduceEqDiff, Nat.reduceLT, Nat.reduceLeDiff, Nat.reduceAdd, Nat.reduceSub, Nat.reduceMul, Nat.reduceBEq, Int.reduceLT, Int.reduceLE, Int.reduceToNat, Int.reduceNeg, Int.reducePow, Int.reduceAdd, Int.reduceMul, Int.reduceSub, ↓Int.reduceNatCast', h4, h6, sub_u, add_u]
            refine ifD_split (fun h5 => ?_) (fun h5 => ?_)
            · have e : q - 1 = Q1 := Int.le_antisymm (t3 (by omega) h5) (by omega)
              rw [e]
              simp (disch := omega) only [push_cast, ↓wF_free, ↓reduceIte, Nat.reduceEqDiff, Nat.reduceLT, Nat.reduceLeDiff, Nat.reduceAdd, Nat.reduceSub, Nat.reduceMul, Nat.reduceBEq, Int.reduceLT, Int.reduceLE, Int.reduceToNat, Int.reduceNeg, Int.reducePow, Int.reduceAdd, Int.reduceMul, Int.reduceSub, ↓Int.reduceNatCast', cM1, cA1, cM2, cS1, f4, f5, f6]
              refine W_while (fun c : Int × Int => [(2, .int .u64 Y), (8, .int .u64 (s : Int)), (9, .int .u64 y1), (10, .int .u64 y0), (14, .int .u64 d0), (15, .int .u64 Q1), (16, .int .u64 c.2), (17, .int .u64 R1), (18, .int .u64 c.1)]) (fun _ => []) (fun c => c.1 * y1 + c.2 = R1 ∧ Q2 ≤ c.1 ∧ 0 ≤ c.2 ∧ c.2 < 4294967296 ∧ c.1 ≤ 4294967298) (fun c => c.1.toNat) (R1 / y1, R1 % y1) (by simp only [push_cast, ↓wF_free, ↓reduceIte, Nat.reduceEqDiff, Nat.reduceLT, Nat.reduceLeDiff, Nat.reduceAdd, Nat.reduceSub, Nat.reduceMul, Nat.reduceBEq, Int.reduceLT, Int.reduceLE, Int.reduceToNat, Int.reduceNeg, Int.reducePow, Int.reduceAdd, Int.reduceMul, Int.reduceSub, ↓Int.reduceNatCast'] <;> rfl) st2 ?_
              rintro ⟨q, rh⟩ hP
              obtain ⟨p1, p2, p3, p4, p5⟩ := hP
              dsimp only at p1 p2 p3 p4 p5
              have t1 := (kt2 q rh p1).1
              have t2 := (kt2 q rh p1).2
              have kd := kn_dec p1
              have t3 := ks2 (q - 1) (rh + y1) kd
              unfold F_math_bits_Div64_L1
              clear p1
              simp (disch := omega) only [push_cast, ↓wF_free, ↓reduceIte, Nat.reduceEqDiff, Nat.reduceLT, Nat.reduceLeDiff, Nat.reduceAdd, Nat.reduceSub, Nat.reduceMul, Nat.reduceBEq, Int.reduceLT, Int.reduceLE, Int.reduceToNat, Int.reduceNeg, Int.reducePow, Int.reduceAdd, Int.reduceMul, Int.reduceSub, ↓Int.reduceNatCast']
              refine ifD_split (fun h4 => ?_) (fun h4 => ?_)
              · have hlt := t1 h4
                simp (disch := omega) only [push_cast, ↓wF_free, ↓reduceIte, Nat.reduceEqDiff, Nat.reduceLT, Nat.reduceLeDiff, Nat.reduceAdd, Nat.reduceSub, Nat.reduceMul, Nat.reduceBEq, Int.reduceLT, Int.reduceLE, Int.reduceToNat, Int.reduceNeg, Int.reducePow, Int.reduceAdd, Int.reduceMul, Int.reduceSub, ↓Int.reduceNatCast', h4, sub_u, add_u]
                refine ifD_split (fun h5 => ?_) (fun h5 => ?_)
                · have e : q - 1 = Q2 := Int.le_antisymm (t3 (by omega) h5) (by omega)
                  rw [e]
                  simp (disch := omega) only [push_cast, ↓wF_free, ↓reduceIte, Nat.reduceEqDiff, Nat.reduceLT, Nat.reduceLeDiff, Nat.reduceAdd, Nat.reduceSub, Nat.reduceMul, Nat.reduceBEq, Int.reduceLT, Int.reduceLE, Int.reduceToNat, Int.reduceNeg, Int.reducePow, Int.reduceAdd, Int.reduceMul, Int.reduceSub, ↓Int.reduceNatCast', mul_u, add_u, shr_u, cM3, cA3, cM4, cS2]
                  exact fin

                · have hn : (q - 1) * y1 + (rh + y1) = R1 ∧ Q2 ≤ q - 1 ∧ 0 ≤ rh + y1 ∧ rh + y1 < 4294967296 ∧ q - 1 ≤ 4294967298 := ⟨kd, by omega, by omega, by omega, by omega⟩
                  simp (disch := omega) only [push_cast, ↓wF_free, ↓reduceIte, Nat.reduceEqDiff, Nat.reduceLT, Nat.reduceLeDiff, Nat.reduceAdd, Nat.reduceSub, Nat.reduceMul, Nat.reduceBEq, Int.reduceLT, Int.reduceLE, Int.reduceToNat, Int.reduceNeg, Int.reducePow, Int.reduceAdd, Int.reduceMul, Int.reduceSub, ↓Int.reduceNatCast', h5]
                  refine next_head (q - 1, rh + y1) hn (by show (q - 1).toNat < q.toNat; omega) ?_
                  simp only [push_cast, ↓wF_free, ↓reduceIte, Nat.reduceEqDiff, Nat.reduceLT, Nat.reduceLeDiff, Nat.reduceAdd, Nat.reduceSub, Nat.reduceMul, Nat.reduceBEq, Int.reduceLT, Int.reduceLE, Int.reduceToNat, Int.reduceNeg, Int.reducePow, Int.reduceAdd, Int.reduceMul, Int.reduceSub, ↓Int.reduceNatCast'] <;> rfl
              · have hqy : 0 ≤ q * y0 ∧ q * y0 ≤ 18446744065119617025 := half_mul (by omega) (by omega) (by omega) (by omega)
                simp (disch := omega) only [push_cast, ↓wF_free, ↓reduceIte, Nat.reduceEqDiff, Nat.reduceLT, Nat.reduceLeDiff, Nat.reduceAdd, Nat.reduceSub, Nat.reduceMul, Nat.reduceBEq, Int.reduceLT, Int.reduceLE, Int.reduceToNat, Int.reduceNeg, Int.reducePow, Int.reduceAdd, Int.reduceMul, Int.reduceSub, ↓Int.reduceNatCast', h4, mul_u, add_u]
                refine ifD_split (fun h6 => ?_) (fun h6 => ?_)
                · have hlt := t2.1 h6
                  simp (disch := omega) only [push_cast, ↓wF_free, ↓reduceIte, Nat.reduceEqDiff, Nat.reduceLT, Nat.reduceLeDiff, Nat.reduceAdd, Nat.reduceSub, Nat.reduceMul, Nat.reduceBEq, Int.reduceLT, Int.reduceLE, Int.reduceToNat, Int.reduceNeg, Int.reducePow, Int.reduceAdd, Int.reduceMul, Int.reduceSub, ↓Int.reduceNatCast', h4, h6, sub_u, add_u]
                  refine ifD_split (fun h5 => ?_) (fun h5 => ?_)
                  · have e : q - 1 = Q2 := Int.le_antisymm (t3 (by omega) h5) (by omega)
                    rw [e]
                    simp (disch := omega) only [push_cast, ↓wF_free, ↓reduceIte, Nat.reduceEqDiff, Nat.reduceLT, Nat.reduceLeDiff, Nat.reduceAdd, Nat.reduceSub, Nat.reduceMul, Nat.reduceBEq, Int.reduceLT, Int.reduceLE, Int.reduceToNat, Int.reduceNeg, Int.reducePow, Int.reduceAdd, Int.reduceMul, Int.reduceSub, ↓Int.reduceNatCast', mul_u, add_u, shr_u, cM3, cA3, cM4, cS2]
                    exact fin

                  · have hn : (q - 1) * y1 + (rh + y1) = R1 ∧ Q2 ≤ q - 1 ∧ 0 ≤ rh + y1 ∧ rh + y1 < 4294967296 ∧ q - 1 ≤ 4294967298 := ⟨kd, by omega, by omega, by omega, by omega⟩
                    simp (disch := omega) only [push_cast, ↓wF_free, ↓reduceIte, Nat.reduceEqDiff, Nat.reduceLT, Nat.reduceLeDiff, Nat.reduceAdd, Nat.reduceSub, Nat.reduceMul, Nat.reduceBEq, Int.reduceLT, Int.reduceLE, Int.reduceToNat, Int.reduceNeg, Int.reducePow, Int.reduceAdd, Int.reduceMul, Int.reduceSub, ↓Int.reduceNatCast', h5]
                    refine next_head (q - 1, rh + y1) hn (by show (q - 1).toNat < q.toNat; omega) ?_
                    simp only [push_cast, ↓wF_free, ↓reduceIte, Nat.reduceEqDiff, Nat.reduceLT, Nat.reduceLeDiff, Nat.reduceAdd, Nat.reduceSub, Nat.reduceMul, Nat.reduceBEq, Int.reduceLT, Int.reduceLE, Int.reduceToNat, Int.reduceNeg, Int.reducePow, Int.reduceAdd, Int.reduceMul, Int.reduceSub, ↓Int.reduceNatCast'] <;> rfl
                · have hge : ¬ Q2 < q := fun h => h6 (t2.2 h)
                  have e : q = Q2 := by omega
                  rw [e]
                  simp (disch := omega) only [push_cast, ↓wF_free, ↓reduceIte, Nat.reduceEqDiff, Nat.reduceLT, Nat.reduceLeDiff, Nat.reduceAdd, Nat.reduceSub, Nat.reduceMul, Nat.reduceBEq, Int.reduceLT, Int.reduceLE, Int.reduceToNat, Int.reduceNeg, Int.reducePow, Int.reduceAdd, Int.reduceMul, Int.reduceSub, ↓Int.reduceNatCast', mul_u, add_u, shr_u, cM3, cA3, cM4, cS2]
                  exact fin

            · have hn : (q - 1) * y1 + (rh + y1) = u ∧ Q1 ≤ q - 1 ∧ 0 ≤ rh + y1 ∧ rh + y1 < 4294967296 ∧ q - 1 ≤ 4294967298 := ⟨kd, by omega, by omega, by omega, by omega⟩
              simp (disch := omega) only [push_cast, ↓wF_free, ↓reduceIte, Nat.reduceEqDiff, Nat.reduceLT, Nat.reduceLeDiff, Nat.reduceAdd, Nat.reduceSub, Nat.reduceMul, Nat.reduceBEq, Int.reduceLT, Int.reduceLE, Int.reduceToNat, Int.reduceNeg, Int.reducePow, Int.reduceAdd, Int.reduceMul, Int.reduceSub, ↓Int.reduceNatCast', h5]
              refine next_head (q - 1, rh + y1) hn (by show (q - 1).toNat < q.toNat; omega) ?_
              simp only [push_cast, ↓wF_free, ↓reduceIte, Nat.reduceEqDiff, Nat.reduceLT, Nat.reduceLeDiff, Nat.reduceAdd, Nat.reduceSub, Nat.reduceMul, Nat.reduceBEq, Int.reduceLT, Int.reduceLE, Int.reduceToNat, Int.reduceNeg, Int.reducePow, Int.reduceAdd, Int.reduceMul, Int.reduceSub, ↓Int.reduceNatCast'] <;> rfl
          · have hge : ¬ Q1 < q := fun h => h6 (t2.2 h)
            have e : q = Q1 := by omega
            rw [e]
            simp (disch := omega) only [push_cast, ↓wF_free, ↓reduceIte, Nat.reduceEqDiff, Nat.reduceLT, Nat.reduceLeDiff, Nat.reduceAdd, Nat.reduceSub, Nat.reduceMul, Nat.reduceBEq, Int.reduceLT, Int.reduceLE, Int.reduceToNat, Int.reduceNeg, Int.reducePow, Int.reduceAdd, Int.reduceMul, Int.reduceSub, ↓Int.reduceNatCast', cM1, cA1, cM2, cS1, f4, f5, f6]
            refine W_while (fun c : Int × Int => [(2, .int .u64 Y), (8, .int .u64 (s : Int)), (9, .int .u64 y1), (10, .int .u64 y0), (14, .int .u64 d0), (15, .int .u64 Q1), (16, .int .u64 c.2), (17, .int .u64 R1), (18, .int .u64 c.1)]) (fun _ => []) (fun c => c.1 * y1 + c.2 = R1 ∧ Q2 ≤ c.1 ∧ 0 ≤ c.2 ∧ c.2 < 4294967296 ∧ c.1 ≤ 4294967298) (fun c => c.1.toNat) (R1 / y1, R1 % y1) (by simp only [push_cast, ↓wF_free, ↓reduceIte, Nat.reduceEqDiff, Nat.reduceLT, Nat.reduceLeDiff, Nat.reduceAdd, Nat.reduceSub, Nat.reduceMul, Nat.reduceBEq, Int.reduceLT, Int.reduceLE, Int.reduceToNat, Int.reduceNeg, Int.reducePow, Int.reduceAdd, Int.reduceMul, Int.reduceSub, ↓Int.reduceNatCast'] <;> rfl) st2 ?_
            rintro ⟨q, rh⟩ hP
            obtain ⟨p1, p2, p3, p4, p5⟩ := hP
            dsimp only at p1 p2 p3 p4 p5
            have t1 := (kt2 q rh p1).1
            have t2 := (kt2 q rh p1).2
            have kd := kn_dec p1
            have t3 := ks2 (q - 1) (rh + y1) kd
            unfold F_math_bits_Div64_L1
            clear p1
            simp (disch := omega) only [push_cast, ↓wF_free, ↓reduceIte, Nat.reduceEqDiff, Nat.reduceLT, Nat.reduceLeDiff, Nat.reduceAdd, Nat.reduceSub, Nat.reduceMul, Nat.reduceBEq, Int.reduceLT, Int.reduceLE, Int.reduceToNat, Int.reduceNeg, Int.reducePow, Int.reduceAdd, Int.reduceMul, Int.reduceSub, ↓Int.reduceNatCast']
            refine ifD_split (fun h4 => ?_) (fun h4 => ?_)
            · have hlt := t1 h4
              simp (disch := omega) only [push_cast, ↓wF_free, ↓reduceIte, Nat.reduceEqDiff, Nat.reduceLT, Nat.reduceLeDiff, Nat.reduceAdd, Nat.reduceSub, Nat.reduceMul, Nat.reduceBEq, Int.reduceLT, Int.reduceLE, Int.reduceToNat, Int.reduceNeg, Int.reducePow, Int.reduceAdd, Int.reduceMul, Int.reduceSub, ↓Int.reduceNatCast', h4, sub_u, add_u]
              refine ifD_split (fun h5 => ?_) (fun h5 => ?_)
              · have e : q - 1 = Q2 := Int.le_antisymm (t3 (by omega) h5) (by omega)
                rw [e]
                simp (disch := omega) only [push_cast, ↓wF_free, ↓reduceIte, Nat.reduceEqDiff, Nat.reduceLT, Nat.reduceLeDiff, Nat.reduceAdd, Nat.reduceSub, Nat.reduceMul, Nat.reduceBEq, Int.reduceLT, Int.reduceLE, Int.reduceToNat, Int.reduceNeg, Int.reducePow, Int.reduceAdd, Int.reduceMul, Int.reduceSub, ↓Int.reduceNatCast', mul_u, add_u, shr_u, cM3, cA3, cM4, cS2]
                exact fin

              · have hn : (q - 1) * y1 + (rh + y1) = R1 ∧ Q2 ≤ q - 1 ∧ 0 ≤ rh + y1 ∧ rh + y1 < 4294967296 ∧ q - 1 ≤ 4294967298 := ⟨kd, by omega, by omega, by omega, by omega⟩
                simp (disch := omega) only [push_cast, ↓wF_free, ↓reduceIte, Nat.reduceEqDiff, Nat.reduceLT, Nat.reduceLeDiff, Nat.reduceAdd, Nat.reduceSub, Nat.reduceMul, Nat.reduceBEq, Int.reduceLT, Int.reduceLE, Int.reduceToNat, Int.reduceNeg, Int.reducePow, Int.reduceAdd, Int.reduceMul, Int.reduceSub, ↓Int.reduceNatCast', h5]
                refine next_head (q - 1, rh + y1) hn (by show (q - 1).toNat < q.toNat; omega) ?_
                simp only [push_cast, ↓wF_free, ↓reduceIte, Nat.reduceEqDiff, Nat.reduceLT, Nat.reduceLeDiff, Nat.reduceAdd, Nat.reduceSub, Nat.reduceMul, Nat.reduceBEq, Int.reduceLT, Int.reduceLE, Int.reduceToNat, Int.reduceNeg, Int.reducePow, Int.reduceAdd, Int.reduceMul, Int.reduceSub, ↓Int.reduceNatCast'] <;> rfl
            · have hqy : 0 ≤ q * y0 ∧ q * y0 ≤ 18446744065119617025 := half_mul (by omega) (by omega) (by omega) (by omega)
              simp (disch := omega) only [push_cast, ↓wF_free, ↓reduceIte, Nat.reduceEqDiff, Nat.reduceLT, Nat.reduceLeDiff, Nat.reduceAdd, Nat.reduceSub, Nat.reduceMul, Nat.reduceBEq, Int.reduceLT, Int.reduceLE, Int.reduceToNat, Int.reduceNeg, Int.reducePow, Int.reduceAdd, Int.reduceMul, Int.reduceSub, ↓Int.reduceNatCast', h4, mul_u, add_u]
              refine ifD_split (fun h6 => ?_) (fun h6 => ?_)
              · have hlt := t2.1 h6
                simp (disch := omega) only [push_cast, ↓wF_free, ↓reduceIte, Nat.reduceEqDiff, Nat.reduceLT, Nat.reduceLeDiff, Nat.reduceAdd, Nat.reduceSub, Nat.reduceMul, Nat.reduceBEq, Int.reduceLT, Int.reduceLE, Int.reduceToNat, Int.reduceNeg, Int.reducePow, Int.reduceAdd, Int.reduceMul, Int.reduceSub, ↓Int.reduceNatCast', h4, h6, sub_u, add_u]
                refine ifD_split (fun h5 => ?_) (fun h5 => ?_)
                · have e : q - 1 = Q2 := Int.le_antisymm (t3 (by omega) h5) (by omega)
                  rw [e]
                  simp (disch := omega) only [push_cast, ↓wF_free, ↓reduceIte, Nat.reduceEqDiff, Nat.reduceLT, Nat.reduceLeDiff, Nat.reduceAdd, Nat.reduceSub, Nat.reduceMul, Nat.reduceBEq, Int.reduceLT, Int.reduceLE, Int.reduceToNat, Int.reduceNeg, Int.reducePow, Int.reduceAdd, Int.reduceMul, Int.reduceSub, ↓Int.reduceNatCast', mul_u, add_u, shr_u, cM3, cA3, cM4, cS2]
                  exact fin

                · have hn : (q - 1) * y1 + (rh + y1) = R1 ∧ Q2 ≤ q - 1 ∧ 0 ≤ rh + y1 ∧ rh + y1 < 4294967296 ∧ q - 1 ≤ 4294967298 := ⟨kd, by omega, by omega, by omega, by omega⟩
                  simp (disch := omega) only [push_cast, ↓wF_free, ↓reduceIte, Nat.reduceEqDiff, Nat.reduceLT, Nat.reduceLeDiff, Nat.reduceAdd, Nat.reduceSub, Nat.reduceMul, Nat.reduceBEq, Int.reduceLT, Int.reduceLE, Int.reduceToNat, Int.reduceNeg, Int.reducePow, Int.reduceAdd, Int.reduceMul, Int.reduceSub, ↓Int.reduceNatCast', h5]
                  refine next_head (q - 1, rh + y1) hn (by show (q - 1).toNat < q.toNat; omega) ?_
                  simp only [push_cast, ↓wF_free, ↓reduceIte, Nat.reduceEqDiff, Nat.reduceLT, Nat.reduceLeDiff, Nat.reduceAdd, Nat.reduceSub, Nat.reduceMul, Nat.reduceBEq, Int.reduceLT, Int.reduceLE, Int.reduceToNat, Int.reduceNeg, Int.reducePow, Int.reduceAdd, Int.reduceMul, Int.reduceSub, ↓Int.reduceNatCast'] <;> rfl
              · have hge : ¬ Q2 < q := fun h => h6 (t2.2 h)
                have e : q = Q2 := by omega
                rw [e]
                simp (disch := omega) only [push_cast, ↓wF_free, ↓reduceIte, Nat.reduceEqDiff, Nat.reduceLT, Nat.reduceLeDiff, Nat.reduceAdd, Nat.reduceSub, Nat.reduceMul, Nat.reduceBEq, Int.reduceLT, Int.reduceLE, Int.reduceToNat, Int.reduceNeg, Int.reducePow, Int.reduceAdd, Int.reduceMul, Int.reduceSub, ↓Int.reduceNatCast', mul_u, add_u, shr_u, cM3, cA3, cM4, cS2]
                exact fin

theorem c_bDiv : Contract Tryd.prog GG 41 sp_bDiv :=
  contract_of tr_math_bits_Div64 (tb_ok (all_cons c_bLz all_nil) all_nil) (fun a h => w_bDiv a.1 a.2.1 a.2.2 h)
end Go.Proofs.YtgnekjlciiefbaaDoor.PI
