/-
  sign: powers and products, of the program and of the reference.
  Conditions: none; these are lemmas.
-/
import Derived.Test.YtgnekjlciiefbaaDoorSgB
import Derived.Test.YtgnekjlciiefbaaDoorEngV2
namespace Go.Proofs.YtgnekjlciiefbaaDoor.PI
open Go
set_option linter.unusedSimpArgs false
set_option linter.unusedVariables false

noncomputable def sp_Times : List D → Option D := spOf (α := Int × Int × Int) (fun a => [.int .u64 a.1, .int .u64 a.2.1, .int .u64 a.2.2]) (fun a => 0 ≤ a.1 ∧ a.1 < a.2.2 ∧ 0 ≤ a.2.1 ∧ a.2.1 < 18446744073709551616 ∧ a.2.2 < 9223372036854775808) (fun a => .int .u64 (a.1 * a.2.1 % a.2.2))
theorem call_Times (a : Int) (b : Int) (m : Int) (h : 0 ≤ a ∧ a < m ∧ 0 ≤ b ∧ b < 18446744073709551616 ∧ m < 9223372036854775808) : sp_Times [.int .u64 a, .int .u64 b, .int .u64 m] = some (.int .u64 (a * b % m)) :=
  spOf_enc (fun ⟨a0, a1, a2⟩ ⟨b0, b1, b2⟩ h => by simp only [List.cons.injEq, D.slc.injEq, D.int.injEq, D.bool.injEq, D.str.injEq, D.agg.injEq, digs_iff, dig_iff, digC_iff, bytes_iff, byte_iff, words_iff, word_iff, Sha.St8.list_iff, bsl_iff, true_and, and_true] at h; simp [h, Prod.ext_iff]) (a, b, m) h
set_option maxHeartbeats 4000000 in
set_option maxRecDepth 20000 in
theorem w_Times (a : Int) (b : Int) (m : Int) (h : 0 ≤ a ∧ a < m ∧ 0 ≤ b ∧ b < 18446744073709551616 ∧ m < 9223372036854775808) : @wW GG (tb [] []) F_wagonpoolref03_Times.code (argF [.int .u64 a, .int .u64 b, .int .u64 m]) [] ⟨retQ F_wagonpoolref03_Times.res (.int .u64 (a * b % m))⟩ := by
  obtain ⟨ha0, ha1, hb0, hb1, hm⟩ := h
  unfold F_wagonpoolref03_Times
  simp (disch := omega) only [push_cast, ↓wF_free, ↓reduceIte, Nat.reduceEqDiff, Nat.reduceLT, Nat.reduceLeDiff, Nat.reduceAdd, Nat.reduceSub, Nat.reduceMul, Nat.reduceBEq, Int.reduceLT, Int.reduceLE, Int.reduceToNat, Int.reduceNeg, Int.reducePow, Int.reduceAdd, Int.reduceMul, Int.reduceSub, ↓Int.reduceNatCast']
  refine W_while (fun c : Int × Int × Int => [(0, .int .u64 c.1), (1, .int .u64 c.2.1), (2, .int .u64 m), (7, .int .u64 c.2.2)]) (fun _ => []) (fun c => 0 ≤ c.1 ∧ c.1 < m ∧ 0 ≤ c.2.1 ∧ c.2.1 < 18446744073709551616 ∧ 0 ≤ c.2.2 ∧ c.2.2 < m ∧ (c.2.2 + c.1 * c.2.1) % m = a * b % m) (fun c => c.2.1.toNat) (a, b, 0) (by simp only [push_cast, ↓wF_free, ↓reduceIte, Nat.reduceEqDiff, Nat.reduceLT, Nat.reduceLeDiff, Nat.reduceAdd, Nat.reduceSub, Nat.reduceMul, Nat.reduceBEq, Int.reduceLT, Int.reduceLE, Int.reduceToNat, Int.reduceNeg, Int.reducePow, Int.reduceAdd, Int.reduceMul, Int.reduceSub, ↓Int.reduceNatCast'] <;> rfl) ⟨ha0, ha1, hb0, hb1, by dsimp only; omega, by dsimp only; omega, by dsimp only; rw [Int.zero_add]⟩ ?_
  rintro ⟨x, y, o⟩ hP
  obtain ⟨p1, p2, p3, p4, p5, p6, p7⟩ := hP
  dsimp only at p1 p2 p3 p4 p5 p6 p7
  have hr := times_round o x y m
  rw [p7] at hr
  have hx1 : 0 ≤ (x + x) % m := Int.emod_nonneg _ (by omega)
  have hx2 : (x + x) % m < m := Int.emod_lt_of_pos _ (by omega)
  have ho1 : 0 ≤ (o + x) % m := Int.emod_nonneg _ (by omega)
  have ho2 : (o + x) % m < m := Int.emod_lt_of_pos _ (by omega)
  unfold F_wagonpoolref03_Times_L0
  simp (disch := omega) only [push_cast, ↓wF_free, ↓reduceIte, Nat.reduceEqDiff, Nat.reduceLT, Nat.reduceLeDiff, Nat.reduceAdd, Nat.reduceSub, Nat.reduceMul, Nat.reduceBEq, Int.reduceLT, Int.reduceLE, Int.reduceToNat, Int.reduceNeg, Int.reducePow, Int.reduceAdd, Int.reduceMul, Int.reduceSub, ↓Int.reduceNatCast']
  refine ifD_split (fun h1 => ?_) (fun h1 => ?_)
  · simp (disch := first | omega | decide) only [push_cast, ↓wF_free, ↓reduceIte, Nat.reduceEqDiff, Nat.reduceLT, Nat.reduceLeDiff, Nat.reduceAdd, Nat.reduceSub, Nat.reduceMul, Nat.reduceBEq, Int.reduceLT, Int.reduceLE, Int.reduceToNat, Int.reduceNeg, Int.reducePow, Int.reduceAdd, Int.reduceMul, Int.reduceSub, ↓Int.reduceNatCast', h1, rem_u]
    refine ifD_split (fun h2 => ?_) (fun h2 => ?_)
    · rw [if_pos h2] at hr
      simp (disch := first | omega | decide) only [push_cast, ↓wF_free, ↓reduceIte, Nat.reduceEqDiff, Nat.reduceLT, Nat.reduceLeDiff, Nat.reduceAdd, Nat.reduceSub, Nat.reduceMul, Nat.reduceBEq, Int.reduceLT, Int.reduceLE, Int.reduceToNat, Int.reduceNeg, Int.reducePow, Int.reduceAdd, Int.reduceMul, Int.reduceSub, ↓Int.reduceNatCast', h1, h2, rem_u, add_u, quo_u]
      have hn : 0 ≤ (x + x) % m ∧ (x + x) % m < m ∧ 0 ≤ y / 2 ∧ y / 2 < 18446744073709551616 ∧ 0 ≤ (o + x) % m ∧ (o + x) % m < m ∧ ((o + x) % m + (x + x) % m * (y / 2)) % m = a * b % m := ⟨hx1, hx2, by omega, by omega, ho1, ho2, hr⟩
      refine next_head ((x + x) % m, y / 2, (o + x) % m) hn (by show (y / 2).toNat < y.toNat; omega) ?_
      simp only [push_cast, ↓wF_free, ↓reduceIte, Nat.reduceEqDiff, Nat.reduceLT, Nat.reduceLeDiff, Nat.reduceAdd, Nat.reduceSub, Nat.reduceMul, Nat.reduceBEq, Int.reduceLT, Int.reduceLE, Int.reduceToNat, Int.reduceNeg, Int.reducePow, Int.reduceAdd, Int.reduceMul, Int.reduceSub, ↓Int.reduceNatCast'] <;> rfl
    · rw [if_neg h2] at hr
      simp (disch := first | omega | decide) only [push_cast, ↓wF_free, ↓reduceIte, Nat.reduceEqDiff, Nat.reduceLT, Nat.reduceLeDiff, Nat.reduceAdd, Nat.reduceSub, Nat.reduceMul, Nat.reduceBEq, Int.reduceLT, Int.reduceLE, Int.reduceToNat, Int.reduceNeg, Int.reducePow, Int.reduceAdd, Int.reduceMul, Int.reduceSub, ↓Int.reduceNatCast', h1, h2, rem_u, add_u, quo_u]
      have hn : 0 ≤ (x + x) % m ∧ (x + x) % m < m ∧ 0 ≤ y / 2 ∧ y / 2 < 18446744073709551616 ∧ 0 ≤ o ∧ o < m ∧ (o + (x + x) % m * (y / 2)) % m = a * b % m := ⟨hx1, hx2, by omega, by omega, p5, p6, hr⟩
      refine next_head ((x + x) % m, y / 2, o) hn (by show (y / 2).toNat < y.toNat; omega) ?_
      simp only [push_cast, ↓wF_free, ↓reduceIte, Nat.reduceEqDiff, Nat.reduceLT, Nat.reduceLeDiff, Nat.reduceAdd, Nat.reduceSub, Nat.reduceMul, Nat.reduceBEq, Int.reduceLT, Int.reduceLE, Int.reduceToNat, Int.reduceNeg, Int.reducePow, Int.reduceAdd, Int.reduceMul, Int.reduceSub, ↓Int.reduceNatCast'] <;> rfl
  · have e : y = 0 := by omega
    rw [e, Int.mul_zero, Int.add_zero, Int.emod_eq_of_lt p5 p6] at p7
    rw [← p7]
    simp (disch := omega) only [push_cast, ↓wF_free, ↓reduceIte, Nat.reduceEqDiff, Nat.reduceLT, Nat.reduceLeDiff, Nat.reduceAdd, Nat.reduceSub, Nat.reduceMul, Nat.reduceBEq, Int.reduceLT, Int.reduceLE, Int.reduceToNat, Int.reduceNeg, Int.reducePow, Int.reduceAdd, Int.reduceMul, Int.reduceSub, ↓Int.reduceNatCast', h1]
theorem c_Times : Contract Tryd.prog GG 33 sp_Times :=
  contract_of tr_wagonpoolref03_Times (tb_ok all_nil all_nil) (fun a h => w_Times a.1 a.2.1 a.2.2 h)

noncomputable def sp_times : List D → Option D := spOf (α := Int × Int × Int) (fun a => [.int .u64 a.1, .int .u64 a.2.1, .int .u64 a.2.2]) (fun a => 0 ≤ a.1 ∧ a.1 < a.2.2 ∧ 0 ≤ a.2.1 ∧ a.2.1 < 18446744073709551616 ∧ a.2.2 < 9223372036854775808) (fun a => .int .u64 (a.1 * a.2.1 % a.2.2))
theorem call_times (a : Int) (b : Int) (m : Int) (h : 0 ≤ a ∧ a < m ∧ 0 ≤ b ∧ b < 18446744073709551616 ∧ m < 9223372036854775808) : sp_times [.int .u64 a, .int .u64 b, .int .u64 m] = some (.int .u64 (a * b % m)) :=
  spOf_enc (fun ⟨a0, a1, a2⟩ ⟨b0, b1, b2⟩ h => by simp only [List.cons.injEq, D.slc.injEq, D.int.injEq, D.bool.injEq, D.str.injEq, D.agg.injEq, digs_iff, dig_iff, digC_iff, bytes_iff, byte_iff, words_iff, word_iff, Sha.St8.list_iff, bsl_iff, true_and, and_true] at h; simp [h, Prod.ext_iff]) (a, b, m) h
set_option maxHeartbeats 4000000 in
set_option maxRecDepth 20000 in
theorem w_times (a : Int) (b : Int) (m : Int) (h : 0 ≤ a ∧ a < m ∧ 0 ≤ b ∧ b < 18446744073709551616 ∧ m < 9223372036854775808) : @wW GG (tb [(33, sp_Times)] []) F_wagonpoollaw03_times.code (argF [.int .u64 a, .int .u64 b, .int .u64 m]) [] ⟨retQ F_wagonpoollaw03_times.res (.int .u64 (a * b % m))⟩ := by
  unfold F_wagonpoollaw03_times
  simp (disch := omega) only [push_cast, ↓wF_free, ↓reduceIte, Nat.reduceEqDiff, Nat.reduceLT, Nat.reduceLeDiff, Nat.reduceAdd, Nat.reduceSub, Nat.reduceMul, Nat.reduceBEq, Int.reduceLT, Int.reduceLE, Int.reduceToNat, Int.reduceNeg, Int.reducePow, Int.reduceAdd, Int.reduceMul, Int.reduceSub, ↓Int.reduceNatCast', call_Times]
theorem c_times : Contract Tryd.prog GG 17 sp_times :=
  contract_of tr_wagonpoollaw03_times (tb_ok (all_cons c_Times all_nil) all_nil) (fun a h => w_times a.1 a.2.1 a.2.2 h)

theorem fun_specK {P : Program} {G : Glob} {T : Tbl} {il : List Nat} {f : Nat} {hints : List (List Nat)} {F : PF} (hT : TblOK P G T) (ht : trF P il f hints = some F) {sp : List D → St → Option (D × St)}
    (h : ∀ ds st r, sp ds st = some r → ∃ fuel, F.runI G T fuel ds st = some r) : IContract P G f sp := by
  refine ⟨(fun_simI hT ht 0).1, ?_⟩
  intro base w g st st' ds vs d hsp hS hG hl hrep
  obtain ⟨fuel, hf⟩ := h ds st _ hsp
  exact (fun_simI hT ht fuel).2 base w g st st' ds vs d hf hS hG hl hrep
/-- a function over the caller's store, with what it has made for itself -/
theorem icontract_keep {P : Program} {G : Glob} {T : Tbl} {il : List Nat} {f : Nat} {hints : List (List Nat)} {F : PF} (ht : trF P il f hints = some F) (hT : TblOK P G T) {α : Type} {enc : α → List D × St} {pre : α → Prop} {r : α → D × St}
    (h : ∀ a, pre a → @wW G T F.code (argF (enc a).1) (enc a).2 ⟨@retI F.res ⟨fun d st' => (d, st') = r a⟩⟩) : IContract P G f (siOf enc pre r) := by
  refine fun_specK hT ht fun ds st x hx => ?_
  obtain ⟨a, ha, hp, rfl⟩ := siOf_inv hx
  obtain ⟨fuel, d, st', h1, h2⟩ := runI_of_W (W_of (h a hp))
  rw [ha] at h1
  exact ⟨fuel, by rw [h1 fuel (Nat.le_refl _)]; exact congrArg some h2⟩

/-! The product modulo m: a closure over a box -/
noncomputable def si_mul : List D → St → Option (D × St) := siOf (α := St × Int × Int × Int)
  (fun ⟨st, a, b, m⟩ => ([.int .u64 a, .int .u64 b, .ptr st.length 0], st ++ [⟨false, 1, [.int .u64 m], false⟩]))
  (fun ⟨_, a, b, m⟩ => 0 ≤ a ∧ a < 18446744073709551616 ∧ 0 ≤ b ∧ b < 18446744073709551616 ∧ 0 < m ∧ m < 9223372036854775808)
  (fun ⟨st, a, b, m⟩ => (.int .u64 (a * b % m), st ++ [⟨false, 1, [.int .u64 m], false⟩]))
theorem call_mul0 (a b m : Int) (h : 0 ≤ a ∧ a < 18446744073709551616 ∧ 0 ≤ b ∧ b < 18446744073709551616 ∧ 0 < m ∧ m < 9223372036854775808) :
    si_mul [.int .u64 a, .int .u64 b, .ptr 0 0] [⟨false, 1, [.int .u64 m], false⟩] = some (.int .u64 (a * b % m), [⟨false, 1, [.int .u64 m], false⟩]) := by
  refine siOf_enc ?_ (([] : St), a, b, m) h rfl
  rintro ⟨st, a, b, m⟩ ⟨st', a', b', m'⟩ h
  simp only [Prod.mk.injEq, List.cons.injEq, D.int.injEq, D.ptr.injEq, true_and, and_true] at h
  obtain ⟨⟨rfl, rfl, h1⟩, h2⟩ := h
  have h3 := List.append_inj h2 h1
  obtain ⟨rfl, h4⟩ := h3
  simp at h4
  rw [h4]
set_option maxHeartbeats 4000000 in
theorem ci_mul : IContract Tryd.prog GG 39 si_mul := by
  refine icontract_keep (T := tb [(40, sp_bMul), (41, sp_bDiv)] []) tr_sign_modulo_1 (tb_ok (all_cons c_bMul (all_cons c_bDiv all_nil)) all_nil) ?_
  rintro ⟨st, a, b, m⟩ h
  obtain ⟨h0, h1, h2, h3, h4, h5⟩ := h
  have hg : (st ++ [(⟨false, 1, [.int .u64 m], false⟩ : Obj)])[st.length]? = some ⟨false, 1, [.int .u64 m], false⟩ := by simp
  have a1 : 0 ≤ a % m := Int.emod_nonneg _ (by omega)
  have a2 : a % m < m := Int.emod_lt_of_pos _ h4
  have b1 : 0 ≤ b % m := Int.emod_nonneg _ (by omega)
  have b2 : b % m < m := Int.emod_lt_of_pos _ h4
  have x0 : 0 ≤ (a % m) * (b % m) := Int.mul_nonneg a1 b1
  have x1 : (a % m) * (b % m) ≤ m * (b % m) := Int.mul_le_mul_of_nonneg_right (by omega) b1
  have x2 : m * (b % m) ≤ m * 9223372036854775808 := Int.mul_le_mul_of_nonneg_left (by omega) (by omega)
  have e := Int.ediv_mul_add_emod ((a % m) * (b % m)) 18446744073709551616
  have e2 : (a % m) * (b % m) % m = a * b % m := (Int.mul_emod a b m).symm
  have c := call_bDiv ((a % m) * (b % m) / 18446744073709551616) ((a % m) * (b % m) % 18446744073709551616) m ⟨by omega, by omega, by omega, by omega, by omega⟩
  rw [e, e2] at c
  unfold F_sign_modulo_1
  simp (disch := omega) only [push_cast, ↓wF_free, ↓reduceIte, Nat.reduceEqDiff, Nat.reduceLT, Nat.reduceLeDiff, Nat.reduceAdd, Nat.reduceSub, Nat.reduceMul, Nat.reduceBEq, Int.reduceLT, Int.reduceLE, Int.reduceToNat, Int.reduceNeg, Int.reducePow, Int.reduceAdd, Int.reduceMul, Int.reduceSub, ↓Int.reduceNatCast', hg, rem_u, call_bMul, c]

noncomputable def si_modulo : List D → St → Option (D × St) := siOf (α := St × Int)
  (fun ⟨st, m⟩ => ([.int .u64 m], st))
  (fun _ => True)
  (fun ⟨st, m⟩ => (.clo 39 [.ptr st.length 0], st ++ [⟨false, 1, [.int .u64 m], false⟩]))
theorem call_modulo (st : St) (m : Int) : si_modulo [.int .u64 m] st = some (.clo 39 [.ptr st.length 0], st ++ [⟨false, 1, [.int .u64 m], false⟩]) := by
  refine siOf_enc ?_ (st, m) trivial rfl
  rintro ⟨st, m⟩ ⟨st', m'⟩ h
  simp only [Prod.mk.injEq, List.cons.injEq, D.int.injEq, true_and, and_true] at h
  obtain ⟨rfl, rfl⟩ := h
  rfl
theorem call_modulo0 (m : Int) : si_modulo [.int .u64 m] [] = some (.clo 39 [.ptr 0 0], [⟨false, 1, [.int .u64 m], false⟩]) := call_modulo [] m
set_option maxHeartbeats 4000000 in
theorem ci_modulo : IContract Tryd.prog GG 31 si_modulo := by
  refine icontract_keep (T := tb [] []) tr_sign_modulo (tb_ok all_nil all_nil) ?_
  rintro ⟨st, m⟩ h
  unfold F_sign_modulo
  simp (disch := omega) only [push_cast, ↓wF_free, ↓reduceIte, Nat.reduceEqDiff, Nat.reduceLT, Nat.reduceLeDiff, Nat.reduceAdd, Nat.reduceSub, Nat.reduceMul, Nat.reduceBEq, Int.reduceLT, Int.reduceLE, Int.reduceToNat, Int.reduceNeg, Int.reducePow, Int.reduceAdd, Int.reduceMul, Int.reduceSub, ↓Int.reduceNatCast']



noncomputable def sp_sPow : List D → Option D := spOf (α := Int × Int) (fun a => [.int .u64 a.1, .int .u64 a.2]) (fun a => 0 ≤ a.1 ∧ a.1 < 18446744073709551616 ∧ 0 ≤ a.2 ∧ a.2 < 18446744073709551616) (fun a => .int .u64 (powZ a.1 a.2))
theorem call_sPow (b : Int) (n : Int) (h : 0 ≤ b ∧ b < 18446744073709551616 ∧ 0 ≤ n ∧ n < 18446744073709551616) : sp_sPow [.int .u64 b, .int .u64 n] = some (.int .u64 (powZ b n)) :=
  spOf_enc (fun ⟨a0, a1⟩ ⟨b0, b1⟩ h => by simp only [List.cons.injEq, D.slc.injEq, D.int.injEq, D.bool.injEq, D.str.injEq, D.agg.injEq, digs_iff, dig_iff, digC_iff, bytes_iff, byte_iff, words_iff, word_iff, Sha.St8.list_iff, bsl_iff, true_and, and_true] at h; simp [h, Prod.ext_iff]) (b, n) h
set_option maxHeartbeats 4000000 in
set_option maxRecDepth 20000 in
theorem w_sPow (b : Int) (n : Int) (h : 0 ≤ b ∧ b < 18446744073709551616 ∧ 0 ≤ n ∧ n < 18446744073709551616) : @wW GG (tb [(32, sp_bLen64)] [(31, si_modulo), (39, si_mul)]) F_sign_Pow.code (argF [.int .u64 b, .int .u64 n]) [] ⟨retQ F_sign_Pow.res (.int .u64 (powZ b n))⟩ := by
  obtain ⟨hb0, hb1, hn0, hn1⟩ := h
  have hL : bitlen n.toNat ≤ 64 := bitlen_lt (k := 64) (by show n.toNat < 18446744073709551616; omega)
  have hs := bitlen_spec (n := n.toNat)
  have e0 : n / 2 ^ bitlen n.toNat = 0 := Int.ediv_eq_zero_of_lt hn0 (by
    have : ((2 ^ bitlen n.toNat : Nat) : Int) = 2 ^ bitlen n.toNat := by rw [Int.natCast_pow]; rfl
    rw [← this]; omega)
  generalize hLe : bitlen n.toNat = L at *
  have cL := call_bLen64 n ⟨hn0, hn1⟩
  rw [hLe] at cL
  unfold F_sign_Pow
  simp (disch := omega) only [push_cast, ↓wF_free, ↓reduceIte, Nat.reduceEqDiff, Nat.reduceLT, Nat.reduceLeDiff, Nat.reduceAdd, Nat.reduceSub, Nat.reduceMul, Nat.reduceBEq, Int.reduceLT, Int.reduceLE, Int.reduceToNat, Int.reduceNeg, Int.reducePow, Int.reduceAdd, Int.reduceMul, Int.reduceSub, ↓Int.reduceNatCast', call_modulo0, cL]
  refine W_while (fun i : Nat => [(0, .int .u64 b), (1, .int .u64 n), (5, .clo 39 [.ptr 0 0]), (6, .int .u64 (powZ b (n / 2 ^ (L - i)))), (10, .int .i64 (L : Int)), (11, .int .i64 (i : Int))])
    (fun _ => [⟨false, 1, [.int .u64 2305843009213690799], false⟩]) (fun i => i ≤ L) (fun i => L - i) 0 (by simp only [push_cast, ↓wF_free, ↓reduceIte, Nat.reduceEqDiff, Nat.reduceLT, Nat.reduceLeDiff, Nat.reduceAdd, Nat.reduceSub, Nat.reduceMul, Nat.reduceBEq, Int.reduceLT, Int.reduceLE, Int.reduceToNat, Int.reduceNeg, Int.reducePow, Int.reduceAdd, Int.reduceMul, Int.reduceSub, ↓Int.reduceNatCast', Nat.sub_zero, e0, show powZ b 0 = 1 from powI_zero b] <;> rfl) (by omega) ?_
  intro i hi
  unfold F_sign_Pow_L0
  simp (disch := omega) only [push_cast, ↓wF_free, ↓reduceIte, Nat.reduceEqDiff, Nat.reduceLT, Nat.reduceLeDiff, Nat.reduceAdd, Nat.reduceSub, Nat.reduceMul, Nat.reduceBEq, Int.reduceLT, Int.reduceLE, Int.reduceToNat, Int.reduceNeg, Int.reducePow, Int.reduceAdd, Int.reduceMul, Int.reduceSub, ↓Int.reduceNatCast']
  refine ifD_split (fun h1 => ?_) (fun h1 => ?_)
  · obtain ⟨w1, w2⟩ := powZ_range b (n / 2 ^ (L - i))
    have et : ((L : Int) - 1 - (i : Int)).toNat = L - (i + 1) := by omega
    have hp : (0 : Int) < 2 ^ (L - (i + 1)) := Int.pow_pos (by decide)
    have ed : n / 2 ^ (L - i) = n / 2 ^ (L - (i + 1)) / 2 := by
      rw [Int.ediv_ediv_of_nonneg (by omega), show L - i = L - (i + 1) + 1 by omega, Int.pow_succ]
    have k0 : 0 ≤ n / 2 ^ (L - (i + 1)) := Int.ediv_nonneg hn0 (by omega)
    have k1 : n / 2 ^ (L - (i + 1)) ≤ n := Int.ediv_le_self _ hn0
    rw [ed] at w1 w2 ⊢
    have q2 := powZ_add b (m := n / 2 ^ (L - (i + 1)) / 2) (n := n / 2 ^ (L - (i + 1)) / 2) (by omega) (by omega)
    have q3 : powZ b (n / 2 ^ (L - (i + 1)) / 2 + n / 2 ^ (L - (i + 1)) / 2) * b % 2305843009213690799 = powZ b (n / 2 ^ (L - (i + 1)) / 2 + n / 2 ^ (L - (i + 1)) / 2 + 1) := by
      unfold powZ
      rw [show (n / 2 ^ (L - (i + 1)) / 2 + n / 2 ^ (L - (i + 1)) / 2 + 1).toNat = (n / 2 ^ (L - (i + 1)) / 2 + n / 2 ^ (L - (i + 1)) / 2).toNat + 1 by omega, powI_one]
    obtain ⟨w3, w4⟩ := powZ_range b (n / 2 ^ (L - (i + 1)) / 2 + n / 2 ^ (L - (i + 1)) / 2)
    have c1 := call_mul0 (powZ b (n / 2 ^ (L - (i + 1)) / 2)) (powZ b (n / 2 ^ (L - (i + 1)) / 2)) 2305843009213690799 ⟨by omega, by omega, by omega, by omega, by omega, by omega⟩
    rw [← q2] at c1
    have c2 := call_mul0 (powZ b (n / 2 ^ (L - (i + 1)) / 2 + n / 2 ^ (L - (i + 1)) / 2)) b 2305843009213690799 ⟨by omega, by omega, by omega, by omega, by omega, by omega⟩
    rw [q3] at c2
    simp (disch := first | omega | decide) only [push_cast, ↓wF_free, ↓reduceIte, Nat.reduceEqDiff, Nat.reduceLT, Nat.reduceLeDiff, Nat.reduceAdd, Nat.reduceSub, Nat.reduceMul, Nat.reduceBEq, Int.reduceLT, Int.reduceLE, Int.reduceToNat, Int.reduceNeg, Int.reducePow, Int.reduceAdd, Int.reduceMul, Int.reduceSub, ↓Int.reduceNatCast', h1, c1, cL, sub_i, shr_u, et, and_oneU]
    refine ifD_split (fun h2 => ?_) (fun h2 => ?_)
    · rw [show n / 2 ^ (L - (i + 1)) / 2 + n / 2 ^ (L - (i + 1)) / 2 + 1 = n / 2 ^ (L - (i + 1)) by omega] at c2
      simp (disch := first | omega | decide) only [push_cast, ↓wF_free, ↓reduceIte, Nat.reduceEqDiff, Nat.reduceLT, Nat.reduceLeDiff, Nat.reduceAdd, Nat.reduceSub, Nat.reduceMul, Nat.reduceBEq, Int.reduceLT, Int.reduceLE, Int.reduceToNat, Int.reduceNeg, Int.reducePow, Int.reduceAdd, Int.reduceMul, Int.reduceSub, ↓Int.reduceNatCast', h2, c2, add_i]
      refine next_head (i + 1) (by omega) (by omega) ?_
      simp only [push_cast, ↓wF_free, ↓reduceIte, Nat.reduceEqDiff, Nat.reduceLT, Nat.reduceLeDiff, Nat.reduceAdd, Nat.reduceSub, Nat.reduceMul, Nat.reduceBEq, Int.reduceLT, Int.reduceLE, Int.reduceToNat, Int.reduceNeg, Int.reducePow, Int.reduceAdd, Int.reduceMul, Int.reduceSub, ↓Int.reduceNatCast'] <;> rfl
    · rw [show n / 2 ^ (L - (i + 1)) / 2 + n / 2 ^ (L - (i + 1)) / 2 = n / 2 ^ (L - (i + 1)) by omega]
      simp (disch := first | omega | decide) only [push_cast, ↓wF_free, ↓reduceIte, Nat.reduceEqDiff, Nat.reduceLT, Nat.reduceLeDiff, Nat.reduceAdd, Nat.reduceSub, Nat.reduceMul, Nat.reduceBEq, Int.reduceLT, Int.reduceLE, Int.reduceToNat, Int.reduceNeg, Int.reducePow, Int.reduceAdd, Int.reduceMul, Int.reduceSub, ↓Int.reduceNatCast', h2, add_i]
      refine next_head (i + 1) (by omega) (by omega) ?_
      simp only [push_cast, ↓wF_free, ↓reduceIte, Nat.reduceEqDiff, Nat.reduceLT, Nat.reduceLeDiff, Nat.reduceAdd, Nat.reduceSub, Nat.reduceMul, Nat.reduceBEq, Int.reduceLT, Int.reduceLE, Int.reduceToNat, Int.reduceNeg, Int.reducePow, Int.reduceAdd, Int.reduceMul, Int.reduceSub, ↓Int.reduceNatCast'] <;> rfl
  · have e : i = L := by omega
    simp (disch := omega) only [push_cast, ↓wF_free, ↓reduceIte, Nat.reduceEqDiff, Nat.reduceLT, Nat.reduceLeDiff, Nat.reduceAdd, Nat.reduceSub, Nat.reduceMul, Nat.reduceBEq, Int.reduceLT, Int.reduceLE, Int.reduceToNat, Int.reduceNeg, Int.reducePow, Int.reduceAdd, Int.reduceMul, Int.reduceSub, ↓Int.reduceNatCast', h1]
    rw [e, Nat.sub_self, Int.pow_zero, Int.ediv_one]
theorem c_sPow : Contract Tryd.prog GG 15 sp_sPow :=
  contract_of tr_sign_Pow (tb_ok (all_cons c_bLen64 all_nil) (all_cons ci_modulo (all_cons ci_mul all_nil))) (fun a h => w_sPow a.1 a.2 h)
end Go.Proofs.YtgnekjlciiefbaaDoor.PI
