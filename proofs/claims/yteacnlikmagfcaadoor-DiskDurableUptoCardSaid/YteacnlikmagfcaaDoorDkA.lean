/-
  disk: the bytes of numbers, of the program and of the reference.
  Conditions: none; these are lemmas.
-/
import Derived.Test.YteacnlikmagfcaaDoorDkS
namespace Go.Proofs.YteacnlikmagfcaaDoor.PI
open Go
set_option linter.unusedSimpArgs false
set_option linter.unusedVariables false

/-! ### Functions carried out over a store that keep what they make -/
theorem fun_specK {P : Program} {G : Glob} {T : Tbl} {il : List Nat} {f : Nat} {hints : List (List Nat)} {F : PF} (hT : TblOK P G T) (ht : trF P il f hints = some F) {sp : List D → St → Option (D × St)}
    (h : ∀ ds st r, sp ds st = some r → ∃ fuel, F.runI G T fuel ds st = some r) (hy : T.y = fun _ _ _ => none := by rfl) : IContract P G f sp := by
  refine ⟨(fun_simI hT hy ht 0).1, ?_⟩
  intro base w g st st' ds vs d hsp hS hG hlen hrep
  obtain ⟨fuel, hf⟩ := h ds st _ hsp
  exact (fun_simI hT hy ht fuel).2 base w g st st' ds vs d hf hS hG hlen hrep
theorem icontract_keep {P : Program} {G : Glob} {T : Tbl} {il : List Nat} {f : Nat} {hints : List (List Nat)} {F : PF} (ht : trF P il f hints = some F) (hT : TblOK P G T) {α : Type} {enc : α → List D × St} {pre : α → Prop} {r : α → D × St}
    (h : ∀ a, pre a → @wW G T F.code (argF (enc a).1) (enc a).2 ⟨@retI F.res ⟨fun d st' => (d, st') = r a⟩⟩) (hy : T.y = fun _ _ _ => none := by rfl) : IContract P G f (siOf enc pre r) := by
  refine fun_specK hT ht (fun ds st x hx => ?_) hy
  obtain ⟨a, ha, hp, rfl⟩ := siOf_inv hx
  obtain ⟨fuel, d, st', h1, h2⟩ := runI_of_W (W_of (h a hp))
  rw [ha] at h1
  exact ⟨fuel, by rw [h1 fuel (Nat.le_refl _)]; exact congrArg some h2⟩

/-- the bytes of a number as a new object behind an empty store -/
noncomputable def si_number : List D → St → Option (D × St) := siOf (α := Int × Nat) (fun a => ([.int .i64 a.1, .int .i64 (a.2 : Int)], []))
  (fun a => 0 ≤ a.1 ∧ a.1 < 9223372036854775808 ∧ 0 < a.2 ∧ a.2 ≤ 8) (fun a => (.row 0 (be a.1 a.2).length 0 (be a.1 a.2).length, [⟨true, 1, (be a.1 a.2).map byteD, false⟩]))
theorem number_inj : ∀ a b : Int × Nat, (fun a : Int × Nat => (([.int .i64 a.1, .int .i64 (a.2 : Int)] : List D), ([] : St))) a = (fun a : Int × Nat => (([.int .i64 a.1, .int .i64 (a.2 : Int)] : List D), ([] : St))) b → a = b := by
  rintro ⟨a, b⟩ ⟨a', b'⟩ h
  simp at h
  obtain ⟨rfl, h⟩ := h
  rw [show b = b' by omega]
theorem call_number (n : Int) (m : Nat) (h : 0 ≤ n ∧ n < 9223372036854775808 ∧ 0 < m ∧ m ≤ 8) : si_number [.int .i64 n, .int .i64 (m : Int)] [] = some (.row 0 (be n m).length 0 (be n m).length, [⟨true, 1, (be n m).map byteD, false⟩]) :=
  siOf_enc (fun a b e => by rw [number_inj a b e]) ((n, m) : Int × Nat) h rfl
set_option maxHeartbeats 4000000 in
theorem ci_number : IContract Tryd.prog GG 38 si_number := by
  refine icontract_keep (T := tb [] []) tr_wagonpoolref13_number (tb_ok all_nil all_nil) ?_
  rintro ⟨n, m⟩ ⟨h0, h1, h2, h3⟩
  dsimp only at h0 h1 h2 h3
  unfold F_wagonpoolref13_number
  simp (disch := omega) only [push_cast, ↓wF_free, ↓reduceIte, Nat.reduceEqDiff, Nat.reduceLT, Nat.reduceLeDiff, Nat.reduceAdd, Nat.reduceSub, Nat.reduceMul, Nat.reduceBEq, Int.reduceLT, Int.reduceLE, Int.reduceToNat, Int.reduceNeg, Int.reducePow, Int.reduceAdd, Int.reduceMul, Int.reduceSub, ↓Int.reduceNatCast', nil_bufD1 1 0, sub_i]
  refine W_while (fun j : Nat => [(0, .int .i64 n), (5, bufD 1 0 ((beN n m j).map byteD)), (6, .int .i64 ((m : Int) - 1 - (j : Int)))]) (fun j => bufS 1 ((beN n m j).map byteD)) (fun j => j ≤ m) (fun j => m - j) 0 (by simp only [push_cast, ↓wF_free, ↓reduceIte, Nat.reduceEqDiff, Nat.reduceLT, Nat.reduceLeDiff, Nat.reduceAdd, Nat.reduceSub, Nat.reduceMul, Nat.reduceBEq, Int.reduceLT, Int.reduceLE, Int.reduceToNat, Int.reduceNeg, Int.reducePow, Int.reduceAdd, Int.reduceMul, Int.reduceSub, ↓Int.reduceNatCast', show beN n m 0 = [] from rfl, List.map_nil, Int.ofNat_zero, Int.natCast_zero, Int.cast_ofNat_Int, Int.sub_zero] <;> rfl) (by omega) ?_
  intro j hj
  have hl := beN_length n m j
  unfold F_wagonpoolref13_number_L0
  simp (disch := omega) only [push_cast, ↓wF_free, ↓reduceIte, Nat.reduceEqDiff, Nat.reduceLT, Nat.reduceLeDiff, Nat.reduceAdd, Nat.reduceSub, Nat.reduceMul, Nat.reduceBEq, Int.reduceLT, Int.reduceLE, Int.reduceToNat, Int.reduceNeg, Int.reducePow, Int.reduceAdd, Int.reduceMul, Int.reduceSub, ↓Int.reduceNatCast']
  refine ifD_split (fun h2 => ?_) (fun h2 => ?_)
  · have et : (8 * ((m : Int) - 1 - (j : Int))).toNat = 8 * (m - 1 - j) := by omega
    have hq : 0 ≤ n / 2 ^ (8 * (m - 1 - j)) := Int.ediv_nonneg h0 (Int.le_of_lt (Int.pow_pos (by decide)))
    simp (disch := first | omega | decide) only [push_cast, ↓wF_free, ↓reduceIte, Nat.reduceEqDiff, Nat.reduceLT, Nat.reduceLeDiff, Nat.reduceAdd, Nat.reduceSub, Nat.reduceMul, Nat.reduceBEq, Int.reduceLT, Int.reduceLE, Int.reduceToNat, Int.reduceNeg, Int.reducePow, Int.reduceAdd, Int.reduceMul, Int.reduceSub, ↓Int.reduceNatCast', mul_i, shr_i, et, conv_ub, sub_i]
    refine next_head (j + 1) (by omega) (by omega) ?_
    rw [beN_succ, show (m : Int) - 1 - ((j + 1 : Nat) : Int) = (m : Int) - 1 - (j : Int) - 1 by omega]
  · obtain rfl : j = m := by omega
    simp (disch := omega) only [push_cast, ↓wF_free, ↓reduceIte, Nat.reduceEqDiff, Nat.reduceLT, Nat.reduceLeDiff, Nat.reduceAdd, Nat.reduceSub, Nat.reduceMul, Nat.reduceBEq, Int.reduceLT, Int.reduceLE, Int.reduceToNat, Int.reduceNeg, Int.reducePow, Int.reduceAdd, Int.reduceMul, Int.reduceSub, ↓Int.reduceNatCast', bufD_ne 1 0 _ (be_ne n j (by omega)), bufS_ne 1 _ (be_ne n j (by omega)), show beN n j j = be n j from rfl]

/-- the program's, behind nothing -/
noncomputable def si_put64 : List D → St → Option (D × St) := siOf (α := Int) (fun n => ([.slc 0 [] true, .int .u64 n, .int .i64 8], [])) (fun n => 0 ≤ n ∧ n < 18446744073709551616)
  (fun n => (.row 0 (be n 8).length 0 (be n 8).length, [⟨true, 1, (be n 8).map byteD, false⟩]))
theorem call_put64 (n : Int) (h : 0 ≤ n ∧ n < 18446744073709551616) : si_put64 [.slc 0 [] true, .int .u64 n, .int .i64 8] [] = some (.row 0 (be n 8).length 0 (be n 8).length, [⟨true, 1, (be n 8).map byteD, false⟩]) :=
  siOf_enc (fun a b e => by simp at e; simp [e]) n h rfl
set_option maxHeartbeats 4000000 in
theorem ci_put64 : IContract Tryd.prog GG 33 si_put64 := by
  refine icontract_keep (T := tb [] []) tr_disk_put_uint64 (tb_ok all_nil all_nil) ?_
  rintro n ⟨h0, h1⟩
  unfold F_disk_put_uint64
  simp (disch := omega) only [push_cast, ↓wF_free, ↓reduceIte, Nat.reduceEqDiff, Nat.reduceLT, Nat.reduceLeDiff, Nat.reduceAdd, Nat.reduceSub, Nat.reduceMul, Nat.reduceBEq, Int.reduceLT, Int.reduceLE, Int.reduceToNat, Int.reduceNeg, Int.reducePow, Int.reduceAdd, Int.reduceMul, Int.reduceSub, ↓Int.reduceNatCast', nil_bufD1 0 0, sub_i]
  refine W_while (fun j : Nat => [(0, bufD 0 0 ((beN n 8 j).map byteD)), (1, .int .u64 n), (7, .int .i64 (7 - (j : Int)))]) (fun j => bufS 1 ((beN n 8 j).map byteD)) (fun j => j ≤ 8) (fun j => 8 - j) 0 (by simp only [push_cast, ↓wF_free, ↓reduceIte, Nat.reduceEqDiff, Nat.reduceLT, Nat.reduceLeDiff, Nat.reduceAdd, Nat.reduceSub, Nat.reduceMul, Nat.reduceBEq, Int.reduceLT, Int.reduceLE, Int.reduceToNat, Int.reduceNeg, Int.reducePow, Int.reduceAdd, Int.reduceMul, Int.reduceSub, ↓Int.reduceNatCast', show beN n 8 0 = [] from rfl, List.map_nil, show (7 : Int) - ((0 : Nat) : Int) = 7 by omega] <;> rfl) (by omega) ?_
  intro j hj
  have hl := beN_length n 8 j
  unfold F_disk_put_uint64_L0
  simp (disch := omega) only [push_cast, ↓wF_free, ↓reduceIte, Nat.reduceEqDiff, Nat.reduceLT, Nat.reduceLeDiff, Nat.reduceAdd, Nat.reduceSub, Nat.reduceMul, Nat.reduceBEq, Int.reduceLT, Int.reduceLE, Int.reduceToNat, Int.reduceNeg, Int.reducePow, Int.reduceAdd, Int.reduceMul, Int.reduceSub, ↓Int.reduceNatCast']
  refine ifD_split (fun h2 => ?_) (fun h2 => ?_)
  · have et : (8 * ((7 : Int) - (j : Int))).toNat = 8 * (8 - 1 - j) := by omega
    have hq : 0 ≤ n / 2 ^ (8 * (8 - 1 - j)) := Int.ediv_nonneg h0 (Int.le_of_lt (Int.pow_pos (by decide)))
    simp (disch := first | omega | decide) only [push_cast, ↓wF_free, ↓reduceIte, Nat.reduceEqDiff, Nat.reduceLT, Nat.reduceLeDiff, Nat.reduceAdd, Nat.reduceSub, Nat.reduceMul, Nat.reduceBEq, Int.reduceLT, Int.reduceLE, Int.reduceToNat, Int.reduceNeg, Int.reducePow, Int.reduceAdd, Int.reduceMul, Int.reduceSub, ↓Int.reduceNatCast', mul_i, shr_u, et, conv_ub, sub_i]
    refine next_head (j + 1) (by omega) (by omega) ?_
    rw [beN_succ, show (7 : Int) - ((j + 1 : Nat) : Int) = 7 - (j : Int) - 1 by omega]
  · obtain rfl : j = 8 := by omega
    simp (disch := omega) only [push_cast, ↓wF_free, ↓reduceIte, Nat.reduceEqDiff, Nat.reduceLT, Nat.reduceLeDiff, Nat.reduceAdd, Nat.reduceSub, Nat.reduceMul, Nat.reduceBEq, Int.reduceLT, Int.reduceLE, Int.reduceToNat, Int.reduceNeg, Int.reducePow, Int.reduceAdd, Int.reduceMul, Int.reduceSub, ↓Int.reduceNatCast', bufD_ne 0 0 _ (be_ne n 8 (by omega)), bufS_ne 1 _ (be_ne n 8 (by omega)), show beN n 8 8 = be n 8 from rfl]
end Go.Proofs.YteacnlikmagfcaaDoor.PI
