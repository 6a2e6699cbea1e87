/-
  sign: the bytes of a number.
  Conditions: none; these are lemmas.
-/
import Derived.Test.YtgnekjlciiefbaaDoorSgF
namespace Go.Proofs.YtgnekjlciiefbaaDoor.PI
open Go
set_option linter.unusedSimpArgs false
set_option linter.unusedVariables false

def be8N (n : Int) (k : Nat) : List UInt8 := (List.range k).map fun i => UInt8.ofNat (n / 2 ^ (56 - 8 * i)).toNat
def be8 (n : Int) : List UInt8 := be8N n 8
theorem be8N_succ (n : Int) (k : Nat) : be8N n (k + 1) = be8N n k ++ [UInt8.ofNat (n / 2 ^ (56 - 8 * k)).toNat] := by
  unfold be8N; rw [List.range_succ, List.map_append]; rfl
theorem be8N_length (n : Int) (k : Nat) : (be8N n k).length = k := by unfold be8N; simp
theorem be8_ne (n : Int) : (be8 n).map byteD ≠ [] := by
  intro h
  have := congrArg List.length h
  simp [be8, be8N_length] at this

def stB : Option (Option (List UInt8)) → St
  | none => []
  | some none => [⟨false, 1, [.int .u64 0, .int .u64 0], false⟩]
  | some (some l) => [⟨true, 1, l.map byteD, false⟩]
/-- the bytes of a number as a new object behind a store of none or one row -/
noncomputable def si_Bytes : List D → St → Option (D × St) := siOf (α := Option (Option (List UInt8)) × Int)
  (fun a => ([.int .u64 a.2], stB a.1))
  (fun a => 0 ≤ a.2 ∧ a.2 < 18446744073709551616)
  (fun a => (.row (stB a.1).length (be8 a.2).length 0 (be8 a.2).length, stB a.1 ++ [⟨true, 1, (be8 a.2).map byteD, false⟩]))
theorem Bytes_inj : ∀ a b : Option (Option (List UInt8)) × Int, (fun a : Option (Option (List UInt8)) × Int => (([.int .u64 a.2] : List D), stB a.1)) a = (fun a : Option (Option (List UInt8)) × Int => (([.int .u64 a.2] : List D), stB a.1)) b → a = b := by
  rintro ⟨o, n⟩ ⟨o', n'⟩ h
  rcases o with _ | _ | l <;> rcases o' with _ | _ | l' <;> simp [stB, bytes_iff] at h
  · rw [h]
  · rw [h]
  · rw [h.1, h.2]
theorem call_Bytes0 (n : Int) (h : 0 ≤ n ∧ n < 18446744073709551616) : si_Bytes [.int .u64 n] [] = some (.row 0 (be8 n).length 0 (be8 n).length, [⟨true, 1, (be8 n).map byteD, false⟩]) :=
  siOf_enc (fun a b e => by rw [Bytes_inj a b e]) ((none, n) : Option (Option (List UInt8)) × Int) h rfl
theorem call_Bytes2 (n : Int) (h : 0 ≤ n ∧ n < 18446744073709551616) : si_Bytes [.int .u64 n] [⟨false, 1, [.int .u64 0, .int .u64 0], false⟩] = some (.row 1 (be8 n).length 0 (be8 n).length, [⟨false, 1, [.int .u64 0, .int .u64 0], false⟩, ⟨true, 1, (be8 n).map byteD, false⟩]) :=
  siOf_enc (fun a b e => by rw [Bytes_inj a b e]) ((some none, n) : Option (Option (List UInt8)) × Int) h rfl
theorem call_Bytes1 (l : List UInt8) (n : Int) (h : 0 ≤ n ∧ n < 18446744073709551616) : si_Bytes [.int .u64 n] [⟨true, 1, l.map byteD, false⟩] = some (.row 1 (be8 n).length 0 (be8 n).length, [⟨true, 1, l.map byteD, false⟩, ⟨true, 1, (be8 n).map byteD, false⟩]) :=
  siOf_enc (fun a b e => by rw [Bytes_inj a b e]) ((some (some l), n) : Option (Option (List UInt8)) × Int) h rfl
set_option maxHeartbeats 4000000 in
theorem ci_Bytes : IContract Tryd.prog GG 37 si_Bytes := by
  refine icontract_keep (T := tb [] []) tr_wagonpoolref03_Bytes (tb_ok all_nil all_nil) ?_
  rintro ⟨o, n⟩ ⟨h0, h1⟩
  unfold F_wagonpoolref03_Bytes
  rcases o with _ | _ | l
  · dsimp only [stB]
    simp (disch := omega) only [push_cast, ↓wF_free, ↓reduceIte, Nat.reduceEqDiff, Nat.reduceLT, Nat.reduceLeDiff, Nat.reduceAdd, Nat.reduceSub, Nat.reduceMul, Nat.reduceBEq, Int.reduceLT, Int.reduceLE, Int.reduceToNat, Int.reduceNeg, Int.reducePow, Int.reduceAdd, Int.reduceMul, Int.reduceSub, ↓Int.reduceNatCast', nil_bufD1 0 0]
    refine W_while (fun j : Nat => [(0, .int .u64 n), (3, bufD 0 0 ((be8N n j).map byteD)), (4, .int .i64 (56 - 8 * (j : Int)))]) (fun j => bufS 1 ((be8N n j).map byteD)) (fun j => j ≤ 8) (fun j => 8 - j) 0 (by simp only [push_cast, ↓wF_free, ↓reduceIte, Nat.reduceEqDiff, Nat.reduceLT, Nat.reduceLeDiff, Nat.reduceAdd, Nat.reduceSub, Nat.reduceMul, Nat.reduceBEq, Int.reduceLT, Int.reduceLE, Int.reduceToNat, Int.reduceNeg, Int.reducePow, Int.reduceAdd, Int.reduceMul, Int.reduceSub, ↓Int.reduceNatCast', show be8N n 0 = [] from rfl] <;> rfl) (by omega) ?_
    intro j hj
    have hl := be8N_length n j
    unfold F_wagonpoolref03_Bytes_L0
    simp (disch := omega) only [push_cast, ↓wF_free, ↓reduceIte, Nat.reduceEqDiff, Nat.reduceLT, Nat.reduceLeDiff, Nat.reduceAdd, Nat.reduceSub, Nat.reduceMul, Nat.reduceBEq, Int.reduceLT, Int.reduceLE, Int.reduceToNat, Int.reduceNeg, Int.reducePow, Int.reduceAdd, Int.reduceMul, Int.reduceSub, ↓Int.reduceNatCast']
    refine ifD_split (fun h2 => ?_) (fun h2 => ?_)
    · have et : (56 - 8 * (j : Int)).toNat = 56 - 8 * j := by omega
      have hq : 0 ≤ n / 2 ^ (56 - 8 * j) := Int.ediv_nonneg h0 (Int.le_of_lt (Int.pow_pos (by decide)))
      simp (disch := first | omega | decide) only [push_cast, ↓wF_free, ↓reduceIte, Nat.reduceEqDiff, Nat.reduceLT, Nat.reduceLeDiff, Nat.reduceAdd, Nat.reduceSub, Nat.reduceMul, Nat.reduceBEq, Int.reduceLT, Int.reduceLE, Int.reduceToNat, Int.reduceNeg, Int.reducePow, Int.reduceAdd, Int.reduceMul, Int.reduceSub, ↓Int.reduceNatCast', shr_u, et, conv_ub, sub_i]
      refine next_head (j + 1) (by omega) (by omega) ?_
      rw [be8N_succ, show 56 - 8 * ((j + 1 : Nat) : Int) = 56 - 8 * (j : Int) - 8 by omega]
    · obtain rfl : j = 8 := by omega
      simp (disch := omega) only [push_cast, ↓wF_free, ↓reduceIte, Nat.reduceEqDiff, Nat.reduceLT, Nat.reduceLeDiff, Nat.reduceAdd, Nat.reduceSub, Nat.reduceMul, Nat.reduceBEq, Int.reduceLT, Int.reduceLE, Int.reduceToNat, Int.reduceNeg, Int.reducePow, Int.reduceAdd, Int.reduceMul, Int.reduceSub, ↓Int.reduceNatCast', bufD_ne 0 0 _ (be8_ne n), bufS_ne 1 _ (be8_ne n), show be8N n 8 = be8 n from rfl]
      rfl
  · dsimp only [stB]
    simp (disch := omega) only [push_cast, ↓wF_free, ↓reduceIte, Nat.reduceEqDiff, Nat.reduceLT, Nat.reduceLeDiff, Nat.reduceAdd, Nat.reduceSub, Nat.reduceMul, Nat.reduceBEq, Int.reduceLT, Int.reduceLE, Int.reduceToNat, Int.reduceNeg, Int.reducePow, Int.reduceAdd, Int.reduceMul, Int.reduceSub, ↓Int.reduceNatCast', nil_bufD1 0 1]
    refine W_while (fun j : Nat => [(0, .int .u64 n), (3, bufD 0 1 ((be8N n j).map byteD)), (4, .int .i64 (56 - 8 * (j : Int)))]) (fun j => (⟨false, 1, [.int .u64 0, .int .u64 0], false⟩ : Obj) :: bufS 1 ((be8N n j).map byteD)) (fun j => j ≤ 8) (fun j => 8 - j) 0 (by simp only [push_cast, ↓wF_free, ↓reduceIte, Nat.reduceEqDiff, Nat.reduceLT, Nat.reduceLeDiff, Nat.reduceAdd, Nat.reduceSub, Nat.reduceMul, Nat.reduceBEq, Int.reduceLT, Int.reduceLE, Int.reduceToNat, Int.reduceNeg, Int.reducePow, Int.reduceAdd, Int.reduceMul, Int.reduceSub, ↓Int.reduceNatCast', show be8N n 0 = [] from rfl] <;> rfl) (by omega) ?_
    intro j hj
    have hl := be8N_length n j
    unfold F_wagonpoolref03_Bytes_L0
    simp (disch := omega) only [push_cast, ↓wF_free, ↓reduceIte, Nat.reduceEqDiff, Nat.reduceLT, Nat.reduceLeDiff, Nat.reduceAdd, Nat.reduceSub, Nat.reduceMul, Nat.reduceBEq, Int.reduceLT, Int.reduceLE, Int.reduceToNat, Int.reduceNeg, Int.reducePow, Int.reduceAdd, Int.reduceMul, Int.reduceSub, ↓Int.reduceNatCast']
    refine ifD_split (fun h2 => ?_) (fun h2 => ?_)
    · have et : (56 - 8 * (j : Int)).toNat = 56 - 8 * j := by omega
      have hq : 0 ≤ n / 2 ^ (56 - 8 * j) := Int.ediv_nonneg h0 (Int.le_of_lt (Int.pow_pos (by decide)))
      simp (disch := first | omega | decide) only [push_cast, ↓wF_free, ↓reduceIte, Nat.reduceEqDiff, Nat.reduceLT, Nat.reduceLeDiff, Nat.reduceAdd, Nat.reduceSub, Nat.reduceMul, Nat.reduceBEq, Int.reduceLT, Int.reduceLE, Int.reduceToNat, Int.reduceNeg, Int.reducePow, Int.reduceAdd, Int.reduceMul, Int.reduceSub, ↓Int.reduceNatCast', shr_u, et, conv_ub, sub_i]
      refine next_head (j + 1) (by omega) (by omega) ?_
      rw [be8N_succ, show 56 - 8 * ((j + 1 : Nat) : Int) = 56 - 8 * (j : Int) - 8 by omega]
    · obtain rfl : j = 8 := by omega
      simp (disch := omega) only [push_cast, ↓wF_free, ↓reduceIte, Nat.reduceEqDiff, Nat.reduceLT, Nat.reduceLeDiff, Nat.reduceAdd, Nat.reduceSub, Nat.reduceMul, Nat.reduceBEq, Int.reduceLT, Int.reduceLE, Int.reduceToNat, Int.reduceNeg, Int.reducePow, Int.reduceAdd, Int.reduceMul, Int.reduceSub, ↓Int.reduceNatCast', bufD_ne 0 1 _ (be8_ne n), bufS_ne 1 _ (be8_ne n), show be8N n 8 = be8 n from rfl]
      rfl
  · dsimp only [stB]
    simp (disch := omega) only [push_cast, ↓wF_free, ↓reduceIte, Nat.reduceEqDiff, Nat.reduceLT, Nat.reduceLeDiff, Nat.reduceAdd, Nat.reduceSub, Nat.reduceMul, Nat.reduceBEq, Int.reduceLT, Int.reduceLE, Int.reduceToNat, Int.reduceNeg, Int.reducePow, Int.reduceAdd, Int.reduceMul, Int.reduceSub, ↓Int.reduceNatCast', nil_bufD1 0 1]
    refine W_while (fun j : Nat => [(0, .int .u64 n), (3, bufD 0 1 ((be8N n j).map byteD)), (4, .int .i64 (56 - 8 * (j : Int)))]) (fun j => (⟨true, 1, l.map byteD, false⟩ : Obj) :: bufS 1 ((be8N n j).map byteD)) (fun j => j ≤ 8) (fun j => 8 - j) 0 (by simp only [push_cast, ↓wF_free, ↓reduceIte, Nat.reduceEqDiff, Nat.reduceLT, Nat.reduceLeDiff, Nat.reduceAdd, Nat.reduceSub, Nat.reduceMul, Nat.reduceBEq, Int.reduceLT, Int.reduceLE, Int.reduceToNat, Int.reduceNeg, Int.reducePow, Int.reduceAdd, Int.reduceMul, Int.reduceSub, ↓Int.reduceNatCast', show be8N n 0 = [] from rfl] <;> rfl) (by omega) ?_
    intro j hj
    have hl := be8N_length n j
    unfold F_wagonpoolref03_Bytes_L0
    simp (disch := omega) only [push_cast, ↓wF_free, ↓reduceIte, Nat.reduceEqDiff, Nat.reduceLT, Nat.reduceLeDiff, Nat.reduceAdd, Nat.reduceSub, Nat.reduceMul, Nat.reduceBEq, Int.reduceLT, Int.reduceLE, Int.reduceToNat, Int.reduceNeg, Int.reducePow, Int.reduceAdd, Int.reduceMul, Int.reduceSub, ↓Int.reduceNatCast']
    refine ifD_split (fun h2 => ?_) (fun h2 => ?_)
    · have et : (56 - 8 * (j : Int)).toNat = 56 - 8 * j := by omega
      have hq : 0 ≤ n / 2 ^ (56 - 8 * j) := Int.ediv_nonneg h0 (Int.le_of_lt (Int.pow_pos (by decide)))
      simp (disch := first | omega | decide) only [push_cast, ↓wF_free, ↓reduceIte, Nat.reduceEqDiff, Nat.reduceLT, Nat.reduceLeDiff, Nat.reduceAdd, Nat.reduceSub, Nat.reduceMul, Nat.reduceBEq, Int.reduceLT, Int.reduceLE, Int.reduceToNat, Int.reduceNeg, Int.reducePow, Int.reduceAdd, Int.reduceMul, Int.reduceSub, ↓Int.reduceNatCast', shr_u, et, conv_ub, sub_i]
      refine next_head (j + 1) (by omega) (by omega) ?_
      rw [be8N_succ, show 56 - 8 * ((j + 1 : Nat) : Int) = 56 - 8 * (j : Int) - 8 by omega]
    · obtain rfl : j = 8 := by omega
      simp (disch := omega) only [push_cast, ↓wF_free, ↓reduceIte, Nat.reduceEqDiff, Nat.reduceLT, Nat.reduceLeDiff, Nat.reduceAdd, Nat.reduceSub, Nat.reduceMul, Nat.reduceBEq, Int.reduceLT, Int.reduceLE, Int.reduceToNat, Int.reduceNeg, Int.reducePow, Int.reduceAdd, Int.reduceMul, Int.reduceSub, ↓Int.reduceNatCast', bufD_ne 0 1 _ (be8_ne n), bufS_ne 1 _ (be8_ne n), show be8N n 8 = be8 n from rfl]
      rfl

def secL (b : List UInt8) : Int := if (b.length : Int) < 1 ∨ 64 < (b.length : Int) then 0 else numF ((taggedL [115, 101, 99, 114, 101, 116] b).bs.take 8) % 1152921504606845398 + 1
def secE (b : List UInt8) : Int := if (b.length : Int) < 1 ∨ 64 < (b.length : Int) then 1 else 0
theorem numF8 (d : Dig) : 0 ≤ numF (d.bs.take 8) ∧ numF (d.bs.take 8) < 18446744073709551616 := by
  have hd := d.len
  exact numF_range 8 (d.bs.take 8) (by rw [List.length_take]; omega)
noncomputable def sp_sSecret : List D → Option D := spOf (α := List UInt8) (fun a => [.slc (nz 1 (a.map byteD)) (a.map byteD) false]) (fun a => True) (fun a => .tup [.int .u64 (secL a), .int .i64 (secE a)])
theorem call_sSecret (b : List UInt8) : sp_sSecret [.slc (nz 1 (b.map byteD)) (b.map byteD) false] = some (.tup [.int .u64 (secL b), .int .i64 (secE b)]) :=
  spOf_enc (fun a b h => by simp only [List.cons.injEq, D.slc.injEq, D.int.injEq, D.bool.injEq, D.str.injEq, D.agg.injEq, digs_iff, dig_iff, digC_iff, bytes_iff, byte_iff, words_iff, word_iff, Sha.St8.list_iff, bsl_iff, true_and, and_true] at h; simp [h, Prod.ext_iff]) (b) trivial
set_option maxHeartbeats 4000000 in
set_option maxRecDepth 20000 in
theorem w_sSecret (b : List UInt8) : @wW GG (tb [(19, sp_tagged), (18, sp_sNumber)] []) F_sign_Secret.code (argF [.slc (nz 1 (b.map byteD)) (b.map byteD) false]) [] ⟨retQ F_sign_Secret.res (.tup [.int .u64 (secL b), .int .i64 (secE b)])⟩ := by
  unfold F_sign_Secret
  simp (disch := omega) only [push_cast, ↓wF_free, ↓reduceIte, Nat.reduceEqDiff, Nat.reduceLT, Nat.reduceLeDiff, Nat.reduceAdd, Nat.reduceSub, Nat.reduceMul, Nat.reduceBEq, Int.reduceLT, Int.reduceLE, Int.reduceToNat, Int.reduceNeg, Int.reducePow, Int.reduceAdd, Int.reduceMul, Int.reduceSub, ↓Int.reduceNatCast']
  refine ifD_split (fun h1 => ?_) (fun h1 => ?_)
  · have e1 : secL b = 0 := if_pos (.inl h1)
    have e2 : secE b = 1 := if_pos (.inl h1)
    rw [e1, e2]
    simp (disch := omega) only [push_cast, ↓wF_free, ↓reduceIte, Nat.reduceEqDiff, Nat.reduceLT, Nat.reduceLeDiff, Nat.reduceAdd, Nat.reduceSub, Nat.reduceMul, Nat.reduceBEq, Int.reduceLT, Int.reduceLE, Int.reduceToNat, Int.reduceNeg, Int.reducePow, Int.reduceAdd, Int.reduceMul, Int.reduceSub, ↓Int.reduceNatCast', h1]
  · simp (disch := omega) only [push_cast, ↓wF_free, ↓reduceIte, Nat.reduceEqDiff, Nat.reduceLT, Nat.reduceLeDiff, Nat.reduceAdd, Nat.reduceSub, Nat.reduceMul, Nat.reduceBEq, Int.reduceLT, Int.reduceLE, Int.reduceToNat, Int.reduceNeg, Int.reducePow, Int.reduceAdd, Int.reduceMul, Int.reduceSub, ↓Int.reduceNatCast', h1]
    refine ifD_split (fun h2 => ?_) (fun h2 => ?_)
    · have e1 : secL b = 0 := if_pos (.inr h2)
      have e2 : secE b = 1 := if_pos (.inr h2)
      rw [e1, e2]
      simp (disch := omega) only [push_cast, ↓wF_free, ↓reduceIte, Nat.reduceEqDiff, Nat.reduceLT, Nat.reduceLeDiff, Nat.reduceAdd, Nat.reduceSub, Nat.reduceMul, Nat.reduceBEq, Int.reduceLT, Int.reduceLE, Int.reduceToNat, Int.reduceNeg, Int.reducePow, Int.reduceAdd, Int.reduceMul, Int.reduceSub, ↓Int.reduceNatCast', h1, h2]
    · have e1 : secL b = numF ((taggedL [115, 101, 99, 114, 101, 116] b).bs.take 8) % 1152921504606845398 + 1 := if_neg (by omega)
      have e2 : secE b = 0 := if_neg (by omega)
      obtain ⟨g1, g2⟩ := numF8 (taggedL [115, 101, 99, 114, 101, 116] b)
      have c := call_tagged [115, 101, 99, 114, 101, 116] b (by simp only [List.length_cons, List.length_nil]; omega)
      have g3 : 0 ≤ numF ((taggedL [115, 101, 99, 114, 101, 116] b).bs.take 8) % 1152921504606845398 := Int.emod_nonneg _ (by decide)
      have g4 : numF ((taggedL [115, 101, 99, 114, 101, 116] b).bs.take 8) % 1152921504606845398 < 1152921504606845398 := Int.emod_lt_of_pos _ (by decide)
      rw [e1, e2]
      simp (disch := first | omega | decide) only [push_cast, ↓wF_free, ↓reduceIte, Nat.reduceEqDiff, Nat.reduceLT, Nat.reduceLeDiff, Nat.reduceAdd, Nat.reduceSub, Nat.reduceMul, Nat.reduceBEq, Int.reduceLT, Int.reduceLE, Int.reduceToNat, Int.reduceNeg, Int.reducePow, Int.reduceAdd, Int.reduceMul, Int.reduceSub, ↓Int.reduceNatCast', h1, h2, c, call_sNumber, rem_u, add_u]
theorem c_sSecret : Contract Tryd.prog GG 12 sp_sSecret :=
  contract_of tr_sign_Secret (tb_ok (all_cons c_tagged (all_cons c_sNumber all_nil)) all_nil) (fun a h => w_sSecret a)

noncomputable def sp_rSecret : List D → Option D := spOf (α := List UInt8) (fun a => [.slc (nz 1 (a.map byteD)) (a.map byteD) false]) (fun a => True) (fun a => .tup [.int .u64 (secL a), .int .i64 (secE a)])
theorem call_rSecret (b : List UInt8) : sp_rSecret [.slc (nz 1 (b.map byteD)) (b.map byteD) false] = some (.tup [.int .u64 (secL b), .int .i64 (secE b)]) :=
  spOf_enc (fun a b h => by simp only [List.cons.injEq, D.slc.injEq, D.int.injEq, D.bool.injEq, D.str.injEq, D.agg.injEq, digs_iff, dig_iff, digC_iff, bytes_iff, byte_iff, words_iff, word_iff, Sha.St8.list_iff, bsl_iff, true_and, and_true] at h; simp [h, Prod.ext_iff]) (b) trivial
set_option maxHeartbeats 4000000 in
set_option maxRecDepth 20000 in
theorem w_rSecret (b : List UInt8) : @wW GG (tb [(36, sp_rtagged), (35, sp_rNumber)] []) F_wagonpoolref03_Secret.code (argF [.slc (nz 1 (b.map byteD)) (b.map byteD) false]) [] ⟨retQ F_wagonpoolref03_Secret.res (.tup [.int .u64 (secL b), .int .i64 (secE b)])⟩ := by
  unfold F_wagonpoolref03_Secret
  simp (disch := omega) only [push_cast, ↓wF_free, ↓reduceIte, Nat.reduceEqDiff, Nat.reduceLT, Nat.reduceLeDiff, Nat.reduceAdd, Nat.reduceSub, Nat.reduceMul, Nat.reduceBEq, Int.reduceLT, Int.reduceLE, Int.reduceToNat, Int.reduceNeg, Int.reducePow, Int.reduceAdd, Int.reduceMul, Int.reduceSub, ↓Int.reduceNatCast']
  refine ifD_split (fun h1 => ?_) (fun h1 => ?_)
  · have e1 : secL b = 0 := if_pos (.inl h1)
    have e2 : secE b = 1 := if_pos (.inl h1)
    rw [e1, e2]
    simp (disch := omega) only [push_cast, ↓wF_free, ↓reduceIte, Nat.reduceEqDiff, Nat.reduceLT, Nat.reduceLeDiff, Nat.reduceAdd, Nat.reduceSub, Nat.reduceMul, Nat.reduceBEq, Int.reduceLT, Int.reduceLE, Int.reduceToNat, Int.reduceNeg, Int.reducePow, Int.reduceAdd, Int.reduceMul, Int.reduceSub, ↓Int.reduceNatCast', h1]
  · simp (disch := omega) only [push_cast, ↓wF_free, ↓reduceIte, Nat.reduceEqDiff, Nat.reduceLT, Nat.reduceLeDiff, Nat.reduceAdd, Nat.reduceSub, Nat.reduceMul, Nat.reduceBEq, Int.reduceLT, Int.reduceLE, Int.reduceToNat, Int.reduceNeg, Int.reducePow, Int.reduceAdd, Int.reduceMul, Int.reduceSub, ↓Int.reduceNatCast', h1]
    refine ifD_split (fun h2 => ?_) (fun h2 => ?_)
    · have e1 : secL b = 0 := if_pos (.inr h2)
      have e2 : secE b = 1 := if_pos (.inr h2)
      rw [e1, e2]
      simp (disch := omega) only [push_cast, ↓wF_free, ↓reduceIte, Nat.reduceEqDiff, Nat.reduceLT, Nat.reduceLeDiff, Nat.reduceAdd, Nat.reduceSub, Nat.reduceMul, Nat.reduceBEq, Int.reduceLT, Int.reduceLE, Int.reduceToNat, Int.reduceNeg, Int.reducePow, Int.reduceAdd, Int.reduceMul, Int.reduceSub, ↓Int.reduceNatCast', h1, h2]
    · have e1 : secL b = numF ((taggedL [115, 101, 99, 114, 101, 116] b).bs.take 8) % 1152921504606845398 + 1 := if_neg (by omega)
      have e2 : secE b = 0 := if_neg (by omega)
      obtain ⟨g1, g2⟩ := numF8 (taggedL [115, 101, 99, 114, 101, 116] b)
      have c := call_rtagged [115, 101, 99, 114, 101, 116] b (by simp only [List.length_cons, List.length_nil]; omega)
      have g3 : 0 ≤ numF ((taggedL [115, 101, 99, 114, 101, 116] b).bs.take 8) % 1152921504606845398 := Int.emod_nonneg _ (by decide)
      have g4 : numF ((taggedL [115, 101, 99, 114, 101, 116] b).bs.take 8) % 1152921504606845398 < 1152921504606845398 := Int.emod_lt_of_pos _ (by decide)
      rw [e1, e2]
      simp (disch := first | omega | decide) only [push_cast, ↓wF_free, ↓reduceIte, Nat.reduceEqDiff, Nat.reduceLT, Nat.reduceLeDiff, Nat.reduceAdd, Nat.reduceSub, Nat.reduceMul, Nat.reduceBEq, Int.reduceLT, Int.reduceLE, Int.reduceToNat, Int.reduceNeg, Int.reducePow, Int.reduceAdd, Int.reduceMul, Int.reduceSub, ↓Int.reduceNatCast', h1, h2, c, call_rNumber, rem_u, add_u]
theorem c_rSecret : Contract Tryd.prog GG 23 sp_rSecret :=
  contract_of tr_wagonpoolref03_Secret (tb_ok (all_cons c_rtagged (all_cons c_rNumber all_nil)) all_nil) (fun a h => w_rSecret a)

def chL (r p : Int) (m : List UInt8) : Int := numF ((taggedL [99, 104, 97, 108, 108, 101, 110, 103, 101] (be8 r ++ be8 p ++ m)).bs.take 8) % 1152921504606845399

noncomputable def sp_rChal : List D → Option D := spOf (α := Int × Int × List UInt8) (fun a => [.int .u64 a.1, .int .u64 a.2.1, .slc (nz 1 (a.2.2.map byteD)) (a.2.2.map byteD) false]) (fun a => 0 ≤ a.1 ∧ a.1 < 18446744073709551616 ∧ 0 ≤ a.2.1 ∧ a.2.1 < 18446744073709551616 ∧ a.2.2.length ≤ 70000) (fun a => .int .u64 (chL a.1 a.2.1 a.2.2))
theorem call_rChal (r : Int) (p : Int) (m : List UInt8) (h : 0 ≤ r ∧ r < 18446744073709551616 ∧ 0 ≤ p ∧ p < 18446744073709551616 ∧ m.length ≤ 70000) : sp_rChal [.int .u64 r, .int .u64 p, .slc (nz 1 (m.map byteD)) (m.map byteD) false] = some (.int .u64 (chL r p m)) :=
  spOf_enc (fun ⟨a0, a1, a2⟩ ⟨b0, b1, b2⟩ h => by simp only [List.cons.injEq, D.slc.injEq, D.int.injEq, D.bool.injEq, D.str.injEq, D.agg.injEq, digs_iff, dig_iff, digC_iff, bytes_iff, byte_iff, words_iff, word_iff, Sha.St8.list_iff, bsl_iff, true_and, and_true] at h; simp [h, Prod.ext_iff]) (r, p, m) h
set_option maxHeartbeats 4000000 in
set_option maxRecDepth 20000 in
theorem w_rChal (r : Int) (p : Int) (m : List UInt8) (h : 0 ≤ r ∧ r < 18446744073709551616 ∧ 0 ≤ p ∧ p < 18446744073709551616 ∧ m.length ≤ 70000) : @wW GG (tb [(36, sp_rtagged), (35, sp_rNumber)] [(37, si_Bytes)]) F_wagonpoolref03_Challenge.code (argF [.int .u64 r, .int .u64 p, .slc (nz 1 (m.map byteD)) (m.map byteD) false]) [] ⟨retQ F_wagonpoolref03_Challenge.res (.int .u64 (chL r p m))⟩ := by
  obtain ⟨hr0, hr1, hp0, hp1, hm⟩ := h
  have l1 : (be8 r).length = 8 := be8N_length r 8
  have l2 : (be8 p).length = 8 := be8N_length p 8
  have c := call_rtagged [99, 104, 97, 108, 108, 101, 110, 103, 101] (be8 r ++ be8 p ++ m) (by simp only [List.length_cons, List.length_nil, List.length_append]; omega)
  have ce : elsOf [(⟨true, 1, (be8 r).map byteD, false⟩ : Obj), ⟨true, 1, (be8 p).map byteD, false⟩] (.row 1 (be8 p).length 0 (be8 p).length) = some (1, (be8 p).map byteD) := by
    rw [elsOf_row]
    simp [rowEls, List.take_of_length_le]
  have l3 : (be8 r ++ be8 p).length = 16 := by rw [List.length_append, l1, l2]
  have g := numF8 (taggedL [99, 104, 97, 108, 108, 101, 110, 103, 101] (be8 r ++ be8 p ++ m))
  have e : chL r p m = numF ((taggedL [99, 104, 97, 108, 108, 101, 110, 103, 101] (be8 r ++ be8 p ++ m)).bs.take 8) % 1152921504606845399 := rfl
  rw [e]
  unfold F_wagonpoolref03_Challenge
  simp (disch := first | omega | decide) only [push_cast, ↓wF_free, ↓reduceIte, Nat.reduceEqDiff, Nat.reduceLT, Nat.reduceLeDiff, Nat.reduceAdd, Nat.reduceSub, Nat.reduceMul, Nat.reduceBEq, Int.reduceLT, Int.reduceLE, Int.reduceToNat, Int.reduceNeg, Int.reducePow, Int.reduceAdd, Int.reduceMul, Int.reduceSub, ↓Int.reduceNatCast', call_Bytes0 r ⟨hr0, hr1⟩, call_Bytes1 (be8 r) p ⟨hp0, hp1⟩, ce, c, call_rNumber, rem_u]
theorem c_rChal : Contract Tryd.prog GG 38 sp_rChal :=
  contract_of tr_wagonpoolref03_Challenge (tb_ok (all_cons c_rtagged (all_cons c_rNumber all_nil)) (all_cons ci_Bytes all_nil)) (fun a h => w_rChal a.1 a.2.1 a.2.2 h)
end Go.Proofs.YtgnekjlciiefbaaDoor.PI
