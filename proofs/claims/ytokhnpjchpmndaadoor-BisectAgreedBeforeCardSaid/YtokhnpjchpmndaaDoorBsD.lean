/-
  bisect: the examples with which each statement begins hold; the first laws.
  Conditions: none; these are lemmas.
-/
import Derived.Test.YtokhnpjchpmndaaDoorBsC
namespace Go.Proofs.YtokhnpjchpmndaaDoor.PI
open Go
set_option linter.unusedSimpArgs false
set_option linter.unusedVariables false

def dig1 (b : UInt8) : Dig := ⟨b :: List.replicate 31 0, by simp⟩
theorem fill_dig1 (b : UInt8) : fillD (digC zeroDig) [(0, 1, byteD b)] = some (digC (dig1 b)) := by
  have h : digC zeroDig = (List.replicate 32 (0 : UInt8)).map byteD := rfl
  rw [h, fill_cons byteD (fun _ => rfl) _ _ _ _ (by simp), fill_nil]
  rfl
theorem litD_dig2 (a b : Dig) : litD 32 [digD a, digD b] = some (.slc 32 [digD a, digD b] true) := by
  simp [litD, digD_cells, digC_length]
theorem ne_of_first {a b : Dig} (h : a.bs.getD 0 0 ≠ b.bs.getD 0 0) : a ≠ b := fun e => h (by rw [e])
theorem x_ab : parentL (dig1 1) (dig1 2) ≠ parentL (dig1 1) (dig1 3) := ne_of_first (by decide +kernel)
theorem x_ea : parentL (dig1 2) (dig1 1) ≠ parentL (dig1 1) (dig1 2) := ne_of_first (by decide +kernel)
theorem x_ca : parentL (dig1 1) padL ≠ parentL (dig1 1) (dig1 2) := ne_of_first (by decide +kernel)
theorem x_xy : dig1 1 ≠ dig1 2 := ne_of_first (by decide)
def bis0 (h l i : Int) (a b : Dig) (r : Int) : Bis := ⟨h, l, i, a, b, false, false, zeroDig, zeroDig, zeroDig, zeroDig, r⟩

theorem root_small (l : List Dig) (hl : (l.length : Int) ≤ 65536) : rootL l = ((l.length : Int), nodeL l (depthL l.length).toNat 0) := if_pos hl
theorem dp0 : depthL 0 = 0 := by decide +kernel
theorem dp1 : depthL 1 = 0 := by decide +kernel
theorem dp2 : depthL 2 = 1 := by decide +kernel
theorem root0 : rootL [] = ((0 : Int), padL) := by
  rw [root_small _ (by simp)]
  show ((0 : Int), nodeL [] (depthL 0).toNat 0) = _
  rw [dp0]; rfl
theorem root1 (x : Dig) : rootL [x] = ((1 : Int), x) := by
  rw [root_small _ (by simp)]
  show ((1 : Int), nodeL [x] (depthL 1).toNat 0) = _
  rw [dp1]; rfl
theorem root2 (x y : Dig) : rootL [x, y] = ((2 : Int), parentL x y) := by
  rw [root_small _ (by simp)]
  show ((2 : Int), nodeL [x, y] (depthL 2).toNat 0) = _
  rw [dp2]
  show ((2 : Int), nodeL [x, y] (0 + 1) 0) = _
  rw [node_succ _ _ _ (by omega)]
  rfl

theorem begin22 (A B : Dig) (h : A ≠ B) : beginL (2, A) (2, B) = bis0 1 1 0 A B 0 ∧ beginE (2, A) (2, B) = 0 := by
  have e : beginH (2, A) (2, B) = bis0 1 1 0 A B 0 := by
    unfold beginH bis0
    simp only [dp2]
    simp [padF, dp2]
  unfold beginL beginE
  simp only [dp2, e]
  simp [bis0, h]
theorem begin12 (x A : Dig) (h : parentL x padL ≠ A) : beginL (1, x) (2, A) = bis0 1 1 0 (parentL x padL) A 0 ∧ beginE (1, x) (2, A) = 0 := by
  have e : beginH (1, x) (2, A) = bis0 1 1 0 (parentL x padL) A 0 := by
    unfold beginH bis0
    simp only [dp1, dp2, show max (0 : Int) 1 = 1 by decide]
    simp [padF, dp1, dp2, padN]
  unfold beginL beginE
  simp only [dp1, dp2, e]
  simp [bis0, h]
theorem begin11 (x y : Dig) (h : x ≠ y) : beginL (1, x) (1, y) = bis0 0 0 0 x y 0 ∧ beginE (1, x) (1, y) = 0 := by
  have e : beginH (1, x) (1, y) = bis0 0 0 0 x y 0 := by
    unfold beginH bis0
    simp only [dp1]
    simp [padF]
  unfold beginL beginE
  simp only [dp1, e]
  simp [bis0, h]
theorem begin01 : beginE (0, padL) (1, padL) = 380 := by
  have e : beginH (0, padL) (1, padL) = bis0 0 0 0 padL padL 0 := by
    unfold beginH bis0
    simp only [dp0, dp1]
    simp [padF]
  unfold beginE
  simp only [dp0, dp1, e]
  simp [bis0]
theorem begin01' : beginL (0, padL) (1, padL) = zeroBis := by
  have e : beginH (0, padL) (1, padL) = bis0 0 0 0 padL padL 0 := by
    unfold beginH bis0
    simp only [dp0, dp1]
    simp [padF]
  unfold beginL
  simp only [dp0, dp1, e]
  simp [bis0]

noncomputable def sp_bsane : List D → Option D := spOf (α := Unit) (fun _ => []) (fun _ => True) (fun _ => .bool true)
theorem call_bsane : sp_bsane [] = some (.bool true) :=
  spOf_enc (fun _ _ _ => rfl) () trivial
set_option maxHeartbeats 4000000 in
set_option maxRecDepth 20000 in
theorem w_bsane : @wW GG (tb [(14, sp_root), (13, sp_bBegin), (28, sp_bDisc), (16, sp_bDone), (32, sp_mPad), (27, sp_mParent)] []) F_wagonpoollaw38_sane.code (argF []) [] ⟨retQ F_wagonpoollaw38_sane.res (.bool true)⟩ := by
  have hab := x_ab
  have hea := x_ea
  have hca := x_ca
  have hxy := x_xy
  have fx : fillD (digC zeroDig) [(0, 1, .int .u8 1)] = some (digC (dig1 1)) := fill_dig1 1
  have fy : fillD (digC zeroDig) [(0, 1, .int .u8 2)] = some (digC (dig1 2)) := fill_dig1 2
  have fz : fillD (digC zeroDig) [(0, 1, .int .u8 3)] = some (digC (dig1 3)) := fill_dig1 3
  generalize dig1 1 = x at *
  generalize dig1 2 = y at *
  generalize dig1 3 = z at *
  have r1 : sp_root [.slc 32 [digD x, digD y] false] = some (.agg (.int .i64 2 :: digC (parentL x y))) := by
    have := call_root [x, y]; rw [root2] at this; exact this
  have r2 : sp_root [.slc 32 [digD x, digD z] false] = some (.agg (.int .i64 2 :: digC (parentL x z))) := by
    have := call_root [x, z]; rw [root2] at this; exact this
  have r3 : sp_root [.slc 32 [digD x] false] = some (.agg (.int .i64 1 :: digC x)) := by
    have := call_root [x]; rw [root1] at this; exact this
  have r4 : sp_root [.slc 32 [digD y] false] = some (.agg (.int .i64 1 :: digC y)) := by
    have := call_root [y]; rw [root1] at this; exact this
  have r5 : sp_root [.slc 0 [] false] = some (.agg (.int .i64 0 :: digC padL)) := by
    have := call_root []; rw [root0] at this; exact this
  have r6 : sp_root [.slc 32 [digD padL] false] = some (.agg (.int .i64 1 :: digC padL)) := by
    have := call_root [padL]; rw [root1] at this; exact this
  have g1 : sp_bBegin [.agg (.int .i64 2 :: digC (parentL x y)), .agg (.int .i64 2 :: digC (parentL x z))] = some (.tup [bisD (bis0 1 1 0 (parentL x y) (parentL x z) 0), .int .i64 0]) := by
    have := call_bBegin (2, parentL x y) (2, parentL x z)
    rw [(begin22 _ _ hab).1, (begin22 _ _ hab).2] at this
    exact this
  have g2 : sp_bBegin [.agg (.int .i64 1 :: digC x), .agg (.int .i64 2 :: digC (parentL x y))] = some (.tup [bisD (bis0 1 1 0 (parentL x padL) (parentL x y) 0), .int .i64 0]) := by
    have := call_bBegin (1, x) (2, parentL x y)
    rw [(begin12 _ _ hca).1, (begin12 _ _ hca).2] at this
    exact this
  have g3 : sp_bBegin [.agg (.int .i64 1 :: digC x), .agg (.int .i64 1 :: digC y)] = some (.tup [bisD (bis0 0 0 0 x y 0), .int .i64 0]) := by
    have := call_bBegin (1, x) (1, y)
    rw [(begin11 _ _ hxy).1, (begin11 _ _ hxy).2] at this
    exact this
  have g4 : sp_bBegin [.agg (.int .i64 0 :: digC padL), .agg (.int .i64 1 :: digC padL)] = some (.tup [bisD zeroBis, .int .i64 380]) := by
    have := call_bBegin (0, padL) (1, padL)
    rw [begin01, begin01'] at this
    exact this
  have t1 : sp_bDisc [bisD (bis0 1 1 0 (parentL x y) (parentL x z) 0), .int .i64 0, digD x, digD y] = some (.tup [bisD { bis0 1 1 0 (parentL x y) (parentL x z) 0 with t0 := true, l0 := x, r0 := y }, .int .i64 0]) := by
    have := call_bDisc (bis0 1 1 0 (parentL x y) (parentL x z) 0) 0 x y (by decide)
    have e1 : discL (bis0 1 1 0 (parentL x y) (parentL x z) 0) 0 x y = { bis0 1 1 0 (parentL x y) (parentL x z) 0 with t0 := true, l0 := x, r0 := y } := by simp [discL, bvalid, bis0, toldB, nodeB, setB]
    have e2 : discE (bis0 1 1 0 (parentL x y) (parentL x z) 0) 0 x y = 0 := by simp [discE, bvalid, bis0, toldB, nodeB]
    rw [e1, e2] at this
    exact this
  have t2 : sp_bDisc [bisD { bis0 1 1 0 (parentL x y) (parentL x z) 0 with t0 := true, l0 := x, r0 := y }, .int .i64 1, digD x, digD z] = some (.tup [bisD (bis0 1 0 1 y z 1), .int .i64 0]) := by
    have := call_bDisc { bis0 1 1 0 (parentL x y) (parentL x z) 0 with t0 := true, l0 := x, r0 := y } 1 x z (by decide)
    have e1 : discL { bis0 1 1 0 (parentL x y) (parentL x z) 0 with t0 := true, l0 := x, r0 := y } 1 x z = bis0 1 0 1 y z 1 := by simp [discL, bvalid, bis0, toldB, nodeB, setB, stepB, zeroBis]
    have e2 : discE { bis0 1 1 0 (parentL x y) (parentL x z) 0 with t0 := true, l0 := x, r0 := y } 1 x z = 0 := by simp [discE, bvalid, bis0, toldB, nodeB]
    rw [e1, e2] at this
    exact this
  have t3 : sp_bDisc [bisD (bis0 1 1 0 (parentL x y) (parentL x z) 0), .int .i64 0, digD y, digD x] = some (.tup [bisD zeroBis, .int .i64 381]) := by
    have := call_bDisc (bis0 1 1 0 (parentL x y) (parentL x z) 0) 0 y x (by decide)
    have e1 : discL (bis0 1 1 0 (parentL x y) (parentL x z) 0) 0 y x = zeroBis := by simp [discL, bvalid, bis0, toldB, nodeB, setB, hea]
    have e2 : discE (bis0 1 1 0 (parentL x y) (parentL x z) 0) 0 y x = 381 := by simp [discE, bvalid, bis0, toldB, nodeB, hea]
    rw [e1, e2] at this
    exact this
  have d1 : sp_bDone [bisD (bis0 1 0 1 y z 1)] = some (.tup [.int .i64 1, .agg (d2C y z), .bool true]) := by
    have := call_bDone (bis0 1 0 1 y z 1)
    have e : doneOk (bis0 1 0 1 y z 1) = true := by simp [doneOk, bvalid, bis0]
    simp only [doneI, doneA, doneB, e, if_true] at this
    exact this
  have d2 : sp_bDone [bisD (bis0 1 1 0 (parentL x y) (parentL x z) 0)] = some (.tup [.int .i64 0, .agg (d2C zeroDig zeroDig), .bool false]) := by
    have := call_bDone (bis0 1 1 0 (parentL x y) (parentL x z) 0)
    have e : doneOk (bis0 1 1 0 (parentL x y) (parentL x z) 0) = false := by simp [doneOk, bvalid, bis0]
    simp only [doneI, doneA, doneB, e, Bool.false_eq_true, if_false] at this
    exact this
  have d3 : sp_bDone [bisD (bis0 0 0 0 x y 0)] = some (.tup [.int .i64 0, .agg (d2C x y), .bool true]) := by
    have := call_bDone (bis0 0 0 0 x y 0)
    have e : doneOk (bis0 0 0 0 x y 0) = true := by simp [doneOk, bvalid, bis0]
    simp only [doneI, doneA, doneB, e, if_true] at this
    exact this
  have z1 : ({ zeroBis with h := 1, l := 1, n0 := parentL x y, n1 := parentL x z } : Bis) = bis0 1 1 0 (parentL x y) (parentL x z) 0 := rfl
  have z2 : ({ zeroBis with h := 1, i := 1, n0 := y, n1 := z, r := 1 } : Bis) = bis0 1 0 1 y z 1 := rfl
  have z3 : (bis0 1 1 0 (parentL x padL) (parentL x y) 0).n0 = parentL x padL := rfl
  have z4 : (bis0 1 1 0 (parentL x padL) (parentL x y) 0).n1 = parentL x y := rfl
  have c1 : fillD [.bool false, .bool false] [(0, 1, .bool true), (1, 1, .bool false)] = some [.bool true, .bool false] := rfl
  have c2 : paeq [1, 1] false (.agg [.bool true, .bool (bis0 1 1 0 (parentL x y) (parentL x z) 0).t1]) (.agg [.bool true, .bool false]) = some (.bool true) := rfl
  unfold F_wagonpoollaw38_sane
  simp (disch := first | omega | decide) only [push_cast, ↓wF_free, ↓reduceIte, Nat.reduceEqDiff, Nat.reduceLT, Nat.reduceLeDiff, Nat.reduceAdd, Nat.reduceSub, Nat.reduceMul, Nat.reduceBEq, Int.reduceLT, Int.reduceLE, Int.reduceToNat, Int.reduceNeg, Int.reducePow, Int.reduceAdd, Int.reduceMul, Int.reduceSub, ↓Int.reduceNatCast', fx, fy, fz, litD_dig2, litD_one_dig, litD_nil32, r1, r2, r3, r4, r5, r6, g1, g2, g3, g4, t1, t2, t3, d1, d2, d3, call_mPad, call_mParent, stO_commit, ldO_commit, box_commit, fill_nil, z1, z2, z3, z4, c1, c2, and_self]
theorem c_bsane : Contract Tryd.prog GG 11 sp_bsane :=
  contract_of tr_wagonpoollaw38_sane (tb_ok (all_cons c_root (all_cons c_bBegin (all_cons c_bDisc (all_cons c_bDone (all_cons c_mPad (all_cons c_mParent all_nil)))))) all_nil) (fun a h => w_bsane )
end Go.Proofs.YtokhnpjchpmndaaDoor.PI
