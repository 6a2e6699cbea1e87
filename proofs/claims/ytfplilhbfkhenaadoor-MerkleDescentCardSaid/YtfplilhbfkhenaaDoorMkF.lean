/-
  merkle: the examples with which each statement begins hold.
  Conditions: none; these are lemmas.
-/
import Derived.Test.YtfplilhbfkhenaaDoorMkE
namespace Go.Proofs.YtfplilhbfkhenaaDoor.PI
open Go
set_option linter.unusedSimpArgs false
set_option linter.unusedVariables false

def dig1 (b : UInt8) : Dig := ⟨b :: List.replicate 31 0, by simp⟩
theorem fill_dig1 (b : UInt8) : fillD (digC zeroDig) [(0, 1, byteD b)] = some (digC (dig1 b)) := by
  have h : digC zeroDig = (List.replicate 32 (0 : UInt8)).map byteD := rfl
  rw [h, fill_cons byteD (fun _ => rfl) _ _ _ _ (by simp), fill_nil]
  rfl
theorem litD_dig2 (a b : Dig) : litD 32 [digD a, digD b] = some (.slc 32 [digD a, digD b] true) := by
  simp [litD, digD_cells, digC_length]
theorem litD_dig3 (a b c : Dig) : litD 32 [digD a, digD b, digD c] = some (.slc 32 [digD a, digD b, digD c] true) := by
  simp [litD, digD_cells, digC_length]
theorem b1 : D.int .u8 1 = byteD 1 := rfl
theorem b2 : D.int .u8 2 = byteD 2 := rfl
theorem pad_first : padL.bs.getD 0 0 = 6 := by decide +kernel
theorem pad_ne (b : UInt8) (h : b ≠ 6) : dig1 b ≠ padL := by
  intro e
  have := pad_first
  rw [← e] at this
  exact h this

theorem fill_commit1 (k : IntKind) (n : Int) (z d : Dig) : fillD (.int k n :: digC z) [(1, 32, digD d)] = some (.int k n :: digC d) := by
  have h2 : splice (.int k n :: digC z) 1 (digC d) = .int k n :: digC d := by
    rw [show (1 : Nat) = 0 + 1 from rfl, splice_cons, splice_dig]
  have h3 : (digC d).length = 32 := digC_length d
  have h4 : (digC z).length = 32 := digC_length z
  simp only [fillD, digD_cells, digC_cells, h3, List.length_cons, h4, h2]
  rfl

noncomputable def sp_sane : List D → Option D := spOf (α := Unit) (fun _ => []) (fun _ => True) (fun _ => .bool true)
theorem call_sane : sp_sane [] = some (.bool true) :=
  spOf_enc (fun _ _ _ => rfl) () trivial
set_option maxHeartbeats 4000000 in
set_option maxRecDepth 20000 in
theorem w_sane : @wW GG (tb [(24, sp_mDepth), (15, sp_mRoot), (17, sp_mPath), (22, sp_mParent), (20, sp_mPad), (19, sp_Same), (26, sp_mFirst), (28, sp_mIncludes)] []) F_wagonpoollaw04_sane.code (argF []) [] ⟨retQ F_wagonpoollaw04_sane.res (.bool true)⟩ := by
  unfold F_wagonpoollaw04_sane
  have d0 : depthL 0 = 0 := by decide +kernel
  have d1 : depthL 1 = 0 := by decide +kernel
  have d2 : depthL 2 = 1 := by decide +kernel
  have d3 : depthL 3 = 2 := by decide +kernel
  have d4 : depthL 65536 = 16 := by decide +kernel
  have d5 : depthL (-1) = -1 := by decide +kernel
  have d6 : depthL 65537 = -1 := by decide +kernel
  generalize hx : dig1 1 = x
  generalize hy : dig1 2 = y
  have hxy : x ≠ y := by
    rw [← hx, ← hy]; intro e
    have := congrArg (fun d => Dig.bs d) e
    simp [dig1] at this
  have hxp : y ≠ padL := by rw [← hy]; exact pad_ne 2 (by decide)
  have fx : fillD (digC zeroDig) [(0, 1, .int .u8 1)] = some (digC x) := by rw [← hx]; exact fill_dig1 1
  have fy : fillD (digC zeroDig) [(0, 1, .int .u8 2)] = some (digC y) := by rw [← hy]; exact fill_dig1 2
  have g0 : rootL [] = ((0 : Int), padL) := by
    unfold rootL; rw [if_pos (by simp)]
    show ((0 : Int), nodeL [] (depthL 0).toNat 0) = _
    rw [d0]; rfl
  have g1 : rootL [x] = ((1 : Int), x) := by
    unfold rootL; rw [if_pos (by simp)]
    show ((1 : Int), nodeL [x] (depthL 1).toNat 0) = _
    rw [d1]; rfl
  have g2 : rootL [x, y] = ((2 : Int), parentL x y) := by
    unfold rootL; rw [if_pos (by simp)]
    show ((2 : Int), nodeL [x, y] (depthL 2).toNat 0) = _
    rw [d2]; rfl
  have g3 : rootL [x, y, x] = ((3 : Int), parentL (parentL x y) (parentL x padL)) := by
    unfold rootL; rw [if_pos (by simp)]
    show ((3 : Int), nodeL [x, y, x] (depthL 3).toNat 0) = _
    rw [d3]; rfl
  have k0 : errL [] = 0 := by unfold errL; rw [if_pos (by simp)]
  have k1 : errL [x] = 0 := by unfold errL; rw [if_pos (by simp)]
  have k2 : errL [x, y] = 0 := by unfold errL; rw [if_pos (by simp)]
  have k3 : errL [x, y, x] = 0 := by unfold errL; rw [if_pos (by simp)]
  have q3 : pathOf [x, y, x] 2 = [padL, parentL x y] := by
    have e : pathOf [x, y, x] 2 = pathL [x, y, x] 2 (depthL 3).toNat := by
      unfold pathOf
      rw [if_pos]
      · rfl
      · show ((3 : Int) ≤ 65536 ∧ 0 ≤ (2 : Int) ∧ 2 < 2 ^ (depthL 3).toNat)
        rw [d3]; decide
    rw [e, d3]; rfl
  have q3e : pathE [x, y, x] 2 = 0 := by
    unfold pathE
    rw [if_neg (by simp), if_pos]
    show (0 ≤ (2 : Int) ∧ 2 < 2 ^ (depthL 3).toNat)
    rw [d3]; decide
  have q1 : pathOf [x] 1 = [] := by
    unfold pathOf
    rw [if_neg]
    show ¬ ((1 : Int) ≤ 65536 ∧ 0 ≤ (1 : Int) ∧ 1 < 2 ^ (depthL 1).toNat)
    rw [d1]; decide
  have q1e : pathE [x] 1 = 1 := by
    unfold pathE
    rw [if_neg (by simp), if_neg]
    show ¬ (0 ≤ (1 : Int) ∧ 1 < 2 ^ (depthL 1).toNat)
    rw [d1]; decide
  have r0 := call_mRoot []
  have r1 := call_mRoot [x]
  have r2 := call_mRoot [x, y]
  have r3 := call_mRoot [x, y, x]
  have p3 := call_mPath [x, y, x] 2
  have p1 := call_mPath [x] 1
  rw [g0, k0] at r0
  rw [g1, k1] at r1
  rw [g2, k2] at r2
  rw [g3, k3] at r3
  rw [q3, q3e] at p3
  rw [q1, q1e] at p1
  simp only [List.map_nil, List.map_cons, nz_nil, nz_cons] at r0 r1 r2 r3 p3 p1
  have s1 : sp_Same [.slc 32 [digD padL, digD (parentL x y)] false, .slc 32 [digD padL, digD (parentL x y)] false] = some (.bool true) := by
    have := call_Same [padL, parentL x y] [padL, parentL x y] (by simp)
    rw [decide_eq_true rfl] at this
    exact this
  have f1 : sp_mFirst [.slc 32 [digD x, digD y] false, .slc 32 [digD x] false] = some (.int .i64 1) := by
    have := call_mFirst [x, y] [x] (by simp)
    have e : firstL [x, y] [x] = 1 := by
      show firstF [x, y] [x] (1 + 1) 0 = 1
      rw [firstF_eq (a := [x, y]) (b := [x]) rfl]
      exact firstF_ne (a := [x, y]) (b := [x]) (n := 0) (i := 1) hxp
    rw [e] at this
    exact this
  have f2 : sp_mFirst [.slc 32 [digD x] false, .slc 32 [digD x, digD padL] false] = some (.int .i64 (-1)) := by
    have := call_mFirst [x] [x, padL] (by simp)
    have e : firstL [x] [x, padL] = -1 := by
      show firstF [x] [x, padL] (1 + 1) 0 = -1
      rw [firstF_eq (a := [x]) (b := [x, padL]) rfl]
      exact firstF_eq (a := [x]) (b := [x, padL]) (n := 0) (i := 1) rfl
    rw [e] at this
    exact this
  have f3 : sp_mFirst [.slc 32 [digD y, digD x] false, .slc 32 [digD x, digD y] false] = some (.int .i64 0) := by
    have := call_mFirst [y, x] [x, y] (by simp)
    have e : firstL [y, x] [x, y] = 0 := by
      exact firstF_ne (a := [y, x]) (b := [x, y]) (n := 1) (i := 0) (fun h => hxy h.symm)
    rw [e] at this
    exact this
  have i1 : sp_mIncludes [.agg (.int .i64 1 :: digC x), .int .i64 0, digD x, .slc 0 [] false] = some (.bool true) := by
    have := call_mIncludes (1, x) 0 x [] (by decide)
    have e : includesL (1, x) 0 x [] = true := by unfold includesL; simp [d1, climbL]
    rw [e] at this
    exact this
  have i2 : sp_mIncludes [.agg (.int .i64 2 :: digC x), .int .i64 0, digD x, .slc 0 [] false] = some (.bool false) := by
    have := call_mIncludes (2, x) 0 x [] (by decide)
    have e : includesL (2, x) 0 x [] = false := by unfold includesL; simp [d2]
    rw [e] at this
    exact this
  simp (disch := omega) only [push_cast, ↓reduceIte, Nat.reduceEqDiff, Nat.reduceLT, Nat.reduceLeDiff, Nat.reduceAdd, Nat.reduceSub, Nat.reduceMul, Nat.reduceBEq, Int.reduceLT, Int.reduceLE, Int.reduceToNat, Int.reduceNeg, Int.reducePow, Int.reduceAdd, Int.reduceMul, Int.reduceSub, ↓Int.reduceNatCast', fx, fy, fill_commit1, call_mDepth, d0, d1, d2, d3, d4, d5, d6, litD_dig2, litD_dig3, r0, r1, r2, r3, p3, p1, call_mParent, call_mPad, s1, f1, f2, f3, i1, i2]
theorem c_sane : Contract Tryd.prog GG 11 sp_sane :=
  contract_of tr_wagonpoollaw04_sane (tb_ok (all_cons c_mDepth (all_cons c_mRoot (all_cons c_mPath (all_cons c_mParent (all_cons c_mPad (all_cons c_Same (all_cons c_mFirst (all_cons c_mIncludes all_nil)))))))) all_nil) (fun a h => w_sane )
end Go.Proofs.YtfplilhbfkhenaaDoor.PI
