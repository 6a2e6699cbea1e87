/-
  merkle: 'collides' and the descent.
  Conditions: none; these are lemmas.
-/
import Derived.Test.YtfplilhbfkhenaaDoorMkQ
namespace Go.Proofs.YtfplilhbfkhenaaDoor.PI
open Go
set_option linter.unusedSimpArgs false
set_option linter.unusedVariables false

theorem tup_db2 (d : Dig) (b : Bool) : (D.tup [digD d, .bool b]).noRef = true := by
  have := digD_noRef d
  simp only [digD, D.noRef] at this
  simp [digD, D.noRef, D.noRef1, this]
theorem node_low (l : List Dig) (level k : Int) (hl : l.length ≤ 64) (h0 : 0 ≤ level) (h1 : level ≤ 6) (hk : 0 ≤ k) (h2 : k < 2 ^ (6 - level).toNat) : nodeOk l level k = true ∧ nodeR l level k = nodeL l level.toNat k := by
  have h3 : (2 : Int) ^ (6 - level).toNat ≤ 2 ^ (16 - level).toNat := pow_mono (by omega)
  have e : nodeOk l level k = true := by unfold nodeOk; simp; omega
  exact ⟨e, by unfold nodeR; rw [if_pos e]⟩

noncomputable def sp_col (n : Nat) : List D → Option D := spOf (α := List Dig × List Dig × Int × Int) (fun a => [.slc (nz 32 (a.1.map digD)) (a.1.map digD) false, .slc (nz 32 (a.2.1.map digD)) (a.2.1.map digD) false, .int .i64 a.2.2.1, .int .i64 a.2.2.2])
  (fun a => a.1.length ≤ 64 ∧ a.2.1.length ≤ 64 ∧ 0 ≤ a.2.2.1 ∧ a.2.2.1 < (n : Int) ∧ a.2.2.1 ≤ 6 ∧ 0 ≤ a.2.2.2 ∧ a.2.2.2 < 2 ^ (6 - a.2.2.1).toNat) (fun a => .bool (collidesL a.1 a.2.1 a.2.2.1.toNat a.2.2.2))
theorem call_col (n : Nat) (a b : List Dig) (level k : Int) (h : a.length ≤ 64 ∧ b.length ≤ 64 ∧ 0 ≤ level ∧ level < (n : Int) ∧ level ≤ 6 ∧ 0 ≤ k ∧ k < 2 ^ (6 - level).toNat) :
    sp_col n [.slc (nz 32 (a.map digD)) (a.map digD) false, .slc (nz 32 (b.map digD)) (b.map digD) false, .int .i64 level, .int .i64 k] = some (.bool (collidesL a b level.toNat k)) :=
  spOf_enc (fun ⟨a0, a1, a2, a3⟩ ⟨b0, b1, b2, b3⟩ h => by simp only [List.cons.injEq, D.slc.injEq, D.int.injEq, D.bool.injEq, D.str.injEq, D.agg.injEq, digs_iff, dig_iff, digC_iff, bytes_iff, byte_iff, words_iff, word_iff, Sha.St8.list_iff, bsl_iff, true_and, and_true] at h; simp [h, Prod.ext_iff]) (a, b, level, k) h

set_option maxHeartbeats 4000000 in
set_option maxRecDepth 20000 in
theorem w_col (n : Nat) (a b : List Dig) (level k : Int) (h : a.length ≤ 64 ∧ b.length ≤ 64 ∧ 0 ≤ level ∧ level < ((n + 1 : Nat) : Int) ∧ level ≤ 6 ∧ 0 ≤ k ∧ k < 2 ^ (6 - level).toNat) :
    @wW GG (tb [(13, sp_mNode), (35, sp_col n)] []) F_wagonpoollaw04_collides.code (argF [.slc (nz 32 (a.map digD)) (a.map digD) false, .slc (nz 32 (b.map digD)) (b.map digD) false, .int .i64 level, .int .i64 k]) [] ⟨retQ F_wagonpoollaw04_collides.res (.bool (collidesL a b level.toNat k))⟩ := by
  obtain ⟨ha, hb, hl0, hl1, hl2, hk0, hk1⟩ := h
  have hp := pow_pos2 (6 - level).toNat
  have h16 : (2 : Int) ^ (6 - level).toNat ≤ 2 ^ 6 := pow_mono (by omega)
  unfold F_wagonpoollaw04_collides
  simp (disch := omega) only [push_cast, ↓reduceIte, Nat.reduceEqDiff, Nat.reduceLT, Nat.reduceLeDiff, Nat.reduceAdd, Nat.reduceSub, Nat.reduceMul, Nat.reduceBEq, Int.reduceLT, Int.reduceLE, Int.reduceToNat, Int.reduceNeg, Int.reducePow, Int.reduceAdd, Int.reduceMul, Int.reduceSub, ↓Int.reduceNatCast']
  refine ifD_split (fun h1 => ?_) (fun h1 => ?_)
  · have e : level.toNat = 0 := by omega
    rw [e]
    simp (disch := omega) only [push_cast, ↓reduceIte, Nat.reduceEqDiff, Nat.reduceLT, Nat.reduceLeDiff, Nat.reduceAdd, Nat.reduceSub, Nat.reduceMul, Nat.reduceBEq, Int.reduceLT, Int.reduceLE, Int.reduceToNat, Int.reduceNeg, Int.reducePow, Int.reduceAdd, Int.reduceMul, Int.reduceSub, ↓Int.reduceNatCast', h1, collidesL]
  · have hpw : (2 : Int) ^ (6 - (level - 1)).toNat = 2 * 2 ^ (6 - level).toNat := by
      rw [show (6 - (level - 1)).toNat = (6 - level).toNat + 1 by omega, Int.pow_succ, Int.mul_comm]
    obtain ⟨a1, a2⟩ := node_low a level k ha (by omega) (by omega) (by omega) hk1
    obtain ⟨a3, a4⟩ := node_low b level k hb (by omega) (by omega) (by omega) hk1
    obtain ⟨a5, a6⟩ := node_low a (level - 1) (2 * k) ha (by omega) (by omega) (by omega) (by omega)
    obtain ⟨a7, a8⟩ := node_low b (level - 1) (2 * k) hb (by omega) (by omega) (by omega) (by omega)
    obtain ⟨b5, b6⟩ := node_low a (level - 1) (2 * k + 1) ha (by omega) (by omega) (by omega) (by omega)
    obtain ⟨b7, b8⟩ := node_low b (level - 1) (2 * k + 1) hb (by omega) (by omega) (by omega) (by omega)
    have c1 := call_col n a b (level - 1) (2 * k) ⟨ha, hb, by omega, by omega, by omega, by omega, by omega⟩
    have c2 := call_col n a b (level - 1) (2 * k + 1) ⟨ha, hb, by omega, by omega, by omega, by omega, by omega⟩
    have e : collidesL a b level.toNat k = ((decide (nodeL a level.toNat k = nodeL b level.toNat k) && (!decide (nodeL a (level - 1).toNat (2 * k) = nodeL b (level - 1).toNat (2 * k)) || !decide (nodeL a (level - 1).toNat (2 * k + 1) = nodeL b (level - 1).toNat (2 * k + 1)))) || (collidesL a b (level - 1).toNat (2 * k) || collidesL a b (level - 1).toNat (2 * k + 1))) := by
      rw [show level.toNat = (level - 1).toNat + 1 by omega]; rfl
    generalize collidesL a b (level - 1).toNat (2 * k) = C1 at *
    generalize collidesL a b (level - 1).toNat (2 * k + 1) = C2 at *
    generalize collidesL a b level.toNat k = C at *
    generalize nodeL a level.toNat k = X at *
    generalize nodeL b level.toNat k = Y at *
    generalize nodeL a (level - 1).toNat (2 * k) = P at *
    generalize nodeL b (level - 1).toNat (2 * k) = Q at *
    generalize nodeL a (level - 1).toNat (2 * k + 1) = R at *
    generalize nodeL b (level - 1).toNat (2 * k + 1) = S at *
    have e1 : X = Y → P ≠ Q → C = true := fun h2 h3 => by rw [e, decide_eq_true h2, decide_eq_false h3]; simp
    have e2 : X = Y → R ≠ S → C = true := fun h2 h3 => by rw [e, decide_eq_true h2, decide_eq_false h3]; simp
    have e3 : X = Y → P = Q → R = S → C = (C1 || C2) := fun h2 h3 h4 => by rw [e, decide_eq_true h2, decide_eq_true h3, decide_eq_true h4]; simp
    have e4 : X ≠ Y → C = (C1 || C2) := fun h2 => by rw [e, decide_eq_false h2]; simp
    clear e
    simp (disch := omega) only [push_cast, ↓reduceIte, Nat.reduceEqDiff, Nat.reduceLT, Nat.reduceLeDiff, Nat.reduceAdd, Nat.reduceSub, Nat.reduceMul, Nat.reduceBEq, Int.reduceLT, Int.reduceLE, Int.reduceToNat, Int.reduceNeg, Int.reducePow, Int.reduceAdd, Int.reduceMul, Int.reduceSub, ↓Int.reduceNatCast', h1, call_mNode, tup_db2, sub_i, mul_i, add_i, a1, a2, a3, a4, a5, a6, a7, a8, b5, b6, b7, b8]
    refine ifD_split (fun h2 => ?_) (fun h2 => ?_)
    · simp (disch := omega) only [push_cast, ↓reduceIte, Nat.reduceEqDiff, Nat.reduceLT, Nat.reduceLeDiff, Nat.reduceAdd, Nat.reduceSub, Nat.reduceMul, Nat.reduceBEq, Int.reduceLT, Int.reduceLE, Int.reduceToNat, Int.reduceNeg, Int.reducePow, Int.reduceAdd, Int.reduceMul, Int.reduceSub, ↓Int.reduceNatCast', h1, h2]
      refine ifD_split (fun h3 => ?_) (fun h3 => ?_)
      · simp (disch := omega) only [push_cast, ↓reduceIte, Nat.reduceEqDiff, Nat.reduceLT, Nat.reduceLeDiff, Nat.reduceAdd, Nat.reduceSub, Nat.reduceMul, Nat.reduceBEq, Int.reduceLT, Int.reduceLE, Int.reduceToNat, Int.reduceNeg, Int.reducePow, Int.reduceAdd, Int.reduceMul, Int.reduceSub, ↓Int.reduceNatCast', h1, h2, h3]
        refine ifD_split (fun h4 => ?_) (fun h4 => ?_)
        · rw [e3 h2 h3 h4]
          cases C1
          · simp (disch := omega) only [push_cast, ↓reduceIte, Nat.reduceEqDiff, Nat.reduceLT, Nat.reduceLeDiff, Nat.reduceAdd, Nat.reduceSub, Nat.reduceMul, Nat.reduceBEq, Int.reduceLT, Int.reduceLE, Int.reduceToNat, Int.reduceNeg, Int.reducePow, Int.reduceAdd, Int.reduceMul, Int.reduceSub, ↓Int.reduceNatCast', h1, h2, h3, h4, sub_i, mul_i, add_i, c1, c2]
          · simp (disch := omega) only [push_cast, ↓reduceIte, Nat.reduceEqDiff, Nat.reduceLT, Nat.reduceLeDiff, Nat.reduceAdd, Nat.reduceSub, Nat.reduceMul, Nat.reduceBEq, Int.reduceLT, Int.reduceLE, Int.reduceToNat, Int.reduceNeg, Int.reducePow, Int.reduceAdd, Int.reduceMul, Int.reduceSub, ↓Int.reduceNatCast', h1, h2, h3, h4, sub_i, mul_i, add_i, c1, c2]
        · rw [e2 h2 h4]
          simp (disch := omega) only [push_cast, ↓reduceIte, Nat.reduceEqDiff, Nat.reduceLT, Nat.reduceLeDiff, Nat.reduceAdd, Nat.reduceSub, Nat.reduceMul, Nat.reduceBEq, Int.reduceLT, Int.reduceLE, Int.reduceToNat, Int.reduceNeg, Int.reducePow, Int.reduceAdd, Int.reduceMul, Int.reduceSub, ↓Int.reduceNatCast', h1, h2, h3, h4]
      · rw [e1 h2 h3]
        simp (disch := omega) only [push_cast, ↓reduceIte, Nat.reduceEqDiff, Nat.reduceLT, Nat.reduceLeDiff, Nat.reduceAdd, Nat.reduceSub, Nat.reduceMul, Nat.reduceBEq, Int.reduceLT, Int.reduceLE, Int.reduceToNat, Int.reduceNeg, Int.reducePow, Int.reduceAdd, Int.reduceMul, Int.reduceSub, ↓Int.reduceNatCast', h1, h2, h3]
    · rw [e4 h2]
      cases C1
      · simp (disch := omega) only [push_cast, ↓reduceIte, Nat.reduceEqDiff, Nat.reduceLT, Nat.reduceLeDiff, Nat.reduceAdd, Nat.reduceSub, Nat.reduceMul, Nat.reduceBEq, Int.reduceLT, Int.reduceLE, Int.reduceToNat, Int.reduceNeg, Int.reducePow, Int.reduceAdd, Int.reduceMul, Int.reduceSub, ↓Int.reduceNatCast', h1, h2, sub_i, mul_i, add_i, c1, c2]
      · simp (disch := omega) only [push_cast, ↓reduceIte, Nat.reduceEqDiff, Nat.reduceLT, Nat.reduceLeDiff, Nat.reduceAdd, Nat.reduceSub, Nat.reduceMul, Nat.reduceBEq, Int.reduceLT, Int.reduceLE, Int.reduceToNat, Int.reduceNeg, Int.reducePow, Int.reduceAdd, Int.reduceMul, Int.reduceSub, ↓Int.reduceNatCast', h1, h2, sub_i, mul_i, add_i, c1, c2]
theorem c_col : ∀ n, Contract Tryd.prog GG 35 (sp_col n)
  | 0 => contract_of tr_wagonpoollaw04_collides (T := tb [] []) (tb_ok all_nil all_nil) (fun a h => by simp at h; omega)
  | n + 1 => contract_of tr_wagonpoollaw04_collides (T := tb [(13, sp_mNode), (35, sp_col n)] []) (tb_ok (all_cons c_mNode (all_cons (c_col n) all_nil)) all_nil) (fun a h => w_col n a.1 a.2.1 a.2.2.1 a.2.2.2 h)

/-- the least index among the last 't' of 64 at which two lists differ -/
def wantL (a b : List Dig) : Nat → Int
  | 0 => -1
  | t + 1 => if atL a (63 - (t : Int)) padL = atL b (63 - (t : Int)) padL then wantL a b t else 63 - (t : Int)
theorem wantL_spec (a b : List Dig) : ∀ t : Nat, t ≤ 64 → (wantL a b t = -1 ∧ ∀ j : Int, 64 - (t : Int) ≤ j → j < 64 → atL a j padL = atL b j padL) ∨ (64 - (t : Int) ≤ wantL a b t ∧ wantL a b t < 64 ∧ atL a (wantL a b t) padL ≠ atL b (wantL a b t) padL ∧ ∀ j : Int, 64 - (t : Int) ≤ j → j < wantL a b t → atL a j padL = atL b j padL)
  | 0, _ => .inl ⟨rfl, fun j h1 h2 => by omega⟩
  | t + 1, ht => by
    unfold wantL
    by_cases h : atL a (63 - (t : Int)) padL = atL b (63 - (t : Int)) padL
    · rw [if_pos h]
      have hj : ∀ j : Int, 64 - ((t + 1 : Nat) : Int) ≤ j → j < 64 - (t : Int) → atL a j padL = atL b j padL := fun j h1 h2 => by
        rw [show j = 63 - (t : Int) by omega]; exact h
      rcases wantL_spec a b t (by omega) with ⟨e, h1⟩ | ⟨e, h1, h2, h3⟩
      · refine .inl ⟨e, fun j h4 h5 => ?_⟩
        by_cases h6 : j < 64 - (t : Int)
        · exact hj j h4 h6
        · exact h1 j (by omega) h5
      · refine .inr ⟨by omega, h1, h2, fun j h4 h5 => ?_⟩
        by_cases h6 : j < 64 - (t : Int)
        · exact hj j h4 h6
        · exact h3 j (by omega) h5
    · rw [if_neg h]
      exact .inr ⟨by omega, by omega, h, fun j h1 h2 => by omega⟩
theorem wantL_first (a b : List Dig) (ha : a.length ≤ 64) (hb : b.length ≤ 64) : wantL a b 64 = firstL a b := by
  rcases wantL_spec a b 64 (by omega) with ⟨e, h1⟩ | ⟨e, h1, h2, h3⟩
  · rcases firstL_spec a b with ⟨e2, h4⟩ | ⟨h4, h5, h6, h7⟩
    · rw [e, e2]
    · exact absurd (h1 _ (by omega) (by omega)) h6
  · rcases firstL_spec a b with ⟨e2, h4⟩ | ⟨h4, h5, h6, h7⟩
    · exact absurd (h4 _ (by omega)) h2
    · rcases Int.lt_trichotomy (wantL a b 64) (firstL a b) with h | h | h
      · exact absurd (h7 _ (by omega) h) h2
      · exact h
      · exact absurd (h3 _ (by omega) h) h6
theorem node_ne (a b : List Dig) (n : Nat) (k : Int) (hk : 0 ≤ k) (h : nodeL a n k ≠ nodeL b n k) : ∃ j : Int, 0 ≤ j ∧ j / 2 ^ n = k ∧ atL a j padL ≠ atL b j padL :=
  Classical.byContradiction fun hc => h (node_congr a b n k hk fun j h1 h2 => Classical.byContradiction fun h3 => hc ⟨j, h1, h2, h3⟩)
/-- what holds at a node of the descent -/
def onWay (a b : List Dig) (n : Nat) (k : Int) : Prop := n ≤ 6 ∧ 0 ≤ k ∧ k < 2 ^ (6 - n) ∧ (∃ j : Int, 0 ≤ j ∧ j / 2 ^ n = k ∧ atL a j padL ≠ atL b j padL) ∧ (collidesL a b 6 0 = true ∨ k * 2 ^ n ≤ firstL a b)
theorem onWay_top (a b : List Dig) (ha : a.length ≤ 64) (hb : b.length ≤ 64) (h : 0 ≤ firstL a b) : onWay a b 6 0 := by
  rcases firstL_spec a b with ⟨e, _⟩ | ⟨_, h1, h2, _⟩
  · omega
  · exact ⟨by omega, by omega, by decide, ⟨firstL a b, h, by omega, h2⟩, .inr (by omega)⟩
theorem pow_half {n : Nat} (hn : n + 1 ≤ 6) : (2 : Int) ^ (6 - n) = 2 * 2 ^ (6 - (n + 1)) := by
  rw [show 6 - n = (6 - (n + 1)) + 1 by omega, Int.pow_succ, Int.mul_comm]
theorem onWay_left {a b : List Dig} {n : Nat} {k : Int} (h : onWay a b (n + 1) k) (hne : nodeL a n (2 * k) ≠ nodeL b n (2 * k)) : onWay a b n (2 * k) := by
  obtain ⟨h1, h2, h3, _, h5⟩ := h
  have hp := pow_half h1
  refine ⟨by omega, by omega, by omega, node_ne a b n _ (by omega) hne, ?_⟩
  rcases h5 with h5 | h5
  · exact .inl h5
  · right
    rw [Int.pow_succ, Int.mul_comm (2 ^ n) 2, ← Int.mul_assoc, Int.mul_comm k 2] at h5
    exact h5
theorem onWay_right {a b : List Dig} {n : Nat} {k : Int} (h : onWay a b (n + 1) k) (hx : nodeL a (n + 1) k ≠ nodeL b (n + 1) k) (he : nodeL a n (2 * k) = nodeL b n (2 * k)) : onWay a b n (2 * k + 1) := by
  obtain ⟨h1, h2, h3, _, h5⟩ := h
  have hp := pow_half h1
  have hr : nodeL a n (2 * k + 1) ≠ nodeL b n (2 * k + 1) := fun e => hx (by rw [node_succ a n k h2, node_succ b n k h2, he, e])
  refine ⟨by omega, by omega, by omega, node_ne a b n _ (by omega) hr, ?_⟩
  by_cases hl : ∃ j : Int, 0 ≤ j ∧ j / 2 ^ n = 2 * k ∧ atL a j padL ≠ atL b j padL
  · left
    have hc := collides_top a b (6 - n) n (2 * k) (collides_of a b n (2 * k) (by omega) he hl)
    rw [show n + (6 - n) = 6 by omega, Int.ediv_eq_zero_of_lt (by omega) (by omega)] at hc
    exact hc
  · rcases h5 with h5 | h5
    · exact .inl h5
    · right
      rw [Int.pow_succ, Int.mul_comm (2 ^ n) 2, ← Int.mul_assoc, Int.mul_comm k 2] at h5
      have hpn := pow_pos2 n
      rcases Int.lt_or_le (firstL a b) ((2 * k + 1) * 2 ^ n) with h6 | h6
      · have h0 : 0 ≤ firstL a b := Int.le_trans (Int.mul_nonneg (by omega) (by omega)) h5
        rcases firstL_spec a b with ⟨e, _⟩ | ⟨_, _, h8, _⟩
        · omega
        · refine absurd ⟨firstL a b, h0, ?_, h8⟩ hl
          have h9 : 2 * k ≤ firstL a b / 2 ^ n := (Int.le_ediv_iff_mul_le (by omega)).2 h5
          have h10 : firstL a b / 2 ^ n < 2 * k + 1 := (Int.ediv_lt_iff_lt_mul (by omega)).2 h6
          omega
      · exact h6
theorem onWay_end {a b : List Dig} {k : Int} (h : onWay a b 0 k) (hk : k ≠ firstL a b) : collidesL a b 6 0 = true := by
  obtain ⟨_, h2, _, ⟨j, h3, h4, h5⟩, h6⟩ := h
  rcases h6 with h6 | h6
  · exact h6
  · simp at h4 h6
    subst h4
    rcases firstL_spec a b with ⟨e, h7⟩ | ⟨h7, h8, h9, h10⟩
    · exact absurd (h7 j h3) h5
    · rcases Int.lt_trichotomy j (firstL a b) with h | h | h
      · exact absurd (h10 j h3 h) h5
      · exact absurd h hk
      · omega

noncomputable def sp_col7 : List D → Option D := sp_col 7
theorem call_col7 (a b : List Dig) (level k : Int) (h : a.length ≤ 64 ∧ b.length ≤ 64 ∧ 0 ≤ level ∧ level ≤ 6 ∧ 0 ≤ k ∧ k < 2 ^ (6 - level).toNat) :
    sp_col7 [.slc (nz 32 (a.map digD)) (a.map digD) false, .slc (nz 32 (b.map digD)) (b.map digD) false, .int .i64 level, .int .i64 k] = some (.bool (collidesL a b level.toNat k)) :=
  call_col 7 a b level k ⟨h.1, h.2.1, h.2.2.1, by omega, h.2.2.2⟩
theorem c_col7 : Contract Tryd.prog GG 35 sp_col7 := c_col 7


set_option maxHeartbeats 4000000 in
set_option maxRecDepth 20000 in
theorem lw_MerkleDescent (a : List Dig) (ha : a.length ≤ maxLen) (b : List Dig) (hb : b.length ≤ maxLen) : @wW GG (tb [(11, sp_sane), (12, sp_few), (31, sp_element), (26, sp_mFirst), (13, sp_mNode), (35, sp_col7)] []) F_wagonpoollaw04_MerkleDescent.code (argF [.slc (nz 32 (a.map digD)) (a.map digD) false, .slc (nz 32 (b.map digD)) (b.map digD) false]) [] ⟨retQ F_wagonpoollaw04_MerkleDescent.res (.bool true)⟩ := by
  unfold F_wagonpoollaw04_MerkleDescent
  simp (disch := omega) only [push_cast, ↓reduceIte, Nat.reduceEqDiff, Nat.reduceLT, Nat.reduceLeDiff, Nat.reduceAdd, Nat.reduceSub, Nat.reduceMul, Nat.reduceBEq, Int.reduceLT, Int.reduceLE, Int.reduceToNat, Int.reduceNeg, Int.reducePow, Int.reduceAdd, Int.reduceMul, Int.reduceSub, ↓Int.reduceNatCast', call_sane, call_few]
  refine ifD_split (fun h1 => ?_) (fun h1 => ?_)
  · simp (disch := omega) only [push_cast, ↓reduceIte, Nat.reduceEqDiff, Nat.reduceLT, Nat.reduceLeDiff, Nat.reduceAdd, Nat.reduceSub, Nat.reduceMul, Nat.reduceBEq, Int.reduceLT, Int.reduceLE, Int.reduceToNat, Int.reduceNeg, Int.reducePow, Int.reduceAdd, Int.reduceMul, Int.reduceSub, ↓Int.reduceNatCast', h1, call_few]
    refine ifD_split (fun h2 => ?_) (fun h2 => ?_)
    · simp (disch := omega) only [push_cast, ↓reduceIte, Nat.reduceEqDiff, Nat.reduceLT, Nat.reduceLeDiff, Nat.reduceAdd, Nat.reduceSub, Nat.reduceMul, Nat.reduceBEq, Int.reduceLT, Int.reduceLE, Int.reduceToNat, Int.reduceNeg, Int.reducePow, Int.reduceAdd, Int.reduceMul, Int.reduceSub, ↓Int.reduceNatCast', h1, h2]
      refine W_while (fun t : Nat => [(0, .slc (nz 32 (a.map digD)) (a.map digD) false), (1, .slc (nz 32 (b.map digD)) (b.map digD) false), (5, .int .i64 (wantL a b t)), (6, .int .i64 (63 - (t : Int)))]) (fun _ => []) (fun t => t ≤ 64) (fun t => 64 - t) 0 (by simp only [push_cast, ↓reduceIte, Nat.reduceEqDiff, Nat.reduceLT, Nat.reduceLeDiff, Nat.reduceAdd, Nat.reduceSub, Nat.reduceMul, Nat.reduceBEq, Int.reduceLT, Int.reduceLE, Int.reduceToNat, Int.reduceNeg, Int.reducePow, Int.reduceAdd, Int.reduceMul, Int.reduceSub, ↓Int.reduceNatCast', wantL] <;> rfl) (by omega) ?_
      intro t ht
      unfold F_wagonpoollaw04_MerkleDescent_L0
      simp (disch := omega) only [push_cast, ↓reduceIte, Nat.reduceEqDiff, Nat.reduceLT, Nat.reduceLeDiff, Nat.reduceAdd, Nat.reduceSub, Nat.reduceMul, Nat.reduceBEq, Int.reduceLT, Int.reduceLE, Int.reduceToNat, Int.reduceNeg, Int.reducePow, Int.reduceAdd, Int.reduceMul, Int.reduceSub, ↓Int.reduceNatCast']
      refine ifD_split (fun h3 => ?_) (fun h3 => ?_)
      · have e1 := element_node a (63 - (t : Int)) h3
        have e2 := element_node b (63 - (t : Int)) h3
        rw [node_zero] at e1 e2
        have c1 := call_element a (63 - (t : Int))
        have c2 := call_element b (63 - (t : Int))
        rw [e1] at c1
        rw [e2] at c2
        simp (disch := omega) only [push_cast, ↓reduceIte, Nat.reduceEqDiff, Nat.reduceLT, Nat.reduceLeDiff, Nat.reduceAdd, Nat.reduceSub, Nat.reduceMul, Nat.reduceBEq, Int.reduceLT, Int.reduceLE, Int.reduceToNat, Int.reduceNeg, Int.reducePow, Int.reduceAdd, Int.reduceMul, Int.reduceSub, ↓Int.reduceNatCast', h3, c1, c2, sub_i]
        refine ifD_split (fun h4 => ?_) (fun h4 => ?_)
        · have e3 : wantL a b (t + 1) = wantL a b t := if_pos h4
          simp (disch := omega) only [push_cast, ↓reduceIte, Nat.reduceEqDiff, Nat.reduceLT, Nat.reduceLeDiff, Nat.reduceAdd, Nat.reduceSub, Nat.reduceMul, Nat.reduceBEq, Int.reduceLT, Int.reduceLE, Int.reduceToNat, Int.reduceNeg, Int.reducePow, Int.reduceAdd, Int.reduceMul, Int.reduceSub, ↓Int.reduceNatCast', h3, sub_i]
          refine next_head (t + 1) (by omega) (by omega) ?_
          rw [e3, show 63 - ((t + 1 : Nat) : Int) = 63 - (t : Int) - 1 by omega]
        · have e3 : wantL a b (t + 1) = 63 - (t : Int) := if_neg h4
          simp (disch := omega) only [push_cast, ↓reduceIte, Nat.reduceEqDiff, Nat.reduceLT, Nat.reduceLeDiff, Nat.reduceAdd, Nat.reduceSub, Nat.reduceMul, Nat.reduceBEq, Int.reduceLT, Int.reduceLE, Int.reduceToNat, Int.reduceNeg, Int.reducePow, Int.reduceAdd, Int.reduceMul, Int.reduceSub, ↓Int.reduceNatCast', h3, sub_i]
          refine next_head (t + 1) (by omega) (by omega) ?_
          rw [e3, show 63 - ((t + 1 : Nat) : Int) = 63 - (t : Int) - 1 by omega]
      · obtain rfl : t = 64 := by omega
        have e := wantL_first a b (by omega) (by omega)
        rw [e]
        simp (disch := omega) only [push_cast, ↓reduceIte, Nat.reduceEqDiff, Nat.reduceLT, Nat.reduceLeDiff, Nat.reduceAdd, Nat.reduceSub, Nat.reduceMul, Nat.reduceBEq, Int.reduceLT, Int.reduceLE, Int.reduceToNat, Int.reduceNeg, Int.reducePow, Int.reduceAdd, Int.reduceMul, Int.reduceSub, ↓Int.reduceNatCast', h3, call_mFirst]
        refine ifD_split (fun h4 => ?_) (fun h4 => ?_)
        · simp (disch := omega) only [push_cast, ↓reduceIte, Nat.reduceEqDiff, Nat.reduceLT, Nat.reduceLeDiff, Nat.reduceAdd, Nat.reduceSub, Nat.reduceMul, Nat.reduceBEq, Int.reduceLT, Int.reduceLE, Int.reduceToNat, Int.reduceNeg, Int.reducePow, Int.reduceAdd, Int.reduceMul, Int.reduceSub, ↓Int.reduceNatCast', h4]
        · simp (disch := omega) only [push_cast, ↓reduceIte, Nat.reduceEqDiff, Nat.reduceLT, Nat.reduceLeDiff, Nat.reduceAdd, Nat.reduceSub, Nat.reduceMul, Nat.reduceBEq, Int.reduceLT, Int.reduceLE, Int.reduceToNat, Int.reduceNeg, Int.reducePow, Int.reduceAdd, Int.reduceMul, Int.reduceSub, ↓Int.reduceNatCast', h4]
          refine W_while (fun s : Nat × Int => [(0, .slc (nz 32 (a.map digD)) (a.map digD) false), (1, .slc (nz 32 (b.map digD)) (b.map digD) false), (5, .int .i64 (firstL a b)), (7, .int .i64 s.2), (8, .int .i64 (s.1 : Int))]) (fun _ => []) (fun s => onWay a b s.1 s.2) (fun s => s.1) (6, 0) (by simp only [push_cast, ↓reduceIte, Nat.reduceEqDiff, Nat.reduceLT, Nat.reduceLeDiff, Nat.reduceAdd, Nat.reduceSub, Nat.reduceMul, Nat.reduceBEq, Int.reduceLT, Int.reduceLE, Int.reduceToNat, Int.reduceNeg, Int.reducePow, Int.reduceAdd, Int.reduceMul, Int.reduceSub, ↓Int.reduceNatCast'] <;> rfl) (onWay_top a b (by omega) (by omega) (by omega)) ?_
          rintro ⟨n, k⟩ hw
          change onWay a b n k at hw
          have hw' := hw
          obtain ⟨w1, w2, w3, w4, w5⟩ := hw'
          unfold F_wagonpoollaw04_MerkleDescent_L1
          simp (disch := omega) only [push_cast, ↓reduceIte, Nat.reduceEqDiff, Nat.reduceLT, Nat.reduceLeDiff, Nat.reduceAdd, Nat.reduceSub, Nat.reduceMul, Nat.reduceBEq, Int.reduceLT, Int.reduceLE, Int.reduceToNat, Int.reduceNeg, Int.reducePow, Int.reduceAdd, Int.reduceMul, Int.reduceSub, ↓Int.reduceNatCast']
          refine ifD_split (fun h5 => ?_) (fun h5 => ?_)
          · obtain ⟨m, hm⟩ : ∃ m, n = m + 1 := ⟨n - 1, by omega⟩
            have q0 : (6 - (n : Int)).toNat = 6 - n := by omega
            have q1 : (6 - ((n : Int) - 1)).toNat = 6 - m := by omega
            have q2 : ((n : Int) - 1).toNat = m := by omega
            have hp := pow_half (n := m) (by omega)
            rw [← hm] at hp
            have h16 : (2 : Int) ^ (6 - n) ≤ 2 ^ 6 := pow_mono (by omega)
            obtain ⟨a1, a2⟩ := node_low a (n : Int) k (by omega) (by omega) (by omega) w2 (by rw [q0]; exact w3)
            obtain ⟨a3, a4⟩ := node_low b (n : Int) k (by omega) (by omega) (by omega) w2 (by rw [q0]; exact w3)
            obtain ⟨a5, a6⟩ := node_low a ((n : Int) - 1) (2 * k) (by omega) (by omega) (by omega) (by omega) (by rw [q1]; omega)
            obtain ⟨a7, a8⟩ := node_low b ((n : Int) - 1) (2 * k) (by omega) (by omega) (by omega) (by omega) (by rw [q1]; omega)
            rw [Int.toNat_natCast] at a2 a4
            rw [q2] at a6 a8
            simp (disch := omega) only [push_cast, ↓reduceIte, Nat.reduceEqDiff, Nat.reduceLT, Nat.reduceLeDiff, Nat.reduceAdd, Nat.reduceSub, Nat.reduceMul, Nat.reduceBEq, Int.reduceLT, Int.reduceLE, Int.reduceToNat, Int.reduceNeg, Int.reducePow, Int.reduceAdd, Int.reduceMul, Int.reduceSub, ↓Int.reduceNatCast', h5, call_mNode, tup_db2, sub_i, mul_i, add_i, a1, a2, a3, a4, a5, a6, a7, a8]
            refine ifD_split (fun h6 => ?_) (fun h6 => ?_)
            · have hc := call_col7 a b n k ⟨by omega, by omega, by omega, by omega, w2, by rw [q0]; exact w3⟩
              rw [Int.toNat_natCast, collides_of a b n k w2 h6 w4] at hc
              simp (disch := omega) only [push_cast, ↓reduceIte, Nat.reduceEqDiff, Nat.reduceLT, Nat.reduceLeDiff, Nat.reduceAdd, Nat.reduceSub, Nat.reduceMul, Nat.reduceBEq, Int.reduceLT, Int.reduceLE, Int.reduceToNat, Int.reduceNeg, Int.reducePow, Int.reduceAdd, Int.reduceMul, Int.reduceSub, ↓Int.reduceNatCast', hc]
            · rw [hm] at h6 hw
              simp (disch := omega) only [push_cast, ↓reduceIte, Nat.reduceEqDiff, Nat.reduceLT, Nat.reduceLeDiff, Nat.reduceAdd, Nat.reduceSub, Nat.reduceMul, Nat.reduceBEq, Int.reduceLT, Int.reduceLE, Int.reduceToNat, Int.reduceNeg, Int.reducePow, Int.reduceAdd, Int.reduceMul, Int.reduceSub, ↓Int.reduceNatCast']
              refine ifD_split (fun h7 => ?_) (fun h7 => ?_)
              · have hn := onWay_right hw h6 h7
                simp (disch := omega) only [push_cast, ↓reduceIte, Nat.reduceEqDiff, Nat.reduceLT, Nat.reduceLeDiff, Nat.reduceAdd, Nat.reduceSub, Nat.reduceMul, Nat.reduceBEq, Int.reduceLT, Int.reduceLE, Int.reduceToNat, Int.reduceNeg, Int.reducePow, Int.reduceAdd, Int.reduceMul, Int.reduceSub, ↓Int.reduceNatCast', sub_i, mul_i, add_i]
                refine next_head (m, 2 * k + 1) hn (by show m < n; omega) ?_
                rw [show (m : Int) = (n : Int) - 1 by omega]
              · have hn := onWay_left hw h7
                simp (disch := omega) only [push_cast, ↓reduceIte, Nat.reduceEqDiff, Nat.reduceLT, Nat.reduceLeDiff, Nat.reduceAdd, Nat.reduceSub, Nat.reduceMul, Nat.reduceBEq, Int.reduceLT, Int.reduceLE, Int.reduceToNat, Int.reduceNeg, Int.reducePow, Int.reduceAdd, Int.reduceMul, Int.reduceSub, ↓Int.reduceNatCast', sub_i, mul_i, add_i]
                refine next_head (m, 2 * k) hn (by show m < n; omega) ?_
                rw [show (m : Int) = (n : Int) - 1 by omega]
          · have hn0 : n = 0 := by omega
            rw [hn0] at hw
            simp (disch := omega) only [push_cast, ↓reduceIte, Nat.reduceEqDiff, Nat.reduceLT, Nat.reduceLeDiff, Nat.reduceAdd, Nat.reduceSub, Nat.reduceMul, Nat.reduceBEq, Int.reduceLT, Int.reduceLE, Int.reduceToNat, Int.reduceNeg, Int.reducePow, Int.reduceAdd, Int.reduceMul, Int.reduceSub, ↓Int.reduceNatCast', h5]
            refine ifD_split (fun h6 => ?_) (fun h6 => ?_)
            · simp (disch := omega) only [push_cast, ↓reduceIte, Nat.reduceEqDiff, Nat.reduceLT, Nat.reduceLeDiff, Nat.reduceAdd, Nat.reduceSub, Nat.reduceMul, Nat.reduceBEq, Int.reduceLT, Int.reduceLE, Int.reduceToNat, Int.reduceNeg, Int.reducePow, Int.reduceAdd, Int.reduceMul, Int.reduceSub, ↓Int.reduceNatCast', h6]
            · have hc := call_col7 a b 6 0 ⟨by omega, by omega, by omega, by omega, by omega, by decide⟩
              have e6 : collidesL a b (6 : Int).toNat 0 = true := onWay_end hw h6
              rw [e6] at hc
              simp (disch := omega) only [push_cast, ↓reduceIte, Nat.reduceEqDiff, Nat.reduceLT, Nat.reduceLeDiff, Nat.reduceAdd, Nat.reduceSub, Nat.reduceMul, Nat.reduceBEq, Int.reduceLT, Int.reduceLE, Int.reduceToNat, Int.reduceNeg, Int.reducePow, Int.reduceAdd, Int.reduceMul, Int.reduceSub, ↓Int.reduceNatCast', h6, hc]
    · simp (disch := omega) only [push_cast, ↓reduceIte, Nat.reduceEqDiff, Nat.reduceLT, Nat.reduceLeDiff, Nat.reduceAdd, Nat.reduceSub, Nat.reduceMul, Nat.reduceBEq, Int.reduceLT, Int.reduceLE, Int.reduceToNat, Int.reduceNeg, Int.reducePow, Int.reduceAdd, Int.reduceMul, Int.reduceSub, ↓Int.reduceNatCast', h1, h2]
  · simp (disch := omega) only [push_cast, ↓reduceIte, Nat.reduceEqDiff, Nat.reduceLT, Nat.reduceLeDiff, Nat.reduceAdd, Nat.reduceSub, Nat.reduceMul, Nat.reduceBEq, Int.reduceLT, Int.reduceLE, Int.reduceToNat, Int.reduceNeg, Int.reducePow, Int.reduceAdd, Int.reduceMul, Int.reduceSub, ↓Int.reduceNatCast', h1]
theorem law_MerkleDescent : Contract Tryd.prog GG 10 (lawSp [.slc tDig, .slc tDig]) := by
  refine lawC tr_wagonpoollaw04_MerkleDescent (T := tb [(11, sp_sane), (12, sp_few), (31, sp_element), (26, sp_mFirst), (13, sp_mNode), (35, sp_col7)] []) (tb_ok (all_cons c_sane (all_cons c_few (all_cons c_element (all_cons c_mFirst (all_cons c_mNode (all_cons c_col7 all_nil)))))) all_nil) ?_
  intro xs h
  obtain ⟨x0, xs, rfl, h0, h⟩ := hasAll_cons h
  obtain ⟨x1, xs, rfl, h1, h⟩ := hasAll_cons h
  obtain rfl := hasAll_nil h
  obtain ⟨y0, rfl, ya0⟩ := has_digs h0
  obtain ⟨y1, rfl, ya1⟩ := has_digs h1
  exact lw_MerkleDescent y0 ya0 y1 ya1
end Go.Proofs.YtfplilhbfkhenaaDoor.PI
