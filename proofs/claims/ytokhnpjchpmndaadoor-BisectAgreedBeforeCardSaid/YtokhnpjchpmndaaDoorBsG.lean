/-
  bisect: collisions in the trees over two lists; where a bisection ends.
  Conditions: none; these are lemmas.
-/
import Derived.Test.YtokhnpjchpmndaaDoorBsF
namespace Go.Proofs.YtokhnpjchpmndaaDoor.PI
open Go
set_option linter.unusedSimpArgs false
set_option linter.unusedVariables false

/-- two different pairs with the same parent, at a place -/
def colP (a b : List Dig) (lv : Nat) (k : Int) : Bool := decide ((nodeL a lv (2 * k) ≠ nodeL b lv (2 * k) ∨ nodeL a lv (2 * k + 1) ≠ nodeL b lv (2 * k + 1)) ∧ parentL (nodeL a lv (2 * k)) (nodeL a lv (2 * k + 1)) = parentL (nodeL b lv (2 * k)) (nodeL b lv (2 * k + 1)))
def colRow (a b : List Dig) (lv n : Nat) : Bool := (List.range n).any fun k => colP a b lv (k : Int)
def colUp (a b : List Dig) (n : Nat) : Bool := (List.range n).any fun lv => colRow a b lv (2 ^ (3 - lv))
def colB (a b : List Dig) : Bool := colUp a b (hgt a b).toNat
theorem colRow_succ (a b : List Dig) (lv n : Nat) : colRow a b lv (n + 1) = (colRow a b lv n || colP a b lv (n : Int)) := by
  simp [colRow, List.range_succ, List.any_append]
theorem colUp_succ (a b : List Dig) (n : Nat) : colUp a b (n + 1) = (colUp a b n || colRow a b n (2 ^ (3 - n))) := by
  simp [colUp, List.range_succ, List.any_append]
theorem colRow_of {a b : List Dig} {lv n k : Nat} (h : k < n) (hc : colP a b lv (k : Int) = true) : colRow a b lv n = true := by
  simp only [colRow, List.any_eq_true, List.mem_range]
  exact ⟨k, h, hc⟩
theorem colUp_of {a b : List Dig} {lv n : Nat} (h : lv < n) (hc : colRow a b lv (2 ^ (3 - lv)) = true) : colUp a b n = true := by
  simp only [colUp, List.any_eq_true, List.mem_range]
  exact ⟨lv, h, hc⟩
theorem sh16 (lv : Nat) (h : lv ≤ 3) : (16 : Int) / 2 ^ ((lv : Int) + 1).toNat = 2 ^ (3 - lv) := by
  have : lv = 0 ∨ lv = 1 ∨ lv = 2 ∨ lv = 3 := by omega
  rcases this with rfl | rfl | rfl | rfl <;> decide

noncomputable def sp_collides38 : List D → Option D := spOf (α := List Dig × List Dig) (fun a => [.slc (nz 32 (a.1.map digD)) (a.1.map digD) false, .slc (nz 32 (a.2.map digD)) (a.2.map digD) false]) (fun a => (a.1.length : Int) ≤ 10 ∧ (a.2.length : Int) ≤ 10) (fun a => .bool (colB a.1 a.2))
theorem call_collides38 (a : List Dig) (b : List Dig) (h : (a.length : Int) ≤ 10 ∧ (b.length : Int) ≤ 10) : sp_collides38 [.slc (nz 32 (a.map digD)) (a.map digD) false, .slc (nz 32 (b.map digD)) (b.map digD) false] = some (.bool (colB a b)) :=
  spOf_enc (fun ⟨a0, a1⟩ ⟨b0, b1⟩ h => by simp only [List.cons.injEq, D.slc.injEq, D.int.injEq, D.bool.injEq, D.str.injEq, D.agg.injEq, digs_iff, dig_iff, digC_iff, bytes_iff, byte_iff, words_iff, word_iff, Sha.St8.list_iff, bsl_iff, true_and, and_true, bisD_iff] at h; simp [h, Prod.ext_iff]) (a, b) h
set_option maxHeartbeats 4000000 in
set_option maxRecDepth 20000 in
theorem w_collides38 (a : List Dig) (b : List Dig) (h : (a.length : Int) ≤ 10 ∧ (b.length : Int) ≤ 10) : @wW GG (tb [(36, sp_rDepth), (37, sp_rNode), (38, sp_rParent)] []) F_wagonpoollaw38_collides.code (argF [.slc (nz 32 (a.map digD)) (a.map digD) false, .slc (nz 32 (b.map digD)) (b.map digD) false]) [] ⟨retQ F_wagonpoollaw38_collides.res (.bool (colB a b))⟩ := by
  obtain ⟨ha, hb⟩ := h
  have hr := hgt_range a b ha hb
  have cd : sp_rDepth [.int .i64 (max (a.length : Int) (b.length : Int))] = some (.int .i64 (hgt a b)) := call_rDepth _
  have tn : ∀ (d : Dig) (q : Bool), (D.tup [digD d, .bool q]).noRef = true := fun d q => by simp [D.noRef, digD, noRef_digA, D.noRef1]
  unfold F_wagonpoollaw38_collides
  simp (disch := first | omega | decide) only [push_cast, ↓wF_free, ↓reduceIte, Nat.reduceEqDiff, Nat.reduceLT, Nat.reduceLeDiff, Nat.reduceAdd, Nat.reduceSub, Nat.reduceMul, Nat.reduceBEq, Int.reduceLT, Int.reduceLE, Int.reduceToNat, Int.reduceNeg, Int.reducePow, Int.reduceAdd, Int.reduceMul, Int.reduceSub, ↓Int.reduceNatCast', cd]
  unfold colB
  generalize hgt a b = h at *
  refine W_while (fun n : Nat => [(0, .slc (nz 32 (a.map digD)) (a.map digD) false), (1, .slc (nz 32 (b.map digD)) (b.map digD) false), (5, .int .i64 h), (6, .int .i64 (n : Int))]) (fun _ => []) (fun n => (n : Int) ≤ h ∧ colUp a b n = false) (fun n => (h - n).toNat) 0 (by simp only [push_cast, ↓wF_free, ↓reduceIte, Nat.reduceEqDiff, Nat.reduceLT, Nat.reduceLeDiff, Nat.reduceAdd, Nat.reduceSub, Nat.reduceMul, Nat.reduceBEq, Int.reduceLT, Int.reduceLE, Int.reduceToNat, Int.reduceNeg, Int.reducePow, Int.reduceAdd, Int.reduceMul, Int.reduceSub, ↓Int.reduceNatCast'] <;> rfl) ⟨by omega, rfl⟩ ?_
  rintro n ⟨hn, hc⟩
  unfold F_wagonpoollaw38_collides_L1
  by_cases hlt : (n : Int) < h
  · have q5 : (n : Int) < 5 := by omega
    simp (disch := first | omega | decide) only [push_cast, ↓wF_free, ↓reduceIte, Nat.reduceEqDiff, Nat.reduceLT, Nat.reduceLeDiff, Nat.reduceAdd, Nat.reduceSub, Nat.reduceMul, Nat.reduceBEq, Int.reduceLT, Int.reduceLE, Int.reduceToNat, Int.reduceNeg, Int.reducePow, Int.reduceAdd, Int.reduceMul, Int.reduceSub, ↓Int.reduceNatCast', hlt, q5]
    refine W_while (fun k : Nat => [(0, .slc (nz 32 (a.map digD)) (a.map digD) false), (1, .slc (nz 32 (b.map digD)) (b.map digD) false), (5, .int .i64 h), (6, .int .i64 (n : Int)), (7, .int .i64 (k : Int))]) (fun _ => []) (fun k => k ≤ 2 ^ (3 - n) ∧ colRow a b n k = false) (fun k => 2 ^ (3 - n) - k) 0 (by simp only [push_cast, ↓wF_free, ↓reduceIte, Nat.reduceEqDiff, Nat.reduceLT, Nat.reduceLeDiff, Nat.reduceAdd, Nat.reduceSub, Nat.reduceMul, Nat.reduceBEq, Int.reduceLT, Int.reduceLE, Int.reduceToNat, Int.reduceNeg, Int.reducePow, Int.reduceAdd, Int.reduceMul, Int.reduceSub, ↓Int.reduceNatCast'] <;> rfl) ⟨Nat.zero_le _, rfl⟩ ?_
    rintro k ⟨hk, hck⟩
    have hp := sh16 n (by omega)
    have h8 : 2 ^ (3 - n) ≤ 8 := by
      have : 2 ^ (3 - n) ≤ 2 ^ 3 := Nat.pow_le_pow_right (by decide) (by omega)
      exact this
    have hq : ((2 ^ (3 - n) : Nat) : Int) = 2 ^ (3 - n) := by simp
    unfold F_wagonpoollaw38_collides_L0
    by_cases hkl : k < 2 ^ (3 - n)
    · have hkl' : (k : Int) < 2 ^ (3 - n) := by omega
      have hw : (16 : Int) ≤ 2 ^ (16 - (n : Int)).toNat := by
        have := pow_mono (a := 4) (b := (16 - (n : Int)).toNat) (by omega)
        omega
      have n1 := nodeR_in a (n : Int) (2 * (k : Int)) (by omega) (by omega) (by omega) (by omega) (by omega)
      have n2 := nodeR_in a (n : Int) (2 * (k : Int) + 1) (by omega) (by omega) (by omega) (by omega) (by omega)
      have n3 := nodeR_in b (n : Int) (2 * (k : Int)) (by omega) (by omega) (by omega) (by omega) (by omega)
      have n4 := nodeR_in b (n : Int) (2 * (k : Int) + 1) (by omega) (by omega) (by omega) (by omega) (by omega)
      have hcp : colP a b n (k : Int) = decide ((nodeL a n (2 * (k : Int)) ≠ nodeL b n (2 * (k : Int)) ∨ nodeL a n (2 * (k : Int) + 1) ≠ nodeL b n (2 * (k : Int) + 1)) ∧ parentL (nodeL a n (2 * (k : Int))) (nodeL a n (2 * (k : Int) + 1)) = parentL (nodeL b n (2 * (k : Int))) (nodeL b n (2 * (k : Int) + 1))) := rfl
      rw [Int.toNat_natCast] at n1 n2 n3 n4
      have hyes : colP a b n (k : Int) = true → colUp a b h.toNat = true := fun hx => colUp_of (lv := n) (by omega) (colRow_of (k := k) hkl hx)
      have hno : colP a b n (k : Int) = false → colRow a b n (k + 1) = false := fun hx => by rw [colRow_succ, hck, hx]; rfl
      generalize nodeL a n (2 * (k : Int)) = al at *
      generalize nodeL a n (2 * (k : Int) + 1) = ar at *
      generalize nodeL b n (2 * (k : Int)) = bl at *
      generalize nodeL b n (2 * (k : Int) + 1) = br at *
      by_cases e1 : al = bl
      · by_cases e2 : ar = br
        · have hx := hno (by rw [hcp]; exact decide_eq_false fun hh => by rcases hh.1 with h | h; exact h e1; exact h e2)
          simp (disch := first | omega | decide) only [push_cast, ↓wF_free, ↓reduceIte, Nat.reduceEqDiff, Nat.reduceLT, Nat.reduceLeDiff, Nat.reduceAdd, Nat.reduceSub, Nat.reduceMul, Nat.reduceBEq, Int.reduceLT, Int.reduceLE, Int.reduceToNat, Int.reduceNeg, Int.reducePow, Int.reduceAdd, Int.reduceMul, Int.reduceSub, ↓Int.reduceNatCast', hp, hkl', shr_s, add_i, mul_i, call_rNode, call_rParent, n1, n2, n3, n4, tn, e1, e2]
          refine next_head (k + 1) ⟨by omega, hx⟩ (by omega) ?_
          simp only [push_cast, ↓wF_free, ↓reduceIte, Nat.reduceEqDiff, Nat.reduceLT, Nat.reduceLeDiff, Nat.reduceAdd, Nat.reduceSub, Nat.reduceMul, Nat.reduceBEq, Int.reduceLT, Int.reduceLE, Int.reduceToNat, Int.reduceNeg, Int.reducePow, Int.reduceAdd, Int.reduceMul, Int.reduceSub, ↓Int.reduceNatCast'] <;> rfl
        · by_cases e3 : parentL al ar = parentL bl br
          · have hx := hyes (by rw [hcp]; exact decide_eq_true ⟨.inr e2, e3⟩)
            rw [hx]
            rw [e1] at e3
            simp (disch := first | omega | decide) only [push_cast, ↓wF_free, ↓reduceIte, Nat.reduceEqDiff, Nat.reduceLT, Nat.reduceLeDiff, Nat.reduceAdd, Nat.reduceSub, Nat.reduceMul, Nat.reduceBEq, Int.reduceLT, Int.reduceLE, Int.reduceToNat, Int.reduceNeg, Int.reducePow, Int.reduceAdd, Int.reduceMul, Int.reduceSub, ↓Int.reduceNatCast', hp, hkl', shr_s, add_i, mul_i, call_rNode, call_rParent, n1, n2, n3, n4, tn, e1, e2, e3]
          · have hx := hno (by rw [hcp]; exact decide_eq_false fun hh => e3 hh.2)
            rw [e1] at e3
            simp (disch := first | omega | decide) only [push_cast, ↓wF_free, ↓reduceIte, Nat.reduceEqDiff, Nat.reduceLT, Nat.reduceLeDiff, Nat.reduceAdd, Nat.reduceSub, Nat.reduceMul, Nat.reduceBEq, Int.reduceLT, Int.reduceLE, Int.reduceToNat, Int.reduceNeg, Int.reducePow, Int.reduceAdd, Int.reduceMul, Int.reduceSub, ↓Int.reduceNatCast', hp, hkl', shr_s, add_i, mul_i, call_rNode, call_rParent, n1, n2, n3, n4, tn, e1, e2, e3]
            refine next_head (k + 1) ⟨by omega, hx⟩ (by omega) ?_
            simp only [push_cast, ↓wF_free, ↓reduceIte, Nat.reduceEqDiff, Nat.reduceLT, Nat.reduceLeDiff, Nat.reduceAdd, Nat.reduceSub, Nat.reduceMul, Nat.reduceBEq, Int.reduceLT, Int.reduceLE, Int.reduceToNat, Int.reduceNeg, Int.reducePow, Int.reduceAdd, Int.reduceMul, Int.reduceSub, ↓Int.reduceNatCast'] <;> rfl
      · by_cases e3 : parentL al ar = parentL bl br
        · have hx := hyes (by rw [hcp]; exact decide_eq_true ⟨.inl e1, e3⟩)
          rw [hx]
          simp (disch := first | omega | decide) only [push_cast, ↓wF_free, ↓reduceIte, Nat.reduceEqDiff, Nat.reduceLT, Nat.reduceLeDiff, Nat.reduceAdd, Nat.reduceSub, Nat.reduceMul, Nat.reduceBEq, Int.reduceLT, Int.reduceLE, Int.reduceToNat, Int.reduceNeg, Int.reducePow, Int.reduceAdd, Int.reduceMul, Int.reduceSub, ↓Int.reduceNatCast', hp, hkl', shr_s, add_i, mul_i, call_rNode, call_rParent, n1, n2, n3, n4, tn, e1, e3]
        · have hx := hno (by rw [hcp]; exact decide_eq_false fun hh => e3 hh.2)
          simp (disch := first | omega | decide) only [push_cast, ↓wF_free, ↓reduceIte, Nat.reduceEqDiff, Nat.reduceLT, Nat.reduceLeDiff, Nat.reduceAdd, Nat.reduceSub, Nat.reduceMul, Nat.reduceBEq, Int.reduceLT, Int.reduceLE, Int.reduceToNat, Int.reduceNeg, Int.reducePow, Int.reduceAdd, Int.reduceMul, Int.reduceSub, ↓Int.reduceNatCast', hp, hkl', shr_s, add_i, mul_i, call_rNode, call_rParent, n1, n2, n3, n4, tn, e1, e3]
          refine next_head (k + 1) ⟨by omega, hx⟩ (by omega) ?_
          simp only [push_cast, ↓wF_free, ↓reduceIte, Nat.reduceEqDiff, Nat.reduceLT, Nat.reduceLeDiff, Nat.reduceAdd, Nat.reduceSub, Nat.reduceMul, Nat.reduceBEq, Int.reduceLT, Int.reduceLE, Int.reduceToNat, Int.reduceNeg, Int.reducePow, Int.reduceAdd, Int.reduceMul, Int.reduceSub, ↓Int.reduceNatCast'] <;> rfl
    · have hkl' : ¬ (k : Int) < 2 ^ (3 - n) := by omega
      have ek : k = 2 ^ (3 - n) := by omega
      simp (disch := first | omega | decide) only [push_cast, ↓wF_free, ↓reduceIte, Nat.reduceEqDiff, Nat.reduceLT, Nat.reduceLeDiff, Nat.reduceAdd, Nat.reduceSub, Nat.reduceMul, Nat.reduceBEq, Int.reduceLT, Int.reduceLE, Int.reduceToNat, Int.reduceNeg, Int.reducePow, Int.reduceAdd, Int.reduceMul, Int.reduceSub, ↓Int.reduceNatCast', hp, hkl', shr_s, add_i]
      refine next_head (n + 1) ⟨by omega, by rw [colUp_succ, hc, ← ek, hck]; rfl⟩ (by omega) ?_
      simp only [push_cast, ↓wF_free, ↓reduceIte, Nat.reduceEqDiff, Nat.reduceLT, Nat.reduceLeDiff, Nat.reduceAdd, Nat.reduceSub, Nat.reduceMul, Nat.reduceBEq, Int.reduceLT, Int.reduceLE, Int.reduceToNat, Int.reduceNeg, Int.reducePow, Int.reduceAdd, Int.reduceMul, Int.reduceSub, ↓Int.reduceNatCast'] <;> rfl
  · have en : h.toNat = n := by omega
    rw [en, hc]
    simp (disch := first | omega | decide) only [push_cast, ↓wF_free, ↓reduceIte, Nat.reduceEqDiff, Nat.reduceLT, Nat.reduceLeDiff, Nat.reduceAdd, Nat.reduceSub, Nat.reduceMul, Nat.reduceBEq, Int.reduceLT, Int.reduceLE, Int.reduceToNat, Int.reduceNeg, Int.reducePow, Int.reduceAdd, Int.reduceMul, Int.reduceSub, ↓Int.reduceNatCast', hlt]
theorem c_collides38 : Contract Tryd.prog GG 17 sp_collides38 :=
  contract_of tr_wagonpoollaw38_collides (tb_ok (all_cons c_rDepth (all_cons c_rNode (all_cons c_rParent all_nil))) all_nil) (fun a h => w_collides38 a.1 a.2 h)

theorem col_ex (a b : List Dig) : ∀ (n : Nat) (k : Int), 0 ≤ k → nodeL a n k = nodeL b n k → (∃ j : Int, 0 ≤ j ∧ j / 2 ^ n = k ∧ atL a j padL ≠ atL b j padL) → ∃ (lv : Nat) (k' : Int), lv < n ∧ 0 ≤ k' ∧ k' / 2 ^ (n - 1 - lv) = k ∧ colP a b lv k' = true
  | 0, k, _, h, ⟨j, _, h2, h3⟩ => by
    rw [Int.pow_zero, Int.ediv_one] at h2
    subst h2
    exact absurd h h3
  | n + 1, k, hk, h, ⟨j, h1, h2, h3⟩ => by
    by_cases he : nodeL a n (2 * k) = nodeL b n (2 * k) ∧ nodeL a n (2 * k + 1) = nodeL b n (2 * k + 1)
    · rw [div_succ] at h2
      have hc : j / 2 ^ n = 2 * k ∨ j / 2 ^ n = 2 * k + 1 := by omega
      have hn : nodeL a n (j / 2 ^ n) = nodeL b n (j / 2 ^ n) := by
        rcases hc with e | e
        · rw [e]; exact he.1
        · rw [e]; exact he.2
      obtain ⟨lv, k', l1, l2, l3, l4⟩ := col_ex a b n (j / 2 ^ n) (by omega) hn ⟨j, h1, rfl, h3⟩
      refine ⟨lv, k', by omega, l2, ?_, l4⟩
      rw [show n + 1 - 1 - lv = (n - 1 - lv) + 1 by omega, div_succ, l3, h2]
    · rw [node_succ a n k hk, node_succ b n k hk] at h
      refine ⟨n, k, by omega, hk, ?_, ?_⟩
      · rw [show n + 1 - 1 - n = 0 by omega, Int.pow_zero, Int.ediv_one]
      · refine decide_eq_true ⟨?_, h⟩
        by_cases e : nodeL a n (2 * k) = nodeL b n (2 * k)
        · exact .inr fun e2 => he ⟨e, e2⟩
        · exact .inl e
/-- a collision below a place of a tree of at most four levels -/
theorem colB_of {a b : List Dig} {N n : Nat} (hN : (hgt a b).toNat = N) (h4 : N ≤ 4) (hn : n ≤ N) {k : Int} (hk : 0 ≤ k) (hk2 : k < 2 ^ (N - n)) (h : nodeL a n k = nodeL b n k) (hj : ∃ j : Int, 0 ≤ j ∧ j / 2 ^ n = k ∧ atL a j padL ≠ atL b j padL) : colB a b = true := by
  obtain ⟨lv, k', l1, l2, l3, l4⟩ := col_ex a b n k hk h hj
  have hp : (0 : Int) < 2 ^ (n - 1 - lv) := Int.pow_pos (by decide)
  have h1 : k' < 2 ^ (N - n) * 2 ^ (n - 1 - lv) := by
    have e := Int.ediv_mul_add_emod k' (2 ^ (n - 1 - lv))
    have e2 := Int.emod_lt_of_pos k' hp
    rw [l3] at e
    have : (k + 1) * 2 ^ (n - 1 - lv) ≤ 2 ^ (N - n) * 2 ^ (n - 1 - lv) := Int.mul_le_mul_of_nonneg_right (by omega) (Int.le_of_lt hp)
    rw [Int.add_mul, Int.one_mul] at this
    omega
  rw [← Int.pow_add] at h1
  have h2 := pow_mono (a := N - n + (n - 1 - lv)) (b := 3 - lv) (by omega)
  have h3 : ((2 ^ (3 - lv) : Nat) : Int) = 2 ^ (3 - lv) := by simp
  unfold colB
  rw [hN]
  refine colUp_of (lv := lv) (by omega) (colRow_of (k := k'.toNat) (by omega) ?_)
  rw [Int.toNat_of_nonneg l2]
  exact l4

/-- while the bisection goes on: the nodes differ, and all leaves to the left agree -/
theorem inv_k {a b : List Dig} {N : Nat} (hN : (hgt a b).toNat = N) (h4 : N ≤ 4) (hd : nodeL a N 0 ≠ nodeL b N 0) : ∀ k : Nat, k ≤ N →
    nodeL a (N - k) (idxS a b N k) ≠ nodeL b (N - k) (idxS a b N k) ∧ (colB a b = true ∨ ∀ j : Int, 0 ≤ j → j < idxS a b N k * 2 ^ (N - k) → atL a j padL = atL b j padL)
  | 0, _ => ⟨hd, .inr fun j h0 h1 => by rw [show idxS a b N 0 = 0 from rfl, Int.zero_mul] at h1; omega⟩
  | k + 1, hk => by
    obtain ⟨i1, i2⟩ := inv_k hN h4 hd k (by omega)
    have hr := idxS_range a b N k (by omega)
    have e1 : ((N : Int) - k - 1).toNat = N - (k + 1) := by omega
    have e2 : N - k = (N - (k + 1)) + 1 := by omega
    have e3 : ((N : Int) - ((N : Int) - k)).toNat = k := by omega
    rw [e3] at hr
    have hnx : idxS a b N (k + 1) = if nodeL a (N - (k + 1)) (2 * idxS a b N k) = nodeL b (N - (k + 1)) (2 * idxS a b N k) then 2 * idxS a b N k + 1 else 2 * idxS a b N k := by
      show nextI a b ((N : Int) - k) (idxS a b N k) = _
      unfold nextI
      rw [e1]
    rw [e2, node_succ a _ _ hr.1, node_succ b _ _ hr.1] at i1
    rw [hnx]
    rw [e2, Int.pow_succ] at i2
    generalize idxS a b N k = i at *
    have hk2 : N - (N - (k + 1)) = k + 1 := by omega
    have hp : (0 : Int) < 2 ^ (N - (k + 1)) := Int.pow_pos (by decide)
    by_cases he : nodeL a (N - (k + 1)) (2 * i) = nodeL b (N - (k + 1)) (2 * i)
    · rw [if_pos he]
      refine ⟨fun e => i1 (by rw [he, e]), ?_⟩
      by_cases hc : colB a b = true
      · exact .inl hc
      · refine .inr fun j h0 h1 => ?_
        rcases i2 with i2 | i2
        · exact absurd i2 hc
        by_cases hj : j < i * (2 ^ (N - (k + 1)) * 2)
        · exact i2 j h0 hj
        · refine Classical.byContradiction fun hne => hc ?_
          refine colB_of hN h4 (n := N - (k + 1)) (by omega) (k := 2 * i) (by omega) (by rw [hk2, Int.pow_succ]; omega) he ⟨j, h0, ?_, hne⟩
          generalize (2 : Int) ^ (N - (k + 1)) = M at *
          have g1 : i * (M * 2) = 2 * i * M := by rw [Int.mul_comm M 2, ← Int.mul_assoc, Int.mul_comm i 2]
          have g2 : (2 * i + 1) * M = 2 * i * M + M := by rw [Int.add_mul, Int.one_mul]
          rw [g1] at hj
          rw [g2] at h1
          have g3 : j = (j - 2 * i * M) + 2 * i * M := by omega
          rw [g3, Int.add_mul_ediv_right _ _ (by omega), Int.ediv_eq_zero_of_lt (by omega) (by omega), Int.zero_add]
    · rw [if_neg he]
      refine ⟨he, ?_⟩
      rcases i2 with i2 | i2
      · exact .inl i2
      · refine .inr fun j h0 h1 => i2 j h0 ?_
        rw [Int.mul_comm (2 ^ (N - (k + 1))) 2, ← Int.mul_assoc, Int.mul_comm i 2]
        exact h1
/-- where it ends -/
theorem end_k {a b : List Dig} {N : Nat} (hN : (hgt a b).toNat = N) (h4 : N ≤ 4) (hd : nodeL a N 0 ≠ nodeL b N 0) : 0 ≤ idxS a b N N ∧ atL a (idxS a b N N) padL ≠ atL b (idxS a b N N) padL ∧ 0 ≤ firstL a b ∧
    (colB a b = true ∨ (idxS a b N N = firstL a b ∧ ∀ j : Int, 0 ≤ j → j < idxS a b N N → atL a j padL = atL b j padL)) := by
  obtain ⟨i1, i2⟩ := inv_k hN h4 hd N (Nat.le_refl _)
  have hr := idxS_range a b N N (by omega)
  rw [Nat.sub_self] at i1 i2
  rw [Int.pow_zero, Int.mul_one] at i2
  have i1' : atL a (idxS a b N N) padL ≠ atL b (idxS a b N N) padL := i1
  rcases firstL_spec a b with ⟨_, hall⟩ | ⟨f0, f1, f2, f3⟩
  · exact absurd (hall _ hr.1) i1'
  · refine ⟨hr.1, i1', f0, ?_⟩
    rcases i2 with i2 | i2
    · exact .inl i2
    · refine .inr ⟨?_, i2⟩
      rcases Int.lt_trichotomy (idxS a b N N) (firstL a b) with h | h | h
      · exact absurd (f3 _ hr.1 h) i1'
      · exact h
      · exact absurd (i2 _ f0 h) f2
end Go.Proofs.YtokhnpjchpmndaaDoor.PI
