/-
  disk: opening; the reference's reading; the first bytes of a digest.
  Conditions: none; these are lemmas.
-/
import Derived.Test.YteacnlikmagfcaaDoorDkF
namespace Go.Proofs.YteacnlikmagfcaaDoor.PI
open Go
set_option linter.unusedSimpArgs false
set_option linter.unusedVariables false

/-- Open -/
def openL (b : List UInt8) : List UInt8 × Int := (b.take (endN b), (endN b : Int))
noncomputable def sp_open : List D → Option D := spOf (α := (List UInt8 × Int)) (fun a => [dkD a]) (fun a => okD a) (fun a => .tup [dkD (openL a.1), .slc (nz 1 ((recs a.1).map bsD)) ((recs a.1).map bsD) false])
theorem call_open (d : List UInt8 × Int) (h : okD d) : sp_open [dkD d] = some (.tup [dkD (openL d.1), .slc (nz 1 ((recs d.1).map bsD)) ((recs d.1).map bsD) false]) :=
  spOf_enc (fun a b h => by simp only [List.cons.injEq, D.slc.injEq, D.int.injEq, D.bool.injEq, D.str.injEq, D.agg.injEq, digs_iff, dig_iff, digC_iff, bytes_iff, byte_iff, words_iff, word_iff, Sha.St8.list_iff, bsl_iff, true_and, and_true, bsD_inj', dkD_iff, trD_iff, Int.ofNat_inj] at h; simp [h, Prod.ext_iff]) (d) h
set_option maxHeartbeats 4000000 in
set_option maxRecDepth 20000 in
theorem w_open (d : List UInt8 × Int) (h : okD d) : @wW GG (tb [(14, sp_read), (12, sp_sync)] []) F_disk_Open.code (argF [dkD d]) [] ⟨retQ F_disk_Open.res (.tup [dkD (openL d.1), .slc (nz 1 ((recs d.1).map bsD)) ((recs d.1).map bsD) false])⟩ := by
  obtain ⟨b, s⟩ := d
  have cr := call_read (b, s) h
  obtain ⟨h1, h2, h3⟩ := h
  dsimp only at h1 h2 h3
  have he := endN_le b
  have hl : (b.take (endN b)).length = endN b := by simp; omega
  have cs := call_sync (b.take (endN b), 0) (by dsimp only; omega)
  simp only [dkD, bsD, syncL, hl] at cr cs
  have e1 : (endN b : Int).toNat = endN b := by omega
  unfold F_disk_Open
  generalize hR : recs b = R at cr
  generalize hE : endN b = E at *
  have hs3 : pslice [⟨false, 1, [.slc (nz 1 (b.map byteD)) (b.map byteD) false, .int .i64 s], false⟩, ⟨false, 1, [.slc 0 [] true, .int .i64 0], false⟩] 1 (.slc (nz 1 (b.map byteD)) (b.map byteD) false) none (some (.int .i64 (E : Int))) (some (.int .i64 (E : Int))) = some (.slc (nz 1 (b.map byteD)) ((b.take E).map byteD) true) := by
    have hs : ((nz 1 (b.map byteD) == 1 || (b.map byteD).isEmpty) && 1 != 0) = true := by
      rcases nz_or 1 (b.map byteD) with h | h <;> simp [h]
    simp only [pslice, hs, if_true, bnd, natOf_int .i64 (E : Int) (by omega), e1]
    simp [he, List.map_take]
  simp (disch := first | omega | decide) only [push_cast, ↓wF_free, ↓reduceIte, Nat.reduceEqDiff, Nat.reduceLT, Nat.reduceLeDiff, Nat.reduceAdd, Nat.reduceSub, Nat.reduceMul, Nat.reduceBEq, Int.reduceLT, Int.reduceLE, Int.reduceToNat, Int.reduceNeg, Int.reducePow, Int.reduceAdd, Int.reduceMul, Int.reduceSub, ↓Int.reduceNatCast', dkD, bsD, cr, hs3, cs, openL, hE, hR]
theorem c_open : Contract Tryd.prog GG 19 sp_open :=
  contract_of tr_disk_Open (tb_ok (all_cons c_read (all_cons c_sync all_nil)) all_nil) (fun a h => w_open a h)

noncomputable def sp_first : List D → Option D := spOf (α := Nat × List UInt8) (fun a => [.int .i64 (a.1 : Int), .slc (nz 1 (a.2.map byteD)) (a.2.map byteD) false]) (fun a => a.1 ≤ 4294960000 ∧ a.2.length ≤ 4000000000) (fun a => .str (sumL (a.1 : Int) a.2))
theorem call_first (p : Nat) (r : List UInt8) (h : p ≤ 4294960000 ∧ r.length ≤ 4000000000) : sp_first [.int .i64 (p : Int), .slc (nz 1 (r.map byteD)) (r.map byteD) false] = some (.str (sumL (p : Int) r)) :=
  spOf_enc (fun ⟨a0, a1⟩ ⟨b0, b1⟩ h => by simp only [List.cons.injEq, D.slc.injEq, D.int.injEq, D.bool.injEq, D.str.injEq, D.agg.injEq, digs_iff, dig_iff, digC_iff, bytes_iff, byte_iff, words_iff, word_iff, Sha.St8.list_iff, bsl_iff, true_and, and_true, bsD_inj', dkD_iff, trD_iff, Int.ofNat_inj] at h; simp [h, Prod.ext_iff]) (p, r) h
set_option maxHeartbeats 4000000 in
set_option maxRecDepth 20000 in
theorem w_first (p : Nat) (r : List UInt8) (h : p ≤ 4294960000 ∧ r.length ≤ 4000000000) : @wW GG (tb [(29, sp_tagged)] []) F_wagonpoollaw13_first.code (argF [.int .i64 (p : Int), .slc (nz 1 (r.map byteD)) (r.map byteD) false]) [] ⟨retQ F_wagonpoollaw13_first.res (.str (sumL (p : Int) r))⟩ := by
  obtain ⟨h1, h2⟩ := h
  unfold F_wagonpoollaw13_first
  simp (disch := first | omega | decide) only [push_cast, ↓wF_free, ↓reduceIte, Nat.reduceEqDiff, Nat.reduceLT, Nat.reduceLeDiff, Nat.reduceAdd, Nat.reduceSub, Nat.reduceMul, Nat.reduceBEq, Int.reduceLT, Int.reduceLE, Int.reduceToNat, Int.reduceNeg, Int.reducePow, Int.reduceAdd, Int.reduceMul, Int.reduceSub, ↓Int.reduceNatCast']
  refine W_while (fun j : Nat => [(0, .int .i64 (p : Int)), (1, .slc (nz 1 (r.map byteD)) (r.map byteD) false), (5, bufD 1 0 ((beN (p : Int) 8 j).map byteD)), (6, .int .i64 (7 - (j : Int)))]) (fun j => bufS 1 ((beN (p : Int) 8 j).map byteD)) (fun j => j ≤ 8) (fun j => 8 - j) 0 (by simp only [push_cast, ↓wF_free, ↓reduceIte, Nat.reduceEqDiff, Nat.reduceLT, Nat.reduceLeDiff, Nat.reduceAdd, Nat.reduceSub, Nat.reduceMul, Nat.reduceBEq, Int.reduceLT, Int.reduceLE, Int.reduceToNat, Int.reduceNeg, Int.reducePow, Int.reduceAdd, Int.reduceMul, Int.reduceSub, ↓Int.reduceNatCast', show beN (p : Int) 8 0 = [] from rfl, List.map_nil, show (7 : Int) - ((0 : Nat) : Int) = 7 by omega] <;> rfl) (by omega) ?_
  intro j hj
  have hl := beN_length (p : Int) 8 j
  unfold F_wagonpoollaw13_first_L0
  simp (disch := omega) only [push_cast, ↓wF_free, ↓reduceIte, Nat.reduceEqDiff, Nat.reduceLT, Nat.reduceLeDiff, Nat.reduceAdd, Nat.reduceSub, Nat.reduceMul, Nat.reduceBEq, Int.reduceLT, Int.reduceLE, Int.reduceToNat, Int.reduceNeg, Int.reducePow, Int.reduceAdd, Int.reduceMul, Int.reduceSub, ↓Int.reduceNatCast']
  refine ifD_split (fun h2 => ?_) (fun h2 => ?_)
  · have et : (8 * ((7 : Int) - (j : Int))).toNat = 8 * (8 - 1 - j) := by omega
    have hq : 0 ≤ (p : Int) / 2 ^ (8 * (8 - 1 - j)) := Int.ediv_nonneg (by omega) (Int.le_of_lt (Int.pow_pos (by decide)))
    simp (disch := first | omega | decide) only [push_cast, ↓wF_free, ↓reduceIte, Nat.reduceEqDiff, Nat.reduceLT, Nat.reduceLeDiff, Nat.reduceAdd, Nat.reduceSub, Nat.reduceMul, Nat.reduceBEq, Int.reduceLT, Int.reduceLE, Int.reduceToNat, Int.reduceNeg, Int.reducePow, Int.reduceAdd, Int.reduceMul, Int.reduceSub, ↓Int.reduceNatCast', mul_i, shr_i, et, conv_ub, sub_i]
    refine next_head (j + 1) (by omega) (by omega) ?_
    rw [beN_succ, show (7 : Int) - ((j + 1 : Nat) : Int) = 7 - (j : Int) - 1 by omega]
  · obtain rfl : j = 8 := by omega
    rw [show beN (p : Int) 8 8 = be (p : Int) 8 from rfl] at *
    have hb8 := be_length (p : Int) 8
    have hne := be_ne (p : Int) 8 (by decide)
    have ct := call_tagged [117, 110, 105, 116] (be (p : Int) 8 ++ r) (by simp; omega)
    have e1 : ((be (p : Int) 8).map byteD).length = (be (p : Int) 8).length := by simp
    simp (disch := first | omega | decide) only [push_cast, ↓wF_free, ↓reduceIte, Nat.reduceEqDiff, Nat.reduceLT, Nat.reduceLeDiff, Nat.reduceAdd, Nat.reduceSub, Nat.reduceMul, Nat.reduceBEq, Int.reduceLT, Int.reduceLE, Int.reduceToNat, Int.reduceNeg, Int.reducePow, Int.reduceAdd, Int.reduceMul, Int.reduceSub, ↓Int.reduceNatCast', bufD_ne 1 0 _ hne, bufS_ne 1 _ hne, e1, ct]
    generalize hd : taggedL [117, 110, 105, 116] (be (p : Int) 8 ++ r) = d
    have hs : sumL (p : Int) r = d.bs.take 8 := by rw [← hd]; rfl
    have hdl := d.len
    refine W_while (fun j : Nat => [(7, .ptr 1 0), (8, bufD 1 2 ((d.bs.take j).map byteD)), (9, .int .i64 (j : Int))]) (fun j => ⟨true, 1, (be (p : Int) 8 ++ r).map byteD, false⟩ :: ⟨false, 1, digC d, false⟩ :: bufS 1 ((d.bs.take j).map byteD)) (fun j => j ≤ 8) (fun j => 8 - j) 0 (by simp only [push_cast, ↓wF_free, ↓reduceIte, Nat.reduceEqDiff, Nat.reduceLT, Nat.reduceLeDiff, Nat.reduceAdd, Nat.reduceSub, Nat.reduceMul, Nat.reduceBEq, Int.reduceLT, Int.reduceLE, Int.reduceToNat, Int.reduceNeg, Int.reducePow, Int.reduceAdd, Int.reduceMul, Int.reduceSub, ↓Int.reduceNatCast', List.take_zero, List.map_nil] <;> rfl) (by omega) ?_
    intro j hj
    unfold F_wagonpoollaw13_first_L1
    simp (disch := omega) only [push_cast, ↓wF_free, ↓reduceIte, Nat.reduceEqDiff, Nat.reduceLT, Nat.reduceLeDiff, Nat.reduceAdd, Nat.reduceSub, Nat.reduceMul, Nat.reduceBEq, Int.reduceLT, Int.reduceLE, Int.reduceToNat, Int.reduceNeg, Int.reducePow, Int.reduceAdd, Int.reduceMul, Int.reduceSub, ↓Int.reduceNatCast']
    refine ifD_split (fun h2 => ?_) (fun h2 => ?_)
    · have hlt : (d.bs.take j).length = j := by simp; omega
      have he := take_getD d.bs j (by omega)
      have hl2 : ldO (some ⟨false, 1, digC d, false⟩) 1 false j = some (byteD (d.bs.getD j default)) := ldO_map 1 false byteD d.bs j (by omega)
      simp (disch := first | omega | decide) only [push_cast, ↓wF_free, ↓reduceIte, Nat.reduceEqDiff, Nat.reduceLT, Nat.reduceLeDiff, Nat.reduceAdd, Nat.reduceSub, Nat.reduceMul, Nat.reduceBEq, Int.reduceLT, Int.reduceLE, Int.reduceToNat, Int.reduceNeg, Int.reducePow, Int.reduceAdd, Int.reduceMul, Int.reduceSub, ↓Int.reduceNatCast', idxA_ptr, hl2, add_i]
      refine next_head (j + 1) (by omega) (by omega) ?_
      rw [he]
      simp only [push_cast, ↓wF_free, ↓reduceIte, Nat.reduceEqDiff, Nat.reduceLT, Nat.reduceLeDiff, Nat.reduceAdd, Nat.reduceSub, Nat.reduceMul, Nat.reduceBEq, Int.reduceLT, Int.reduceLE, Int.reduceToNat, Int.reduceNeg, Int.reducePow, Int.reduceAdd, Int.reduceMul, Int.reduceSub, ↓Int.reduceNatCast'] <;> rfl
    · obtain rfl : j = 8 := by omega
      rw [← hs]
      have hl8 := sumL_length (p : Int) r
      generalize sumL (p : Int) r = z at hl8
      have hne2 : z.map byteD ≠ [] := by intro e; have := congrArg List.length e; simp at this; rw [this] at hl8; cases hl8
      simp (disch := omega) only [push_cast, ↓wF_free, ↓reduceIte, Nat.reduceEqDiff, Nat.reduceLT, Nat.reduceLeDiff, Nat.reduceAdd, Nat.reduceSub, Nat.reduceMul, Nat.reduceBEq, Int.reduceLT, Int.reduceLE, Int.reduceToNat, Int.reduceNeg, Int.reducePow, Int.reduceAdd, Int.reduceMul, Int.reduceSub, ↓Int.reduceNatCast', bufD_ne 1 2 _ hne2, bufS_ne 1 _ hne2]
theorem c_first : Contract Tryd.prog GG 17 sp_first :=
  contract_of tr_wagonpoollaw13_first (tb_ok (all_cons c_tagged all_nil) all_nil) (fun a h => w_first a.1 a.2 h)

/-! ### The reference's reading -/
def standB (b : List UInt8) (p : Nat) : List UInt8 × Bool :=
  if 12 ≤ b.length - p then if 16000 < standN b p ∨ b.length - p - 12 < standN b p then ([], false) else (standR b p, decide (unitL (p : Int) (standR b p) = (b.drop p).take (12 + standN b p))) else ([], false)
theorem standB_some {b : List UInt8} {p : Nat} {r : List UInt8} (h : stand b p = some r) : standB b p = (r, true) := by
  unfold stand at h
  split at h
  · rename_i hx
    simp only [Option.some.injEq] at h
    subst h
    obtain ⟨h1, h2, h3, h4⟩ := hx
    unfold standB
    rw [if_pos h1, if_neg (by omega), decide_eq_true h4]
  · cases h
theorem standB_none {b : List UInt8} {p : Nat} (h : stand b p = none) : (standB b p).2 = false := by
  unfold stand at h
  split at h
  · cases h
  · rename_i hx
    unfold standB
    split
    · split
      · rfl
      · apply decide_eq_false
        intro h4
        exact hx ⟨by omega, by omega, by omega, h4⟩
    · rfl

theorem unF_rd (b : List UInt8) (p : Nat) (h : p ≤ b.length ∧ 0 < p) : rdF b.length b p = rdF (b.length + 1) b p := rdF_fuel b _ _ p (by omega) (by omega)
noncomputable def sp_stands : List D → Option D := spOf (α := List UInt8 × Nat) (fun a => [.slc (nz 1 (a.1.map byteD)) (a.1.map byteD) false, .int .i64 (a.2 : Int)]) (fun a => a.1.length ≤ 4000000000 ∧ a.2 ≤ a.1.length) (fun a => .tup [bsD (standB a.1 a.2).1, .bool (standB a.1 a.2).2])
theorem call_stands (b : List UInt8) (p : Nat) (h : b.length ≤ 4000000000 ∧ p ≤ b.length) : sp_stands [.slc (nz 1 (b.map byteD)) (b.map byteD) false, .int .i64 (p : Int)] = some (.tup [bsD (standB b p).1, .bool (standB b p).2]) :=
  spOf_enc (fun ⟨a0, a1⟩ ⟨b0, b1⟩ h => by simp only [List.cons.injEq, D.slc.injEq, D.int.injEq, D.bool.injEq, D.str.injEq, D.agg.injEq, digs_iff, dig_iff, digC_iff, bytes_iff, byte_iff, words_iff, word_iff, Sha.St8.list_iff, bsl_iff, true_and, and_true, bsD_inj', dkD_iff, trD_iff, Int.ofNat_inj] at h; simp [h, Prod.ext_iff]) (b, p) h
set_option maxHeartbeats 4000000 in
set_option maxRecDepth 20000 in
theorem w_stands (b : List UInt8) (p : Nat) (h : b.length ≤ 4000000000 ∧ p ≤ b.length) : @wW GG (tb [(31, sp_runit)] []) F_wagonpoolref13_stands.code (argF [.slc (nz 1 (b.map byteD)) (b.map byteD) false, .int .i64 (p : Int)]) [] ⟨retQ F_wagonpoolref13_stands.res (.tup [bsD (standB b p).1, .bool (standB b p).2])⟩ := by
  obtain ⟨hb, hp⟩ := h
  unfold F_wagonpoolref13_stands
  by_cases c0 : (b.length : Int) - (p : Int) < 12
  · have e : standB b p = ([], false) := by unfold standB; rw [if_neg (by omega)]
    simp (disch := first | omega | decide) only [push_cast, ↓wF_free, ↓reduceIte, Nat.reduceEqDiff, Nat.reduceLT, Nat.reduceLeDiff, Nat.reduceAdd, Nat.reduceSub, Nat.reduceMul, Nat.reduceBEq, Int.reduceLT, Int.reduceLE, Int.reduceToNat, Int.reduceNeg, Int.reducePow, Int.reduceAdd, Int.reduceMul, Int.reduceSub, ↓Int.reduceNatCast', sub_i, c0, e]
    rfl
  · have hb0 : nz 1 (b.map byteD) = 1 := by
      rcases nz_or 1 (b.map byteD) with h | h
      · exact h
      · have : b.length = 0 := by simpa using congrArg List.length h
        omega
    have hnz : (1 = 1 ∨ b.map byteD = []) ∧ 1 ≠ 0 := ⟨.inl rfl, by decide⟩
    have ht4 : ((b.drop p).take 4).length = 4 := by simp; omega
    have hN : valL (((b.drop p).take 4).take 4) = standN b p := by
      rw [List.take_of_length_le (by omega)]; rfl
    have hNl := standN_lt b p
    simp (disch := first | omega | decide) only [push_cast, ↓wF_free, ↓reduceIte, Nat.reduceEqDiff, Nat.reduceLT, Nat.reduceLeDiff, Nat.reduceAdd, Nat.reduceSub, Nat.reduceMul, Nat.reduceBEq, Int.reduceLT, Int.reduceLE, Int.reduceToNat, Int.reduceNeg, Int.reducePow, Int.reduceAdd, Int.reduceMul, Int.reduceSub, ↓Int.reduceNatCast', sub_i, c0, hb0]
    refine W_while (fun j : Nat => [(0, .slc 1 (b.map byteD) false), (1, .int .i64 (p : Int)), (6, .int .i64 (valL (((b.drop p).take 4).take j) : Int)), (7, .int .i64 (j : Int))]) (fun j => []) (fun j => j ≤ 4) (fun j => 4 - j) 0 (by simp only [push_cast, ↓wF_free, ↓reduceIte, Nat.reduceEqDiff, Nat.reduceLT, Nat.reduceLeDiff, Nat.reduceAdd, Nat.reduceSub, Nat.reduceMul, Nat.reduceBEq, Int.reduceLT, Int.reduceLE, Int.reduceToNat, Int.reduceNeg, Int.reducePow, Int.reduceAdd, Int.reduceMul, Int.reduceSub, ↓Int.reduceNatCast'] <;> rfl) (by omega) ?_
    intro j hj
    unfold F_wagonpoolref13_stands_L0
    simp (disch := first | omega | decide) only [push_cast, ↓wF_free, ↓reduceIte, Nat.reduceEqDiff, Nat.reduceLT, Nat.reduceLeDiff, Nat.reduceAdd, Nat.reduceSub, Nat.reduceMul, Nat.reduceBEq, Int.reduceLT, Int.reduceLE, Int.reduceToNat, Int.reduceNeg, Int.reducePow, Int.reduceAdd, Int.reduceMul, Int.reduceSub, ↓Int.reduceNatCast']
    refine ifD_split (fun h2 => ?_) (fun h2 => ?_)
    · have hlt := valL_lt3 (((b.drop p).take 4).take j) (by simp; omega)
      have htj := take_getD ((b.drop p).take 4) j (by omega)
      have hg : ((b.drop p).take 4).getD j default = b.getD (p + j) default := by
        simp [List.getD_eq_getElem?_getD, List.getElem?_take, List.getElem?_drop, show j < 4 by omega]
      have ej : ((p : Int) + (j : Int)).toNat = p + j := by omega
      have hbb := (b.getD (p + j) default).toNat_lt
      simp (disch := first | omega | decide) only [push_cast, ↓wF_free, ↓reduceIte, Nat.reduceEqDiff, Nat.reduceLT, Nat.reduceLeDiff, Nat.reduceAdd, Nat.reduceSub, Nat.reduceMul, Nat.reduceBEq, Int.reduceLT, Int.reduceLE, Int.reduceToNat, Int.reduceNeg, Int.reducePow, Int.reduceAdd, Int.reduceMul, Int.reduceSub, ↓Int.reduceNatCast', mul_i, add_i, idxS_slc, conv_bi, ej]
      refine next_head (j + 1) (by omega) (by omega) ?_
      rw [htj, valL_snoc, hg]
      have e5 : 256 * (valL (((b.drop p).take 4).take j) : Int) + ((b.getD (p + j) default).toNat : Int) = ((valL (((b.drop p).take 4).take j) * 256 + (b.getD (p + j) default).toNat : Nat) : Int) := by omega
      rw [e5]
      simp only [push_cast, ↓wF_free, ↓reduceIte, Nat.reduceEqDiff, Nat.reduceLT, Nat.reduceLeDiff, Nat.reduceAdd, Nat.reduceSub, Nat.reduceMul, Nat.reduceBEq, Int.reduceLT, Int.reduceLE, Int.reduceToNat, Int.reduceNeg, Int.reducePow, Int.reduceAdd, Int.reduceMul, Int.reduceSub, ↓Int.reduceNatCast'] <;> rfl
    · obtain rfl : j = 4 := by omega
      rw [hN]
      simp (disch := first | omega | decide) only [push_cast, ↓wF_free, ↓reduceIte, Nat.reduceEqDiff, Nat.reduceLT, Nat.reduceLeDiff, Nat.reduceAdd, Nat.reduceSub, Nat.reduceMul, Nat.reduceBEq, Int.reduceLT, Int.reduceLE, Int.reduceToNat, Int.reduceNeg, Int.reducePow, Int.reduceAdd, Int.reduceMul, Int.reduceSub, ↓Int.reduceNatCast']
      by_cases c1 : 16000 < (standN b p : Int)
      · have e : standB b p = ([], false) := by unfold standB; rw [if_pos (by omega), if_pos (by omega)]
        simp (disch := first | omega | decide) only [push_cast, ↓wF_free, ↓reduceIte, Nat.reduceEqDiff, Nat.reduceLT, Nat.reduceLeDiff, Nat.reduceAdd, Nat.reduceSub, Nat.reduceMul, Nat.reduceBEq, Int.reduceLT, Int.reduceLE, Int.reduceToNat, Int.reduceNeg, Int.reducePow, Int.reduceAdd, Int.reduceMul, Int.reduceSub, ↓Int.reduceNatCast', c1, e]
        rfl
      · by_cases c2 : (b.length : Int) - (p : Int) - 12 < (standN b p : Int)
        · have e : standB b p = ([], false) := by unfold standB; rw [if_pos (by omega), if_pos (by omega)]
          simp (disch := first | omega | decide) only [push_cast, ↓wF_free, ↓reduceIte, Nat.reduceEqDiff, Nat.reduceLT, Nat.reduceLeDiff, Nat.reduceAdd, Nat.reduceSub, Nat.reduceMul, Nat.reduceBEq, Int.reduceLT, Int.reduceLE, Int.reduceToNat, Int.reduceNeg, Int.reducePow, Int.reduceAdd, Int.reduceMul, Int.reduceSub, ↓Int.reduceNatCast', c1, c2, sub_i, e]
          rfl
        · have hrl := standR_length b p (by omega)
          have e2 : ((p : Int) + 12 + (standN b p : Int)).toNat = p + (12 + standN b p) := by omega
          have e3 : ((p : Int) + 12).toNat = p + 12 := by omega
          have e4 : ((b.take (p + (12 + standN b p))).drop (p + 12)) = standR b p := by
            rw [show p + (12 + standN b p) = (p + 12) + standN b p by omega, take_drop4, standR, List.drop_drop]
          have e5 : (p : Int).toNat = p := by omega
          have cu := call_runit (p : Int) (standR b p) ⟨by omega, by omega, by omega⟩
          have e : standB b p = (standR b p, decide (unitL (p : Int) (standR b p) = (b.drop p).take (12 + standN b p))) := by unfold standB; rw [if_pos (by omega), if_neg (by omega)]
          simp only [bsD] at cu
          have cs1 : ∀ (st : St) (A : List UInt8) (t : Bool), pconv st .str (.slc 1 (A.map byteD) t) = some (.str A) := fun st A t => conv_sb st A 1 t (.inl rfl)
          simp (disch := first | omega | decide) only [push_cast, ↓wF_free, ↓reduceIte, Nat.reduceEqDiff, Nat.reduceLT, Nat.reduceLeDiff, Nat.reduceAdd, Nat.reduceSub, Nat.reduceMul, Nat.reduceBEq, Int.reduceLT, Int.reduceLE, Int.reduceToNat, Int.reduceNeg, Int.reducePow, Int.reduceAdd, Int.reduceMul, Int.reduceSub, ↓Int.reduceNatCast', c1, c2, sub_i, add_i, slc_part _ _ _ _ _ _ _ _ _ _ hnz, e2, e3, e4, e5, take_drop4, cu, cs1, e]
          rfl
theorem c_stands : Contract Tryd.prog GG 32 sp_stands :=
  contract_of tr_wagonpoolref13_stands (tb_ok (all_cons c_runit all_nil) all_nil) (fun a h => w_stands a.1 a.2 h)

noncomputable def sp_rread : List D → Option D := spOf (α := (List UInt8 × Int)) (fun a => [dkD a]) (fun a => okD a) (fun a => .tup [.slc (nz 1 ((recs a.1).map bsD)) ((recs a.1).map bsD) false, .int .i64 (endN a.1 : Int)])
theorem call_rread (d : List UInt8 × Int) (h : okD d) : sp_rread [dkD d] = some (.tup [.slc (nz 1 ((recs d.1).map bsD)) ((recs d.1).map bsD) false, .int .i64 (endN d.1 : Int)]) :=
  spOf_enc (fun a b h => by simp only [List.cons.injEq, D.slc.injEq, D.int.injEq, D.bool.injEq, D.str.injEq, D.agg.injEq, digs_iff, dig_iff, digC_iff, bytes_iff, byte_iff, words_iff, word_iff, Sha.St8.list_iff, bsl_iff, true_and, and_true, bsD_inj', dkD_iff, trD_iff, Int.ofNat_inj] at h; simp [h, Prod.ext_iff]) (d) h
set_option maxHeartbeats 4000000 in
set_option maxRecDepth 20000 in
theorem w_rread (d : List UInt8 × Int) (h : okD d) : @wW GG (tb [(32, sp_stands)] []) F_wagonpoolref13_Read.code (argF [dkD d]) [] ⟨retQ F_wagonpoolref13_Read.res (.tup [.slc (nz 1 ((recs d.1).map bsD)) ((recs d.1).map bsD) false, .int .i64 (endN d.1 : Int)])⟩ := by
  obtain ⟨b, s⟩ := d
  obtain ⟨h1, h2, h3⟩ := h
  dsimp only at h1 h2 h3 ⊢
  have cs : ∀ p : Nat, p ≤ b.length → sp_stands [.slc (nz 1 (b.map byteD)) (b.map byteD) false, .int .i64 (p : Int)] = some (.tup [bsD (standB b p).1, .bool (standB b p).2]) := fun p hp => call_stands b p ⟨h1, hp⟩
  have c0 := cs 0 (by omega)
  simp only [bsD, Int.natCast_zero, Int.ofNat_zero, Int.cast_ofNat_Int] at c0
  unfold F_wagonpoolref13_Read
  simp (disch := first | omega | decide) only [push_cast, ↓wF_free, ↓reduceIte, Nat.reduceEqDiff, Nat.reduceLT, Nat.reduceLeDiff, Nat.reduceAdd, Nat.reduceSub, Nat.reduceMul, Nat.reduceBEq, Int.reduceLT, Int.reduceLE, Int.reduceToNat, Int.reduceNeg, Int.reducePow, Int.reduceAdd, Int.reduceMul, Int.reduceSub, ↓Int.reduceNatCast', dkD, bsD, c0]
  refine W_while (fun i : List (List UInt8) × Nat => [(1, .ptr 0 0), (4, bufD 1 1 (i.1.map bsD)), (5, .int .i64 (i.2 : Int)), (6, bsD (standB b i.2).1), (7, .bool (standB b i.2).2)])
    (fun i => ⟨false, 1, [bsD b, .int .i64 s], false⟩ :: bufS 1 (i.1.map bsD)) (fun i => i.2 ≤ b.length ∧ i.1.length ≤ i.2 ∧ recs b = i.1 ++ (rdF (b.length + 1) b i.2).1 ∧ endN b = (rdF (b.length + 1) b i.2).2) (fun i => b.length - i.2) ([], 0) (by simp only [push_cast, ↓wF_free, ↓reduceIte, Nat.reduceEqDiff, Nat.reduceLT, Nat.reduceLeDiff, Nat.reduceAdd, Nat.reduceSub, Nat.reduceMul, Nat.reduceBEq, Int.reduceLT, Int.reduceLE, Int.reduceToNat, Int.reduceNeg, Int.reducePow, Int.reduceAdd, Int.reduceMul, Int.reduceSub, ↓Int.reduceNatCast', bsD] <;> rfl) ⟨by simp, by simp, rfl, rfl⟩ ?_
  rintro ⟨A, p⟩ ⟨hp, hA, hR, hE⟩
  dsimp only at hp hA hR hE
  unfold F_wagonpoolref13_Read_L0
  cases hs : stand b p with
  | none =>
    rw [rdF_none hs, List.append_nil] at hR
    rw [rdF_none hs] at hE
    dsimp only at hE
    simp (disch := first | omega | decide) only [push_cast, ↓wF_free, ↓reduceIte, Nat.reduceEqDiff, Nat.reduceLT, Nat.reduceLeDiff, Nat.reduceAdd, Nat.reduceSub, Nat.reduceMul, Nat.reduceBEq, Int.reduceLT, Int.reduceLE, Int.reduceToNat, Int.reduceNeg, Int.reducePow, Int.reduceAdd, Int.reduceMul, Int.reduceSub, ↓Int.reduceNatCast', standB_none hs, bsD]
    rw [hR, hE]
  | some r =>
    have hl := stand_le hs
    rw [rdF_some hs] at hR hE
    dsimp only at hR hE
    have c1 := cs (p + 12 + r.length) hl
    rw [show ((p + 12 + r.length : Nat) : Int) = (p : Int) + 12 + (r.length : Int) by omega] at c1
    simp only [bsD] at c1
    have hm : (A ++ [r]).map bsD ≠ [] := by simp
    have pb : papp (⟨false, 1, [.slc (nz 1 (b.map byteD)) (b.map byteD) false, .int .i64 s], false⟩ :: bufS 1 (A.map bsD)) 1 24 (bufD 1 1 (A.map bsD)) (.slc 1 [.slc (nz 1 (r.map byteD)) (r.map byteD) false] true) = some (bufD 1 1 ((A ++ [r]).map bsD), ⟨false, 1, [.slc (nz 1 (b.map byteD)) (b.map byteD) false, .int .i64 s], false⟩ :: bufS 1 ((A ++ [r]).map bsD)) :=
      papp_o1 bsD _ 1 1 24 A r true (by decide) (by omega) (by omega)
    simp (disch := first | omega | decide) only [push_cast, ↓wF_free, ↓reduceIte, Nat.reduceEqDiff, Nat.reduceLT, Nat.reduceLeDiff, Nat.reduceAdd, Nat.reduceSub, Nat.reduceMul, Nat.reduceBEq, Int.reduceLT, Int.reduceLE, Int.reduceToNat, Int.reduceNeg, Int.reducePow, Int.reduceAdd, Int.reduceMul, Int.reduceSub, ↓Int.reduceNatCast', standB_some hs, bsD, litD_slc1, pb, add_i, c1]
    refine next_head (A ++ [r], p + 12 + r.length) (by exact ⟨hl, by dsimp only; simp; omega, by dsimp only; rw [hR, List.append_assoc, unF_rd b _ ⟨hl, by omega⟩]; rfl, by dsimp only; rw [hE, unF_rd b _ ⟨hl, by omega⟩]⟩) (by dsimp only; omega) ?_
    dsimp only
    simp only [push_cast, ↓wF_free, ↓reduceIte, Nat.reduceEqDiff, Nat.reduceLT, Nat.reduceLeDiff, Nat.reduceAdd, Nat.reduceSub, Nat.reduceMul, Nat.reduceBEq, Int.reduceLT, Int.reduceLE, Int.reduceToNat, Int.reduceNeg, Int.reducePow, Int.reduceAdd, Int.reduceMul, Int.reduceSub, ↓Int.reduceNatCast', bsD] <;> rfl
theorem c_rread : Contract Tryd.prog GG 22 sp_rread :=
  contract_of tr_wagonpoolref13_Read (tb_ok (all_cons c_stands all_nil) all_nil) (fun a h => w_rread a h)

noncomputable def sp_ropen : List D → Option D := spOf (α := (List UInt8 × Int)) (fun a => [dkD a]) (fun a => okD a) (fun a => .tup [dkD (openL a.1), .slc (nz 1 ((recs a.1).map bsD)) ((recs a.1).map bsD) false])
theorem call_ropen (d : List UInt8 × Int) (h : okD d) : sp_ropen [dkD d] = some (.tup [dkD (openL d.1), .slc (nz 1 ((recs d.1).map bsD)) ((recs d.1).map bsD) false]) :=
  spOf_enc (fun a b h => by simp only [List.cons.injEq, D.slc.injEq, D.int.injEq, D.bool.injEq, D.str.injEq, D.agg.injEq, digs_iff, dig_iff, digC_iff, bytes_iff, byte_iff, words_iff, word_iff, Sha.St8.list_iff, bsl_iff, true_and, and_true, bsD_inj', dkD_iff, trD_iff, Int.ofNat_inj] at h; simp [h, Prod.ext_iff]) (d) h
set_option maxHeartbeats 4000000 in
set_option maxRecDepth 20000 in
theorem w_ropen (d : List UInt8 × Int) (h : okD d) : @wW GG (tb [(22, sp_rread), (25, sp_rsync)] []) F_wagonpoolref13_Open.code (argF [dkD d]) [] ⟨retQ F_wagonpoolref13_Open.res (.tup [dkD (openL d.1), .slc (nz 1 ((recs d.1).map bsD)) ((recs d.1).map bsD) false])⟩ := by
  obtain ⟨b, s⟩ := d
  have cr := call_rread (b, s) h
  obtain ⟨h1, h2, h3⟩ := h
  dsimp only at h1 h2 h3
  have he := endN_le b
  have hl : (b.take (endN b)).length = endN b := by simp; omega
  have cs := call_rsync (b.take (endN b), 0) (by dsimp only; omega)
  simp only [dkD, bsD, syncL, hl] at cr cs
  have e1 : (endN b : Int).toNat = endN b := by omega
  have hnz : (nz 1 (b.map byteD) = 1 ∨ b.map byteD = []) ∧ 1 ≠ 0 := ⟨nz_or _ _, by decide⟩
  unfold F_wagonpoolref13_Open
  generalize hR : recs b = R at cr
  generalize hE : endN b = E at *
  simp (disch := first | omega | decide) only [push_cast, ↓wF_free, ↓reduceIte, Nat.reduceEqDiff, Nat.reduceLT, Nat.reduceLeDiff, Nat.reduceAdd, Nat.reduceSub, Nat.reduceMul, Nat.reduceBEq, Int.reduceLT, Int.reduceLE, Int.reduceToNat, Int.reduceNeg, Int.reducePow, Int.reduceAdd, Int.reduceMul, Int.reduceSub, ↓Int.reduceNatCast', dkD, bsD, cr, slc_to _ _ _ _ _ _ _ _ hnz, e1, cs, openL, hE, hR]
theorem c_ropen : Contract Tryd.prog GG 23 sp_ropen :=
  contract_of tr_wagonpoolref13_Open (tb_ok (all_cons c_rread (all_cons c_rsync all_nil)) all_nil) (fun a h => w_ropen a h)
end Go.Proofs.YteacnlikmagfcaaDoor.PI
