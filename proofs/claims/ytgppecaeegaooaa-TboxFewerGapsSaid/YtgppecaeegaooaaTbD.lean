/-
  tbox: the first pair of clauses that overlap, and checks: of the program and of the reference.
  Conditions: none; these are lemmas.
-/
import Derived.Test.YtgppecaeegaooaaTbC
namespace Go.Proofs.Ytgppecaeegaooaa.PI
open Go
set_option linter.unusedSimpArgs false
set_option linter.unusedVariables false
theorem fill_env0 : fillD [D.int .i64 0, .int .i64 0, .int .i64 0, .int .i64 0, .int .i64 0, .int .i64 0, .int .i64 0, .int .i64 0, .int .i64 0, .int .i64 0, .int .i64 0, .int .i64 0, .int .i64 0, .int .i64 0, .int .i64 0, .int .i64 0, .int .i64 0] [] = some (envC 0 z16) := (rfl)
theorem getD_memC {l : List Cls} {i : Nat} (h : i < l.length) : l.getD i default ∈ l := by
  rw [List.getD_eq_getElem?_getD, List.getElem?_eq_getElem h]
  exact List.getElem_mem h
theorem mk_bx (n : Nat) (h : n ≤ 65536) : mkslcD 32 256 (bxD zBx) (.int .i64 (n : Int)) (.int .i64 (n : Int)) = some (n, ⟨true, 32, (List.replicate n zBx).map bxD, false⟩) := by
  have h1 : ((bxD zBx).cells.all D.pure1) = true := by
    show (bxC zBx).all D.pure1 = true
    unfold bxC
    simp only [List.all_eq_true, List.mem_map]
    rintro x ⟨a, _, rfl⟩
    rfl
  have h2 : (bxD zBx).cells.length = 32 := bxC_length zBx_ok
  simp only [mkslcD, natOf_nat]
  rw [if_pos ⟨Nat.le_refl _, by omega, by omega, by omega, h2, h1⟩, List.map_replicate]
theorem mk_b (n : Nat) (h : n ≤ 65536) : mkslcD 1 1 (.bool false) (.int .i64 (n : Int)) (.int .i64 (n : Int)) = some (n, ⟨true, 1, (List.replicate n false).map D.bool, false⟩) := by
  simp only [mkslcD, natOf_nat]
  rw [if_pos ⟨Nat.le_refl _, by omega, by omega, by omega, rfl, rfl⟩, List.map_replicate]
theorem fillup_step {α : Type} [Inhabited α] (l : List α) (z : α) (k : Nat) (h : k < l.length) : (l.take k ++ List.replicate (l.length - k) z).set k (l.getD k default) = l.take (k + 1) ++ List.replicate (l.length - (k + 1)) z := by
  rw [List.set_append, if_neg (by simp; omega), List.length_take, Nat.min_eq_left (by omega), Nat.sub_self, show l.length - k = (l.length - (k + 1)) + 1 by omega, List.replicate_succ, List.set_cons_zero, take_getD l k h, List.append_assoc]
  rfl
theorem fillup_len {α : Type} (l : List α) (z : α) (k : Nat) (h : k ≤ l.length) : (l.take k ++ List.replicate (l.length - k) z).length = l.length := by
  simp; omega
def bxs (cl : List Cls) : List Bx := cl.map fun c => (ofB c.wh).1
def sms (cl : List Cls) : List Bool := cl.map fun c => (ofB c.wh).2
theorem bxs_length (cl : List Cls) : (bxs cl).length = cl.length := by simp [bxs]
theorem sms_length (cl : List Cls) : (sms cl).length = cl.length := by simp [sms]
theorem bxs_ok (cl : List Cls) : okL (bxs cl) := by
  intro b hb
  simp only [bxs, List.mem_map] at hb
  obtain ⟨c, _, rfl⟩ := hb
  exact ofB_ok _
theorem bxs_at (cl : List Cls) (i : Nat) (h : i < cl.length) : (bxs cl).getD i default = (ofB (cl.getD i default).wh).1 := by
  simp [bxs, List.getD_eq_getElem?_getD, h]
theorem sms_at (cl : List Cls) (i : Nat) (h : i < cl.length) : (sms cl).getD i default = (ofB (cl.getD i default).wh).2 := by
  simp [sms, List.getD_eq_getElem?_getD, h]
theorem okL_fill {l : List Bx} (h : okL l) (k n : Nat) : okL (l.take k ++ List.replicate n zBx) := by
  intro b hb
  rcases List.mem_append.1 hb with hb | hb
  · exact h b (List.mem_of_mem_take hb)
  · rw [(List.mem_replicate.1 hb).2]; exact zBx_ok
def bxA (cl : List Cls) (i : Nat) : Bx := (bxs cl).getD i default
def smA (cl : List Cls) (i : Nat) : Bool := (sms cl).getD i default
theorem bxA_ok {cl : List Cls} {i : Nat} (h : i < cl.length) : (bxA cl i).ok := by
  unfold bxA; rw [bxs_at cl i h]; exact ofB_ok _
def hitB (cl : List Cls) (i j : Nat) : Bool := someB (meetB (bxA cl i) (bxA cl j)) && smA cl i && smA cl j
def ovJ (cl : List Cls) (i : Nat) : Nat → Nat → Option (Nat × Nat × List Int)
  | 0, _ => none
  | k + 1, j => if hitB cl i j then some (i, j, (meetB (bxA cl i) (bxA cl j)).lo) else ovJ cl i k (j + 1)
def ovI (cl : List Cls) : Nat → Nat → Option (Nat × Nat × List Int)
  | 0, _ => none
  | k + 1, i => match ovJ cl i (cl.length - (i + 1)) (i + 1) with
    | some r => some r
    | none => ovI cl k (i + 1)
def ovF (cl : List Cls) : Option (Nat × Nat × List Int) := ovI cl cl.length 0
def ovi : Option (Nat × Nat × List Int) → Int
  | some r => r.1
  | none => 0
def ovj : Option (Nat × Nat × List Int) → Int
  | some r => r.2.1
  | none => 0
def ovh : Option (Nat × Nat × List Int) → Int
  | some r => 65535
  | none => 0
def ovv : Option (Nat × Nat × List Int) → List Int
  | some r => r.2.2
  | none => z16
def ovb : Option (Nat × Nat × List Int) → Bool
  | some r => true
  | none => false
theorem ovJ_some {cl : List Cls} {i : Nat} : ∀ {k j : Nat} {r : Nat × Nat × List Int}, ovJ cl i k j = some r → r.1 = i ∧ j ≤ r.2.1 ∧ r.2.1 < j + k ∧ hitB cl i r.2.1 = true ∧ r.2.2 = (meetB (bxA cl i) (bxA cl r.2.1)).lo ∧ ∀ m, j ≤ m → m < r.2.1 → hitB cl i m = false
  | 0, j, r, h => by cases h
  | k + 1, j, r, h => by
    simp only [ovJ] at h
    split at h
    · rename_i hh
      simp only [Option.some.injEq] at h
      subst h
      exact ⟨rfl, Nat.le_refl _, by simp, hh, rfl, fun m h1 h2 => by simp only at h2; omega⟩
    · rename_i hh
      obtain ⟨h1, h2, h3, h4, h5, h6⟩ := ovJ_some h
      refine ⟨h1, by omega, by omega, h4, h5, fun m h7 h8 => ?_⟩
      rcases Nat.lt_or_ge j m with h9 | h9
      · exact h6 m h9 h8
      · obtain rfl : m = j := by omega
        simpa using hh
theorem ovJ_none {cl : List Cls} {i : Nat} : ∀ {k j : Nat}, ovJ cl i k j = none → ∀ m, j ≤ m → m < j + k → hitB cl i m = false
  | 0, j, h, m, h1, h2 => by omega
  | k + 1, j, h, m, h1, h2 => by
    simp only [ovJ] at h
    split at h
    · cases h
    · rename_i hh
      rcases Nat.lt_or_ge j m with h9 | h9
      · exact ovJ_none h m h9 (by omega)
      · obtain rfl : m = j := by omega
        simpa using hh
noncomputable def sp_pov : List D → Option D := spOf (α := Tar) (fun a => [tarD a]) (fun a => a.cl.length ≤ 65536 ∧ ∀ c ∈ a.cl, c.wh.length ≤ 9223372036854775807) (fun a => .tup [.int .i64 (ovi (ovF a.cl)), .int .i64 (ovj (ovF a.cl)), envD (ovh (ovF a.cl)) (ovv (ovF a.cl)), .bool (ovb (ovF a.cl))])
theorem call_pov (t : Tar) (h : t.cl.length ≤ 65536 ∧ ∀ c ∈ t.cl, c.wh.length ≤ 9223372036854775807) : sp_pov [tarD t] = some (.tup [.int .i64 (ovi (ovF t.cl)), .int .i64 (ovj (ovF t.cl)), envD (ovh (ovF t.cl)) (ovv (ovF t.cl)), .bool (ovb (ovF t.cl))]) :=
  spOf_enc (fun a b h => by simp only [List.cons.injEq, D.slc.injEq, D.int.injEq, D.bool.injEq, D.str.injEq, D.agg.injEq, digs_iff, dig_iff, digC_iff, bytes_iff, byte_iff, words_iff, word_iff, bsl_iff, true_and, and_true, ints_iff, nI_iff, tsts_iff, clss_iff, clsD_iff, tarD_iff, tstD_iff, ptD_iff, Int.ofNat_inj] at h; simp [h, Prod.ext_iff]) (t) h
set_option maxHeartbeats 4000000 in
set_option maxRecDepth 20000 in
theorem w_pov (t : Tar) (h : t.cl.length ≤ 65536 ∧ ∀ c ∈ t.cl, c.wh.length ≤ 9223372036854775807) : @wW GG (tb [(34, sp_pof), (39, sp_pmeet), (37, sp_penv)] []) F_tbox_Overlap.code (argF [tarD t]) [] ⟨retQ F_tbox_Overlap.res (.tup [.int .i64 (ovi (ovF t.cl)), .int .i64 (ovj (ovF t.cl)), envD (ovh (ovF t.cl)) (ovv (ovF t.cl)), .bool (ovb (ovF t.cl))])⟩ := by
  obtain ⟨hn, hw⟩ := h
  have m1 := mk_bx t.cl.length hn
  have m2 := mk_b t.cl.length hn
  unfold F_tbox_Overlap
  simp (disch := first | omega | decide) only [push_cast, ↓wF_free, ↓reduceIte, Nat.reduceEqDiff, Nat.reduceLT, Nat.reduceLeDiff, Nat.reduceAdd, Nat.reduceSub, Nat.reduceMul, Nat.reduceBEq, Int.reduceLT, Int.reduceLE, Int.reduceToNat, Int.reduceNeg, Int.reducePow, Int.reduceAdd, Int.reduceMul, Int.reduceSub, ↓Int.reduceNatCast', m1, m2]
  have hlb := fun k => fillup_len (bxs t.cl) zBx k
  have hls := fun k => fillup_len (sms t.cl) false k
  rw [bxs_length] at hlb
  rw [sms_length] at hls
  refine W_while (fun i : Nat => [(4, .ptr 1 0), (6, .row 2 t.cl.length 0 t.cl.length), (7, .row 3 t.cl.length 0 t.cl.length), (23, .slc (nz 9 (t.cl.map clsD)) (t.cl.map clsD) false), (24, .int .i64 (t.cl.length : Int)), (25, .int .i64 (i : Int))])
    (fun i => [⟨false, 1, tarC t, false⟩, ⟨false, 1, envC 0 z16, false⟩, ⟨true, 32, ((bxs t.cl).take i ++ List.replicate (t.cl.length - i) zBx).map bxD, false⟩, ⟨true, 1, ((sms t.cl).take i ++ List.replicate (t.cl.length - i) false).map D.bool, false⟩]) (fun i => i ≤ t.cl.length) (fun i => t.cl.length - i) 0 (by simp only [push_cast, ↓wF_free, ↓reduceIte, Nat.reduceEqDiff, Nat.reduceLT, Nat.reduceLeDiff, Nat.reduceAdd, Nat.reduceSub, Nat.reduceMul, Nat.reduceBEq, Int.reduceLT, Int.reduceLE, Int.reduceToNat, Int.reduceNeg, Int.reducePow, Int.reduceAdd, Int.reduceMul, Int.reduceSub, ↓Int.reduceNatCast'] <;> rfl) (Nat.zero_le _) ?_
  intro i hi
  unfold F_tbox_Overlap_L0
  simp (disch := first | omega | decide) only [push_cast, ↓wF_free, ↓reduceIte, Nat.reduceEqDiff, Nat.reduceLT, Nat.reduceLeDiff, Nat.reduceAdd, Nat.reduceSub, Nat.reduceMul, Nat.reduceBEq, Int.reduceLT, Int.reduceLE, Int.reduceToNat, Int.reduceNeg, Int.reducePow, Int.reduceAdd, Int.reduceMul, Int.reduceSub, ↓Int.reduceNatCast']
  refine ifD_split (fun h2 => ?_) (fun h2 => ?_)
  · have hlt : i < t.cl.length := by omega
    have hix := fun st => idxS_nz st 9 clsD t.cl false .i64 (i : Int) (by omega) (by omega)
    rw [Int.toNat_natCast] at hix
    have cc := call_pof (t.cl.getD i default) (hw _ (getD_memC hlt))
    have i1 := ixR_map bxD 32 _ false 2 t.cl.length (i : Int) (hlb i hi) (by omega) (by omega)
    have i2 := ixR_map D.bool 1 _ false 3 t.cl.length (i : Int) (hls i hi) (by omega) (by omega)
    rw [Int.toNat_natCast] at i1 i2
    have s1 := stRW_bx _ t.cl.length i (ofB (t.cl.getD i default).wh).1 (okL_fill (bxs_ok t.cl) i (t.cl.length - i)) (ofB_ok _) (hlb i hi) hlt
    have s2 := stRW_b _ t.cl.length i (ofB (t.cl.getD i default).wh).2 (hls i hi) hlt
    have f1 := fillup_step (bxs t.cl) zBx i (by rw [bxs_length]; exact hlt)
    have f2 := fillup_step (sms t.cl) false i (by rw [sms_length]; exact hlt)
    rw [bxs_at _ _ hlt, bxs_length] at f1
    rw [sms_at _ _ hlt, sms_length] at f2
    rw [f1] at s1
    rw [f2] at s2
    simp (disch := first | omega | decide) only [push_cast, ↓wF_free, ↓reduceIte, Nat.reduceEqDiff, Nat.reduceLT, Nat.reduceLeDiff, Nat.reduceAdd, Nat.reduceSub, Nat.reduceMul, Nat.reduceBEq, Int.reduceLT, Int.reduceLE, Int.reduceToNat, Int.reduceNeg, Int.reducePow, Int.reduceAdd, Int.reduceMul, Int.reduceSub, ↓Int.reduceNatCast', hix, cc, i1, i2, s1, s2, add_i]
    refine next_head (i + 1) (by omega) (by omega) ?_
    simp only [push_cast, ↓wF_free, ↓reduceIte, Nat.reduceEqDiff, Nat.reduceLT, Nat.reduceLeDiff, Nat.reduceAdd, Nat.reduceSub, Nat.reduceMul, Nat.reduceBEq, Int.reduceLT, Int.reduceLE, Int.reduceToNat, Int.reduceNeg, Int.reducePow, Int.reduceAdd, Int.reduceMul, Int.reduceSub, ↓Int.reduceNatCast'] <;> rfl
  · obtain rfl : i = t.cl.length := by omega
    rw [Nat.sub_self, List.replicate_zero, List.append_nil, List.replicate_zero, List.append_nil, List.take_of_length_le (by rw [bxs_length]; exact Nat.le_refl _), List.take_of_length_le (by rw [sms_length]; exact Nat.le_refl _)]
    have hlb2 := bxs_length t.cl
    have hls2 := sms_length t.cl
    have l1 := liR_map bxD 32 (bxs t.cl) false t.cl.length hlb2
    simp (disch := first | omega | decide) only [push_cast, ↓wF_free, ↓reduceIte, Nat.reduceEqDiff, Nat.reduceLT, Nat.reduceLeDiff, Nat.reduceAdd, Nat.reduceSub, Nat.reduceMul, Nat.reduceBEq, Int.reduceLT, Int.reduceLE, Int.reduceToNat, Int.reduceNeg, Int.reducePow, Int.reduceAdd, Int.reduceMul, Int.reduceSub, ↓Int.reduceNatCast', l1]
    refine W_while (fun i : Nat => [(4, .ptr 1 0), (6, .row 2 t.cl.length 0 t.cl.length), (7, .row 3 t.cl.length 0 t.cl.length), (43, .int .i64 (t.cl.length : Int)), (44, .int .i64 (i : Int))])
      (fun i => [⟨false, 1, tarC t, false⟩, ⟨false, 1, envC 0 z16, false⟩, ⟨true, 32, (bxs t.cl).map bxD, false⟩, ⟨true, 1, (sms t.cl).map D.bool, false⟩]) (fun i => i ≤ t.cl.length ∧ ovF t.cl = ovI t.cl (t.cl.length - i) i) (fun i => t.cl.length - i) 0 (by simp only [push_cast, ↓wF_free, ↓reduceIte, Nat.reduceEqDiff, Nat.reduceLT, Nat.reduceLeDiff, Nat.reduceAdd, Nat.reduceSub, Nat.reduceMul, Nat.reduceBEq, Int.reduceLT, Int.reduceLE, Int.reduceToNat, Int.reduceNeg, Int.reducePow, Int.reduceAdd, Int.reduceMul, Int.reduceSub, ↓Int.reduceNatCast'] <;> rfl) ⟨Nat.zero_le _, rfl⟩ ?_
    rintro i ⟨hi, hov⟩
    unfold F_tbox_Overlap_L2
    simp (disch := first | omega | decide) only [push_cast, ↓wF_free, ↓reduceIte, Nat.reduceEqDiff, Nat.reduceLT, Nat.reduceLeDiff, Nat.reduceAdd, Nat.reduceSub, Nat.reduceMul, Nat.reduceBEq, Int.reduceLT, Int.reduceLE, Int.reduceToNat, Int.reduceNeg, Int.reducePow, Int.reduceAdd, Int.reduceMul, Int.reduceSub, ↓Int.reduceNatCast']
    refine ifD_split (fun h3 => ?_) (fun h3 => ?_)
    · have hlt : i < t.cl.length := by omega
      rw [show t.cl.length - i = (t.cl.length - (i + 1)) + 1 by omega, ovI] at hov
      simp (disch := first | omega | decide) only [push_cast, ↓wF_free, ↓reduceIte, Nat.reduceEqDiff, Nat.reduceLT, Nat.reduceLeDiff, Nat.reduceAdd, Nat.reduceSub, Nat.reduceMul, Nat.reduceBEq, Int.reduceLT, Int.reduceLE, Int.reduceToNat, Int.reduceNeg, Int.reducePow, Int.reduceAdd, Int.reduceMul, Int.reduceSub, ↓Int.reduceNatCast', add_i]
      refine W_while (fun j : Nat => [(4, .ptr 1 0), (6, .row 2 t.cl.length 0 t.cl.length), (7, .row 3 t.cl.length 0 t.cl.length), (10, .int .i64 (i : Int)), (11, .int .i64 (j : Int)), (43, .int .i64 (t.cl.length : Int)), (44, .int .i64 (i : Int))])
        (fun j => [⟨false, 1, tarC t, false⟩, ⟨false, 1, envC 0 z16, false⟩, ⟨true, 32, (bxs t.cl).map bxD, false⟩, ⟨true, 1, (sms t.cl).map D.bool, false⟩]) (fun j => j ≤ t.cl.length ∧ i < j ∧ ovJ t.cl i (t.cl.length - (i + 1)) (i + 1) = ovJ t.cl i (t.cl.length - j) j) (fun j => t.cl.length - j) (i + 1) (by simp only [push_cast, ↓wF_free, ↓reduceIte, Nat.reduceEqDiff, Nat.reduceLT, Nat.reduceLeDiff, Nat.reduceAdd, Nat.reduceSub, Nat.reduceMul, Nat.reduceBEq, Int.reduceLT, Int.reduceLE, Int.reduceToNat, Int.reduceNeg, Int.reducePow, Int.reduceAdd, Int.reduceMul, Int.reduceSub, ↓Int.reduceNatCast'] <;> rfl) ⟨by omega, by omega, rfl⟩ ?_
      rintro j ⟨hj, hij, hoj⟩
      unfold F_tbox_Overlap_L1
      simp (disch := first | omega | decide) only [push_cast, ↓wF_free, ↓reduceIte, Nat.reduceEqDiff, Nat.reduceLT, Nat.reduceLeDiff, Nat.reduceAdd, Nat.reduceSub, Nat.reduceMul, Nat.reduceBEq, Int.reduceLT, Int.reduceLE, Int.reduceToNat, Int.reduceNeg, Int.reducePow, Int.reduceAdd, Int.reduceMul, Int.reduceSub, ↓Int.reduceNatCast', l1]
      refine ifD_split (fun h4 => ?_) (fun h4 => ?_)
      · have hjl : j < t.cl.length := by omega
        rw [show t.cl.length - j = (t.cl.length - (j + 1)) + 1 by omega, ovJ] at hoj
        have bi := bxA_ok hlt
        have bj := bxA_ok hjl
        have i1 := ixR_map bxD 32 (bxs t.cl) false 2 t.cl.length (i : Int) hlb2 (by omega) (by omega)
        have i2 := ixR_map bxD 32 (bxs t.cl) false 2 t.cl.length (j : Int) hlb2 (by omega) (by omega)
        have i3 := ixR_map D.bool 1 (sms t.cl) false 3 t.cl.length (i : Int) hls2 (by omega) (by omega)
        have i4 := ixR_map D.bool 1 (sms t.cl) false 3 t.cl.length (j : Int) hls2 (by omega) (by omega)
        rw [Int.toNat_natCast] at i1 i2 i3 i4
        have g1 : ldR (some ⟨true, 32, (bxs t.cl).map bxD, false⟩) 32 true t.cl.length i 0 = some (bxD (bxA t.cl i)) := ldR_bx (bxs t.cl) false t.cl.length i (bxs_ok _) hlb2 hlt
        have g2 : ldR (some ⟨true, 32, (bxs t.cl).map bxD, false⟩) 32 true t.cl.length j 0 = some (bxD (bxA t.cl j)) := ldR_bx (bxs t.cl) false t.cl.length j (bxs_ok _) hlb2 hjl
        have g3 : ldR (some ⟨true, 1, (sms t.cl).map D.bool, false⟩) 1 false t.cl.length i 0 = some (.bool (smA t.cl i)) := ldR_b (sms t.cl) false t.cl.length i hls2 hlt
        have g4 : ldR (some ⟨true, 1, (sms t.cl).map D.bool, false⟩) 1 false t.cl.length j 0 = some (.bool (smA t.cl j)) := ldR_b (sms t.cl) false t.cl.length j hls2 hjl
        have cm := call_pmeet _ _ ⟨bi, bj⟩
        have hm := meetB_ok bi bj
        have ce := call_penv _ hm.1
        unfold hitB at hoj
        have nxt : (someB (meetB (bxA t.cl i) (bxA t.cl j)) && smA t.cl i && smA t.cl j) = false → ovJ t.cl i (t.cl.length - (i + 1)) (i + 1) = ovJ t.cl i (t.cl.length - (j + 1)) (j + 1) := fun e => by rw [hoj, e]; rfl
        simp (disch := first | omega | decide) only [push_cast, ↓wF_free, ↓reduceIte, Nat.reduceEqDiff, Nat.reduceLT, Nat.reduceLeDiff, Nat.reduceAdd, Nat.reduceSub, Nat.reduceMul, Nat.reduceBEq, Int.reduceLT, Int.reduceLE, Int.reduceToNat, Int.reduceNeg, Int.reducePow, Int.reduceAdd, Int.reduceMul, Int.reduceSub, ↓Int.reduceNatCast', i1, i2, g1, g2, cm, stB _ zBx_ok hm]
        cases k1 : someB (meetB (bxA t.cl i) (bxA t.cl j)) with
        | false =>
          have hx := nxt (by rw [k1]; rfl)
          simp (disch := first | omega | decide) only [push_cast, ↓wF_free, ↓reduceIte, Nat.reduceEqDiff, Nat.reduceLT, Nat.reduceLeDiff, Nat.reduceAdd, Nat.reduceSub, Nat.reduceMul, Nat.reduceBEq, Int.reduceLT, Int.reduceLE, Int.reduceToNat, Int.reduceNeg, Int.reducePow, Int.reduceAdd, Int.reduceMul, Int.reduceSub, ↓Int.reduceNatCast', add_i]
          refine next_head (j + 1) (by exact ⟨by omega, by omega, hx⟩) (by omega) ?_
          simp only [push_cast, ↓wF_free, ↓reduceIte, Nat.reduceEqDiff, Nat.reduceLT, Nat.reduceLeDiff, Nat.reduceAdd, Nat.reduceSub, Nat.reduceMul, Nat.reduceBEq, Int.reduceLT, Int.reduceLE, Int.reduceToNat, Int.reduceNeg, Int.reducePow, Int.reduceAdd, Int.reduceMul, Int.reduceSub, ↓Int.reduceNatCast'] <;> rfl
        | true =>
          cases k2 : smA t.cl i with
          | false =>
            have hx := nxt (by rw [k2]; simp)
            rw [k2] at g3
            simp (disch := first | omega | decide) only [push_cast, ↓wF_free, ↓reduceIte, Nat.reduceEqDiff, Nat.reduceLT, Nat.reduceLeDiff, Nat.reduceAdd, Nat.reduceSub, Nat.reduceMul, Nat.reduceBEq, Int.reduceLT, Int.reduceLE, Int.reduceToNat, Int.reduceNeg, Int.reducePow, Int.reduceAdd, Int.reduceMul, Int.reduceSub, ↓Int.reduceNatCast', i3, i4, g3, g4, add_i]
            refine next_head (j + 1) (by exact ⟨by omega, by omega, hx⟩) (by omega) ?_
            simp only [push_cast, ↓wF_free, ↓reduceIte, Nat.reduceEqDiff, Nat.reduceLT, Nat.reduceLeDiff, Nat.reduceAdd, Nat.reduceSub, Nat.reduceMul, Nat.reduceBEq, Int.reduceLT, Int.reduceLE, Int.reduceToNat, Int.reduceNeg, Int.reducePow, Int.reduceAdd, Int.reduceMul, Int.reduceSub, ↓Int.reduceNatCast'] <;> rfl
          | true =>
            rw [k2] at g3
            cases k3 : smA t.cl j with
            | false =>
              have hx := nxt (by rw [k3]; simp)
              rw [k3] at g4
              simp (disch := first | omega | decide) only [push_cast, ↓wF_free, ↓reduceIte, Nat.reduceEqDiff, Nat.reduceLT, Nat.reduceLeDiff, Nat.reduceAdd, Nat.reduceSub, Nat.reduceMul, Nat.reduceBEq, Int.reduceLT, Int.reduceLE, Int.reduceToNat, Int.reduceNeg, Int.reducePow, Int.reduceAdd, Int.reduceMul, Int.reduceSub, ↓Int.reduceNatCast', i3, i4, g3, g4, add_i]
              refine next_head (j + 1) (by exact ⟨by omega, by omega, hx⟩) (by omega) ?_
              simp only [push_cast, ↓wF_free, ↓reduceIte, Nat.reduceEqDiff, Nat.reduceLT, Nat.reduceLeDiff, Nat.reduceAdd, Nat.reduceSub, Nat.reduceMul, Nat.reduceBEq, Int.reduceLT, Int.reduceLE, Int.reduceToNat, Int.reduceNeg, Int.reducePow, Int.reduceAdd, Int.reduceMul, Int.reduceSub, ↓Int.reduceNatCast'] <;> rfl
            | true =>
              rw [k3] at g4
              rw [k1, k2, k3] at hoj
              rw [hoj] at hov
              have e : ovF t.cl = some (i, j, (meetB (bxA t.cl i) (bxA t.cl j)).lo) := hov
              simp (disch := first | omega | decide) only [push_cast, ↓wF_free, ↓reduceIte, Nat.reduceEqDiff, Nat.reduceLT, Nat.reduceLeDiff, Nat.reduceAdd, Nat.reduceSub, Nat.reduceMul, Nat.reduceBEq, Int.reduceLT, Int.reduceLE, Int.reduceToNat, Int.reduceNeg, Int.reducePow, Int.reduceAdd, Int.reduceMul, Int.reduceSub, ↓Int.reduceNatCast', i3, i4, g3, g4, ldB_l _ _ hm, ce, stE _ z16_length hm.1, ldE _ _ hm.1, e, ovi, ovj, ovh, ovv, ovb]
      · obtain rfl : j = t.cl.length := by omega
        rw [Nat.sub_self, ovJ] at hoj
        rw [hoj] at hov
        simp (disch := first | omega | decide) only [push_cast, ↓wF_free, ↓reduceIte, Nat.reduceEqDiff, Nat.reduceLT, Nat.reduceLeDiff, Nat.reduceAdd, Nat.reduceSub, Nat.reduceMul, Nat.reduceBEq, Int.reduceLT, Int.reduceLE, Int.reduceToNat, Int.reduceNeg, Int.reducePow, Int.reduceAdd, Int.reduceMul, Int.reduceSub, ↓Int.reduceNatCast', add_i]
        refine next_head (i + 1) (by exact ⟨by omega, hov⟩) (by omega) ?_
        simp only [push_cast, ↓wF_free, ↓reduceIte, Nat.reduceEqDiff, Nat.reduceLT, Nat.reduceLeDiff, Nat.reduceAdd, Nat.reduceSub, Nat.reduceMul, Nat.reduceBEq, Int.reduceLT, Int.reduceLE, Int.reduceToNat, Int.reduceNeg, Int.reducePow, Int.reduceAdd, Int.reduceMul, Int.reduceSub, ↓Int.reduceNatCast'] <;> rfl
    · obtain rfl : i = t.cl.length := by omega
      rw [Nat.sub_self, ovI] at hov
      simp (disch := first | omega | decide) only [push_cast, ↓wF_free, ↓reduceIte, Nat.reduceEqDiff, Nat.reduceLT, Nat.reduceLeDiff, Nat.reduceAdd, Nat.reduceSub, Nat.reduceMul, Nat.reduceBEq, Int.reduceLT, Int.reduceLE, Int.reduceToNat, Int.reduceNeg, Int.reducePow, Int.reduceAdd, Int.reduceMul, Int.reduceSub, ↓Int.reduceNatCast', fill_env0, stE _ z16_length z16_length, ldE _ _ z16_length, hov, ovi, ovj, ovh, ovv, ovb]
theorem c_pov : Contract Try.prog GG 21 sp_pov :=
  contract_of tr_tbox_Overlap (tb_ok (all_cons c_pof (all_cons c_pmeet (all_cons c_penv all_nil))) all_nil) (fun a h => w_pov a h)
theorem ovI_some {cl : List Cls} : ∀ {k i : Nat} {r : Nat × Nat × List Int}, k + i = cl.length → ovI cl k i = some r → i ≤ r.1 ∧ r.1 < r.2.1 ∧ r.2.1 < cl.length ∧ hitB cl r.1 r.2.1 = true ∧ r.2.2 = (meetB (bxA cl r.1) (bxA cl r.2.1)).lo ∧
      (∀ m, r.1 < m → m < r.2.1 → hitB cl r.1 m = false) ∧ ∀ a b, i ≤ a → a < r.1 → a < b → b < cl.length → hitB cl a b = false
  | 0, i, r, _, h => by cases h
  | k + 1, i, r, hk, h => by
    simp only [ovI] at h
    split at h
    · rename_i r' hr
      simp only [Option.some.injEq] at h
      subst h
      obtain ⟨h1, h2, h3, h4, h5, h6⟩ := ovJ_some hr
      subst h1
      exact ⟨Nat.le_refl _, by omega, by omega, h4, h5, fun m h7 h8 => h6 m (by omega) h8, fun a b h7 h8 => by omega⟩
    · rename_i hr
      obtain ⟨h1, h2, h3, h4, h5, h6, h7⟩ := ovI_some (by omega) h
      refine ⟨by omega, h2, h3, h4, h5, h6, fun a b h8 h9 h10 h11 => ?_⟩
      rcases Nat.lt_or_ge i a with h12 | h12
      · exact h7 a b h12 h9 h10 h11
      · obtain rfl : a = i := by omega
        exact ovJ_none hr b (by omega) (by omega)
theorem ovv_length (cl : List Cls) : (ovv (ovF cl)).length = 16 := by
  cases h : ovF cl with
  | none => rfl
  | some r =>
    obtain ⟨h1, h2, h3, h4, h5, _⟩ := ovI_some (by omega) h
    show r.2.2.length = 16
    rw [h5]
    exact (meetB_ok (bxA_ok (by omega)) (bxA_ok h3)).1
def chkO (cl : List Cls) : Int := if (sms cl).all id then (if ovb (ovF cl) then 190 else 0) else 190
theorem chk_bad {cl : List Cls} {i : Nat} (h : i < cl.length) (hb : (ofB (cl.getD i default).wh).2 = false) : chkO cl = 190 := by
  unfold chkO
  rw [if_neg]
  intro h2
  rw [List.all_eq_true] at h2
  have := h2 ((sms cl).getD i default) (by
    rw [List.getD_eq_getElem?_getD, List.getElem?_eq_getElem (by rw [sms_length]; exact h)]
    exact List.getElem_mem _)
  rw [sms_at cl i h, hb] at this
  cases this
theorem chk_good {cl : List Cls} (h : ∀ j, j < cl.length → (ofB (cl.getD j default).wh).2 = true) : chkO cl = if ovb (ovF cl) then 190 else 0 := by
  unfold chkO
  rw [if_pos]
  rw [List.all_eq_true]
  intro x hx
  obtain ⟨j, hj, rfl⟩ := List.getElem_of_mem hx
  have hj2 : j < cl.length := by rw [sms_length] at hj; exact hj
  have := sms_at cl j hj2
  rw [h j hj2, List.getD_eq_getElem?_getD, List.getElem?_eq_getElem hj] at this
  exact this
noncomputable def sp_pchk : List D → Option D := spOf (α := Tar) (fun a => [tarD a]) (fun a => a.cl.length ≤ 65536 ∧ ∀ c ∈ a.cl, c.wh.length ≤ 9223372036854775807) (fun a => .int .i64 (chkO a.cl))
theorem call_pchk (t : Tar) (h : t.cl.length ≤ 65536 ∧ ∀ c ∈ t.cl, c.wh.length ≤ 9223372036854775807) : sp_pchk [tarD t] = some (.int .i64 (chkO t.cl)) :=
  spOf_enc (fun a b h => by simp only [List.cons.injEq, D.slc.injEq, D.int.injEq, D.bool.injEq, D.str.injEq, D.agg.injEq, digs_iff, dig_iff, digC_iff, bytes_iff, byte_iff, words_iff, word_iff, bsl_iff, true_and, and_true, ints_iff, nI_iff, tsts_iff, clss_iff, clsD_iff, tarD_iff, tstD_iff, ptD_iff, Int.ofNat_inj] at h; simp [h, Prod.ext_iff]) (t) h
set_option maxHeartbeats 4000000 in
set_option maxRecDepth 20000 in
theorem w_pchk (t : Tar) (h : t.cl.length ≤ 65536 ∧ ∀ c ∈ t.cl, c.wh.length ≤ 9223372036854775807) : @wW GG (tb [(34, sp_pof), (21, sp_pov)] []) F_tbox_Check.code (argF [tarD t]) [] ⟨retQ F_tbox_Check.res (.int .i64 (chkO t.cl))⟩ := by
  have co := call_pov t h
  obtain ⟨hn, hw⟩ := h
  unfold F_tbox_Check
  simp (disch := first | omega | decide) only [push_cast, ↓wF_free, ↓reduceIte, Nat.reduceEqDiff, Nat.reduceLT, Nat.reduceLeDiff, Nat.reduceAdd, Nat.reduceSub, Nat.reduceMul, Nat.reduceBEq, Int.reduceLT, Int.reduceLE, Int.reduceToNat, Int.reduceNeg, Int.reducePow, Int.reduceAdd, Int.reduceMul, Int.reduceSub, ↓Int.reduceNatCast']
  refine W_while (fun i : Nat => [(1, .ptr 0 0), (12, .slc (nz 9 (t.cl.map clsD)) (t.cl.map clsD) false), (13, .int .i64 (t.cl.length : Int)), (14, .int .i64 (i : Int))])
    (fun i => [⟨false, 1, tarC t, false⟩]) (fun i => i ≤ t.cl.length ∧ ∀ j, j < i → (ofB (t.cl.getD j default).wh).2 = true) (fun i => t.cl.length - i) 0 (by simp only [push_cast, ↓wF_free, ↓reduceIte, Nat.reduceEqDiff, Nat.reduceLT, Nat.reduceLeDiff, Nat.reduceAdd, Nat.reduceSub, Nat.reduceMul, Nat.reduceBEq, Int.reduceLT, Int.reduceLE, Int.reduceToNat, Int.reduceNeg, Int.reducePow, Int.reduceAdd, Int.reduceMul, Int.reduceSub, ↓Int.reduceNatCast'] <;> rfl) ⟨Nat.zero_le _, fun j hj => by omega⟩ ?_
  rintro i ⟨hi, hp⟩
  unfold F_tbox_Check_L0
  simp (disch := first | omega | decide) only [push_cast, ↓wF_free, ↓reduceIte, Nat.reduceEqDiff, Nat.reduceLT, Nat.reduceLeDiff, Nat.reduceAdd, Nat.reduceSub, Nat.reduceMul, Nat.reduceBEq, Int.reduceLT, Int.reduceLE, Int.reduceToNat, Int.reduceNeg, Int.reducePow, Int.reduceAdd, Int.reduceMul, Int.reduceSub, ↓Int.reduceNatCast']
  refine ifD_split (fun h2 => ?_) (fun h2 => ?_)
  · have hlt : i < t.cl.length := by omega
    have hix := fun st => idxS_nz st 9 clsD t.cl false .i64 (i : Int) (by omega) (by omega)
    rw [Int.toNat_natCast] at hix
    have cc := call_pof (t.cl.getD i default) (hw _ (getD_memC hlt))
    have hb := ofB_ok (t.cl.getD i default).wh
    cases k : (ofB (t.cl.getD i default).wh).2 with
    | false =>
      rw [k] at cc
      have e := chk_bad hlt k
      simp (disch := first | omega | decide) only [push_cast, ↓wF_free, ↓reduceIte, Nat.reduceEqDiff, Nat.reduceLT, Nat.reduceLeDiff, Nat.reduceAdd, Nat.reduceSub, Nat.reduceMul, Nat.reduceBEq, Int.reduceLT, Int.reduceLE, Int.reduceToNat, Int.reduceNeg, Int.reducePow, Int.reduceAdd, Int.reduceMul, Int.reduceSub, ↓Int.reduceNatCast', hix, cc, stB _ zBx_ok hb, e]
    | true =>
      rw [k] at cc
      simp (disch := first | omega | decide) only [push_cast, ↓wF_free, ↓reduceIte, Nat.reduceEqDiff, Nat.reduceLT, Nat.reduceLeDiff, Nat.reduceAdd, Nat.reduceSub, Nat.reduceMul, Nat.reduceBEq, Int.reduceLT, Int.reduceLE, Int.reduceToNat, Int.reduceNeg, Int.reducePow, Int.reduceAdd, Int.reduceMul, Int.reduceSub, ↓Int.reduceNatCast', hix, cc, stB _ zBx_ok hb, add_i]
      refine next_head (i + 1) (by exact ⟨by omega, fun j hj => by
        rcases Nat.lt_or_ge j i with h4 | h4
        · exact hp j h4
        · obtain rfl : j = i := by omega
          exact k⟩) (by omega) ?_
      simp only [push_cast, ↓wF_free, ↓reduceIte, Nat.reduceEqDiff, Nat.reduceLT, Nat.reduceLeDiff, Nat.reduceAdd, Nat.reduceSub, Nat.reduceMul, Nat.reduceBEq, Int.reduceLT, Int.reduceLE, Int.reduceToNat, Int.reduceNeg, Int.reducePow, Int.reduceAdd, Int.reduceMul, Int.reduceSub, ↓Int.reduceNatCast'] <;> rfl
  · obtain rfl : i = t.cl.length := by omega
    have e := chk_good hp
    have hv : (ovv (ovF t.cl)).length = 16 := ovv_length t.cl
    cases k : ovb (ovF t.cl) with
    | false =>
      rw [k] at co e
      simp (disch := first | omega | decide) only [push_cast, ↓wF_free, ↓reduceIte, Nat.reduceEqDiff, Nat.reduceLT, Nat.reduceLeDiff, Nat.reduceAdd, Nat.reduceSub, Nat.reduceMul, Nat.reduceBEq, Int.reduceLT, Int.reduceLE, Int.reduceToNat, Int.reduceNeg, Int.reducePow, Int.reduceAdd, Int.reduceMul, Int.reduceSub, ↓Int.reduceNatCast', co, stE _ z16_length hv, e]
    | true =>
      rw [k] at co e
      simp (disch := first | omega | decide) only [push_cast, ↓wF_free, ↓reduceIte, Nat.reduceEqDiff, Nat.reduceLT, Nat.reduceLeDiff, Nat.reduceAdd, Nat.reduceSub, Nat.reduceMul, Nat.reduceBEq, Int.reduceLT, Int.reduceLE, Int.reduceToNat, Int.reduceNeg, Int.reducePow, Int.reduceAdd, Int.reduceMul, Int.reduceSub, ↓Int.reduceNatCast', co, stE _ z16_length hv, e]
theorem c_pchk : Contract Try.prog GG 23 sp_pchk :=
  contract_of tr_tbox_Check (tb_ok (all_cons c_pof (all_cons c_pov all_nil)) all_nil) (fun a h => w_pchk a h)
end Go.Proofs.Ytgppecaeegaooaa.PI
