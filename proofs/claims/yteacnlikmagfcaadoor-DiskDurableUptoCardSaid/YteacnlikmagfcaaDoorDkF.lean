/-
  disk: reading, of the program (over its iterator) and of the reference.
  Conditions: none; these are lemmas.
-/
import Derived.Test.YteacnlikmagfcaaDoorDkE
namespace Go.Proofs.YteacnlikmagfcaaDoor.PI
open Go
set_option linter.unusedSimpArgs false
set_option linter.unusedVariables false

theorem or_i8 {n : Int} (b : UInt8) (h0 : 0 ≤ n) (h1 : n < 281474976710656) : pbin .or (.int .i64 (n * 256)) (.int .i64 (b.toNat : Int)) = some (.int .i64 (n * 256 + (b.toNat : Int))) := by
  have hb := b.toNat_lt
  have h : (BitVec.ofInt (IntKind.bits .i64) (n * 256) ||| BitVec.ofInt (IntKind.bits .i64) (b.toNat : Int)).toNat = (n * 256 + (b.toNat : Int)).toNat := by
    show (BitVec.ofInt 64 (n * 256) ||| BitVec.ofInt 64 (b.toNat : Int)).toNat = _
    rw [BitVec.toNat_or, toNat_ofInt (by omega) (by omega), toNat_ofInt (by omega) (by omega)]
    obtain ⟨x, rfl⟩ := Int.eq_ofNat_of_zero_le h0
    have e : ((x : Int) * 256) = ((2 ^ 8 * x : Nat) : Int) := by omega
    rw [e, Int.toNat_natCast, Int.toNat_natCast, ← Nat.two_pow_add_eq_or_of_lt hb]
    omega
  simp only [pbin, if_true, ibits, Option.map_some, h]
  rw [wrap_i64 (by omega) (by omega)]
  congr 2
  omega
theorem shl8 {x : Int} {k' : IntKind} (h0 : 0 ≤ x) (h1 : x < 281474976710656) : pbin .shl (.int .i64 x) (.int k' 8) = some (.int .i64 (x * 256)) :=
  shl_i (by decide) (by decide) (by show -9223372036854775808 ≤ x * 256; omega) (by show x * 256 < 9223372036854775808; omega)
theorem valL_snoc (l : List UInt8) (x : UInt8) : valL (l ++ [x]) = valL l * 256 + x.toNat := by
  simp [valL, List.foldl_append]
theorem valL_lt : ∀ (k : Nat) (l : List UInt8), l.length = k → valL l < 256 ^ k
  | 0, l, h => by obtain rfl := List.eq_nil_of_length_eq_zero h; decide
  | k + 1, l, h => by
    have hne : l ≠ [] := fun e => by subst e; simp at h
    obtain ⟨m, b, rfl⟩ : ∃ m b, l = m ++ [b] := ⟨l.dropLast, l.getLast hne, (List.dropLast_concat_getLast hne).symm⟩
    have ih := valL_lt k m (by simp at h; exact h)
    have hb := b.toNat_lt
    rw [valL_snoc, Nat.pow_succ]
    omega
theorem valL_lt3 (l : List UInt8) (h : l.length ≤ 3) : valL l < 16777216 := by
  have h1 := valL_lt l.length l rfl
  have h2 : 256 ^ l.length ≤ 256 ^ 3 := Nat.pow_le_pow_right (by decide) h
  omega
theorem valL_lt4 (l : List UInt8) (h : l.length ≤ 4) : valL l < 4294967296 := by
  have h1 := valL_lt l.length l rfl
  have h2 : 256 ^ l.length ≤ 256 ^ 4 := Nat.pow_le_pow_right (by decide) h
  omega
theorem standN_lt (b : List UInt8) (p : Nat) : standN b p < 4294967296 := valL_lt4 _ (by simp; omega)
theorem take_drop4 (b : List UInt8) (p q : Nat) : (b.take (p + q)).drop p = (b.drop p).take q := by
  rw [List.drop_take]; congr 1; omega

theorem slc_part3 {α : Type} (f : α → D) (st : St) (A : List α) (t : Bool) (k k' k2 : IntKind) (l h : Int) (h0 : 0 ≤ l) (h1 : l ≤ h) (h2 : h ≤ (A.length : Int)) :
    pslice st 1 (.slc 1 (A.map f) t) (some (.int k l)) (some (.int k' h)) (some (.int k2 h)) = some (.slc 1 (((A.take h.toNat).drop l.toNat).map f) true) := by
  have e1 : l.toNat ≤ h.toNat ∧ h.toNat ≤ A.length := by omega
  simp only [pslice, bnd, natOf_int k l h0, natOf_int k' h (by omega), natOf_int k2 h (by omega)]
  simp [e1, List.map_drop, List.map_take]

/-! ### The iterator -/
def unF : Nat → List UInt8 → Nat → List (Nat × List UInt8)
  | 0, _, _ => []
  | f + 1, b, p => match stand b p with
    | none => []
    | some r => (p + 12 + r.length, r) :: unF f b (p + 12 + r.length)
theorem unF_none {f : Nat} {b : List UInt8} {p : Nat} (h : stand b p = none) : unF f b p = [] := by
  cases f <;> simp [unF, h]
theorem unF_some {f : Nat} {b : List UInt8} {p : Nat} {r : List UInt8} (h : stand b p = some r) : unF (f + 1) b p = (p + 12 + r.length, r) :: unF f b (p + 12 + r.length) := by
  simp [unF, h]
theorem unF_fuel (b : List UInt8) : ∀ (f g p : Nat), b.length < f + p → b.length < g + p → unF f b p = unF g b p := by
  intro f
  induction f with
  | zero =>
    intro g p h1 h2
    rw [unF_none (stand_end (by omega)), unF_none (stand_end (by omega))]
  | succ f ih =>
    intro g p h1 h2
    cases hs : stand b p with
    | none => rw [unF_none hs, unF_none hs]
    | some r =>
      have := stand_le hs
      cases g with
      | zero => omega
      | succ g => rw [unF_some hs, unF_some hs, ih g _ (by omega) (by omega)]
/-- the rounds, one after the other; none of them changes the iterator's own variable -/
inductive FoldY (y : List D → St → Option (D × St)) (k : Nat) : List (Nat × List UInt8) → St → St → Prop
  | nil (st : St) : FoldY y k [] st st
  | cons {e : Nat} {r : List UInt8} {l : List (Nat × List UInt8)} {st st1 st2 : St} (h : y [.int .i64 (e : Int), .slc 1 (r.map byteD) true] st = some (.bool true, st1)) (hk : st1[k]? = st[k]?) (hl : FoldY y k l st1 st2) : FoldY y k ((e, r) :: l) st st2
theorem FoldY.det {y : List D → St → Option (D × St)} {k : Nat} {l : List (Nat × List UInt8)} {st a b : St} (h : FoldY y k l st a) : FoldY y k l st b → a = b := by
  induction h with
  | nil => intro h'; cases h'; rfl
  | cons h hk hl ih =>
    intro h'
    cases h' with
    | cons h2 hk2 hl2 =>
      rw [h] at h2
      simp only [Option.some.injEq, Prod.mk.injEq, true_and] at h2
      subst h2
      exact ih hl2
def UnitsR (y : List D → St → Option (D × St)) (ds : List D) (st : St) (r : D × St) : Prop :=
  ∃ (k : Nat) (b : List UInt8) (lent : Bool), ds = [.ptr k 0] ∧ st[k]? = some ⟨false, 1, [bsD b], lent⟩ ∧ b.length ≤ 4000000000 ∧ r.1 = .tup [] ∧ FoldY y k (unF (b.length + 1) b 0) st r.2
theorem UnitsR.det {y : List D → St → Option (D × St)} {ds : List D} {st : St} {r s : D × St} (h : UnitsR y ds st r) (h' : UnitsR y ds st s) : r = s := by
  obtain ⟨k, b, le, rfl, h1, _, h2, h3⟩ := h
  obtain ⟨k', b', le', h4, h5, _, h6, h7⟩ := h'
  simp only [List.cons.injEq, D.ptr.injEq, and_true] at h4
  subst h4
  rw [h1] at h5
  simp only [Option.some.injEq, Obj.mk.injEq, List.cons.injEq, and_true, true_and, bsD_inj'] at h5
  obtain ⟨rfl, rfl⟩ := h5
  exact Prod.ext (h2.trans h6.symm) (h3.det h7)
noncomputable def sy_units (y : List D → St → Option (D × St)) (ds : List D) (st : St) : Option (D × St) := @dite _ (∃ r, UnitsR y ds st r) (Classical.propDecidable _) (fun h => some h.choose) (fun _ => none)
theorem sy_inv {y : List D → St → Option (D × St)} {ds : List D} {st : St} {r : D × St} (h : sy_units y ds st = some r) : UnitsR y ds st r := by
  unfold sy_units at h
  split at h
  · rename_i hx
    simp only [Option.some.injEq] at h
    rw [← h]
    exact hx.choose_spec
  · cases h
theorem sy_some {y : List D → St → Option (D × St)} {ds : List D} {st : St} {r : D × St} (h : UnitsR y ds st r) : sy_units y ds st = some r := by
  have hx : ∃ r, UnitsR y ds st r := ⟨r, h⟩
  unfold sy_units
  rw [dif_pos hx, hx.choose_spec.det h]
theorem ycontract_of {P : Program} {G : Glob} {T : Tbl} {il : List Nat} {f : Nat} {hints : List (List Nat)} {F : PF} (hT : TblOK P G T) (ht : trF P il f hints = some F) {sp : (List D → St → Option (D × St)) → List D → St → Option (D × St)}
    (h : ∀ (l : Nat) y ds st r, sp y ds st = some r → @wW G (withY T l y) F.code (argF (.clo (10000000 + l) [] :: ds)) st ⟨@retI F.res ⟨fun d st' => (d, st') = r⟩⟩) : YIContract P G f sp := by
  refine fun_simY hT ht fun l y ds st r hr => ?_
  obtain ⟨fuel, d, st', h1, h2⟩ := runI_of_W (W_of (h l y ds st r hr))
  exact ⟨fuel, by rw [h1 fuel (Nat.le_refl _)]; exact congrArg some h2⟩

set_option maxHeartbeats 8000000 in
set_option maxRecDepth 20000 in
theorem cy_units : YIContract Tryd.prog GG 35 sy_units := by
  refine ycontract_of (T := tb [(27, sp_unit), (36, sp_beq)] []) (tb_ok (all_cons c_unit (all_cons c_beq all_nil)) all_nil) tr_disk_units_1 ?_
  intro l y ds st r hr
  obtain ⟨k, b, le, rfl, hk, hb, hr1, hf⟩ := sy_inv hr
  obtain ⟨rd, stF⟩ := r
  dsimp only at hr1 hf
  subst hr1
  unfold F_disk_units_1
  simp (disch := first | omega | decide) only [push_cast, ↓wF_free, ↓reduceIte, Nat.reduceEqDiff, Nat.reduceLT, Nat.reduceLeDiff, Nat.reduceAdd, Nat.reduceSub, Nat.reduceMul, Nat.reduceBEq, Int.reduceLT, Int.reduceLE, Int.reduceToNat, Int.reduceNeg, Int.reducePow, Int.reduceAdd, Int.reduceMul, Int.reduceSub, ↓Int.reduceNatCast']
  refine W_whileA (fun i : Nat × St => [(0, .clo (10000000 + l) []), (1, .ptr k 0), (3, .int .i64 (i.1 : Int))]) (fun i => i.2) (fun i => i.1 ≤ b.length ∧ i.2[k]? = some ⟨false, 1, [bsD b], le⟩ ∧ FoldY y k (unF (b.length + 1) b i.1) i.2 stF) (fun i => b.length - i.1) (0, st) (by simp only [push_cast, ↓wF_free, ↓reduceIte, Nat.reduceEqDiff, Nat.reduceLT, Nat.reduceLeDiff, Nat.reduceAdd, Nat.reduceSub, Nat.reduceMul, Nat.reduceBEq, Int.reduceLT, Int.reduceLE, Int.reduceToNat, Int.reduceNeg, Int.reducePow, Int.reduceAdd, Int.reduceMul, Int.reduceSub, ↓Int.reduceNatCast'] <;> rfl) ⟨by omega, hk, hf⟩ ?_
  rintro ⟨p, s⟩ ⟨hp, hs, hF⟩
  dsimp only at hp hs hF
  unfold F_disk_units_1_L1
  have hs' : s[k]? = some ⟨false, 1, [.slc (nz 1 (b.map byteD)) (b.map byteD) false], le⟩ := hs
  simp (disch := first | omega | decide) only [push_cast, ↓wF_free, ↓reduceIte, Nat.reduceEqDiff, Nat.reduceLT, Nat.reduceLeDiff, Nat.reduceAdd, Nat.reduceSub, Nat.reduceMul, Nat.reduceBEq, Int.reduceLT, Int.reduceLE, Int.reduceToNat, Int.reduceNeg, Int.reducePow, Int.reduceAdd, Int.reduceMul, Int.reduceSub, ↓Int.reduceNatCast', hs', sub_i]
  refine ifD_split (fun h1 => ?_) (fun h1 => ?_)
  · have hb0 : nz 1 (b.map byteD) = 1 := by
      rcases nz_or 1 (b.map byteD) with h | h
      · exact h
      · have : b.length = 0 := by simpa using congrArg List.length h
        omega
    rw [hb0] at hs'
    have hnz : (1 = 1 ∨ b.map byteD = []) ∧ 1 ≠ 0 := ⟨.inl rfl, by decide⟩
    have e1 : ((p : Int) + 4).toNat = p + 4 := by omega
    have ht4 : ((b.drop p).take 4).length = 4 := by simp; omega
    simp (disch := first | omega | decide) only [push_cast, ↓wF_free, ↓reduceIte, Nat.reduceEqDiff, Nat.reduceLT, Nat.reduceLeDiff, Nat.reduceAdd, Nat.reduceSub, Nat.reduceMul, Nat.reduceBEq, Int.reduceLT, Int.reduceLE, Int.reduceToNat, Int.reduceNeg, Int.reducePow, Int.reduceAdd, Int.reduceMul, Int.reduceSub, ↓Int.reduceNatCast', hs', hb0, add_i, slc_part _ _ _ _ _ _ _ _ _ _ hnz, e1, take_drop4, ht4]
    generalize h4 : (b.drop p).take 4 = t4 at ht4
    have hN : valL (t4.take 4) = standN b p := by
      rw [List.take_of_length_le (by omega), ← h4]; rfl
    have hNl := standN_lt b p
    refine W_whileA (fun j : Nat => [(0, .clo (10000000 + l) []), (1, .ptr k 0), (3, .int .i64 (p : Int)), (4, .int .i64 (valL (t4.take j) : Int)), (18, .slc 1 (t4.map byteD) false), (19, .int .i64 4), (20, .int .i64 (j : Int))]) (fun j => s) (fun j => j ≤ 4) (fun j => 4 - j) 0 (by simp only [push_cast, ↓wF_free, ↓reduceIte, Nat.reduceEqDiff, Nat.reduceLT, Nat.reduceLeDiff, Nat.reduceAdd, Nat.reduceSub, Nat.reduceMul, Nat.reduceBEq, Int.reduceLT, Int.reduceLE, Int.reduceToNat, Int.reduceNeg, Int.reducePow, Int.reduceAdd, Int.reduceMul, Int.reduceSub, ↓Int.reduceNatCast'] <;> rfl) (by omega) ?_
    intro j hj
    unfold F_disk_units_1_L0
    simp (disch := first | omega | decide) only [push_cast, ↓wF_free, ↓reduceIte, Nat.reduceEqDiff, Nat.reduceLT, Nat.reduceLeDiff, Nat.reduceAdd, Nat.reduceSub, Nat.reduceMul, Nat.reduceBEq, Int.reduceLT, Int.reduceLE, Int.reduceToNat, Int.reduceNeg, Int.reducePow, Int.reduceAdd, Int.reduceMul, Int.reduceSub, ↓Int.reduceNatCast']
    refine ifD_split (fun h2 => ?_) (fun h2 => ?_)
    · have hlt := valL_lt3 (t4.take j) (by simp; omega)
      have htj := take_getD t4 j (by omega)
      simp (disch := first | omega | decide) only [push_cast, ↓wF_free, ↓reduceIte, Nat.reduceEqDiff, Nat.reduceLT, Nat.reduceLeDiff, Nat.reduceAdd, Nat.reduceSub, Nat.reduceMul, Nat.reduceBEq, Int.reduceLT, Int.reduceLE, Int.reduceToNat, Int.reduceNeg, Int.reducePow, Int.reduceAdd, Int.reduceMul, Int.reduceSub, ↓Int.reduceNatCast', idxS_slc, conv_bi, shl8, or_i8, add_i]
      refine next_head (j + 1) (by omega) (by omega) ?_
      rw [htj, valL_snoc]
      simp only [push_cast, ↓wF_free, ↓reduceIte, Nat.reduceEqDiff, Nat.reduceLT, Nat.reduceLeDiff, Nat.reduceAdd, Nat.reduceSub, Nat.reduceMul, Nat.reduceBEq, Int.reduceLT, Int.reduceLE, Int.reduceToNat, Int.reduceNeg, Int.reducePow, Int.reduceAdd, Int.reduceMul, Int.reduceSub, ↓Int.reduceNatCast'] <;> rfl
    · obtain rfl : j = 4 := by omega
      rw [hN]
      have hun : unF (b.length + 1) b p = [] → s = stF := fun h => by rw [h] at hF; cases hF; rfl
      simp (disch := first | omega | decide) only [push_cast, ↓wF_free, ↓reduceIte, Nat.reduceEqDiff, Nat.reduceLT, Nat.reduceLeDiff, Nat.reduceAdd, Nat.reduceSub, Nat.reduceMul, Nat.reduceBEq, Int.reduceLT, Int.reduceLE, Int.reduceToNat, Int.reduceNeg, Int.reducePow, Int.reduceAdd, Int.reduceMul, Int.reduceSub, ↓Int.reduceNatCast']
      by_cases c1 : 16000 < (standN b p : Int)
      · have hn : stand b p = none := by unfold stand; rw [if_neg (by omega)]
        obtain rfl := hun (unF_none hn)
        simp (disch := first | omega | decide) only [push_cast, ↓wF_free, ↓reduceIte, Nat.reduceEqDiff, Nat.reduceLT, Nat.reduceLeDiff, Nat.reduceAdd, Nat.reduceSub, Nat.reduceMul, Nat.reduceBEq, Int.reduceLT, Int.reduceLE, Int.reduceToNat, Int.reduceNeg, Int.reducePow, Int.reduceAdd, Int.reduceMul, Int.reduceSub, ↓Int.reduceNatCast', c1]
      · by_cases c2 : (b.length : Int) - (p : Int) - 12 < (standN b p : Int)
        · have hn : stand b p = none := by unfold stand; rw [if_neg (by omega)]
          obtain rfl := hun (unF_none hn)
          simp (disch := first | omega | decide) only [push_cast, ↓wF_free, ↓reduceIte, Nat.reduceEqDiff, Nat.reduceLT, Nat.reduceLeDiff, Nat.reduceAdd, Nat.reduceSub, Nat.reduceMul, Nat.reduceBEq, Int.reduceLT, Int.reduceLE, Int.reduceToNat, Int.reduceNeg, Int.reducePow, Int.reduceAdd, Int.reduceMul, Int.reduceSub, ↓Int.reduceNatCast', c1, c2, hs', sub_i]
        · have hrl := standR_length b p (by omega)
          have e2 : ((p : Int) + 12 + (standN b p : Int)).toNat = p + (12 + standN b p) := by omega
          have e3 : ((p : Int) + 12).toNat = p + 12 := by omega
          have e4 : ((b.take (p + (12 + standN b p))).drop (p + 12)) = standR b p := by
            rw [show p + (12 + standN b p) = (p + 12) + standN b p by omega, take_drop4, standR, List.drop_drop]
          have e5 : (p : Int).toNat = p := by omega
          have cu := call_unit (p : Int) (standR b p) ⟨by omega, by omega, by omega⟩
          have cb := call_beq (unitL (p : Int) (standR b p)) ((b.drop p).take (12 + standN b p))
          simp only [bsD] at cu
          simp (disch := first | omega | decide) only [push_cast, ↓wF_free, ↓reduceIte, Nat.reduceEqDiff, Nat.reduceLT, Nat.reduceLeDiff, Nat.reduceAdd, Nat.reduceSub, Nat.reduceMul, Nat.reduceBEq, Int.reduceLT, Int.reduceLE, Int.reduceToNat, Int.reduceNeg, Int.reducePow, Int.reduceAdd, Int.reduceMul, Int.reduceSub, ↓Int.reduceNatCast', c1, c2, hs', sub_i, add_i, slc_part3, slc_part _ _ _ _ _ _ _ _ _ _ hnz, e2, e3, e4, e5, take_drop4, cu, cb]
          by_cases c3 : unitL (p : Int) (standR b p) = (b.drop p).take (12 + standN b p)
          · have hn : stand b p = some (standR b p) := by unfold stand; rw [if_pos ⟨by omega, by omega, by omega, c3⟩]
            rw [unF_some hn] at hF
            cases hF with
            | cons hy hk1 hl1 =>
              rename_i s1
              have hl2 := stand_le hn
              have hy' : y [.int .i64 ((p : Int) + 12 + (standN b p : Int)), .slc 1 ((standR b p).map byteD) true] s = some (.bool true, s1) := by
                rw [← hy, hrl]; push_cast; rfl
              simp (disch := first | omega | decide) only [push_cast, ↓wF_free, ↓reduceIte, Nat.reduceEqDiff, Nat.reduceLT, Nat.reduceLeDiff, Nat.reduceAdd, Nat.reduceSub, Nat.reduceMul, Nat.reduceBEq, Int.reduceLT, Int.reduceLE, Int.reduceToNat, Int.reduceNeg, Int.reducePow, Int.reduceAdd, Int.reduceMul, Int.reduceSub, ↓Int.reduceNatCast', c3, hy']
              refine next_head (p + 12 + (standR b p).length, s1) (by exact ⟨by dsimp only; omega, by dsimp only; rw [hk1]; exact hs, by dsimp only; rw [unF_fuel b (b.length + 1) b.length _ (by omega) (by omega)]; exact hl1⟩) (by dsimp only; omega) ?_
              rw [hrl]
              simp only [push_cast, ↓wF_free, ↓reduceIte, Nat.reduceEqDiff, Nat.reduceLT, Nat.reduceLeDiff, Nat.reduceAdd, Nat.reduceSub, Nat.reduceMul, Nat.reduceBEq, Int.reduceLT, Int.reduceLE, Int.reduceToNat, Int.reduceNeg, Int.reducePow, Int.reduceAdd, Int.reduceMul, Int.reduceSub, ↓Int.reduceNatCast'] <;> rfl
          · have hn : stand b p = none := by unfold stand; rw [if_neg (fun h => c3 h.2.2.2)]
            obtain rfl := hun (unF_none hn)
            simp (disch := first | omega | decide) only [push_cast, ↓wF_free, ↓reduceIte, Nat.reduceEqDiff, Nat.reduceLT, Nat.reduceLeDiff, Nat.reduceAdd, Nat.reduceSub, Nat.reduceMul, Nat.reduceBEq, Int.reduceLT, Int.reduceLE, Int.reduceToNat, Int.reduceNeg, Int.reducePow, Int.reduceAdd, Int.reduceMul, Int.reduceSub, ↓Int.reduceNatCast', c3]
  · have hn : stand b p = none := stand_end (by omega)
    rw [unF_none hn] at hF
    cases hF
    simp (disch := first | omega | decide) only [push_cast, ↓wF_free, ↓reduceIte, Nat.reduceEqDiff, Nat.reduceLT, Nat.reduceLeDiff, Nat.reduceAdd, Nat.reduceSub, Nat.reduceMul, Nat.reduceBEq, Int.reduceLT, Int.reduceLE, Int.reduceToNat, Int.reduceNeg, Int.reducePow, Int.reduceAdd, Int.reduceMul, Int.reduceSub, ↓Int.reduceNatCast']

/-- the iterator of bytes, over any store -/
noncomputable def si_units : List D → St → Option (D × St) := siOf (α := List UInt8 × St) (fun a => ([bsD a.1], a.2)) (fun _ => True) (fun a => (.clo 35 [.ptr a.2.length 0], a.2 ++ [⟨false, 1, [bsD a.1], false⟩]))
theorem call_units (b : List UInt8) (st : St) : si_units [bsD b] st = some (.clo 35 [.ptr st.length 0], st ++ [⟨false, 1, [bsD b], false⟩]) :=
  siOf_enc (fun a b e => by simp only [Prod.mk.injEq, List.cons.injEq, and_true, bsD_inj'] at e; rw [e.1, e.2]) ((b, st) : List UInt8 × St) trivial rfl
theorem ci_units : IContract Tryd.prog GG 28 si_units := by
  refine icontract_keep (T := tb [] []) tr_disk_units (tb_ok all_nil all_nil) ?_
  rintro ⟨b, st⟩ _
  unfold F_disk_units
  simp (disch := first | omega | decide) only [push_cast, ↓wF_free, ↓reduceIte, Nat.reduceEqDiff, Nat.reduceLT, Nat.reduceLeDiff, Nat.reduceAdd, Nat.reduceSub, Nat.reduceMul, Nat.reduceBEq, Int.reduceLT, Int.reduceLE, Int.reduceToNat, Int.reduceNeg, Int.reducePow, Int.reduceAdd, Int.reduceMul, Int.reduceSub, ↓Int.reduceNatCast', bsD]

theorem papp_fbs (st : St) (sz0 : Nat) (r : List UInt8) (t : Bool) : papp st 1 24 (.slc sz0 [] true) (.slc 1 [.slc (nz 1 (r.map byteD)) (r.map byteD) false] t) = some (.row st.length 1 0 1, st ++ [⟨true, 1, [bsD r], false⟩]) :=
  papp_first1 bsD st 1 sz0 24 r t (by decide) (by decide)
theorem apR_bs (st : St) (A : List (List UInt8)) (r : List UInt8) (lent t : Bool) (hl : A.length + 1 ≤ 4294967296) : apR (some ⟨true, 1, A.map bsD, lent⟩) 1 24 A.length (elsOf st (.slc 1 [.slc (nz 1 (r.map byteD)) (r.map byteD) false] t)) = some ⟨true, 1, (A ++ [r]).map bsD, lent⟩ :=
  apR_one bsD 1 24 A r lent t st (by decide) (by omega) hl

/-! ### Read -/
def rdS (b : List UInt8) (s : Int) (A : List (List UInt8)) (e : Nat) : St :=
  ⟨false, 1, [bsD b, .int .i64 s], false⟩ :: ⟨false, 1, [bufD 0 4 (A.map bsD)], false⟩ :: ⟨false, 1, [.int .i64 (e : Int)], false⟩ :: ⟨false, 1, [bsD b], false⟩ :: bufS 1 (A.map bsD)
noncomputable def rdT : Tbl := tbr [] [(28, si_units)] [(35, sy_units)]
set_option maxHeartbeats 4000000 in
set_option maxRecDepth 20000 in
theorem rd_round (b : List UInt8) (s : Int) (A : List (List UInt8)) (e e' : Nat) (r : List UInt8) (fr : Frame) (hA : A.length ≤ 4000000000) (h2 : fr 2 = .ptr 1 0) (h3 : fr 3 = .ptr 2 0) (m : Nat) :
    roundY (F_disk_Read_L0.exec GG rdT m) (F_disk_Read_L1.exec GG rdT m) fr [9, 10] [.int .i64 (e' : Int), .slc 1 (r.map byteD) true] (rdS b s A e) = some (.bool true, rdS b s (A ++ [r]) e') := by
  refine round_of rfl rfl rfl ?_ m
  unfold F_disk_Read_L0 rdS
  by_cases hn : A = []
  · subst hn
    simp (disch := first | omega | decide) only [push_cast, ↓wF_free, ↓reduceIte, Nat.reduceEqDiff, Nat.reduceLT, Nat.reduceLeDiff, Nat.reduceAdd, Nat.reduceSub, Nat.reduceMul, Nat.reduceBEq, Int.reduceLT, Int.reduceLE, Int.reduceToNat, Int.reduceNeg, Int.reducePow, Int.reduceAdd, Int.reduceMul, Int.reduceSub, ↓Int.reduceNatCast', setP, h2, h3, bufD_nil, bufS_nil, List.map_nil, List.nil_append]
    unfold F_disk_Read_L1
    simp (disch := first | omega | decide) only [push_cast, ↓wF_free, ↓reduceIte, Nat.reduceEqDiff, Nat.reduceLT, Nat.reduceLeDiff, Nat.reduceAdd, Nat.reduceSub, Nat.reduceMul, Nat.reduceBEq, Int.reduceLT, Int.reduceLE, Int.reduceToNat, Int.reduceNeg, Int.reducePow, Int.reduceAdd, Int.reduceMul, Int.reduceSub, ↓Int.reduceNatCast', setP, h2, h3, bsD, litD_slc1, papp_fbs]
    rfl
  · have hn2 : A.map bsD ≠ [] := by simpa using hn
    have hn3 : (A ++ [r]).map bsD ≠ [] := by simp
    simp (disch := first | omega | decide) only [push_cast, ↓wF_free, ↓reduceIte, Nat.reduceEqDiff, Nat.reduceLT, Nat.reduceLeDiff, Nat.reduceAdd, Nat.reduceSub, Nat.reduceMul, Nat.reduceBEq, Int.reduceLT, Int.reduceLE, Int.reduceToNat, Int.reduceNeg, Int.reducePow, Int.reduceAdd, Int.reduceMul, Int.reduceSub, ↓Int.reduceNatCast', setP, h2, h3, bufD_ne _ _ _ hn2, bufS_ne _ _ hn2, bufD_ne _ _ _ hn3, bufS_ne _ _ hn3]
    unfold F_disk_Read_L1
    simp (disch := first | omega | decide) only [push_cast, ↓wF_free, ↓reduceIte, Nat.reduceEqDiff, Nat.reduceLT, Nat.reduceLeDiff, Nat.reduceAdd, Nat.reduceSub, Nat.reduceMul, Nat.reduceBEq, Int.reduceLT, Int.reduceLE, Int.reduceToNat, Int.reduceNeg, Int.reducePow, Int.reduceAdd, Int.reduceMul, Int.reduceSub, ↓Int.reduceNatCast', setP, h2, h3, bsD, litD_slc1, apR_bs]
    rw [bufD_ne _ _ _ hn3, bufS_ne _ _ hn3, List.length_map]
theorem rd_fold (b : List UInt8) (s : Int) (fr : Frame) (hb : b.length ≤ 4000000000) (h2 : fr 2 = .ptr 1 0) (h3 : fr 3 = .ptr 2 0) (m : Nat) : ∀ (f p : Nat) (A : List (List UInt8)), p ≤ b.length → A.length ≤ p →
    FoldY (roundY (F_disk_Read_L0.exec GG rdT m) (F_disk_Read_L1.exec GG rdT m) fr [9, 10]) 3 (unF f b p) (rdS b s A p) (rdS b s (A ++ (rdF f b p).1) (rdF f b p).2)
  | 0, p, A, _, _ => by simp only [unF, rdF, List.append_nil]; exact .nil _
  | f + 1, p, A, hp, hA => by
    cases hs : stand b p with
    | none => rw [unF_none hs, rdF_none hs, List.append_nil]; exact .nil _
    | some r =>
      have hl := stand_le hs
      rw [unF_some hs, rdF_some hs]
      refine .cons (rd_round b s A p (p + 12 + r.length) r fr (by omega) h2 h3 m) rfl ?_
      have := rd_fold b s fr hb h2 h3 m f (p + 12 + r.length) (A ++ [r]) hl (by simp; omega)
      rw [List.append_assoc] at this
      exact this
theorem recs_length (b : List UInt8) : (recs b).length ≤ b.length := by
  have h1 : ∀ l : List (List UInt8), l.length ≤ (encL 0 l).length := by
    intro l
    have h2 : ∀ (l : List (List UInt8)) (p : Nat), l.length ≤ (encL p l).length := by
      intro l
      induction l with
      | nil => intro p; simp
      | cons r l ih =>
        intro p
        have := ih (p + 12 + r.length)
        rw [encL, List.length_append, unitL_length, List.length_cons]
        omega
    exact h2 l 0
  have h3 := (recs_prefix b).length_le
  have := h1 (recs b)
  omega

noncomputable def sp_read : List D → Option D := spOf (α := (List UInt8 × Int)) (fun a => [dkD a]) (fun a => okD a) (fun a => .tup [.slc (nz 1 ((recs a.1).map bsD)) ((recs a.1).map bsD) false, .int .i64 (endN a.1 : Int)])
theorem call_read (d : List UInt8 × Int) (h : okD d) : sp_read [dkD d] = some (.tup [.slc (nz 1 ((recs d.1).map bsD)) ((recs d.1).map bsD) false, .int .i64 (endN d.1 : Int)]) :=
  spOf_enc (fun a b h => by simp only [List.cons.injEq, D.slc.injEq, D.int.injEq, D.bool.injEq, D.str.injEq, D.agg.injEq, digs_iff, dig_iff, digC_iff, bytes_iff, byte_iff, words_iff, word_iff, Sha.St8.list_iff, bsl_iff, true_and, and_true, bsD_inj', dkD_iff, trD_iff, Int.ofNat_inj] at h; simp [h, Prod.ext_iff]) (d) h
set_option maxHeartbeats 4000000 in
set_option maxRecDepth 20000 in
theorem w_read (d : List UInt8 × Int) (h : okD d) : @wW GG rdT F_disk_Read.code (argF [dkD d]) [] ⟨retQ F_disk_Read.res (.tup [.slc (nz 1 ((recs d.1).map bsD)) ((recs d.1).map bsD) false, .int .i64 (endN d.1 : Int)])⟩ := by
  obtain ⟨b, s⟩ := d
  obtain ⟨h1, h2, h3⟩ := h
  dsimp only at h1 h2 h3 ⊢
  have cu := call_units b [⟨false, 1, [bsD b, .int .i64 s], false⟩, ⟨false, 1, [.slc 0 [] true], false⟩, ⟨false, 1, [.int .i64 0], false⟩]
  simp only [bsD] at cu
  unfold F_disk_Read
  simp (disch := first | omega | decide) only [push_cast, ↓wF_free, ↓reduceIte, Nat.reduceEqDiff, Nat.reduceLT, Nat.reduceLeDiff, Nat.reduceAdd, Nat.reduceSub, Nat.reduceMul, Nat.reduceBEq, Int.reduceLT, Int.reduceLE, Int.reduceToNat, Int.reduceNeg, Int.reducePow, Int.reduceAdd, Int.reduceMul, Int.reduceSub, ↓Int.reduceNatCast', dkD, bsD, rdT, cu]
  refine W_range (st' := rdS b s (recs b) (endN b)) (d := .tup []) (by simp only [push_cast, ↓wF_free, ↓reduceIte, Nat.reduceEqDiff, Nat.reduceLT, Nat.reduceLeDiff, Nat.reduceAdd, Nat.reduceSub, Nat.reduceMul, Nat.reduceBEq, Int.reduceLT, Int.reduceLE, Int.reduceToNat, Int.reduceNeg, Int.reducePow, Int.reduceAdd, Int.reduceMul, Int.reduceSub, ↓Int.reduceNatCast'] <;> rfl) (by decide) (by rfl) (fun m => ?_) ?_
  · refine sy_some ⟨3, b, false, rfl, rfl, h1, rfl, ?_⟩
    exact rd_fold b s _ h1 rfl rfl m (b.length + 1) 0 [] (by omega) (by simp)
  · generalize recs b = R
    unfold rdS
    by_cases hn : R = []
    · subst hn
      simp (disch := first | omega | decide) only [push_cast, ↓wF_free, ↓reduceIte, Nat.reduceEqDiff, Nat.reduceLT, Nat.reduceLeDiff, Nat.reduceAdd, Nat.reduceSub, Nat.reduceMul, Nat.reduceBEq, Int.reduceLT, Int.reduceLE, Int.reduceToNat, Int.reduceNeg, Int.reducePow, Int.reduceAdd, Int.reduceMul, Int.reduceSub, ↓Int.reduceNatCast', bufD_nil, bufS_nil, List.map_nil, bsD]
    · have hn2 : R.map bsD ≠ [] := by simpa using hn
      simp (disch := first | omega | decide) only [push_cast, ↓wF_free, ↓reduceIte, Nat.reduceEqDiff, Nat.reduceLT, Nat.reduceLeDiff, Nat.reduceAdd, Nat.reduceSub, Nat.reduceMul, Nat.reduceBEq, Int.reduceLT, Int.reduceLE, Int.reduceToNat, Int.reduceNeg, Int.reducePow, Int.reduceAdd, Int.reduceMul, Int.reduceSub, ↓Int.reduceNatCast', bufD_ne _ _ _ hn2, bufS_ne _ _ hn2, bsD]
theorem c_read : Contract Tryd.prog GG 14 sp_read :=
  contract_of tr_disk_Read (tbr_ok all_nil (all_cons ci_units all_nil) (all_cons cy_units all_nil)) (fun a h => w_read a h)
end Go.Proofs.YteacnlikmagfcaaDoor.PI
