/-
  disk: the examples of the documentation hold.
  Conditions: none; these are lemmas.
-/
import Derived.Test.YteacnlikmagfcaaDoorDkG
namespace Go.Proofs.YteacnlikmagfcaaDoor.PI
open Go
set_option linter.unusedSimpArgs false
set_option linter.unusedVariables false

theorem appL_ok (b : List UInt8) (s : Int) (r : List UInt8) (h0 : 0 ≤ s) (h1 : s ≤ (b.length : Int)) (h2 : r.length ≤ 16000) : appL (b, s) r = ((b ++ unitL (b.length : Int) r, s), 0) := by
  unfold appL
  rw [if_neg (by unfold badD; dsimp only; omega), if_neg (by omega)]
theorem appL_long (b : List UInt8) (s : Int) (r : List UInt8) (h0 : 0 ≤ s) (h1 : s ≤ (b.length : Int)) (h2 : 16000 < r.length) : appL (b, s) r = (([], 0), 2) := by
  unfold appL
  rw [if_neg (by unfold badD; dsimp only; omega), if_pos h2]
theorem crashL_ok (b : List UInt8) (s : Int) (k : Int) (t : List UInt8) (h0 : 0 ≤ s) (h1 : s ≤ (b.length : Int)) (h2 : 0 ≤ k) (h3 : k ≤ (b.length : Int) - s) (h4 : t.length ≤ 64) : crashL (b, s) (k, t) = (syncL (b.take (s + k).toNat ++ t, 0), 0) := by
  unfold crashL
  rw [if_neg (by unfold badT badD; dsimp only; omega)]
theorem mk_bytes (n : Int) (h0 : 0 ≤ n) (h1 : n ≤ 4294967296) : mkslcD 1 1 (.int .u8 0) (.int .i64 n) (.int .i64 n) = some ((List.replicate n.toNat (0 : UInt8)).length, ⟨true, 1, (List.replicate n.toNat (0 : UInt8)).map byteD, false⟩) := by
  have h2 : n.toNat ≤ 4294967296 := by omega
  have h3 : n.toNat * 1 ≤ 140737488355328 := by omega
  simp only [mkslcD, natOf_int .i64 n h0]
  rw [if_pos ⟨Nat.le_refl _, h2, h3, by decide, rfl, rfl⟩, List.map_replicate, List.length_replicate]
  rfl
theorem nz_of (A : List UInt8) (n : Nat) (h : A.length = n + 1) : nz 1 (A.map byteD) = 1 := by
  cases A with
  | nil => cases h
  | cons a r => rfl

noncomputable def sp_sane : List D → Option D := spOf (α := Unit) (fun _ => []) (fun _ => True) (fun _ => .bool true)
theorem call_sane : sp_sane [] = some (.bool true) :=
  spOf_enc (fun _ _ _ => rfl) () trivial
set_option maxHeartbeats 4000000 in
set_option maxRecDepth 20000 in
theorem w_sane : @wW GG (tb [(11, sp_append), (12, sp_sync), (14, sp_read), (13, sp_crash), (18, sp_same)] []) F_wagonpoollaw13_sane.code (argF []) [] ⟨retQ F_wagonpoollaw13_sane.res (.bool true)⟩ := by
  obtain ⟨a, ha⟩ : ∃ a : List UInt8, a = [97, 98, 99] := ⟨_, rfl⟩
  obtain ⟨b, hb⟩ : ∃ b : List UInt8, b = [98] := ⟨_, rfl⟩
  have la : a.length = 3 := by rw [ha]; rfl
  have lb : b.length = 1 := by rw [hb]; rfl
  have lita : litD 1 [.int .u8 97, .int .u8 98, .int .u8 99] = some (.slc 1 (a.map byteD) true) := by rw [ha]; rfl
  have litb : litD 1 [.int .u8 98] = some (.slc 1 (b.map byteD) true) := by rw [hb]; rfl
  have na := nz_of a 2 la
  have nb := nz_of b 0 lb
  have hoa : okL [a] := by intro r hr; simp at hr; subst hr; omega
  have hob : okL [a, b] := by intro r hr; simp at hr; rcases hr with rfl | rfl <;> omega
  have e1 : encL 0 [a] = unitL 0 a := by simp [encL]
  have e2 : encL 0 [a, b] = unitL 0 a ++ unitL 15 b := by simp [encL, la]
  have lU : (unitL 0 a).length = 15 := by rw [unitL_length, la]
  have lV : (unitL 15 b).length = 13 := by rw [unitL_length, lb]
  have tU : (unitL 0 a).take 4 = [0, 0, 0, 3] := by
    have := unit_take4 0 a []
    rw [List.append_nil, la] at this
    rw [this]
    decide
  have rU := recs_enc [a] hoa
  have nU := endN_enc [a] hoa
  have rW := recs_enc [a, b] hob
  have nW := endN_enc [a, b] hob
  rw [e1] at rU nU
  rw [e2] at rW nW
  have nzU := nz_of (unitL 0 a) 14 lU
  have lW : (unitL 0 a ++ unitL 15 b).length = 28 := by rw [List.length_append, lU, lV]
  have nzW := nz_of (unitL 0 a ++ unitL 15 b) 27 lW
  have hz : (((0 : Nat) : Int)) = 0 := rfl
  have h15 : ((15 : Nat) : Int) = 15 := rfl
  have h28 : ((28 : Nat) : Int) = 28 := rfl
  have tW : (unitL 0 a ++ unitL 15 b).take 15 = unitL 0 a := List.take_left' lU
  have tW2 : (unitL 0 a ++ unitL 15 b).take 28 = unitL 0 a ++ unitL 15 b := List.take_of_length_le (by omega)
  have ca := call_append ([], 0) a ⟨⟨by simp, by decide, by decide⟩, by omega⟩
  rw [appL_ok [] 0 a (by decide) (by decide) (by omega)] at ca
  have cb := call_append (unitL 0 a, 15) b ⟨⟨by dsimp only; omega, by dsimp only; omega, by dsimp only; omega⟩, by omega⟩
  rw [appL_ok (unitL 0 a) 15 b (by decide) (by omega) (by omega), lU, h15] at cb
  have cs := call_sync (unitL 0 a, 0) (by dsimp only; omega)
  have cr0 := call_read ([], 0) ⟨by simp, by decide, by decide⟩
  have hr0 : recs [] = [] := rfl
  have hn0 : endN [] = 0 := rfl
  have cr1 := call_read (unitL 0 a, 15) ⟨by dsimp only; omega, by dsimp only; omega, by dsimp only; omega⟩
  have cr2 := call_read (unitL 0 a ++ unitL 15 b, 28) ⟨by dsimp only; omega, by dsimp only; omega, by dsimp only; omega⟩
  have cc1 := call_crash (unitL 0 a ++ unitL 15 b, 15) (0, []) ⟨⟨by dsimp only; omega, by dsimp only; omega, by dsimp only; omega⟩, by decide, by decide, by simp⟩
  rw [crashL_ok _ 15 0 [] (by decide) (by omega) (by decide) (by omega) (by simp)] at cc1
  have cc2 := call_crash (unitL 0 a ++ unitL 15 b, 15) (13, []) ⟨⟨by dsimp only; omega, by dsimp only; omega, by dsimp only; omega⟩, by decide, by decide, by simp⟩
  rw [crashL_ok _ 15 13 [] (by decide) (by omega) (by decide) (by omega) (by simp)] at cc2
  have i15 : ((15 : Int) + 0).toNat = 15 := rfl
  have i28 : ((15 : Int) + 13).toNat = 28 := rfl
  have cm1 := call_same [a] [a] (by simp)
  have cm2 := call_same [a, b] [a, b] (by simp)
  have ce1 := call_append ([], -1) a ⟨⟨by simp, by decide, by decide⟩, by omega⟩
  have ce2 := call_crash ([], 0) (1, []) ⟨⟨by simp, by decide, by decide⟩, by decide, by decide, by simp⟩
  rw [show appL ([], -1) a = (([], 0), 130) from rfl] at ce1
  rw [show crashL ([], 0) (1, []) = (([], 0), 1) from rfl] at ce2
  have hZ : (List.replicate (16001 : Int).toNat (0 : UInt8)).length = 16001 := by rw [List.length_replicate]; rfl
  have mkZ := mk_bytes 16001 (by decide) (by decide)
  generalize List.replicate (16001 : Int).toNat (0 : UInt8) = Z at hZ mkZ
  have nzZ := nz_of Z 16000 hZ
  have cz := call_append ([], 0) Z ⟨⟨by simp, by decide, by decide⟩, by omega⟩
  rw [appL_long [] 0 Z (by decide) (by decide) (by omega)] at cz
  simp only [dkD, trD, bsD, syncL, List.nil_append, List.append_nil, List.length_nil, List.map_nil, nz_nil, na, nb, nzU, nzW, lU, lW, hz, h15, h28, rU, nU, rW, nW, hr0, hn0, tW, tW2, i15, i28, List.map_cons, nz_cons, decide_true, nzZ, hZ] at ca cb cs cr0 cr1 cr2 cc1 cc2 cm1 cm2 ce1 ce2 cz mkZ
  generalize unitL 0 a = U at *
  generalize U ++ unitL 15 b = W at *
  have cs4 : ∀ (st : St) (A : List UInt8) (t : Bool), pconv st .str (.slc 1 (A.map byteD) t) = some (.str A) := fun st A t => conv_sb st A 1 t (.inl rfl)
  have rz : reR (some ⟨true, 1, Z.map byteD, false⟩) 16001 0 16001 = some (1, Z.map byteD) := by
    have := reR_all byteD 1 Z false
    rwa [hZ] at this
  have cs5 : ∀ (st : St), pconv st .str (.slc 1 [byteD 0, byteD 0, byteD 0, byteD 3] false) = some (.str [0, 0, 0, 3]) := fun st => rfl
  have hnz : (1 = 1 ∨ U.map byteD = []) ∧ 1 ≠ 0 := ⟨.inl rfl, by decide⟩
  have i4 : ((4 : Int)).toNat = 4 := rfl
  unfold F_wagonpoollaw13_sane
  simp (disch := first | omega | decide) only [push_cast, ↓wF_free, ↓reduceIte, Nat.reduceEqDiff, Nat.reduceLT, Nat.reduceLeDiff, Nat.reduceAdd, Nat.reduceSub, Nat.reduceMul, Nat.reduceBEq, Int.reduceLT, Int.reduceLE, Int.reduceToNat, Int.reduceNeg, Int.reducePow, Int.reduceAdd, Int.reduceMul, Int.reduceSub, ↓Int.reduceNatCast', lita, litb, na, nb, ca, cb, cs, cr0, cr1, cr2, cc1, cc2, nzU, nzW, lU, lW, cs4, cs5, rz, slc_to _ _ _ _ _ _ _ _ hnz, i4, tU, litD_slc1, litD_slc2, cm1, cm2, ce1, ce2, cz, mkZ, nzZ, hZ]
theorem c_sane : Contract Tryd.prog GG 10 sp_sane :=
  contract_of tr_wagonpoollaw13_sane (tb_ok (all_cons c_append (all_cons c_sync (all_cons c_read (all_cons c_crash (all_cons c_same all_nil))))) all_nil) (fun a h => w_sane )
end Go.Proofs.YteacnlikmagfcaaDoor.PI
