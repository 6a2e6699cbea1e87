/-
  teval: an evaluator, its attributes, what recovers, and whether all tests of a clause hold.
  Conditions: none; these are lemmas.
-/
import Derived.Test.YtgppecaeegaooaaEngHd
import Derived.Test.YtgppecaeegaooaaTbN
namespace Go.Proofs.Ytgppecaeegaooaa.PI
open Go
set_option linter.unusedSimpArgs false
set_option linter.unusedVariables false
noncomputable def relI (R : List D → St → D × St → Prop) : List D → St → Option (D × St) := fun ds st => @dite _ (∃ r, R ds st r) (Classical.propDecidable _) (fun h => some h.choose) (fun _ => none)
theorem relI_inv {R : List D → St → D × St → Prop} {ds : List D} {st : St} {r : D × St} (h : relI R ds st = some r) : R ds st r := by
  unfold relI at h
  split at h
  · rename_i hx
    simp only [Option.some.injEq] at h
    rw [← h]; exact hx.choose_spec
  · cases h
theorem relI_eq {R : List D → St → D × St → Prop} {ds : List D} {st : St} {r : D × St} (h : R ds st r) (hu : ∀ r', R ds st r' → r' = r) : relI R ds st = some r := by
  have hx : ∃ r, R ds st r := ⟨r, h⟩
  unfold relI
  rw [dif_pos hx, hu _ hx.choose_spec]
theorem relI_none {R : List D → St → D × St → Prop} {ds : List D} {st : St} (h : ∀ r, ¬ R ds st r) : relI R ds st = none := by
  unfold relI
  rw [dif_neg (fun ⟨r, hr⟩ => h r hr)]
noncomputable def relX (R : List D → St → Nat × D × St → Prop) : List D → St → Option (Nat × D × St) := fun ds st => @dite _ (∃ r, R ds st r) (Classical.propDecidable _) (fun h => some h.choose) (fun _ => none)
theorem relX_inv {R : List D → St → Nat × D × St → Prop} {ds : List D} {st : St} {r : Nat × D × St} (h : relX R ds st = some r) : R ds st r := by
  unfold relX at h
  split at h
  · rename_i hx
    simp only [Option.some.injEq] at h
    rw [← h]; exact hx.choose_spec
  · cases h
theorem relX_eq {R : List D → St → Nat × D × St → Prop} {ds : List D} {st : St} {r : Nat × D × St} (h : R ds st r) (hu : ∀ r', R ds st r' → r' = r) : relX R ds st = some r := by
  have hx : ∃ r, R ds st r := ⟨r, h⟩
  unfold relX
  rw [dif_pos hx, hu _ hx.choose_spec]
def caseV (v : List Int) : Prop := v.length = 16 ∧ ∀ i, i < 16 → 0 ≤ at' v i ∧ at' v i ≤ 9007199254740992
def holdsF (v : List Int) : List Tst → Bool × Int
  | [] => (true, 0)
  | t :: l => if t.a < 0 ∨ 16 ≤ t.a then (false, 1) else if at' v t.a.toNat < t.lo ∨ t.hi < at' v t.a.toNat then (false, 0) else holdsF v l
def evA : List (Int × Nat) := [(3, 5000045), (4, 5000046), (5, 5000047), (6, 5000048), (7, 5000049), (8, 5000050), (9, 5000051), (10, 5000052), (11, 5000053)]
def evEnt (k : Nat) (p : Int × Nat) : D := .agg [.int .i64 p.1, .clo p.2 [.ptr k 0]]
def evN (k i : Nat) : List D := (evA.take i).map (evEnt k)
def evC (h : Int) (v : List Int) (m : D) : List D := envC h v ++ [m]
theorem evC_length {h : Int} {v : List Int} {m : D} (hv : v.length = 16) : (evC h v m).length = 18 := by simp [evC, envC, hv]
theorem mu_0 (k : Nat) : muO (some ⟨false, 2, [], false⟩) 2 [0] (.int .i64 3) (.clo 5000045 [.ptr k 0]) = some ⟨false, 2, evN k 1, false⟩ := (rfl)
theorem mu_1 (k : Nat) : muO (some ⟨false, 2, evN k 1, false⟩) 2 [0] (.int .i64 4) (.clo 5000046 [.ptr k 0]) = some ⟨false, 2, evN k 2, false⟩ := (rfl)
theorem mu_2 (k : Nat) : muO (some ⟨false, 2, evN k 2, false⟩) 2 [0] (.int .i64 5) (.clo 5000047 [.ptr k 0]) = some ⟨false, 2, evN k 3, false⟩ := (rfl)
theorem mu_3 (k : Nat) : muO (some ⟨false, 2, evN k 3, false⟩) 2 [0] (.int .i64 6) (.clo 5000048 [.ptr k 0]) = some ⟨false, 2, evN k 4, false⟩ := (rfl)
theorem mu_4 (k : Nat) : muO (some ⟨false, 2, evN k 4, false⟩) 2 [0] (.int .i64 7) (.clo 5000049 [.ptr k 0]) = some ⟨false, 2, evN k 5, false⟩ := (rfl)
theorem mu_5 (k : Nat) : muO (some ⟨false, 2, evN k 5, false⟩) 2 [0] (.int .i64 8) (.clo 5000050 [.ptr k 0]) = some ⟨false, 2, evN k 6, false⟩ := (rfl)
theorem mu_6 (k : Nat) : muO (some ⟨false, 2, evN k 6, false⟩) 2 [0] (.int .i64 9) (.clo 5000051 [.ptr k 0]) = some ⟨false, 2, evN k 7, false⟩ := (rfl)
theorem mu_7 (k : Nat) : muO (some ⟨false, 2, evN k 7, false⟩) 2 [0] (.int .i64 10) (.clo 5000052 [.ptr k 0]) = some ⟨false, 2, evN k 8, false⟩ := (rfl)
theorem mu_8 (k : Nat) : muO (some ⟨false, 2, evN k 8, false⟩) 2 [0] (.int .i64 11) (.clo 5000053 [.ptr k 0]) = some ⟨false, 2, evN k 9, false⟩ := (rfl)
theorem hkB_ev (k : Nat) : (evN k 9).flatMap hk = [k, k, k, k, k, k, k, k, k] := (rfl)
theorem ren_ent {n k : Nat} (σ : List Nat) (h : k < n) (p : Int × Nat) : ren n σ (evEnt k p) = evEnt k p := by
  have : renK n σ k = some k := by unfold renK; rw [if_pos h]
  simp only [evEnt, ren, ren1, ren0, List.map_cons, List.map_nil, this, orJunk]
theorem renB_ev (n k : Nat) (σ : List Nat) (h : k < n) : (evN k 9).map (ren n σ) = evN k 9 := by
  unfold evN
  rw [List.map_map]
  exact List.map_congr_left fun p _ => ren_ent σ h p
theorem hkB_evC (h : Int) (v : List Int) (k : Nat) : (evC h v (.mapv k)).flatMap hk = [k] := by
  unfold evC
  rw [List.flatMap_append, hkB_env]
  rfl
theorem renB_evC (h : Int) (v : List Int) (n k : Nat) (σ : List Nat) (hk : k < n) : (evC h v (.mapv k)).map (ren n σ) = evC h v (.mapv k) := by
  have : renK n σ k = some k := by unfold renK; rw [if_pos hk]
  unfold evC
  rw [List.map_append, renB_env]
  simp only [List.map_cons, List.map_nil, ren, ren1, ren0, this, orJunk]
theorem fill_ev (h : Int) {p : List Int} (hp : p.length = 16) : fillD [D.int .i64 0, .int .i64 0, .int .i64 0, .int .i64 0, .int .i64 0, .int .i64 0, .int .i64 0, .int .i64 0, .int .i64 0, .int .i64 0, .int .i64 0, .int .i64 0, .int .i64 0, .int .i64 0, .int .i64 0, .int .i64 0, .int .i64 0, .nilm] [(0, 17, envD h p)] = some (evC h p .nilm) := by
  have hl : (envC h p).length = 17 := by simp [envC, hp]
  have hc : (envC h p).all D.isCell = true := ints_cell _
  have hs : splice [D.int .i64 0, .int .i64 0, .int .i64 0, .int .i64 0, .int .i64 0, .int .i64 0, .int .i64 0, .int .i64 0, .int .i64 0, .int .i64 0, .int .i64 0, .int .i64 0, .int .i64 0, .int .i64 0, .int .i64 0, .int .i64 0, .int .i64 0, .nilm] 0 (envC h p) = evC h p .nilm := by
    rw [splice, hl]; rfl
  have hcl : (envD h p).cells = envC h p := rfl
  simp only [fillD, hcl, hl, hc, hs]
  rfl
theorem box_ev (h : Int) (p : List Int) : boxD (.agg (evC h p .nilm)) = some (evC h p .nilm) := by
  have hc : (evC h p .nilm).all D.isCell = true := by
    unfold evC
    rw [List.all_append, show (envC h p).all D.isCell = true from ints_cell _]
    rfl
  simp only [boxD, D.cells, hc, if_true]
theorem st_ev (h : Int) {p : List Int} (hp : p.length = 16) (k : Nat) : stO (some ⟨false, 1, evC h p .nilm, false⟩) 1 17 (.mapv k) = some ⟨false, 1, evC h p (.mapv k), false⟩ := by
  have hl : (envC h p).length = 17 := by simp [envC, hp]
  have hs : splice (evC h p .nilm) 17 [.mapv k] = evC h p (.mapv k) := by
    unfold evC
    rw [splice, ← hl]
    simp
  simp [stO, evC_length hp, D.cells, D.isCell, hs]
theorem ldV_h (lent : Bool) (h : Int) (v : List Int) (m : D) : ldO (some ⟨false, 1, evC h v m, lent⟩) 1 false 0 = some (.int .i64 h) := by
  simp [ldO, evC, envC, D.mk, nI]
theorem ldV (lent : Bool) (h : Int) {v : List Int} (m : D) (hv : v.length = 16) (i : Nat) (hi : i < 16) : ldO (some ⟨false, 1, evC h v m, lent⟩) 1 false (1 + i) = some (.int .i64 (at' v i)) := by
  have hl := evC_length (h := h) (m := m) hv
  have e : (evC h v m).drop (1 + i) = nI v[i] :: (evC h v m).drop (2 + i) := by
    have h1 : 1 + i < (evC h v m).length := by omega
    rw [List.drop_eq_getElem_cons h1, show 1 + i + 1 = 2 + i by omega]
    congr 1
    have h2 : (evC h v m)[1 + i]? = some (nI v[i]) := by
      unfold evC envC
      rw [List.getElem?_append_left (by simp [hv]; omega), List.getElem?_map, show 1 + i = i + 1 by omega, List.getElem?_cons_succ, List.getElem?_eq_getElem (by omega)]
      rfl
    rw [List.getElem?_eq_getElem h1] at h2
    exact Option.some.inj h2
  have e2 : at' v i = v[i] := by simp [at', List.getD_eq_getElem?_getD, hv, hi]
  simp only [ldO, Option.bind_some, e, List.take_succ_cons, List.take_zero, e2]
  rw [if_neg (by decide), if_pos (by simp [hl]; omega)]
  rfl
theorem evC_inj {h h' : Int} {v v' : List Int} {m m' : D} (hv : v.length = 16) (hv' : v'.length = 16) (e : evC h v m = evC h' v' m') : h = h' ∧ v = v' ∧ m = m' := by
  unfold evC envC at e
  obtain ⟨e1, e2⟩ := List.append_inj e (by simp [hv, hv'])
  simp only [ints_iff, List.cons.injEq, and_true] at e1 e2
  exact ⟨e1.1, e1.2, e2⟩
attribute [push_cast] mu_0 mu_1 mu_2 mu_3 mu_4 mu_5 mu_6 mu_7 mu_8 hkB_ev renB_ev hkB_evC renB_evC box_ev ldV_h
theorem mkmap_2 : mkmapD 2 = some ⟨false, 2, [], false⟩ := (rfl)
def newR (ds : List D) (st : St) (r : D × St) : Prop := ∃ (o0 o1 o2 : Obj) (h : Int) (v : List Int), v.length = 16 ∧ st = [o0, o1, o2] ∧ ds = [envD h v] ∧
  r = (.ptr 4 0, [o0, o1, o2, ⟨false, 1, envC h v, false⟩, ⟨false, 1, evC h v (.mapv 5), false⟩, ⟨false, 2, evN 4 9, false⟩])
noncomputable def si_newEv : List D → St → Option (D × St) := relI newR
theorem envD_inj' {h h' : Int} {v v' : List Int} (e : envD h v = envD h' v') : h = h' ∧ v = v' := by
  simp only [envD, envC, D.agg.injEq, ints_iff, List.cons.injEq] at e
  exact e
theorem call_newEv (o0 o1 o2 : Obj) (h : Int) (v : List Int) (hv : v.length = 16) : si_newEv [envD h v] [o0, o1, o2] = some (.ptr 4 0, [o0, o1, o2, ⟨false, 1, envC h v, false⟩, ⟨false, 1, evC h v (.mapv 5), false⟩, ⟨false, 2, evN 4 9, false⟩]) := by
  refine relI_eq ⟨o0, o1, o2, h, v, hv, rfl, rfl, rfl⟩ ?_
  rintro r ⟨p0, p1, p2, h', v', _, e1, e2, rfl⟩
  simp only [List.cons.injEq, and_true] at e1 e2
  obtain ⟨rfl, rfl⟩ := envD_inj' e2
  obtain ⟨rfl, rfl, rfl⟩ := e1
  rfl
set_option maxHeartbeats 4000000 in
set_option maxRecDepth 20000 in
theorem ci_newEv : IContract Try.prog GG 32 si_newEv := by
  refine icontract_keep' (T := tb [] []) tr_teval_newEvaluator (tb_ok all_nil all_nil) ?_
  intro ds st r hr
  obtain ⟨o0, o1, o2, h, v, hv, rfl, rfl, rfl⟩ := relI_inv hr
  unfold F_teval_newEvaluator
  simp (disch := first | omega | decide) only [push_cast, ↓wF_free, ↓reduceIte, Nat.reduceEqDiff, Nat.reduceLT, Nat.reduceLeDiff, Nat.reduceAdd, Nat.reduceSub, Nat.reduceMul, Nat.reduceBEq, Int.reduceLT, Int.reduceLE, Int.reduceToNat, Int.reduceNeg, Int.reducePow, Int.reduceAdd, Int.reduceMul, Int.reduceSub, ↓Int.reduceNatCast', ldE _ _ hv, fill_ev h hv, st_ev h hv, mkmap_2]
theorem shl_n : ∀ n : Fin 16, ishift .shl .i64 1 (n.val : Int) = some (2 ^ n.val) := by decide
theorem and_n : ∀ n : Fin 16, ibits .and .i64 65535 (2 ^ n.val) = some (2 ^ n.val) := by decide
theorem pow_n : ∀ n : Fin 16, (decide ((2 : Int) ^ n.val = 0)) = false := by decide
theorem bin_shl1 (a : Int) (h0 : 0 ≤ a) (h1 : a < 16) : pbin .shl (.int .i64 1) (.int .i64 a) = some (.int .i64 (2 ^ a.toNat)) := by
  obtain ⟨n, rfl⟩ : ∃ n : Nat, a = n := ⟨a.toNat, by omega⟩
  have := shl_n ⟨n, by omega⟩
  simp only [pbin, this, Option.map_some, Int.toNat_natCast]
theorem bin_and1 (a : Int) (h0 : 0 ≤ a) (h1 : a < 16) : pbin .and (.int .i64 65535) (.int .i64 (2 ^ a.toNat)) = some (.int .i64 (2 ^ a.toNat)) := by
  obtain ⟨n, rfl⟩ : ∃ n : Nat, a = n := ⟨a.toNat, by omega⟩
  have := and_n ⟨n, by omega⟩
  simp only [pbin, if_true, this, Option.map_some, Int.toNat_natCast]
theorem pow_a (a : Int) (h0 : 0 ≤ a) (h1 : a < 16) : ((2 : Int) ^ a.toNat = 0) = False := by
  have := pow_n ⟨a.toNat, by omega⟩
  simpa using this
def loadR (ds : List D) (st : St) (r : D × St) : Prop := ∃ (k : Nat) (a : Int) (v : List Int) (m : D) (lent : Bool), ds = [.ptr k 0, .int .i64 a] ∧ caseV v ∧ st[k]? = some ⟨false, 1, evC 65535 v m, lent⟩ ∧ 0 ≤ a ∧ a < 16 ∧ r = (.int .i64 (at' v a.toNat), st)
def loadX (ds : List D) (st : St) (r : Nat × D × St) : Prop := ∃ (k : Nat) (a : Int), ds = [.ptr k 0, .int .i64 a] ∧ (a < 0 ∨ 16 ≤ a) ∧ r = (96, .agg [.int .i64 1], st)
noncomputable def si_load : List D → St → Option (D × St) := relI loadR
noncomputable def sx_load : List D → St → Option (Nat × D × St) := relX loadX
theorem call_load {st : St} {k : Nat} {a : Int} {v : List Int} {m : D} {lent : Bool} (hv : caseV v) (hk : st[k]? = some ⟨false, 1, evC 65535 v m, lent⟩) (h0 : 0 ≤ a) (h1 : a < 16) : si_load [.ptr k 0, .int .i64 a] st = some (.int .i64 (at' v a.toNat), st) := by
  refine relI_eq ⟨k, a, v, m, lent, rfl, hv, hk, h0, h1, rfl⟩ ?_
  rintro r ⟨k', a', v', m', lent', e1, hv', hk', _, _, rfl⟩
  simp only [List.cons.injEq, D.ptr.injEq, D.int.injEq, true_and, and_true] at e1
  obtain ⟨rfl, rfl⟩ := e1
  rw [hk] at hk'
  simp only [Option.some.injEq, Obj.mk.injEq, true_and] at hk'
  obtain ⟨_, rfl, _⟩ := evC_inj hv.1 hv'.1 hk'.1
  rfl
theorem call_load_none {st : St} {k : Nat} {a : Int} (h : a < 0 ∨ 16 ≤ a) : si_load [.ptr k 0, .int .i64 a] st = none := by
  refine relI_none ?_
  rintro r ⟨k', a', v', m', lent', e1, _, _, h0, h1, _⟩
  simp only [List.cons.injEq, D.ptr.injEq, D.int.injEq, true_and, and_true] at e1
  obtain ⟨rfl, rfl⟩ := e1
  omega
theorem call_loadX {st : St} {k : Nat} {a : Int} (h : a < 0 ∨ 16 ≤ a) : sx_load [.ptr k 0, .int .i64 a] st = some (96, .agg [.int .i64 1], st) := by
  refine relX_eq ⟨k, a, rfl, h, rfl⟩ ?_
  rintro r ⟨k', a', _, _, rfl⟩
  rfl
theorem fill_1 (n : Int) : fillD [.int .i64 0] [(0, 1, .int .i64 n)] = some [.int .i64 n] := (rfl)
set_option maxHeartbeats 4000000 in
set_option maxRecDepth 20000 in
theorem ci_load : IContract Try.prog GG 33 si_load := by
  refine icontract_keep' (T := tb [] []) tr_teval_evaluator_load (tb_ok all_nil all_nil) ?_
  intro ds st r hr
  obtain ⟨k, a, v, m, lent, rfl, hv, hk, h0, h1, rfl⟩ := relI_inv hr
  have b1 := bin_shl1 a h0 h1
  have b2 := bin_and1 a h0 h1
  have b3 := pow_a a h0 h1
  obtain ⟨hl, hvv⟩ := hv
  obtain ⟨n, rfl⟩ : ∃ n : Nat, a = n := ⟨a.toNat, by omega⟩
  rw [Int.toNat_natCast] at *
  have hb := hvv n (by omega)
  have l1 := ldV lent 65535 m hl n (by omega)
  generalize at' v n = z at *
  have e1 : ¬ ((n : Int) < 0) := by omega
  have e2 : ¬ ((16 : Int) ≤ (n : Int)) := by omega
  have e3 : ¬ (z < -9007199254740992) := by omega
  have e4 : ¬ (9007199254740992 < z) := by omega
  unfold F_teval_evaluator_load
  simp (disch := first | omega | decide) only [push_cast, ↓wF_free, ↓reduceIte, Nat.reduceEqDiff, Nat.reduceLT, Nat.reduceLeDiff, Nat.reduceAdd, Nat.reduceSub, Nat.reduceMul, Nat.reduceBEq, Int.reduceLT, Int.reduceLE, Int.reduceToNat, Int.reduceNeg, Int.reducePow, Int.reduceAdd, Int.reduceMul, Int.reduceSub, ↓Int.reduceNatCast', e1, e2, e3, e4, hk, b1, b2, b3, idxA_ptr, l1, nilc_ptr]
set_option maxHeartbeats 4000000 in
set_option maxRecDepth 20000 in
theorem cx_load : XIContract Try.prog GG 33 sx_load := by
  refine xcontract_of (T := tb [] []) tr_teval_evaluator_load (tb_ok all_nil all_nil) ?_
  intro ds st r hr
  obtain ⟨k, a, rfl, h, rfl⟩ := relX_inv hr
  unfold F_teval_evaluator_load
  by_cases h0 : a < 0
  · simp (disch := first | omega | decide) only [push_cast, ↓wF_free, ↓reduceIte, Nat.reduceEqDiff, Nat.reduceLT, Nat.reduceLeDiff, Nat.reduceAdd, Nat.reduceSub, Nat.reduceMul, Nat.reduceBEq, Int.reduceLT, Int.reduceLE, Int.reduceToNat, Int.reduceNeg, Int.reducePow, Int.reduceAdd, Int.reduceMul, Int.reduceSub, ↓Int.reduceNatCast', h0, fill_1]
  · have h1 : 16 ≤ a := by omega
    simp (disch := first | omega | decide) only [push_cast, ↓wF_free, ↓reduceIte, Nat.reduceEqDiff, Nat.reduceLT, Nat.reduceLeDiff, Nat.reduceAdd, Nat.reduceSub, Nat.reduceMul, Nat.reduceBEq, Int.reduceLT, Int.reduceLE, Int.reduceToNat, Int.reduceNeg, Int.reducePow, Int.reduceAdd, Int.reduceMul, Int.reduceSub, ↓Int.reduceNatCast', h0, h1, fill_1]
def ph_caught : PH := ⟨96, [5, 7, 8, 9], 10, [{ dst := some 3, op := .box (.c (.agg [.int .i64 0])) }, { dst := none, op := .stor 1 (.s 3) (.s 10) }, { dst := some 11, op := .mov (.s 0) }, { dst := some 12, op := .fld 0 (.s 3) }, { dst := some 13, op := .load 1 false (.s 12) }, { dst := some 14, op := .nilc (.s 11) }, { dst := none, op := .stor 1 (.s 14) (.s 13) }]⟩
theorem c_caught : HContract Try.prog GG 31 (PH.run GG ph_caught) :=
  handlerA (fn := Try.f31) (by kernel_rfl) rfl rfl rfl ⟨rfl, rfl, rfl⟩ ⟨rfl, rfl, rfl⟩ ⟨rfl, rfl⟩ ⟨rfl, rfl, rfl⟩ ⟨rfl, rfl, rfl⟩ ⟨rfl, rfl, rfl⟩ (by decide) (by decide) (by kernel_rfl) (by kernel_rfl) (by kernel_rfl)
theorem run_caught (k : Nat) (st : St) (e n : Int) (hk : st[k]? = some ⟨false, 1, [.int .i64 n], false⟩) : PH.run GG ph_caught 96 (.agg [.int .i64 e]) [.ptr k 0] st = some ((st ++ [(⟨false, 1, [.int .i64 e], false⟩ : Obj)]).set k ⟨false, 1, [.int .i64 e], false⟩) := by
  have hlt : k < st.length := (List.getElem?_eq_some_iff.1 hk).1
  have h1 : (st ++ [(⟨false, 1, [.int .i64 0], false⟩ : Obj)])[st.length]? = some ⟨false, 1, [.int .i64 0], false⟩ := by simp
  have h2 : ((st ++ [(⟨false, 1, [.int .i64 0], false⟩ : Obj)]).set st.length ⟨false, 1, [.int .i64 e], false⟩) = st ++ [⟨false, 1, [.int .i64 e], false⟩] := by simp
  have h3 : (st ++ [(⟨false, 1, [.int .i64 e], false⟩ : Obj)])[st.length]? = some ⟨false, 1, [.int .i64 e], false⟩ := by simp
  have h4 : (st ++ [(⟨false, 1, [.int .i64 e], false⟩ : Obj)])[k]? = some ⟨false, 1, [.int .i64 n], false⟩ := by rw [List.getElem?_append_left hlt]; exact hk
  unfold PH.run
  have hc : 96 = ph_caught.t ∧ intsD (.agg [.int .i64 e]) = true := ⟨rfl, rfl⟩
  rw [if_pos hc]
  simp [ph_caught, execs, PI.exec, PI.wanted, POp.exec, junks, Frame.set, Frame.put, rho, argF, D.cells, D.isCell, pstor, splice, h1, h2, pfld, pload, h3, D.mk, h4, noT]
theorem putOff_clo (f : Nat) (caps ds : List D) (h : f < 5000000) : putOff (.clo f caps) ds = some (f, ds ++ caps) := by simp only [putOff, if_pos h]
def hT : HTbl := fun f => if f = 31 then some (PH.run GG ph_caught) else none
theorem hT_eq : hT 31 = some (PH.run GG ph_caught) := (rfl)
theorem hT_ok : ∀ f h, hT f = some h → HContract Try.prog GG f h := by
  intro f h e
  unfold hT at e
  split at e
  · rename_i hf
    simp only [Option.some.injEq] at e
    subst e; subst hf
    exact c_caught
  · cases e
theorem holds_drop (v : List Int) (l : List Tst) (i : Nat) (h : i < l.length) : holdsF v (l.drop i) = if (l.getD i default).a < 0 ∨ 16 ≤ (l.getD i default).a then (false, 1) else if at' v (l.getD i default).a.toNat < (l.getD i default).lo ∨ (l.getD i default).hi < at' v (l.getD i default).a.toNat then (false, 0) else holdsF v (l.drop (i + 1)) := by
  rw [drop_getD l i h, holdsF]
noncomputable abbrev TBH : Tbl := tbx [] [(32, si_newEv), (33, si_load)] [(33, sx_load)]
noncomputable def sp_pholds : List D → Option D := spOf (α := Cls × (Int × List Int)) (fun a => [clsD a.1, envD (Prod.fst a.2) (Prod.snd a.2)]) (fun a => a.2.1 = 65535 ∧ caseV a.2.2 ∧ a.1.wh.length ≤ 9223372036854775807) (fun a => .tup [.bool (holdsF a.2.2 a.1.wh).1, .int .i64 (holdsF a.2.2 a.1.wh).2])
theorem call_pholds (c : Cls) (v : Int × List Int) (h : v.1 = 65535 ∧ caseV v.2 ∧ c.wh.length ≤ 9223372036854775807) : sp_pholds [clsD c, envD (Prod.fst v) (Prod.snd v)] = some (.tup [.bool (holdsF v.2 c.wh).1, .int .i64 (holdsF v.2 c.wh).2]) :=
  spOf_enc (fun ⟨a0, a1⟩ ⟨b0, b1⟩ h => by simp only [List.cons.injEq, D.slc.injEq, D.int.injEq, D.bool.injEq, D.str.injEq, D.agg.injEq, digs_iff, dig_iff, digC_iff, bytes_iff, byte_iff, words_iff, word_iff, bsl_iff, true_and, and_true, ints_iff, nI_iff, tsts_iff, clss_iff, clsD_iff, tarD_iff, tstD_iff, ptD_iff, Int.ofNat_inj, env_iff] at h; simp [h, Prod.ext_iff]) (c, v) h
set_option maxHeartbeats 4000000 in
set_option maxRecDepth 20000 in
theorem wd_pholds (c : Cls) (v : List Int) (hv : caseV v) (hc : c.wh.length ≤ 9223372036854775807) : wDf GG TBH F_teval_Holds hT [clsD c, envD 65535 v] [] fun h das => retDQ h das F_teval_Holds.res (.tup [.bool (holdsF v c.wh).1, .int .i64 (holdsF v c.wh).2]) := by
  have hl := hv.1
  unfold wDf F_teval_Holds
  simp (disch := first | omega | decide) only [push_cast, ↓wF_free, ↓reduceIte, Nat.reduceEqDiff, Nat.reduceLT, Nat.reduceLeDiff, Nat.reduceAdd, Nat.reduceSub, Nat.reduceMul, Nat.reduceBEq, Int.reduceLT, Int.reduceLE, Int.reduceToNat, Int.reduceNeg, Int.reducePow, Int.reduceAdd, Int.reduceMul, Int.reduceSub, ↓Int.reduceNatCast', putOff_clo, hT_eq, ldE _ _ hl, call_newEv _ _ _ _ _ hl]
  generalize hw : c.wh = l at *
  refine W_while (fun i : Nat => [(4, .bool false), (5, .ptr 2 0), (6, .ptr 4 0), (13, .slc (nz 3 (l.map tstD)) (l.map tstD) false), (14, .int .i64 (l.length : Int)), (15, .int .i64 (i : Int))])
    (fun i => [⟨false, 1, clsC c, false⟩, ⟨false, 1, envC 65535 v, false⟩, ⟨false, 1, [.int .i64 0], false⟩, ⟨false, 1, envC 65535 v, false⟩, ⟨false, 1, evC 65535 v (.mapv 5), false⟩, ⟨false, 2, evN 4 9, false⟩])
    (fun i => i ≤ l.length ∧ holdsF v l = holdsF v (l.drop i)) (fun i => l.length - i) 0 (by simp (disch := first | omega | decide) only [push_cast, ↓wF_free, ↓reduceIte, Nat.reduceEqDiff, Nat.reduceLT, Nat.reduceLeDiff, Nat.reduceAdd, Nat.reduceSub, Nat.reduceMul, Nat.reduceBEq, Int.reduceLT, Int.reduceLE, Int.reduceToNat, Int.reduceNeg, Int.reducePow, Int.reduceAdd, Int.reduceMul, Int.reduceSub, ↓Int.reduceNatCast'] <;> rfl) ⟨Nat.zero_le _, rfl⟩ ?_
  rintro i ⟨hi, hh⟩
  unfold F_teval_Holds_L0
  simp (disch := first | omega | decide) only [push_cast, ↓wF_free, ↓reduceIte, Nat.reduceEqDiff, Nat.reduceLT, Nat.reduceLeDiff, Nat.reduceAdd, Nat.reduceSub, Nat.reduceMul, Nat.reduceBEq, Int.reduceLT, Int.reduceLE, Int.reduceToNat, Int.reduceNeg, Int.reducePow, Int.reduceAdd, Int.reduceMul, Int.reduceSub, ↓Int.reduceNatCast']
  refine ifD_split (fun h2 => ?_) (fun h2 => ?_)
  · have hlt : i < l.length := by omega
    rw [holds_drop v l i hlt] at hh
    simp (disch := first | omega | decide) only [push_cast, ↓wF_free, ↓reduceIte, Nat.reduceEqDiff, Nat.reduceLT, Nat.reduceLeDiff, Nat.reduceAdd, Nat.reduceSub, Nat.reduceMul, Nat.reduceBEq, Int.reduceLT, Int.reduceLE, Int.reduceToNat, Int.reduceNeg, Int.reducePow, Int.reduceAdd, Int.reduceMul, Int.reduceSub, ↓Int.reduceNatCast', idxS_nz]
    generalize l.getD i default = t at *
    by_cases ha : t.a < 0 ∨ 16 ≤ t.a
    · rw [if_pos ha] at hh
      have c1 := fun o => call_load_none (st := [⟨false, 1, clsC c, false⟩, ⟨false, 1, envC 65535 v, false⟩, ⟨false, 1, [.int .i64 0], false⟩, ⟨false, 1, envC 65535 v, false⟩, ⟨false, 1, evC 65535 v (.mapv 5), false⟩, ⟨false, 2, evN 4 9, false⟩, o]) (k := 4) ha
      have c2 := fun o => call_loadX (st := [⟨false, 1, clsC c, false⟩, ⟨false, 1, envC 65535 v, false⟩, ⟨false, 1, [.int .i64 0], false⟩, ⟨false, 1, envC 65535 v, false⟩, ⟨false, 1, evC 65535 v (.mapv 5), false⟩, ⟨false, 2, evN 4 9, false⟩, o]) (k := 4) ha
      have c3 := fun o => run_caught 2 [⟨false, 1, clsC c, false⟩, ⟨false, 1, envC 65535 v, false⟩, ⟨false, 1, [.int .i64 0], false⟩, ⟨false, 1, envC 65535 v, false⟩, ⟨false, 1, evC 65535 v (.mapv 5), false⟩, ⟨false, 2, evN 4 9, false⟩, o] 1 0 rfl
      simp (disch := first | omega | decide) only [push_cast, ↓wF_free, ↓reduceIte, Nat.reduceEqDiff, Nat.reduceLT, Nat.reduceLeDiff, Nat.reduceAdd, Nat.reduceSub, Nat.reduceMul, Nat.reduceBEq, Int.reduceLT, Int.reduceLE, Int.reduceToNat, Int.reduceNeg, Int.reducePow, Int.reduceAdd, Int.reduceMul, Int.reduceSub, ↓Int.reduceNatCast', st_tst0, ld_tst, c1, c2, c3, hh]
    · rw [if_neg ha] at hh
      have c1 := fun o => call_load (st := [⟨false, 1, clsC c, false⟩, ⟨false, 1, envC 65535 v, false⟩, ⟨false, 1, [.int .i64 0], false⟩, ⟨false, 1, envC 65535 v, false⟩, ⟨false, 1, evC 65535 v (.mapv 5), false⟩, ⟨false, 2, evN 4 9, false⟩, o]) (k := 4) (a := t.a) hv rfl (by omega) (by omega)
      simp (disch := first | omega | decide) only [push_cast, ↓wF_free, ↓reduceIte, Nat.reduceEqDiff, Nat.reduceLT, Nat.reduceLeDiff, Nat.reduceAdd, Nat.reduceSub, Nat.reduceMul, Nat.reduceBEq, Int.reduceLT, Int.reduceLE, Int.reduceToNat, Int.reduceNeg, Int.reducePow, Int.reduceAdd, Int.reduceMul, Int.reduceSub, ↓Int.reduceNatCast', st_tst0, c1]
      generalize at' v t.a.toNat = z at *
      by_cases h5 : z < t.lo
      · rw [if_pos (.inl h5)] at hh
        simp (disch := first | omega | decide) only [push_cast, ↓wF_free, ↓reduceIte, Nat.reduceEqDiff, Nat.reduceLT, Nat.reduceLeDiff, Nat.reduceAdd, Nat.reduceSub, Nat.reduceMul, Nat.reduceBEq, Int.reduceLT, Int.reduceLE, Int.reduceToNat, Int.reduceNeg, Int.reducePow, Int.reduceAdd, Int.reduceMul, Int.reduceSub, ↓Int.reduceNatCast', h5, hh]
      · by_cases h6 : t.hi < z
        · rw [if_pos (.inr h6)] at hh
          simp (disch := first | omega | decide) only [push_cast, ↓wF_free, ↓reduceIte, Nat.reduceEqDiff, Nat.reduceLT, Nat.reduceLeDiff, Nat.reduceAdd, Nat.reduceSub, Nat.reduceMul, Nat.reduceBEq, Int.reduceLT, Int.reduceLE, Int.reduceToNat, Int.reduceNeg, Int.reducePow, Int.reduceAdd, Int.reduceMul, Int.reduceSub, ↓Int.reduceNatCast', h5, h6, hh]
        · rw [if_neg (by omega)] at hh
          simp (disch := first | omega | decide) only [push_cast, ↓wF_free, ↓reduceIte, Nat.reduceEqDiff, Nat.reduceLT, Nat.reduceLeDiff, Nat.reduceAdd, Nat.reduceSub, Nat.reduceMul, Nat.reduceBEq, Int.reduceLT, Int.reduceLE, Int.reduceToNat, Int.reduceNeg, Int.reducePow, Int.reduceAdd, Int.reduceMul, Int.reduceSub, ↓Int.reduceNatCast', h5, h6, add_i]
          refine next_head (i + 1) (by exact ⟨by omega, hh⟩) (by omega) ?_
          simp (disch := first | omega | decide) only [push_cast, ↓wF_free, ↓reduceIte, Nat.reduceEqDiff, Nat.reduceLT, Nat.reduceLeDiff, Nat.reduceAdd, Nat.reduceSub, Nat.reduceMul, Nat.reduceBEq, Int.reduceLT, Int.reduceLE, Int.reduceToNat, Int.reduceNeg, Int.reducePow, Int.reduceAdd, Int.reduceMul, Int.reduceSub, ↓Int.reduceNatCast'] <;> rfl
  · obtain rfl : i = l.length := by omega
    rw [List.drop_length] at hh
    simp (disch := first | omega | decide) only [push_cast, ↓wF_free, ↓reduceIte, Nat.reduceEqDiff, Nat.reduceLT, Nat.reduceLeDiff, Nat.reduceAdd, Nat.reduceSub, Nat.reduceMul, Nat.reduceBEq, Int.reduceLT, Int.reduceLE, Int.reduceToNat, Int.reduceNeg, Int.reducePow, Int.reduceAdd, Int.reduceMul, Int.reduceSub, ↓Int.reduceNatCast', hh, holdsF]
theorem c_pholds : Contract Try.prog GG 12 sp_pholds :=
  dcontract_of tr_teval_Holds (tbx_ok all_nil (all_cons ci_newEv (all_cons ci_load all_nil)) (all_cons cx_load all_nil)) hT_ok (fun a h => by
    obtain ⟨c, ⟨n, v⟩⟩ := a
    obtain ⟨h1, h2, h3⟩ := h
    dsimp only at h1 h2 h3
    subst h1
    exact wd_pholds c v h2 h3)
end Go.Proofs.Ytgppecaeegaooaa.PI
