/-
  tbox: the encodings of tests, clauses, boxes and cases; the program's and the reference's operations on boxes.
  Conditions: none; these are lemmas.
-/
import Derived.Test.YtgppecaeegaooaaTbQ
namespace Go.Proofs.Ytgppecaeegaooaa.PI
open Go
set_option linter.unusedSimpArgs false
set_option linter.unusedVariables false
def nI (n : Int) : D := .int .i64 n
theorem nI_inj {a b : Int} (h : nI a = nI b) : a = b := by simpa [nI] using h
theorem nI_iff {a b : Int} : nI a = nI b ↔ a = b := ⟨nI_inj, fun h => by rw [h]⟩
theorem ints_iff {a b : List Int} : a.map nI = b.map nI ↔ a = b := ⟨map_inj fun _ _ => nI_inj, fun h => by rw [h]⟩
theorem ints_solid (l : List Int) : (l.map nI).all solid1 = true := map_solid nI (fun _ => rfl) l
theorem ints_cell (l : List Int) : (l.map nI).all D.isCell = true := map_cells nI (fun _ => rfl) l
def ptD (p : List Int) : D := .agg (p.map nI)
theorem ptD_iff {a b : List Int} : ptD a = ptD b ↔ a = b := by simp only [ptD, D.agg.injEq, ints_iff]
def bxL (b : Bx) : List Int := b.lo ++ b.hi
def bxC (b : Bx) : List D := (bxL b).map nI
def bxD (b : Bx) : D := .agg (bxC b)
theorem bxL_length {b : Bx} (h : b.ok) : (bxL b).length = 32 := by simp [bxL, h.1, h.2]
theorem bxC_length {b : Bx} (h : b.ok) : (bxC b).length = 32 := by simp [bxC, bxL_length h]
theorem bxD_inj {a b : Bx} (ha : a.ok) (hb : b.ok) (h : bxD a = bxD b) : a = b := by
  simp only [bxD, bxC, D.agg.injEq, ints_iff, bxL] at h
  obtain ⟨h1, h2⟩ := List.append_inj h (ha.1.trans hb.1.symm)
  obtain ⟨al, ah⟩ := a
  obtain ⟨bl, bh⟩ := b
  simp only at h1 h2
  rw [h1, h2]
theorem bxD_cond {a b : Bx} (ha : a.ok) (hb : b.ok) : bxD a = bxD b ↔ a = b := ⟨bxD_inj ha hb, fun h => by rw [h]⟩
def okL (l : List Bx) : Prop := ∀ b ∈ l, b.ok
theorem boxs_cond {a b : List Bx} (ha : okL a) (hb : okL b) : a.map bxD = b.map bxD ↔ a = b := by
  refine ⟨fun h => ?_, fun h => by rw [h]⟩
  induction a generalizing b with
  | nil => cases b with
    | nil => rfl
    | cons y b => cases h
  | cons x a ih => cases b with
    | nil => cases h
    | cons y b =>
      simp only [List.map_cons, List.cons.injEq] at h
      rw [bxD_inj (ha x (by simp)) (hb y (by simp)) h.1, ih (fun z hz => ha z (by simp [hz])) (fun z hz => hb z (by simp [hz])) h.2]
theorem spOf_encP {α : Type} {enc : α → List D} {pre : α → Prop} {f : α → D} (hinj : ∀ a b, pre a → pre b → enc a = enc b → a = b) (a : α) (hp : pre a) : spOf enc pre f (enc a) = some (f a) := by
  have hx : ∃ b, enc b = enc a ∧ pre b := ⟨a, rfl, hp⟩
  unfold spOf
  rw [dif_pos hx]
  rw [hinj _ _ hx.choose_spec.2 hp hx.choose_spec.1]
def tstD (t : Tst) : D := .agg [.int .i64 t.a, .int .i64 t.lo, .int .i64 t.hi]
theorem tstD_iff {a b : Tst} : tstD a = tstD b ↔ a = b := by
  obtain ⟨a1, a2, a3⟩ := a
  obtain ⟨b1, b2, b3⟩ := b
  simp [tstD]
theorem tstD_inj {a b : Tst} (h : tstD a = tstD b) : a = b := tstD_iff.1 h
theorem tsts_iff {a b : List Tst} : a.map tstD = b.map tstD ↔ a = b := ⟨map_inj fun _ _ => tstD_inj, fun h => by rw [h]⟩
structure Cls where
  nm : List UInt8
  wh : List Tst
  op : Int
  n : Int
  u0 : Int
  u1 : Int
  u2 : Int
  u3 : Int
  l : List D
instance : Inhabited Cls := ⟨⟨[], [], 0, 0, 0, 0, 0, 0, []⟩⟩
def clsC (c : Cls) : List D := [.str c.nm, .slc (nz 3 (c.wh.map tstD)) (c.wh.map tstD) false, .int .i64 c.op, .int .i64 c.n, .int .i64 c.u0, .int .i64 c.u1, .int .i64 c.u2, .int .i64 c.u3, .slc (nz 7 c.l) c.l false]
def clsD (c : Cls) : D := .agg (clsC c)
theorem clsD_iff {a b : Cls} : clsD a = clsD b ↔ a = b := by
  obtain ⟨a1, a2, a3, a4, a5, a6, a7, a8, a9⟩ := a
  obtain ⟨b1, b2, b3, b4, b5, b6, b7, b8, b9⟩ := b
  simp only [clsD, clsC, D.agg.injEq, List.cons.injEq, D.str.injEq, D.slc.injEq, D.int.injEq, tsts_iff, Cls.mk.injEq, and_true, true_and]
  constructor
  · rintro ⟨rfl, ⟨_, rfl⟩, rfl, rfl, rfl, rfl, rfl, rfl, _, rfl⟩
    exact ⟨rfl, rfl, rfl, rfl, rfl, rfl, rfl, rfl, rfl⟩
  · rintro ⟨rfl, rfl, rfl, rfl, rfl, rfl, rfl, rfl, rfl⟩
    exact ⟨rfl, ⟨rfl, rfl⟩, rfl, rfl, rfl, rfl, rfl, rfl, rfl, rfl⟩
theorem clss_iff {a b : List Cls} : a.map clsD = b.map clsD ↔ a = b := ⟨map_inj fun _ _ => clsD_iff.1, fun h => by rw [h]⟩
theorem clsC_solid (c : Cls) : (clsC c).all solid1 = true := by
  simp [clsC, solid1, nz_nz]
theorem clsC_cell (c : Cls) : (clsC c).all D.isCell = true := by simp [clsC, D.isCell]
structure Tar where
  nm : List UInt8
  for_ : Int
  cl : List Cls
def tarC (t : Tar) : List D := [.str t.nm, .int .i64 t.for_, .slc (nz 9 (t.cl.map clsD)) (t.cl.map clsD) false]
def tarD (t : Tar) : D := .agg (tarC t)
theorem tarD_iff {a b : Tar} : tarD a = tarD b ↔ a = b := by
  obtain ⟨a1, a2, a3⟩ := a
  obtain ⟨b1, b2, b3⟩ := b
  simp only [tarD, tarC, D.agg.injEq, List.cons.injEq, D.str.injEq, D.slc.injEq, D.int.injEq, clss_iff, Tar.mk.injEq, and_true, true_and]
  constructor
  · rintro ⟨rfl, rfl, _, rfl⟩; exact ⟨rfl, rfl, rfl⟩
  · rintro ⟨rfl, rfl, rfl⟩; exact ⟨rfl, rfl, rfl, rfl⟩
theorem tarC_solid (t : Tar) : (tarC t).all solid1 = true := by simp [tarC, solid1, nz_nz]
theorem tarC_cell (t : Tar) : (tarC t).all D.isCell = true := by simp [tarC, D.isCell]
theorem bxC_solid (b : Bx) : (bxC b).all solid1 = true := ints_solid _
theorem bxC_cell (b : Bx) : (bxC b).all D.isCell = true := ints_cell _
theorem zero_bx : D.agg [.int .i64 0, .int .i64 0, .int .i64 0, .int .i64 0, .int .i64 0, .int .i64 0, .int .i64 0, .int .i64 0, .int .i64 0, .int .i64 0, .int .i64 0, .int .i64 0, .int .i64 0, .int .i64 0, .int .i64 0, .int .i64 0, .int .i64 0, .int .i64 0, .int .i64 0, .int .i64 0, .int .i64 0, .int .i64 0, .int .i64 0, .int .i64 0, .int .i64 0, .int .i64 0, .int .i64 0, .int .i64 0, .int .i64 0, .int .i64 0, .int .i64 0, .int .i64 0] = bxD zBx := (rfl)
def z16 : List Int := List.replicate 16 0
theorem zero_pt : D.agg [.int .i64 0, .int .i64 0, .int .i64 0, .int .i64 0, .int .i64 0, .int .i64 0, .int .i64 0, .int .i64 0, .int .i64 0, .int .i64 0, .int .i64 0, .int .i64 0, .int .i64 0, .int .i64 0, .int .i64 0, .int .i64 0] = ptD z16 := (rfl)
def envC (h : Int) (v : List Int) : List D := (h :: v).map nI
def envD (h : Int) (v : List Int) : D := .agg (envC h v)
theorem zero_env : D.agg [.int .i64 0, .int .i64 0, .int .i64 0, .int .i64 0, .int .i64 0, .int .i64 0, .int .i64 0, .int .i64 0, .int .i64 0, .int .i64 0, .int .i64 0, .int .i64 0, .int .i64 0, .int .i64 0, .int .i64 0, .int .i64 0, .int .i64 0] = envD 0 z16 := (rfl)
theorem z16_length : z16.length = 16 := rfl
section
variable (st : St) (n : Nat) (σ : List Nat)
theorem box_bx (b : Bx) : boxD (bxD b) = some (bxC b) := by
  simp only [boxD, bxD, D.cells, bxC_cell, if_true]
theorem imm_bx (b : Bx) : imm st (bxD b) = some (bxD b) := solid_imm st (bxC_solid b)
theorem keys_bx (b : Bx) : keys (bxD b) = [] := solid_keys (bxC_solid b)
theorem hk_bx (b : Bx) : hk (bxD b) = [] := solid_hk (bxC_solid b)
theorem ren_bx (b : Bx) : ren n σ (bxD b) = bxD b := solid_ren n σ (bxC_solid b)
theorem hkB_bx (b : Bx) : (bxC b).flatMap hk = [] := hkB_solid (bxC_solid b)
theorem renB_bx (b : Bx) : (bxC b).map (ren n σ) = bxC b := renB_solid n σ (bxC_solid b)
theorem box_pt (b : List Int) : boxD (ptD b) = some (b.map nI) := by
  simp only [boxD, ptD, D.cells, ints_cell, if_true]
theorem imm_pt (b : List Int) : imm st (ptD b) = some (ptD b) := solid_imm st (ints_solid b)
theorem keys_pt (b : List Int) : keys (ptD b) = [] := solid_keys (ints_solid b)
theorem hk_pt (b : List Int) : hk (ptD b) = [] := solid_hk (ints_solid b)
theorem ren_pt (b : List Int) : ren n σ (ptD b) = ptD b := solid_ren n σ (ints_solid b)
theorem hkB_pt (b : List Int) : (b.map nI).flatMap hk = [] := hkB_solid (ints_solid b)
theorem renB_pt (b : List Int) : (b.map nI).map (ren n σ) = b.map nI := renB_solid n σ (ints_solid b)
theorem box_env (h : Int) (v : List Int) : boxD (envD h v) = some (envC h v) := box_pt _
theorem imm_env (h : Int) (v : List Int) : imm st (envD h v) = some (envD h v) := imm_pt st _
theorem keys_env (h : Int) (v : List Int) : keys (envD h v) = [] := keys_pt _
theorem hk_env (h : Int) (v : List Int) : hk (envD h v) = [] := hk_pt _
theorem ren_env (h : Int) (v : List Int) : ren n σ (envD h v) = envD h v := ren_pt n σ _
theorem hkB_env (h : Int) (v : List Int) : (envC h v).flatMap hk = [] := hkB_pt _
theorem renB_env (h : Int) (v : List Int) : (envC h v).map (ren n σ) = envC h v := renB_pt n σ _
theorem box_cls (c : Cls) : boxD (clsD c) = some (clsC c) := by simp only [boxD, clsD, D.cells, clsC_cell, if_true]
theorem imm_cls (c : Cls) : imm st (clsD c) = some (clsD c) := solid_imm st (clsC_solid c)
theorem keys_cls (c : Cls) : keys (clsD c) = [] := solid_keys (clsC_solid c)
theorem hk_cls (c : Cls) : hk (clsD c) = [] := solid_hk (clsC_solid c)
theorem ren_cls (c : Cls) : ren n σ (clsD c) = clsD c := solid_ren n σ (clsC_solid c)
theorem hkB_cls (c : Cls) : (clsC c).flatMap hk = [] := hkB_solid (clsC_solid c)
theorem renB_cls (c : Cls) : (clsC c).map (ren n σ) = clsC c := renB_solid n σ (clsC_solid c)
theorem box_tar (c : Tar) : boxD (tarD c) = some (tarC c) := by simp only [boxD, tarD, D.cells, tarC_cell, if_true]
theorem imm_tar (c : Tar) : imm st (tarD c) = some (tarD c) := solid_imm st (tarC_solid c)
theorem keys_tar (c : Tar) : keys (tarD c) = [] := solid_keys (tarC_solid c)
theorem hk_tar (c : Tar) : hk (tarD c) = [] := solid_hk (tarC_solid c)
theorem ren_tar (c : Tar) : ren n σ (tarD c) = tarD c := solid_ren n σ (tarC_solid c)
theorem hkB_tar (c : Tar) : (tarC c).flatMap hk = [] := hkB_solid (tarC_solid c)
theorem renB_tar (c : Tar) : (tarC c).map (ren n σ) = tarC c := renB_solid n σ (tarC_solid c)
theorem imm_tst (t : Tst) : imm st (tstD t) = some (tstD t) := solid_imm st rfl
theorem keys_tst (t : Tst) : keys (tstD t) = [] := (rfl)
theorem hk_tst (t : Tst) : hk (tstD t) = [] := (rfl)
theorem ren_tst (t : Tst) : ren n σ (tstD t) = tstD t := (rfl)
theorem box_tst (t : Tst) : boxD (tstD t) = some [.int .i64 t.a, .int .i64 t.lo, .int .i64 t.hi] := (rfl)
end
section
variable (sz : Nat) (lent : Bool)
theorem at_low (b : Bx) (i : Nat) (h : i < b.lo.length) : (bxL b).getD i default = at' b.lo i := by
  simp only [bxL, at', List.getD_eq_getElem?_getD, List.getElem?_append_left h]
theorem at_high {b : Bx} (hb : b.ok) (i : Nat) : (bxL b).getD (16 + i) default = at' b.hi i := by
  have := hb.1
  simp only [bxL, at', List.getD_eq_getElem?_getD]
  rw [List.getElem?_append_right (by omega)]
  congr 2
  omega
theorem ldB_lo {b : Bx} (hb : b.ok) (i : Nat) (h : i < 16) : ldO (some ⟨false, sz, bxC b, lent⟩) 1 false i = some (.int .i64 (at' b.lo i)) := by
  have := ldO_map sz lent nI (bxL b) i (by rw [bxL_length hb]; omega)
  rw [at_low b i (by rw [hb.1]; exact h)] at this
  exact this
theorem ldB_hi {b : Bx} (hb : b.ok) (i : Nat) (h : i < 16) : ldO (some ⟨false, sz, bxC b, lent⟩) 1 false (16 + i) = some (.int .i64 (at' b.hi i)) := by
  have := ldO_map sz lent nI (bxL b) (16 + i) (by rw [bxL_length hb]; omega)
  rw [at_high hb i] at this
  exact this
theorem stB_lo {b : Bx} (hb : b.ok) (i : Nat) (v : Int) (h : i < 16) : stO (some ⟨false, sz, bxC b, false⟩) 1 i (.int .i64 v) = some ⟨false, sz, bxC ⟨b.lo.set i v, b.hi⟩, false⟩ := by
  have := stO_set sz nI (fun _ => rfl) (bxL b) i v (by rw [bxL_length hb]; omega)
  rw [show (bxL b).set i v = bxL ⟨b.lo.set i v, b.hi⟩ by simp only [bxL]; rw [List.set_append, if_pos (by rw [hb.1]; exact h)]] at this
  exact this
theorem stB_hi {b : Bx} (hb : b.ok) (i : Nat) (v : Int) (h : i < 16) : stO (some ⟨false, sz, bxC b, false⟩) 1 (16 + i) (.int .i64 v) = some ⟨false, sz, bxC ⟨b.lo, b.hi.set i v⟩, false⟩ := by
  have := stO_set sz nI (fun _ => rfl) (bxL b) (16 + i) v (by rw [bxL_length hb]; omega)
  have h1 := hb.1
  rw [show (bxL b).set (16 + i) v = bxL ⟨b.lo, b.hi.set i v⟩ by simp only [bxL]; rw [List.set_append, if_neg (by omega), h1]; congr 2; omega] at this
  exact this
theorem ldB {b : Bx} (hb : b.ok) : ldO (some ⟨false, sz, bxC b, lent⟩) 32 true 0 = some (bxD b) := ldO_all sz lent _ 32 (bxC_length hb)
theorem stB {b c : Bx} (hb : b.ok) (hc : c.ok) : stO (some ⟨false, sz, bxC b, false⟩) 32 0 (bxD c) = some ⟨false, sz, bxC c, false⟩ := stO_all sz _ _ 32 (bxC_length hb) (bxC_length hc) (bxC_cell c)
theorem ldB_l {b : Bx} (hb : b.ok) : ldO (some ⟨false, sz, bxC b, lent⟩) 16 true 0 = some (ptD b.lo) := by
  simp [ldO, bxC, bxL, hb.1, hb.2, D.mk, ptD]
theorem ldB_h {b : Bx} (hb : b.ok) : ldO (some ⟨false, sz, bxC b, lent⟩) 16 true 16 = some (ptD b.hi) := by
  have h1 := hb.1
  have h2 := hb.2
  have e : ((bxC b).drop 16).take 16 = b.hi.map nI := by
    simp only [bxC, bxL, List.map_append]
    rw [List.drop_append_of_le_length (by simp [h1]), List.drop_of_length_le (by simp [h1]), List.nil_append, List.take_of_length_le (by simp [h2])]
  simp only [ldO, Option.bind_some, e, Bool.not_true, Bool.false_and, Bool.false_eq_true, if_false, Bool.not_false, Bool.true_and]
  rw [if_pos (by simp [bxC_length hb])]
  rfl
theorem ldP {p : List Int} (hp : p.length = 16) : ldO (some ⟨false, sz, p.map nI, lent⟩) 16 true 0 = some (ptD p) := ldO_all sz lent _ 16 (by simp [hp])
theorem stP {p q : List Int} (hp : p.length = 16) (hq : q.length = 16) : stO (some ⟨false, sz, p.map nI, false⟩) 16 0 (ptD q) = some ⟨false, sz, q.map nI, false⟩ := stO_all sz _ _ 16 (by simp [hp]) (by simp [hq]) (ints_cell q)
theorem ldE {h : Int} {p : List Int} (hp : p.length = 16) : ldO (some ⟨false, sz, envC h p, lent⟩) 17 true 0 = some (envD h p) := ldO_all sz lent _ 17 (by simp [envC, hp])
theorem stE {h k : Int} {p q : List Int} (hp : p.length = 16) (hq : q.length = 16) : stO (some ⟨false, sz, envC h p, false⟩) 17 0 (envD k q) = some ⟨false, sz, envC k q, false⟩ := stO_all sz _ _ 17 (by simp [envC, hp]) (by simp [envC, hq]) (ints_cell _)
theorem ldC (c : Cls) : ldO (some ⟨false, sz, clsC c, lent⟩) 9 true 0 = some (clsD c) := ldO_all sz lent _ 9 rfl
theorem ldC_w (c : Cls) : ldO (some ⟨false, sz, clsC c, lent⟩) 1 false 1 = some (.slc (nz 3 (c.wh.map tstD)) (c.wh.map tstD) false) := (rfl)
theorem stC (c d : Cls) : stO (some ⟨false, sz, clsC c, false⟩) 9 0 (clsD d) = some ⟨false, sz, clsC d, false⟩ := stO_all sz _ _ 9 rfl rfl (clsC_cell d)
theorem ldT_c (t : Tar) : ldO (some ⟨false, sz, tarC t, lent⟩) 1 false 2 = some (.slc (nz 9 (t.cl.map clsD)) (t.cl.map clsD) false) := (rfl)
theorem ldT (t : Tar) : ldO (some ⟨false, sz, tarC t, lent⟩) 3 true 0 = some (tarD t) := ldO_all sz lent _ 3 rfl
end
theorem pld_tst (st : St) (t : Tst) : pload st 3 true (.eptr (tstD t) 0) = some (tstD t) := (rfl)
theorem pld_tst0 (st : St) (t : Tst) : pload st 1 false (.eptr (tstD t) 0) = some (.int .i64 t.a) := (rfl)
theorem pld_tst1 (st : St) (t : Tst) : pload st 1 false (.eptr (tstD t) 1) = some (.int .i64 t.lo) := (rfl)
theorem pld_tst2 (st : St) (t : Tst) : pload st 1 false (.eptr (tstD t) 2) = some (.int .i64 t.hi) := (rfl)
theorem pld_cls (st : St) (c : Cls) : pload st 9 true (.eptr (clsD c) 0) = some (clsD c) := (rfl)
theorem pld_clsw (st : St) (c : Cls) : pload st 1 false (.eptr (clsD c) 1) = some (.slc (nz 3 (c.wh.map tstD)) (c.wh.map tstD) false) := (rfl)
theorem ld_tst (sz : Nat) (lent : Bool) (a b c : D) : ldO (some ⟨false, sz, [a, b, c], lent⟩) 3 true 0 = some (.agg [a, b, c]) := (rfl)
theorem st_tst (sz : Nat) (x y z : D) (t : Tst) : stO (some ⟨false, sz, [x, y, z], false⟩) 3 0 (tstD t) = some ⟨false, sz, [.int .i64 t.a, .int .i64 t.lo, .int .i64 t.hi], false⟩ := stO_all sz _ _ 3 rfl rfl rfl
theorem tst_eq (t : Tst) : D.agg [.int .i64 t.a, .int .i64 t.lo, .int .i64 t.hi] = tstD t := (rfl)
theorem box_3 (a b c : Int) : boxD (.agg [.int .i64 a, .int .i64 b, .int .i64 c]) = some [.int .i64 a, .int .i64 b, .int .i64 c] := (rfl)
theorem fill_bx : fillD [D.int .i64 0, .int .i64 0, .int .i64 0, .int .i64 0, .int .i64 0, .int .i64 0, .int .i64 0, .int .i64 0, .int .i64 0, .int .i64 0, .int .i64 0, .int .i64 0, .int .i64 0, .int .i64 0, .int .i64 0, .int .i64 0, .int .i64 0, .int .i64 0, .int .i64 0, .int .i64 0, .int .i64 0, .int .i64 0, .int .i64 0, .int .i64 0, .int .i64 0, .int .i64 0, .int .i64 0, .int .i64 0, .int .i64 0, .int .i64 0, .int .i64 0, .int .i64 0] [] = some (bxC zBx) := (rfl)
theorem bxD_eq (b : Bx) : D.agg (bxC b) = bxD b := (rfl)
theorem ptD_eq (p : List Int) : D.agg (p.map nI) = ptD p := (rfl)
theorem envD_eq (h : Int) (p : List Int) : D.agg (envC h p) = envD h p := (rfl)
theorem fill_env (h : Int) {p : List Int} (hp : p.length = 16) : fillD [D.int .i64 0, .int .i64 0, .int .i64 0, .int .i64 0, .int .i64 0, .int .i64 0, .int .i64 0, .int .i64 0, .int .i64 0, .int .i64 0, .int .i64 0, .int .i64 0, .int .i64 0, .int .i64 0, .int .i64 0, .int .i64 0, .int .i64 0] [(0, 1, .int .i64 h), (1, 16, ptD p)] = some (envC h p) := by
  have e1 : (envC h z16) = [.int .i64 h] ++ (z16.map nI ++ []) := by simp [envC, nI]
  have s1 : fillD [D.int .i64 0, .int .i64 0, .int .i64 0, .int .i64 0, .int .i64 0, .int .i64 0, .int .i64 0, .int .i64 0, .int .i64 0, .int .i64 0, .int .i64 0, .int .i64 0, .int .i64 0, .int .i64 0, .int .i64 0, .int .i64 0, .int .i64 0] [(0, 1, .int .i64 h), (1, 16, ptD p)] = fillD (envC h z16) [(1, 16, ptD p)] := (rfl)
  rw [s1]
  simp only [fillD, ptD, D.cells, ints_cell]
  rw [if_pos (by simp [envC, hp, z16_length])]
  have : splice (envC h z16) 1 (p.map nI) = envC h p := by
    rw [splice]
    simp [envC, hp, z16_length]
  rw [this]
theorem nc_bx (b : Bx) : (bxD b).noRef = true := by
  have : (bxC b).all D.noRef1 = true := by
    unfold bxC
    simp only [List.all_eq_true, List.mem_map]
    rintro x ⟨a, _, rfl⟩
    rfl
  exact this
attribute [push_cast] zero_bx zero_pt zero_env box_bx imm_bx keys_bx hk_bx ren_bx hkB_bx renB_bx box_pt imm_pt keys_pt hk_pt ren_pt hkB_pt renB_pt box_env imm_env keys_env hk_env ren_env hkB_env renB_env box_cls imm_cls keys_cls hk_cls ren_cls hkB_cls renB_cls box_tar imm_tar keys_tar hk_tar ren_tar hkB_tar renB_tar imm_tst keys_tst hk_tst ren_tst box_tst ldC ldC_w stC ldT_c ldT pld_tst pld_tst0 pld_tst1 pld_tst2 pld_cls pld_clsw ld_tst st_tst tst_eq box_3 fill_bx bxD_eq ptD_eq envD_eq nc_bx z16_length
end Go.Proofs.Ytgppecaeegaooaa.PI
