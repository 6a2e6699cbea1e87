/-
  tbox: maps of what failed, sets as bits, copies between arrays; the program's search, carried out.
  Conditions: none; these are lemmas.
-/
import Derived.Test.YtgppecaeegaooaaTbF
namespace Go.Proofs.Ytgppecaeegaooaa.PI
open Go
set_option linter.unusedSimpArgs false
set_option linter.unusedVariables false
def mgO (o : Option Obj) (sz : Nat) (ks : List Nat) (ok : Bool) (zero k : D) : Option D := match o with
  | some o => if o.isMap && o.sz == sz && (keyEq sz ks k k).isSome then match mfind sz ks k o.els 0 with
      | some (some i) => match o.els[i]? with
        | some el => some (if ok then .tup [entV sz el, .bool true] else entV sz el)
        | none => none
      | some none => some (if ok then .tup [zero, .bool false] else zero)
      | none => none
    else none
  | none => none
theorem pmapget_v (st : St) (sz : Nat) (ks : List Nat) (ok : Bool) (zero k : D) (key : Nat) : pmapget st sz ks ok zero (.mapv key) k = mgO st[key]? sz ks ok zero k := (rfl)
def muO (o : Option Obj) (sz : Nat) (ks : List Nat) (k v : D) : Option Obj := match o with
  | some o => if o.isMap && o.sz == sz && !o.lent && v.isCell && k.cells.length + 1 == sz && k.cells.all D.isCell && keyEq sz ks k k == some true then match mfind sz ks k o.els 0 with
      | some (some i) => some { o with els := o.els.set i (.agg (k.cells ++ [v])) }
      | some none => some { o with els := o.els ++ [.agg (k.cells ++ [v])] }
      | none => none
    else none
  | none => none
theorem pmapup_v (st : St) (sz : Nat) (ks : List Nat) (k v : D) (key : Nat) : pmapup st sz ks (.mapv key) k v = (muO st[key]? sz ks k v).map fun o => st.set key o := by
  simp only [pmapup, muO]
  cases st[key]? with
  | none => rfl
  | some o =>
    simp only
    split
    · cases mfind sz ks k o.els 0 with
      | none => rfl
      | some r => cases r <;> rfl
    · rfl
def entD (p : Nat × Nat) : D := .agg [.int .i64 (p.1 : Int), .int .i64 (p.2 : Int), .bool true]
def memD (F : Mem) : List D := F.map entD
def keyD (a s : Nat) : D := .agg [.int .i64 (a : Int), .int .i64 (s : Int)]
theorem mfind_mem (a s : Nat) : ∀ (F : Mem) (i : Nat), (F.contains (a, s) = false ∧ mfind 3 [0, 0] (keyD a s) (memD F) i = some none) ∨ (F.contains (a, s) = true ∧ ∃ j, mfind 3 [0, 0] (keyD a s) (memD F) i = some (some (i + j)) ∧ F[j]? = some (a, s))
  | [], i => .inl ⟨rfl, rfl⟩
  | (b, t) :: F, i => by
    have hk : keyEq 3 [0, 0] (keyD a s) (entK 3 (entD (b, t))) = some ((a : Int) == (b : Int) && ((s : Int) == (t : Int) && true)) := (rfl)
    by_cases h : a = b ∧ s = t
    · obtain ⟨rfl, rfl⟩ := h
      refine .inr ⟨by simp, 0, ?_, rfl⟩
      simp only [memD, List.map_cons, mfind, hk, beq_self_eq_true, Bool.and_self, Nat.add_zero]
    · have hf : ((a : Int) == (b : Int) && ((s : Int) == (t : Int) && true)) = false := by
        rw [Bool.eq_false_iff]
        intro h2
        simp only [Bool.and_eq_true, beq_iff_eq, and_true] at h2
        exact h ⟨by omega, by omega⟩
      have hc : ((b, t) :: F).contains (a, s) = F.contains (a, s) := by
        rw [List.contains_cons]
        have : ((a, s) == (b, t)) = false := by
          rw [Bool.eq_false_iff]
          intro h2
          simp only [beq_iff_eq, Prod.mk.injEq] at h2
          exact h h2
        rw [this, Bool.false_or]
      have e : mfind 3 [0, 0] (keyD a s) (memD ((b, t) :: F)) i = mfind 3 [0, 0] (keyD a s) (memD F) (i + 1) := by
        simp only [memD, List.map_cons, mfind, hk, hf]
      rw [e, hc]
      rcases mfind_mem a s F (i + 1) with ⟨h1, h2⟩ | ⟨h1, j, h2, h3⟩
      · exact .inl ⟨h1, h2⟩
      · exact .inr ⟨h1, j + 1, by rw [h2]; congr 2; omega, h3⟩
theorem key_self (a s : Nat) : keyEq 3 [0, 0] (keyD a s) (keyD a s) = some true := by
  have : keyEq 3 [0, 0] (keyD a s) (keyD a s) = some ((a : Int) == (a : Int) && ((s : Int) == (s : Int) && true)) := (rfl)
  rw [this]; simp
theorem mg_mem (F : Mem) (a s : Nat) (lent : Bool) : mgO (some ⟨false, 3, memD F, lent⟩) 3 [0, 0] false (.bool false) (.agg [.int .i64 (a : Int), .int .i64 (s : Int)]) = some (.bool (F.contains (a, s))) := by
  have h0 : ((⟨false, 3, memD F, lent⟩ : Obj).isMap && (3 : Nat) == 3 && (keyEq 3 [0, 0] (keyD a s) (keyD a s)).isSome) = true := by rw [key_self]; rfl
  show mgO (some ⟨false, 3, memD F, lent⟩) 3 [0, 0] false (.bool false) (keyD a s) = _
  simp only [mgO]
  rw [if_pos h0]
  rcases mfind_mem a s F 0 with ⟨h1, h2⟩ | ⟨h1, j, h2, h3⟩
  · rw [h2, h1]; rfl
  · rw [h2, h1]
    simp only [Nat.zero_add, memD, List.getElem?_map, h3, Option.map_some]
    rfl
theorem mu_mem (F : Mem) (a s : Nat) : muO (some ⟨false, 3, memD F, false⟩) 3 [0, 0] (.agg [.int .i64 (a : Int), .int .i64 (s : Int)]) (.bool true) = some ⟨false, 3, memD (insM F (a, s)), false⟩ := by
  have h0 : ((⟨false, 3, memD F, false⟩ : Obj).isMap && (3 : Nat) == 3 && !false && (D.bool true).isCell && (keyD a s).cells.length + 1 == 3 && (keyD a s).cells.all D.isCell && keyEq 3 [0, 0] (keyD a s) (keyD a s) == some true) = true := by rw [key_self]; rfl
  show muO (some ⟨false, 3, memD F, false⟩) 3 [0, 0] (keyD a s) (.bool true) = _
  simp only [muO]
  rw [if_pos h0]
  rcases mfind_mem a s F 0 with ⟨h1, h2⟩ | ⟨h1, j, h2, h3⟩
  · rw [h2]
    simp only [insM, h1, Bool.false_eq_true, if_false, memD, List.map_append, List.map_cons, List.map_nil]
    rfl
  · rw [h2]
    simp only [insM, h1, if_true, Nat.zero_add]
    congr 2
    have : (memD F)[j]? = some (entD (a, s)) := by simp [memD, h3]
    rw [List.getElem?_eq_some_iff] at this
    obtain ⟨hj, he⟩ := this
    have e2 : D.agg ((keyD a s).cells ++ [.bool true]) = (memD F)[j] := by rw [he]; rfl
    rw [e2, List.set_getElem_self]
theorem bld_key (a s : Int) : fillD [.int .i64 0, .int .i64 0] [(0, 1, .int .i64 a), (1, 1, .int .i64 s)] = some [.int .i64 a, .int .i64 s] := (rfl)
theorem hkB_mem (F : Mem) : (memD F).flatMap hk = [] := by
  unfold memD
  induction F with
  | nil => rfl
  | cons p F ih => rw [List.map_cons, List.flatMap_cons, ih]; rfl
theorem renB_mem (n : Nat) (σ : List Nat) (F : Mem) : (memD F).map (ren n σ) = memD F := by
  unfold memD
  induction F with
  | nil => rfl
  | cons p F ih => rw [List.map_cons, List.map_cons, ih]; rfl
theorem lowB_mem (n : Nat) (F : Mem) : (memD F).map (low n) = memD F := by
  unfold memD
  induction F with
  | nil => rfl
  | cons p F ih => rw [List.map_cons, List.map_cons, ih]; rfl
theorem low_solid1 (n : Nat) {d : D} (h : solid1 d = true) : low n d = d := by
  cases d with
  | clo f l => cases l <;> simp_all [solid1, low, low1]
  | _ => simp_all [solid1, low, low1, low0]
theorem lowB_solid (n : Nat) : ∀ {l : List D}, l.all solid1 = true → l.map (low n) = l
  | [], _ => rfl
  | d :: l, h => by
    simp only [List.all_cons, Bool.and_eq_true] at h
    simp only [List.map_cons, low_solid1 n h.1, lowB_solid n h.2]
theorem lowB_bx (n : Nat) (b : Bx) : (bxC b).map (low n) = bxC b := lowB_solid n (bxC_solid b)
theorem lowB_pt (n : Nat) (p : List Int) : (p.map nI).map (low n) = p.map nI := lowB_solid n (ints_solid p)
theorem lowB_env (n : Nat) (h : Int) (p : List Int) : (envC h p).map (low n) = envC h p := lowB_pt n _
theorem lowB_tar (n : Nat) (t : Tar) : (tarC t).map (low n) = tarC t := lowB_solid n (tarC_solid t)
theorem low_clo (n f : Nat) (l : List D) : low n (.clo f l) = .clo f (l.map (low0 n)) := (rfl)
theorem low0_ptr (n key off : Nat) : low0 n (.ptr key off) = if key < n then .ptr key off else .junk := (rfl)
theorem lowR_bool (n : Nat) (b : Bool) : lowR n (.bool b) = .bool b := (rfl)
theorem nilc_ptr (st : St) (key off : Nat) : nilcD st (.ptr key off) = some (.ptr key off) := (rfl)
theorem box_nilm : boxD .nilm = some [.nilm] := (rfl)
theorem box_nilf : boxD .nilf = some [.nilf] := (rfl)
theorem box_ptr (key off : Nat) : boxD (.ptr key off) = some [.ptr key off] := (rfl)
theorem box_row (key tot off len : Nat) : boxD (.row key tot off len) = some [.row key tot off len] := (rfl)
theorem st_map (sz : Nat) (x : D) (key : Nat) : stO (some ⟨false, sz, [x], false⟩) 1 0 (.mapv key) = some ⟨false, sz, [.mapv key], false⟩ := stO_one sz _ _ _ rfl
theorem st_clo (sz : Nat) (x : D) (f : Nat) (l : List D) : stO (some ⟨false, sz, [x], false⟩) 1 0 (.clo f l) = some ⟨false, sz, [.clo f l], false⟩ := stO_one sz _ _ _ rfl
attribute [push_cast] pmapget_v pmapup_v mg_mem mu_mem bld_key hkB_mem renB_mem lowB_mem lowB_bx lowB_pt lowB_env lowB_tar low_clo low0_ptr lowR_bool nilc_ptr box_nilm box_nilf box_ptr box_row st_map st_clo
def cpO (o o2 : Option Obj) (sz off n off2 : Nat) : Option Obj := match o, o2 with
  | some o, some o2 => if !o.row && !o.lent && !o2.row && decide (off + n * sz ≤ o.els.length) && decide (off2 + n * sz ≤ o2.els.length) && ((o2.els.drop off2).take (n * sz)).all D.isCell then
      some { o with els := splice o.els off ((o2.els.drop off2).take (n * sz)) } else none
  | _, _ => none
theorem pcpy_bsl (st : St) (key off n key2 off2 sz : Nat) (ag ag2 : Bool) (hn : 0 < n) (hs : 0 < sz) : pcpy st sz (.bsl key off n sz ag) (.bsl key2 off2 n sz ag2) = (cpO st[key]? st[key2]? sz off n off2).map fun o => (.int .i64 (n : Nat), st.set key o) := by
  simp only [pcpy, cpO]
  rw [if_neg (by omega), Nat.min_self]
  cases st[key]? with
  | none => rfl
  | some o => cases st[key2]? with
    | none => rfl
    | some o2 =>
      simp only
      split <;> rfl
theorem pcpy_nil (st : St) (sz a b : Nat) (t u : Bool) : pcpy st sz (.slc a [] t) (.slc b [] u) = some (.int .i64 0, st) := (rfl)
theorem cp_pt {p : List Int} {d : Bx} (hp : p.length = 16) (hd : d.ok) (a : Nat) (ha : a < 16) : cpO (some ⟨false, 1, p.map nI, false⟩) (some ⟨false, 1, bxC d, false⟩) 1 a (16 - a) a = some ⟨false, 1, (p.take a ++ d.lo.drop a).map nI, false⟩ := by
  have h1 := hd.1
  have h2 := hd.2
  have e : ((bxC d).drop a).take ((16 - a) * 1) = (d.lo.drop a).map nI := by
    simp only [bxC, bxL, List.map_append, Nat.mul_one]
    rw [List.drop_append_of_le_length (by simp [h1]; omega), List.take_append_of_le_length (by simp [h1]), List.take_of_length_le (by simp [h1]), List.map_drop]
  simp only [cpO, e, ints_cell]
  rw [if_pos (by simp [hp, bxC_length hd]; omega)]
  have : splice (p.map nI) a ((d.lo.drop a).map nI) = (p.take a ++ d.lo.drop a).map nI := by
    have e3 : (p.map nI).drop (a + ((d.lo.drop a).map nI).length) = [] := List.drop_of_length_le (by simp [hp, h1]; omega)
    rw [splice, e3, List.append_nil, List.map_append, List.map_take]
  rw [this]
theorem sliceA_from (key off : Nat) (k : IntKind) (a : Nat) (h : a < 16) : psliceA 16 1 false (.ptr key off) (some (.int k (a : Int))) none = some (.bsl key (off + a * 1) (16 - a) 1 false) := by
  have h1 : ¬ a = 16 := by omega
  have h2 : a ≤ 16 := by omega
  simp [psliceA, bnd, natOf_nat, h1, h2]
theorem sliceA_end (key off : Nat) (k : IntKind) : psliceA 16 1 false (.ptr key off) (some (.int k 16)) none = some (.slc 1 [] false) := by
  have : natOf (.int k 16) = some 16 := rfl
  simp [psliceA, bnd, this]
theorem or_pow {r k : Nat} (h : r < 2 ^ k) (hk : k ≤ 30) : pbin .or (.int .i64 (r : Int)) (.int .i64 ((2 ^ k : Nat) : Int)) = some (.int .i64 ((r + 2 ^ k : Nat) : Int)) := by
  have hp : (2 : Nat) ^ k ≤ 2 ^ 30 := Nat.pow_le_pow_right (by decide) hk
  have h30 : (2 : Nat) ^ 30 = 1073741824 := rfl
  have h1 : (BitVec.ofInt 64 (r : Int) ||| BitVec.ofInt 64 ((2 ^ k : Nat) : Int)).toNat = r + 2 ^ k := by
    rw [BitVec.toNat_or, toNat_ofInt (by omega) (by omega), toNat_ofInt (by omega) (by omega), Int.toNat_natCast, Int.toNat_natCast, Nat.or_comm, Nat.add_comm]
    have := Nat.two_pow_add_eq_or_of_lt h 1
    rw [Nat.mul_one] at this
    exact this.symm
  show some (D.int .i64 (IntKind.wrap .i64 (((BitVec.ofInt 64 (r : Int) ||| BitVec.ofInt 64 ((2 ^ k : Nat) : Int)).toNat : Nat) : Int))) = _
  rw [h1]
  congr 2
  show (if (true && decide (((r + 2 ^ k : Nat) : Int) % (2 ^ 64 : Int) ≥ (2 ^ (64 - 1) : Int))) = true then ((r + 2 ^ k : Nat) : Int) % (2 ^ 64 : Int) - (2 ^ 64 : Int) else ((r + 2 ^ k : Nat) : Int) % (2 ^ 64 : Int)) = _
  simp only [Bool.true_and, decide_eq_true_eq]
  rw [if_neg (by omega)]
  omega
theorem shl_pow {k : Nat} (hk : k ≤ 30) (k' : IntKind) : pbin .shl (.int .i64 1) (.int k' (k : Int)) = some (.int .i64 ((2 ^ k : Nat) : Int)) := by
  rw [shl_one (by omega) (by omega), Int.toNat_natCast]
  simp
theorem shr_nat {s k : Nat} (hk : k ≤ 30) (k' : IntKind) : pbin .shr (.int .i64 (s : Int)) (.int k' (k : Int)) = some (.int .i64 ((s / 2 ^ k : Nat) : Int)) := by
  rw [shr_i (.inl rfl) (by omega) (by omega), Int.toNat_natCast]
  rfl
theorem and_bit {x : Nat} (hx : x < 1073741824) : pbin .and (.int .i64 (x : Int)) (.int .i64 1) = some (.int .i64 ((x % 2 : Nat) : Int)) := by
  rw [and_one (by omega) (by omega)]
  simp
theorem rest_snoc (a : Nat) (n : Int) : ∀ (l : List Bx) (b : Bx) (s : Nat), restS (l ++ [b]) a s n = restS l a s n + (if s / 2 ^ l.length % 2 = 1 ∧ at' b.lo a ≤ n ∧ n ≤ at' b.hi a then 2 ^ l.length else 0)
  | [], b, s => by
    simp only [List.nil_append, restS, List.length_nil, Nat.pow_zero, Nat.div_one, Nat.mul_zero, Nat.add_zero, Nat.zero_add]
  | c :: l, b, s => by
    have ih := rest_snoc a n l b (s / 2)
    have e : s / 2 / 2 ^ l.length = s / 2 ^ (l.length + 1) := by rw [Nat.div_div_eq_div_mul, Nat.pow_succ, Nat.mul_comm]
    rw [e] at ih
    simp only [List.cons_append, restS, ih, List.length_cons]
    by_cases h : s / 2 ^ (l.length + 1) % 2 = 1 ∧ at' b.lo a ≤ n ∧ n ≤ at' b.hi a
    · rw [if_pos h, if_pos h, Nat.pow_succ]; omega
    · rw [if_neg h, if_neg h]; omega
theorem sel_snoc : ∀ (l : List Bx) (b : Bx) (s : Nat), selL (l ++ [b]) s = selL l s ++ (if s / 2 ^ l.length % 2 = 1 then [b] else [])
  | [], b, s => by
    simp only [List.nil_append, selL, List.length_nil, Nat.pow_zero, Nat.div_one]
  | c :: l, b, s => by
    have ih := sel_snoc l b (s / 2)
    have e : s / 2 / 2 ^ l.length = s / 2 ^ (l.length + 1) := by rw [Nat.div_div_eq_div_mul, Nat.pow_succ, Nat.mul_comm]
    rw [e] at ih
    simp only [List.cons_append, selL, ih, List.length_cons]
    split <;> rfl
def rsP (bs : List Bx) (a s : Nat) (n : Int) (k : Nat) : Nat := restS (bs.take k) a s n
def nxP (bs : List Bx) (a s : Nat) (n : Int) (k : Nat) : Int := afterL (selL (bs.take k) s) a n maxA1
theorem rsP_lt (bs : List Bx) (a s : Nat) (n : Int) (k : Nat) (h : k ≤ bs.length) : rsP bs a s n k < 2 ^ k := by
  have := rest_lt a n (bs.take k) s
  rwa [List.length_take, Nat.min_eq_left h] at this
theorem P_skip {bs : List Bx} {a s : Nat} {n : Int} {k : Nat} (h : k < bs.length) (hs : ¬ s / 2 ^ k % 2 = 1 ∨ at' (bs.getD k default).hi a < n) : rsP bs a s n (k + 1) = rsP bs a s n k ∧ nxP bs a s n (k + 1) = nxP bs a s n k := by
  have hl : (bs.take k).length = k := by simp; omega
  unfold rsP nxP
  rw [take_getD bs k h, rest_snoc, sel_snoc, hl]
  constructor
  · rw [if_neg (fun h2 => by rcases hs with hs | hs <;> omega)]; rfl
  · by_cases h2 : s / 2 ^ k % 2 = 1
    · rw [if_pos h2, afterL_take, if_neg (by rcases hs with hs | hs <;> omega)]
    · rw [if_neg h2, List.append_nil]
theorem P_take {bs : List Bx} {a s : Nat} {n : Int} {k : Nat} (h : k < bs.length) (hs : s / 2 ^ k % 2 = 1) (hh : n ≤ at' (bs.getD k default).hi a) :
    rsP bs a s n (k + 1) = (if at' (bs.getD k default).lo a ≤ n then rsP bs a s n k + 2 ^ k else rsP bs a s n k) ∧ nxP bs a s n (k + 1) = min (nxP bs a s n k) (at' (bs.getD k default).hi a + 1) := by
  have hl : (bs.take k).length = k := by simp; omega
  unfold rsP nxP
  rw [take_getD bs k h, rest_snoc, sel_snoc, hl, if_pos hs, afterL_take, if_pos hh]
  refine ⟨?_, rfl⟩
  by_cases h2 : at' (bs.getD k default).lo a ≤ n
  · rw [if_pos h2, if_pos ⟨hs, h2, hh⟩]
  · rw [if_neg h2, if_neg (fun h3 => h2 h3.2.1)]; rfl
theorem P_all (bs : List Bx) (a s : Nat) (n : Int) : rsP bs a s n bs.length = restS bs a s n ∧ nxP bs a s n bs.length = afterL (selL bs s) a n maxA1 := by
  unfold rsP nxP
  rw [List.take_length]
  exact ⟨rfl, rfl⟩
end Go.Proofs.Ytgppecaeegaooaa.PI
