/-
  What a laid argument stands for: from the reading of a type to a pure value; and that it reads the same behind the call.
  Conditions: none; these are definitions and lemmas.
-/
import Derived.Test.YtedchaaoemifbaaEngR
import Derived.ChangeArms
import Derived.Lib.LaidTab
namespace Go.Proofs.Ytedchaaoemifbaa.PI
open Go Go.RowKit

/-! ### Types of arguments -/
inductive Ty where
  | bool
  | int (k : IntKind)
  | str
  | slc (e : Ty)
  | agg (fs : List Ty)
  deriving Inhabited

mutual
def Ty.size : Ty → Nat
  | .agg fs => Ty.sizes fs
  | _ => 1
def Ty.sizes : List Ty → Nat
  | [] => 0
  | f :: r => f.size + Ty.sizes r
end

inductive Has : Ty → D → Prop
  | bool (b : Bool) : Has .bool (.bool b)
  | int (k : IntKind) (n : Int) : (Lit.int k n).wf = true → Has (.int k) (.int k n)
  | str (s : List UInt8) : s.length ≤ maxLen → Has .str (.str s)
  | slc (e : Ty) (els : List D) : (∀ (i : Nat) x, els[i]? = some x → Has e x) → els.length ≤ maxLen → Has (.slc e) (.slc (nz e.size els) els false)
  | agg (fs : List Ty) (xs : List D) : fs.length = xs.length → (∀ (i : Nat) f x, fs[i]? = some f → xs[i]? = some x → Has f x) → Has (.agg fs) (.agg (xs.flatMap D.cells))

/-- the offsets of the fields, one behind the other -/
def offsOK (P : Program) : Nat → List Field → List Ty → Bool
  | _, [], [] => true
  | o, f :: fs, t :: ts => f.offset == o && P.cellsOf f.type == t.size && offsOK P (o + t.size) fs ts
  | _, _, _ => false

def tysOf (tf : TypeId → Option Ty) : List Field → Option (List Ty)
  | [] => some []
  | f :: fs => match tf f.type, tysOf tf fs with
    | some t, some ts => some (t :: ts)
    | _, _ => none

def tyOf (P : Program) : Nat → TypeId → Option Ty
  | 0, _ => none
  | n + 1, t => match P.underlying t with
    | some .bool => some .bool
    | some (.int k) => some (.int k)
    | some .string => some .str
    | some (.slice e) => match tyOf P n e with
      | some x => if P.cellsOf e == x.size && decide (0 < x.size) then some (.slc x) else none
      | none => none
    | some (.struct fs) => match tysOf (tyOf P n) fs.toList with
      | some ts => if offsOK P 0 fs.toList ts && P.cellsOf t == Ty.sizes ts then some (.agg ts) else none
      | none => none
    | some (.array m e) => match tyOf P n e with
      | some x => if P.cellsOf e == x.size && P.cellsOf t == m * x.size then some (.agg (List.replicate m x)) else none
      | none => none
    | _ => none

/-- all cells of a world -/
def allIm (w : World) : Nat → Nat → Prop := fun b o => (w.cell? ⟨b, o, none⟩).isSome = true
def ghost0 (w : World) : Ghost := { β := id, γ := id, Im := allIm w }

section
variable {H : Type} {enc : TypeId × Value → H} {P : Program} {w : World}

/-- cells stand for cells -/
def RepL (w : World) (xs : List D) (cs : List Value) : Prop := xs.length = cs.length ∧ (∀ (j : Nat) y v, xs[j]? = some y → cs[j]? = some v → RepV w (ghost0 w) [] y v) ∧ ∀ y ∈ xs, y.pure1 = true

theorem RepL.nil : RepL w [] [] := ⟨rfl, fun j y v h => by simp at h, fun y h => by cases h⟩

theorem RepL.append {xs ys : List D} {cs ds : List Value} (h : RepL w xs cs) (h' : RepL w ys ds) : RepL w (xs ++ ys) (cs ++ ds) := by
  refine ⟨by simp [h.1, h'.1], fun j y v hy hv => ?_, fun y hy => ?_⟩
  · rcases Nat.lt_or_ge j xs.length with hj | hj
    · rw [List.getElem?_append_left hj] at hy
      rw [List.getElem?_append_left (by rw [← h.1]; exact hj)] at hv
      exact h.2.1 j y v hy hv
    · rw [List.getElem?_append_right hj] at hy
      rw [List.getElem?_append_right (by rw [← h.1]; exact hj), ← h.1] at hv
      exact h'.2.1 _ y v hy hv
  · rcases List.mem_append.1 hy with hy | hy
    · exact h.2.2 y hy
    · exact h'.2.2 y hy

theorem RepL.one {x : D} {v : Value} (h : RepV w (ghost0 w) [] x v) (hp : x.pure1 = true) : RepL w x.cells [v] := by
  rw [pure1_cells hp]
  refine ⟨rfl, fun j y u hy hu => ?_, fun y hy => ?_⟩
  · cases j with
    | zero => simp at hy hu; subst hy; subst hu; exact h
    | succ j => simp at hy
  · simp at hy; subst hy; exact hp

theorem str_of {s : ByteArray} : RepV w (ghost0 w) [] (.str s.data.toList) (.string s) := str_rep s _ rfl

/-! ### How much there is -/
mutual
def wt : D → Nat
  | .slc _ els _ => wts els + 1
  | .agg l => wts l
  | .str s => s.length + 1
  | .int _ _ => 1
  | .bool _ => 1
  | _ => 0
def wts : List D → Nat
  | [] => 0
  | d :: l => wt d + wts l
end
mutual
def blk {H : Type} : DataW H → Nat
  | .lit (.string s) => s.length + 1
  | .lit _ => 1
  | .nil => 1
  | .slice e _ => blks e + 1
  | .agg p => blks p
  | _ => 0
def blks {H : Type} : List (DataW H) → Nat
  | [] => 0
  | d :: l => blk d + blks l
end
theorem wts_append : ∀ (a b : List D), wts (a ++ b) = wts a + wts b
  | [], b => by simp [wts]
  | x :: a, b => by rw [List.cons_append, wts, wts, wts_append a b]; omega
theorem wts_cells (d : D) : wts d.cells = wt d := by
  cases d <;> simp [D.cells, wts, wt]
theorem wts_le : ∀ (a : List D) (b : List (DataW H)), a.length = b.length → (∀ (i : Nat) x y, a[i]? = some x → b[i]? = some y → wt x ≤ blk y) → wts a ≤ blks b
  | [], b, _, _ => by simp [wts]
  | x :: a, [], h, _ => by simp at h
  | x :: a, y :: b, h, hle => by
    have h1 := hle 0 x y rfl rfl
    have h2 := wts_le a b (by simpa using h) (fun i x y hx hy => hle (i + 1) x y (by simpa using hx) (by simpa using hy))
    simp only [wts, blks]
    omega

/-- what reading a type's cells at a fuel gives -/
def Reads (enc : TypeId × Value → H) (P : Program) (w : World) (sp : Nat → Bool) (t : TypeId) (ty : Ty) : Prop :=
  ∀ (fuel : Nat) (cs : List Value) (x : DataW H × List MemPlace), DataW.trod enc P w 0 sp true fuel t cs = some x → ∃ d, Has ty d ∧ RepL w d.cells cs ∧ cs.length = ty.size ∧ ((∃ fs, ty = .agg fs) ∨ d.pure1 = true) ∧ wt d ≤ blk x.1

theorem fields_reads {sp : Nat → Bool} {tf : TypeId → Option Ty} (htf : ∀ t ty, tf t = some ty → Reads enc P w sp t ty) (fuel : Nat) (cs : List Value) : ∀ (fs : List Field) (ts : List Ty) (o : Nat) (ys : List (DataW H × List MemPlace)),
    tysOf tf fs = some ts → offsOK P o fs ts = true → fs.mapM (fun f => DataW.trod enc P w 0 sp true fuel f.type ((cs.drop f.offset).take (P.cellsOf f.type))) = some ys →
    ∃ xs : List D, ts.length = xs.length ∧ (∀ (i : Nat) f x, ts[i]? = some f → xs[i]? = some x → Has f x) ∧ RepL w (xs.flatMap D.cells) ((cs.drop o).take (Ty.sizes ts)) ∧ (o ≤ cs.length → o + Ty.sizes ts ≤ cs.length) ∧ wts (xs.flatMap D.cells) ≤ blks (ys.map (·.1))
  | [], ts, o, ys, h1, h2, h3 => by
    simp [tysOf] at h1; subst h1
    exact ⟨[], rfl, fun i f x h => by simp at h, by simpa [Ty.sizes] using RepL.nil, fun h => by simpa [Ty.sizes] using h, by simp [wts]⟩
  | f :: fs, ts, o, ys, h1, h2, h3 => by
    unfold tysOf at h1
    split at h1
    case h_2 => cases h1
    rename_i t ts' ht hts
    simp only [Option.some.injEq] at h1; subst h1
    simp only [offsOK, Bool.and_eq_true, beq_iff_eq] at h2
    obtain ⟨⟨e1, e2⟩, e3⟩ := h2
    simp only [List.mapM_cons, Option.bind_eq_bind, Option.bind_eq_some_iff, Option.pure_def, Option.some.injEq] at h3
    obtain ⟨y, hy, ys', hys, rfl⟩ := h3
    rw [e1, e2] at hy
    obtain ⟨d, d1, d2, d3, _, d5⟩ := htf _ _ ht fuel _ _ hy
    obtain ⟨xs, x1, x2, x3, x4, x5⟩ := fields_reads htf fuel cs fs ts' (o + t.size) ys' hts e3 hys
    have hlen : o + t.size ≤ cs.length ∨ t.size = 0 := by
      simp only [List.length_take, List.length_drop] at d3
      omega
    refine ⟨d :: xs, by simp [x1], ?_, ?_, ?_, ?_⟩
    · intro i f' x hf hx
      cases i with
      | zero => simp at hf hx; subst hf; subst hx; exact d1
      | succ i => simp at hf hx; exact x2 i f' x hf hx
    · have := d2.append x3
      simp only [List.flatMap_cons, Ty.sizes]
      rw [List.take_add, List.drop_drop]
      exact this
    · intro ho
      simp only [Ty.sizes]
      have := x4 (by omega)
      omega
    · simp only [List.flatMap_cons, wts_append, wts_cells, List.map_cons, blks]
      omega

theorem items_reads {sp : Nat → Bool} {e : TypeId} {x : Ty} (hr : Reads enc P w sp e x) (hc : P.cellsOf e = x.size) (fuel : Nat) (cs : List Value) : ∀ (n k : Nat) (ys : List (DataW H × List MemPlace)),
    (List.range' k n).mapM (fun i => DataW.trod enc P w 0 sp true fuel e ((cs.drop (i * P.cellsOf e)).take (P.cellsOf e))) = some ys →
    ∃ xs : List D, xs.length = n ∧ (∀ (i : Nat) y, xs[i]? = some y → Has x y) ∧ RepL w (xs.flatMap D.cells) ((cs.drop (k * x.size)).take (n * x.size)) ∧ wts (xs.flatMap D.cells) ≤ blks (ys.map (·.1))
  | 0, k, ys, h => ⟨[], rfl, fun i y h => by simp at h, by simpa using RepL.nil, by simp [wts]⟩
  | n + 1, k, ys, h => by
    simp only [List.range'_succ, List.mapM_cons, Option.bind_eq_bind, Option.bind_eq_some_iff, Option.pure_def, Option.some.injEq] at h
    obtain ⟨y, hy, ys', hys, rfl⟩ := h
    rw [hc] at hy
    obtain ⟨d, d1, d2, d3, _, d5⟩ := hr fuel _ _ hy
    obtain ⟨xs, x1, x2, x3, x5⟩ := items_reads hr hc fuel cs n (k + 1) ys' hys
    refine ⟨d :: xs, by simp [x1], ?_, ?_, ?_⟩
    · intro i y hy
      cases i with
      | zero => simp at hy; subst hy; exact d1
      | succ i => simp at hy; exact x2 i y hy
    · have := d2.append x3
      simp only [List.flatMap_cons]
      rw [Nat.add_mul, Nat.one_mul, Nat.add_comm (n * x.size), List.take_add, List.drop_drop]
      rw [Nat.add_mul, Nat.one_mul] at this
      exact this
    · simp only [List.flatMap_cons, wts_append, wts_cells, List.map_cons, blks]
      omega

theorem Ty.sizes_replicate (x : Ty) : ∀ m, Ty.sizes (List.replicate m x) = m * x.size
  | 0 => by simp [Ty.sizes]
  | m + 1 => by rw [List.replicate_succ, Ty.sizes, Ty.sizes_replicate x m, Nat.add_mul, Nat.one_mul, Nat.add_comm]

theorem cells?_get {base : Nat} {a : Addr} {n : Nat} {cs : List Value} (h : w.cells? base a n = some cs) : cs.length = n ∧ ∀ (j : Nat) v, cs[j]? = some v → w.cell? (a.add j) = some v := by
  unfold World.cells? at h
  split at h
  · have hl : cs.length = n := by simpa using Lib.mapM_length h
    refine ⟨hl, fun j v hv => ?_⟩
    have hj : j < n := by rw [← hl]; exact (List.getElem?_eq_some_iff.1 hv).1
    obtain ⟨b, hb, hf⟩ := Lib.mapM_at h j j (by simp [hj])
    rw [hv] at hb
    rw [hf, Option.some.inj hb]
  · cases h

theorem ty_reads {sp : Nat → Bool} : ∀ (n : Nat) (t : TypeId) (ty : Ty), tyOf P n t = some ty → Reads enc P w sp t ty
  | 0, _, _, h => by simp [tyOf] at h
  | n + 1, t, ty, h => by
    have ih := ty_reads (sp := sp) n
    intro fuel cs x hx
    unfold tyOf at h
    cases fuel with
    | zero => simp [DataW.trod] at hx
    | succ fuel =>
    split at h
    · rename_i hu
      simp only [Option.some.injEq] at h; subst h
      unfold DataW.trod at hx
      rw [hu] at hx
      split at hx <;> simp_all
      exact ⟨_, .bool _, RepL.one (.bool _) rfl, rfl, rfl, by rw [← hx]; simp [wt, blk]⟩
    · rename_i k hu
      simp only [Option.some.injEq] at h; subst h
      unfold DataW.trod at hx
      rw [hu] at hx
      split at hx <;> simp_all
      rename_i k' m
      obtain ⟨⟨rfl, hw⟩, hx2⟩ := hx
      exact ⟨_, .int _ _ hw, RepL.one (.int _ _) rfl, rfl, rfl, by rw [← hx2]; simp [wt, blk]⟩
    · rename_i hu
      simp only [Option.some.injEq] at h; subst h
      unfold DataW.trod at hx
      rw [hu] at hx
      split at hx <;> simp_all
      rename_i s
      exact ⟨_, .str s.data.toList (by simpa using hx.1), RepL.one str_of rfl, rfl, rfl, by rw [← hx.2]; simp [wt, blk]⟩
    · rename_i e hu
      split at h
      case h_2 => cases h
      rename_i ex hex
      split at h
      case isFalse => cases h
      rename_i hc
      simp only [Bool.and_eq_true, beq_iff_eq, decide_eq_true_eq] at hc
      simp only [Option.some.injEq] at h; subst h
      rcases DataW.trod_slice hu hx with ⟨rfl, hx2⟩ | ⟨a, len, cap, elems, rest, m, _, rfl, hx2, _, hlc, hcm, hlen, hel, _, _⟩
      · exact ⟨_, .slc ex [] (fun i x h => by simp at h) (Nat.zero_le _), RepL.one (.slcE _ false none 0 (fun h => by cases h)) rfl, rfl, .inr rfl, by rw [hx2]; simp [wt, wts, blk]⟩
      · have hall : ∀ i (hi : i < len), ∃ d, Has ex d ∧ d.cells.length = ex.size ∧ (∀ (j : Nat) y, d.cells[j]? = some y → y.pure1 = true ∧ ∃ v, w.cell? ((a.add (i * ex.size)).add j) = some v ∧ RepV w (ghost0 w) [] y v) ∧ wt d ≤ blk (elems[i]'(by omega)).1 := by
          intro i hi
          have h1 := hel i hi
          rw [hc.1, List.getElem?_eq_getElem (by omega)] at h1
          simp only [Option.bind_eq_some_iff] at h1
          obtain ⟨cs', h2, h3⟩ := h1
          obtain ⟨d, d1, d2, d3, _, d5⟩ := ih e ex hex m cs' _ h3
          obtain ⟨h4, h5⟩ := cells?_get h2
          refine ⟨d, d1, by rw [d2.1, h4], fun j y hy => ⟨d2.2.2 y (List.mem_of_getElem? hy), ?_⟩, d5⟩
          have hj : j < cs'.length := by rw [← d2.1]; exact (List.getElem?_eq_some_iff.1 hy).1
          exact ⟨cs'[j], h5 j _ (List.getElem?_eq_getElem hj), d2.2.1 j y _ hy (List.getElem?_eq_getElem hj)⟩
        let f : Nat → D := fun i => if hi : i < len then (hall i hi).choose else .junk
        have hf : ∀ i (hi : i < len), f i = (hall i hi).choose := fun i hi => by simp [f, hi]
        have hget : ∀ (i : Nat) x, ((List.range len).map f)[i]? = some x → ∃ hi : i < len, x = (hall i hi).choose := by
          intro i x hx
          simp only [List.getElem?_map, Option.map_eq_some_iff] at hx
          obtain ⟨i', h1, rfl⟩ := hx
          rw [List.getElem?_eq_some_iff] at h1
          obtain ⟨h2, h3⟩ := h1
          simp at h2 h3
          subst h3
          exact ⟨h2, hf i h2⟩
        refine ⟨.slc (nz ex.size ((List.range len).map f)) ((List.range len).map f) false, .slc ex _ (fun i x hx => ?_) (by simp; omega), ?_, rfl, .inr rfl, ?_⟩
        · obtain ⟨hi, rfl⟩ := hget i x hx
          exact (hall i hi).choose_spec.1
        · refine RepL.one (RepV.nz (t := false) ?_) rfl
          rcases Nat.eq_zero_or_pos len with h0 | h0
          · subst h0
            exact .slcE _ false (some a) cap (fun h => by cases h)
          · have hsp : a.spot = none := by
              obtain ⟨d1, d2, d3, _⟩ := (hall 0 h0).choose_spec
              obtain ⟨_, v, h1, _⟩ := d3 0 _ (List.getElem?_eq_getElem (by rw [d2]; exact hc.2))
              rw [Nat.zero_mul] at h1
              have h2 : (a.add 0).add 0 = a := by simp [Addr.add]
              rw [h2] at h1
              unfold World.cell? at h1
              split at h1
              · split at h1
                · cases h1
                · rename_i hs; simpa using hs
              · cases h1
            obtain ⟨b, off, spot⟩ := a
            simp only at hsp
            subst hsp
            have hl : len = ((List.range len).map f).length := by simp
            conv => rhs; rw [hl]
            refine RepV.slc_mk hc.2 ?_ (by simpa using hlc) (fun h => by cases h) ?_
            · intro e' he'
              obtain ⟨i, hi⟩ := List.getElem?_of_mem he'
              obtain ⟨hi', rfl⟩ := hget i e' hi
              exact (hall i hi').choose_spec.2.1
            · intro i j d hd
              obtain ⟨e', he, hj⟩ := cellAt_some hd
              obtain ⟨hi', rfl⟩ := hget i e' he
              obtain ⟨hp, v, hv, hr⟩ := (hall i hi').choose_spec.2.2.1 j d hj
              rw [add_lit, add_lit] at hv
              refine ⟨hp, ?_, v, hv, hr⟩
              show (w.cell? ⟨b, off + i * ex.size + j, none⟩).isSome = true
              rw [hv]; rfl
        · rw [hx2]
          simp only [wt, blk]
          refine Nat.succ_le_succ (wts_le _ _ (by simp; omega) ?_)
          intro i x y hx hy
          obtain ⟨hi, rfl⟩ := hget i x hx
          simp only [List.getElem?_map, Option.map_eq_some_iff] at hy
          obtain ⟨z, hz, rfl⟩ := hy
          obtain ⟨hz1, rfl⟩ := List.getElem?_eq_some_iff.1 hz
          exact (hall i hi).choose_spec.2.2.2
    · rename_i fs hu
      split at h
      case h_2 => cases h
      rename_i ts hts
      split at h
      case isFalse => cases h
      rename_i hc
      simp only [Bool.and_eq_true, beq_iff_eq] at hc
      simp only [Option.some.injEq] at h; subst h
      unfold DataW.trod at hx
      rw [hu] at hx
      simp only at hx
      split at hx
      case isFalse => cases hx
      rename_i hl
      simp only [Option.map_eq_some_iff] at hx
      obtain ⟨ys, hys, rfl⟩ := hx
      obtain ⟨xs, x1, x2, x3, x4, x5⟩ := fields_reads ih fuel cs fs.toList ts 0 ys hts hc.1 hys
      refine ⟨.agg (xs.flatMap D.cells), .agg ts xs x1 x2, ?_, by rw [hl, hc.2]; rfl, .inl ⟨ts, rfl⟩, by simpa only [wt, blk] using x5⟩
      rw [List.drop_zero, List.take_of_length_le (by omega)] at x3
      exact x3
    · rename_i m e hu
      split at h
      case h_2 => cases h
      rename_i ex hex
      split at h
      case isFalse => cases h
      rename_i hc
      simp only [Bool.and_eq_true, beq_iff_eq] at hc
      simp only [Option.some.injEq] at h; subst h
      unfold DataW.trod at hx
      rw [hu] at hx
      simp only at hx
      split at hx
      case isFalse => cases hx
      rename_i hl
      simp only [Option.map_eq_some_iff] at hx
      obtain ⟨ys, hys, rfl⟩ := hx
      rw [List.range_eq_range'] at hys
      obtain ⟨xs, x1, x2, x3, x5⟩ := items_reads (ih e ex hex) hc.1 fuel cs m 0 ys hys
      refine ⟨.agg (xs.flatMap D.cells), .agg _ xs (by simp [x1]) ?_, ?_, by rw [hl, hc.2]; exact (Ty.sizes_replicate ex m).symm, .inl ⟨_, rfl⟩, by simpa only [wt, blk] using x5⟩
      · intro i f x hf hx
        rw [List.getElem?_replicate] at hf
        split at hf
        · cases hf; exact x2 i x hx
        · cases hf
      · rw [Nat.zero_mul, List.drop_zero, List.take_of_length_le (by omega)] at x3
        exact x3
    · cases h

end
end Go.Proofs.Ytedchaaoemifbaa.PI
