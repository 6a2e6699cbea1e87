/-
  disk: the log as plain lists.
  Conditions: none; these are lemmas.
-/
import Derived.Test.YteacnlikmagfcaaDoorDkP
namespace Go.Proofs.YteacnlikmagfcaaDoor.PI
open Go
set_option linter.unusedSimpArgs false
set_option linter.unusedVariables false

/-- the number of bytes, most significant first -/
def valL (l : List UInt8) : Nat := l.foldl (fun n x => n * 256 + x.toNat) 0
theorem be4_eq (m : Nat) : be (m : Int) 4 = [UInt8.ofNat (m / 16777216), UInt8.ofNat (m / 65536), UInt8.ofNat (m / 256), UInt8.ofNat m] := by
  have h1 : ((m : Int) / 16777216).toNat = m / 16777216 := by omega
  have h2 : ((m : Int) / 65536).toNat = m / 65536 := by omega
  have h3 : ((m : Int) / 256).toNat = m / 256 := by omega
  simp [be, beN, List.range_succ, h1, h2, h3]
theorem val_be (m : Nat) (h : m < 4294967296) : valL (be (m : Int) 4) = m := by
  rw [be4_eq]
  simp only [valL, List.foldl_cons, List.foldl_nil, UInt8.toNat_ofNat']
  omega

def standN (b : List UInt8) (p : Nat) : Nat := valL ((b.drop p).take 4)
def standR (b : List UInt8) (p : Nat) : List UInt8 := ((b.drop p).drop 12).take (standN b p)
/-- the record of the unit that stands at an offset -/
def stand (b : List UInt8) (p : Nat) : Option (List UInt8) :=
  if 12 ≤ b.length - p ∧ standN b p ≤ 16000 ∧ standN b p ≤ b.length - p - 12 ∧ unitL (p : Int) (standR b p) = (b.drop p).take (12 + standN b p) then some (standR b p) else none
theorem standR_length (b : List UInt8) (p : Nat) (h : standN b p ≤ b.length - p - 12) : (standR b p).length = standN b p := by
  simp [standR]; omega
theorem unit_take4 (n : Int) (r s : List UInt8) : (unitL n r ++ s).take 4 = be (r.length : Int) 4 := by
  rw [unitL, List.append_assoc]
  exact List.take_left' (be_length _ _)
theorem unit_drop12 (n : Int) (r s : List UInt8) : (unitL n r ++ s).drop 12 = r ++ s := by
  rw [unitL, List.append_assoc, List.append_assoc, ← List.append_assoc (be _ _)]
  exact List.drop_left' (by simp [be_length, sumL_length])
theorem stand_iff (b : List UInt8) (p : Nat) (r : List UInt8) : stand b p = some r ↔ r.length ≤ 16000 ∧ unitL (p : Int) r <+: b.drop p := by
  constructor
  · intro h
    unfold stand at h
    split at h
    · rename_i hx
      obtain ⟨h1, h2, h3, h4⟩ := hx
      simp only [Option.some.injEq] at h
      subst h
      refine ⟨by rw [standR_length b p h3]; exact h2, ?_⟩
      rw [h4]
      exact List.take_prefix _ _
    · cases h
  · rintro ⟨h1, s, h2⟩
    have hl : (unitL (p : Int) r ++ s).length = b.length - p := by rw [h2, List.length_drop]
    rw [List.length_append, unitL_length] at hl
    have e1 : standN b p = r.length := by
      unfold standN
      rw [← h2, unit_take4, val_be _ (by omega)]
    have e2 : standR b p = r := by
      unfold standR
      rw [e1, ← h2, unit_drop12]
      exact List.take_left' rfl
    have e3 : unitL (p : Int) (standR b p) = (b.drop p).take (12 + standN b p) := by
      rw [e2, e1, ← h2]
      exact (List.take_left' (unitL_length _ _)).symm
    unfold stand
    rw [if_pos ⟨by omega, by omega, by omega, e3⟩, e2]
theorem stand_le {b : List UInt8} {p : Nat} {r : List UInt8} (h : stand b p = some r) : p + 12 + r.length ≤ b.length := by
  obtain ⟨h1, h2⟩ := (stand_iff b p r).1 h
  have := h2.length_le
  rw [unitL_length, List.length_drop] at this
  omega
theorem stand_end {b : List UInt8} {p : Nat} (h : b.length ≤ p + 11) : stand b p = none := by
  cases h2 : stand b p with
  | none => rfl
  | some r => have := stand_le h2; omega

/-- the records from an offset on, and where they end -/
def rdF : Nat → List UInt8 → Nat → List (List UInt8) × Nat
  | 0, _, p => ([], p)
  | f + 1, b, p => match stand b p with
    | none => ([], p)
    | some r => (r :: (rdF f b (p + 12 + r.length)).1, (rdF f b (p + 12 + r.length)).2)
theorem rdF_none {f : Nat} {b : List UInt8} {p : Nat} (h : stand b p = none) : rdF f b p = ([], p) := by
  cases f <;> simp [rdF, h]
theorem rdF_some {f : Nat} {b : List UInt8} {p : Nat} {r : List UInt8} (h : stand b p = some r) : rdF (f + 1) b p = (r :: (rdF f b (p + 12 + r.length)).1, (rdF f b (p + 12 + r.length)).2) := by
  simp [rdF, h]
def recs (b : List UInt8) : List (List UInt8) := (rdF (b.length + 1) b 0).1
def endN (b : List UInt8) : Nat := (rdF (b.length + 1) b 0).2
/-- any fuel that is enough -/
theorem rdF_fuel (b : List UInt8) : ∀ (f g p : Nat), b.length < f + p → b.length < g + p → rdF f b p = rdF g b p := by
  intro f
  induction f with
  | zero =>
    intro g p h1 h2
    rw [rdF_none (stand_end (by omega)), rdF_none (stand_end (by omega))]
  | succ f ih =>
    intro g p h1 h2
    cases hs : stand b p with
    | none => rw [rdF_none hs, rdF_none hs]
    | some r =>
      have := stand_le hs
      cases g with
      | zero => omega
      | succ g => rw [rdF_some hs, rdF_some hs, ih g _ (by omega) (by omega)]

/-- the bytes of records -/
def encL : Nat → List (List UInt8) → List UInt8
  | _, [] => []
  | p, r :: l => unitL (p : Int) r ++ encL (p + 12 + r.length) l
def okL (l : List (List UInt8)) : Prop := ∀ r ∈ l, r.length ≤ 16000
theorem encL_length : ∀ (l : List (List UInt8)) (p q : Nat), (encL p l).length = (encL q l).length
  | [], _, _ => rfl
  | r :: l, p, q => by simp only [encL, List.length_append, unitL_length, encL_length l (p + 12 + r.length) (q + 12 + r.length)]
theorem encL_append : ∀ (l m : List (List UInt8)) (p : Nat), encL p (l ++ m) = encL p l ++ encL (p + (encL 0 l).length) m
  | [], m, p => by simp [encL]
  | r :: l, m, p => by
    rw [List.cons_append, encL, encL, encL_append l m, List.append_assoc]
    congr 3
    rw [encL, List.length_append, unitL_length, encL_length l (0 + 12 + r.length) 0]
    omega
theorem encL_snoc (l : List (List UInt8)) (r : List UInt8) : encL 0 (l ++ [r]) = encL 0 l ++ unitL ((encL 0 l).length : Int) r := by
  rw [encL_append, encL, encL, List.append_nil, Nat.zero_add]
theorem encL_snoc_length (l : List (List UInt8)) (r : List UInt8) : (encL 0 (l ++ [r])).length = (encL 0 l).length + 12 + r.length := by
  rw [encL_snoc, List.length_append, unitL_length]; omega

/-! ### What is read -/
theorem rdF_spec (b : List UInt8) : ∀ (f p : Nat), okL (rdF f b p).1 ∧ encL p (rdF f b p).1 <+: b.drop p ∧ (rdF f b p).2 = p + (encL 0 (rdF f b p).1).length
  | 0, p => ⟨fun r h => by simp [rdF] at h, by simp [rdF, encL], by simp [rdF, encL]⟩
  | f + 1, p => by
    cases hs : stand b p with
    | none => rw [rdF_none hs]; exact ⟨fun r h => by simp at h, by simp [encL], by simp [encL]⟩
    | some r =>
      obtain ⟨h1, h2, h3⟩ := rdF_spec b f (p + 12 + r.length)
      obtain ⟨h4, s, h5⟩ := (stand_iff b p r).1 hs
      rw [rdF_some hs]
      refine ⟨fun x hx => ?_, ?_, ?_⟩
      · rcases List.mem_cons.1 hx with rfl | hx
        · exact h4
        · exact h1 x hx
      · have e : b.drop (p + 12 + r.length) = s := by
          rw [show p + 12 + r.length = p + (12 + r.length) by omega, ← List.drop_drop, ← h5]
          exact List.drop_left' (unitL_length _ _)
        rw [e] at h2
        rw [encL, ← h5]
        exact (List.prefix_append_right_inj _).2 h2
      · simp only [h3, encL, List.length_append, unitL_length]
        rw [encL_length _ (0 + 12 + r.length) 0]
        omega
theorem rdF_begins (b : List UInt8) : ∀ (l : List (List UInt8)) (f p : Nat), b.length < f + p → okL l → encL p l <+: b.drop p → l <+: (rdF f b p).1
  | [], _, _, _, _, _ => List.nil_prefix
  | r :: l, f, p, hf, hk, hp => by
    obtain ⟨s, hs⟩ := hp
    rw [encL, List.append_assoc] at hs
    have h1 : stand b p = some r := (stand_iff b p r).2 ⟨hk r (by simp), ⟨_, hs⟩⟩
    have h2 := stand_le h1
    cases f with
    | zero => omega
    | succ f =>
      rw [rdF_some h1]
      refine (List.prefix_cons_inj r).2 (rdF_begins b l f _ (by omega) (fun x hx => hk x (by simp [hx])) ?_)
      rw [show p + 12 + r.length = p + (12 + r.length) by omega, ← List.drop_drop, ← hs, List.drop_left' (unitL_length _ _)]
      rw [show p + (12 + r.length) = p + 12 + r.length by omega]
      exact ⟨s, rfl⟩
theorem recs_ok (b : List UInt8) : okL (recs b) := (rdF_spec b _ 0).1
theorem recs_prefix (b : List UInt8) : encL 0 (recs b) <+: b := by
  have := (rdF_spec b (b.length + 1) 0).2.1
  rwa [List.drop_zero] at this
theorem endN_eq (b : List UInt8) : endN b = (encL 0 (recs b)).length := by
  have := (rdF_spec b (b.length + 1) 0).2.2
  rwa [Nat.zero_add] at this
theorem endN_le (b : List UInt8) : endN b ≤ b.length := by
  rw [endN_eq]; exact (recs_prefix b).length_le
theorem recs_take (b : List UInt8) : encL 0 (recs b) = b.take (endN b) := by
  rw [endN_eq]; exact List.prefix_iff_eq_take.1 (recs_prefix b)
theorem recs_begins (b : List UInt8) (l : List (List UInt8)) (hk : okL l) (h : encL 0 l <+: b) : l <+: recs b :=
  rdF_begins b l (b.length + 1) 0 (by omega) hk (by rwa [List.drop_zero])
theorem encL_prefix_length {l m : List (List UInt8)} (h : l <+: m) : (encL 0 l).length ≤ (encL 0 m).length := by
  obtain ⟨s, rfl⟩ := h
  rw [encL_append, List.length_append]; omega
theorem encL_prefix {l m : List (List UInt8)} (h : l <+: m) : encL 0 l <+: encL 0 m := by
  obtain ⟨s, rfl⟩ := h
  rw [encL_append]; exact ⟨_, rfl⟩
theorem encL_pos (p : Nat) (r : List UInt8) (l : List (List UInt8)) : 12 + r.length ≤ (encL p (r :: l)).length := by
  rw [encL, List.length_append, unitL_length]; omega
theorem encL_len_lt {l m : List (List UInt8)} (h : l <+: m) (hl : l.length < m.length) : (encL 0 l).length + 12 ≤ (encL 0 m).length := by
  obtain ⟨s, rfl⟩ := h
  cases s with
  | nil => simp at hl
  | cons r s =>
    rw [encL_append, List.length_append]
    have := encL_pos (0 + (encL 0 l).length) r s
    omega
theorem prefix_eq {α : Type} {l m : List α} (h : l <+: m) (hl : m.length ≤ l.length) : l = m := by
  obtain ⟨s, rfl⟩ := h
  cases s with
  | nil => simp
  | cons a s => rw [List.length_append, List.length_cons] at hl; omega
/-- the records of bytes that are those of records -/
theorem recs_enc (l : List (List UInt8)) (hk : okL l) : recs (encL 0 l) = l := by
  have h1 := recs_begins (encL 0 l) l hk (List.prefix_refl _)
  have h2 := encL_prefix_length h1
  have h3 := (recs_prefix (encL 0 l)).length_le
  rcases Nat.lt_or_ge l.length (recs (encL 0 l)).length with h4 | h4
  · have := encL_len_lt h1 h4
    omega
  · exact (prefix_eq h1 h4).symm
theorem endN_enc (l : List (List UInt8)) (hk : okL l) : endN (encL 0 l) = (encL 0 l).length := by
  rw [endN_eq, recs_enc l hk]
/-- of a part -/
theorem recs_mono {a b : List UInt8} (h : a <+: b) : recs a <+: recs b := recs_begins b _ (recs_ok a) ((recs_prefix a).trans h)
theorem okL_snoc {l : List (List UInt8)} {r : List UInt8} (h : okL l) (hr : r.length ≤ 16000) : okL (l ++ [r]) := by
  intro x hx
  rcases List.mem_append.1 hx with hx | hx
  · exact h x hx
  · simp at hx; subst hx; exact hr
theorem okL_take {l : List (List UInt8)} (h : okL l) (n : Nat) : okL (l.take n) := fun x hx => h x (List.mem_of_mem_take hx)
theorem okL_nil : okL [] := fun x hx => by cases hx
end Go.Proofs.YteacnlikmagfcaaDoor.PI
