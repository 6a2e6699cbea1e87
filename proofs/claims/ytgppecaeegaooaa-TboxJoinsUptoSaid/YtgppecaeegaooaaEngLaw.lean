/-
  From the arguments of a law, as their types allow them, to plain data.
  Conditions: none; these are definitions and lemmas.
-/
import Derived.Test.YtgppecaeegaooaaEngU
import Derived.Test.YtgppecaeegaooaaEngB2
namespace Go.Proofs.Ytgppecaeegaooaa.PI
open Go

noncomputable def lawSp (tys : List Ty) : List D → Option D := fun xs => @ite _ (HasAll tys xs) (Classical.propDecidable _) (some (.bool true)) none
theorem lawSp_true {tys : List Ty} {xs : List D} (h : HasAll tys xs) : lawSp tys xs = some (.bool true) := by
  unfold lawSp; rw [if_pos h]
theorem lawSp_inv {tys : List Ty} {xs : List D} {d : D} (h : lawSp tys xs = some d) : HasAll tys xs ∧ d = .bool true := by
  unfold lawSp at h
  split at h
  · rename_i hx
    simp only [Option.some.injEq] at h
    exact ⟨hx, h.symm⟩
  · cases h
theorem lawC {P : Program} {G : Glob} {T : Tbl} {il : List Nat} {f : Nat} {hints : List (List Nat)} {F : PF} (ht : trF P il f hints = some F) (hT : TblOK P G T) {tys : List Ty}
    (h : ∀ xs, HasAll tys xs → @wW G T F.code (argF xs) [] ⟨retQ F.res (.bool true)⟩) (hy : T.y = fun _ _ _ => none := by rfl) : Contract P G f (lawSp tys) := by
  refine fun_spec hT hy ht fun ds d hd => ?_
  obtain ⟨hx, rfl⟩ := lawSp_inv hd
  exact run_of_W (W_of (h ds hx))

/-- where the arguments are not too large -/
noncomputable def lawSpU (tys : List Ty) (N : Nat) : List D → Option D := fun xs => @ite _ (HasAll tys xs ∧ wts xs ≤ N) (Classical.propDecidable _) (some (.bool true)) none
theorem lawSpU_true {tys : List Ty} {N : Nat} {xs : List D} (h : HasAll tys xs) (hN : wts xs ≤ N) : lawSpU tys N xs = some (.bool true) := by
  unfold lawSpU; rw [if_pos ⟨h, hN⟩]
theorem lawCU {P : Program} {G : Glob} {T : Tbl} {il : List Nat} {f : Nat} {hints : List (List Nat)} {F : PF} (ht : trF P il f hints = some F) (hT : TblOK P G T) {tys : List Ty} {N : Nat}
    (h : ∀ xs, HasAll tys xs → wts xs ≤ N → @wW G T F.code (argF xs) [] ⟨retQ F.res (.bool true)⟩) (hy : T.y = fun _ _ _ => none := by rfl) : Contract P G f (lawSpU tys N) := by
  refine fun_spec hT hy ht fun ds d hd => ?_
  unfold lawSpU at hd
  split at hd
  · rename_i hx
    simp only [Option.some.injEq] at hd
    subst hd
    exact run_of_W (W_of (h ds hx.1 hx.2))
  · cases hd

theorem hasAll_cons {t : Ty} {ts : List Ty} {xs : List D} (h : HasAll (t :: ts) xs) : ∃ x r, xs = x :: r ∧ Has t x ∧ HasAll ts r := by
  cases h with
  | cons h1 h2 => exact ⟨_, _, rfl, h1, h2⟩
theorem hasAll_nil {xs : List D} (h : HasAll [] xs) : xs = [] := by
  cases h; rfl
theorem has_bool {d : D} (h : Has .bool d) : ∃ b, d = .bool b := by
  cases h with
  | bool b => exact ⟨b, rfl⟩
theorem has_i64 {d : D} (h : Has (.int .i64) d) : ∃ n : Int, d = .int .i64 n ∧ -9223372036854775808 ≤ n ∧ n < 9223372036854775808 := by
  cases h with
  | int k n hw =>
    refine ⟨n, rfl, ?_⟩
    simp [Lit.wf, IntKind.min, IntKind.max, IntKind.signed, IntKind.bits] at hw
    omega
theorem has_u8 {d : D} (h : Has (.int .u8) d) : ∃ b : UInt8, d = byteD b := by
  cases h with
  | int k n hw =>
    simp [Lit.wf, IntKind.min, IntKind.max, IntKind.signed, IntKind.bits] at hw
    refine ⟨UInt8.ofNat n.toNat, ?_⟩
    simp [byteD]
    omega
theorem has_str {d : D} (h : Has .str d) : ∃ s, d = .str s ∧ s.length ≤ maxLen := by
  cases h with
  | str s hs => exact ⟨s, rfl, hs⟩
theorem lift_map {α : Type} {f : α → D} : ∀ {els : List D}, (∀ x ∈ els, ∃ a, x = f a) → ∃ l : List α, els = l.map f
  | [], _ => ⟨[], rfl⟩
  | e :: r, h => by
    obtain ⟨a, ha⟩ := h e (by simp)
    obtain ⟨l, hl⟩ := lift_map (f := f) (els := r) fun x hx => h x (by simp [hx])
    exact ⟨a :: l, by rw [ha, hl]; rfl⟩
theorem has_slc {α : Type} {f : α → D} {e : Ty} {d : D} (hf : ∀ x, Has e x → ∃ a, x = f a) (h : Has (.slc e) d) : ∃ l : List α, d = .slc (nz e.size (l.map f)) (l.map f) false ∧ l.length ≤ maxLen := by
  cases h with
  | slc _ els h1 h2 =>
    obtain ⟨l, rfl⟩ := lift_map (f := f) (els := els) fun x hx => by
      obtain ⟨i, hi⟩ := List.getElem?_of_mem hx
      exact hf x (h1 i x hi)
    exact ⟨l, rfl, by simpa using h2⟩
theorem has_dig {d : D} (h : Has (.agg (List.replicate 32 (.int .u8))) d) : ∃ x, d = digD x := by
  cases h with
  | agg _ xs h1 h2 =>
    obtain ⟨l, rfl⟩ := lift_map (f := byteD) (els := xs) fun x hx => by
      obtain ⟨i, hi⟩ := List.getElem?_of_mem hx
      have hlt : i < 32 := by
        have := (List.getElem?_eq_some_iff.1 hi).1
        rw [← h1, List.length_replicate] at this
        exact this
      exact has_u8 (h2 i (.int .u8) x (by rw [List.getElem?_replicate, if_pos hlt]) hi)
    have hl : l.length = 32 := by
      rw [List.length_replicate, List.length_map] at h1
      exact h1.symm
    refine ⟨⟨l, hl⟩, ?_⟩
    have : ∀ l : List UInt8, (l.map byteD).flatMap D.cells = l.map byteD := by
      intro l
      induction l with
      | nil => rfl
      | cons a r ih => simp only [List.map_cons, List.flatMap_cons, ih]; rfl
    rw [this]
    rfl
theorem has_digs {d : D} (h : Has (.slc (.agg (List.replicate 32 (.int .u8)))) d) : ∃ l : List Dig, d = .slc (nz 32 (l.map digD)) (l.map digD) false ∧ l.length ≤ maxLen :=
  has_slc (f := digD) (fun _ => has_dig) h
theorem has_bytes {d : D} (h : Has (.slc (.int .u8)) d) : ∃ l : List UInt8, d = .slc (nz 1 (l.map byteD)) (l.map byteD) false ∧ l.length ≤ maxLen :=
  has_slc (f := byteD) (fun _ => has_u8) h
theorem has_agg1 {t : Ty} {d : D} (h : Has (.agg [t]) d) : ∃ x, d = .agg x.cells ∧ Has t x := by
  cases h with
  | agg _ xs h1 h2 =>
    match xs, h1 with
    | [x], _ => exact ⟨x, by simp, h2 0 t x rfl rfl⟩
theorem has_agg2 {t u : Ty} {d : D} (h : Has (.agg [t, u]) d) : ∃ x y, d = .agg (x.cells ++ y.cells) ∧ Has t x ∧ Has u y := by
  cases h with
  | agg _ xs h1 h2 =>
    match xs, h1 with
    | [x, y], _ => exact ⟨x, y, by simp, h2 0 t x rfl rfl, h2 1 u y rfl rfl⟩
theorem has_agg3 {t u v : Ty} {d : D} (h : Has (.agg [t, u, v]) d) : ∃ x y z, d = .agg (x.cells ++ (y.cells ++ z.cells)) ∧ Has t x ∧ Has u y ∧ Has v z := by
  cases h with
  | agg _ xs h1 h2 =>
    match xs, h1 with
    | [x, y, z], _ => exact ⟨x, y, z, by simp, h2 0 t x rfl rfl, h2 1 u y rfl rfl, h2 2 v z rfl rfl⟩
theorem has_commit {d : D} (h : Has (.agg [.int .i64, .agg (List.replicate 32 (.int .u8))]) d) : ∃ c : Int × Dig, d = .agg (.int .i64 c.1 :: digC c.2) := by
  obtain ⟨x, y, rfl, h1, h2⟩ := has_agg2 h
  obtain ⟨n, rfl, _⟩ := has_i64 h1
  obtain ⟨r, rfl⟩ := has_dig h2
  exact ⟨(n, r), rfl⟩
end Go.Proofs.Ytgppecaeegaooaa.PI
