/-
  tbox: what the laws' arguments are; the reference agrees.
  Conditions: none.
-/
import Derived.Test.YtgppecaeegaooaaTbM
namespace Go.Proofs.Ytgppecaeegaooaa.PI
open Go
set_option linter.unusedSimpArgs false
set_option linter.unusedVariables false
def tyT : Ty := .agg [.int .i64, .int .i64, .int .i64]
def tyO : Ty := .opq (TyD Try.prog 25)
def tyE (X : Ty) : Ty := .agg [.int .i64, .int .i64, .agg (List.replicate 4 (.int .i64)), X]
def tyC (X : Ty) : Ty := .agg [.str, .slc tyT, tyE X]
def tyCls4 : Ty := tyC tyO
def tyCls6 : Ty := tyC (.slc (tyE tyO))
def tyTar : Ty := .agg [.str, .int .i64, .slc tyCls4]
theorem has_slcP {α : Type} {f : α → D} {p : α → Prop} {e : Ty} {d : D} (hf : ∀ x, Has e x → ∃ a, x = f a ∧ p a) (h : Has (.slc e) d) : ∃ l : List α, d = .slc (nz e.size (l.map f)) (l.map f) false ∧ l.length ≤ maxLen ∧ ∀ a ∈ l, p a := by
  cases h with
  | slc _ els h1 h2 =>
    have : ∀ els : List D, (∀ x ∈ els, Has e x) → ∃ l : List α, els = l.map f ∧ ∀ a ∈ l, p a := by
      intro els
      induction els with
      | nil => exact fun _ => ⟨[], rfl, fun _ h => by cases h⟩
      | cons x r ih =>
        intro hx
        obtain ⟨a, ha, hp⟩ := hf x (hx x (by simp))
        obtain ⟨l, hl, hq⟩ := ih fun y hy => hx y (by simp [hy])
        refine ⟨a :: l, by rw [ha, hl]; rfl, ?_⟩
        intro b hb
        rcases List.mem_cons.1 hb with rfl | hb
        · exact hp
        · exact hq b hb
    obtain ⟨l, rfl, hp⟩ := this els fun x hx => by
      obtain ⟨i, hi⟩ := List.getElem?_of_mem hx
      exact h1 i x hi
    exact ⟨l, rfl, by simpa using h2, hp⟩
theorem has_tst {d : D} (h : Has tyT d) : ∃ t, d = tstD t := by
  obtain ⟨x, y, z, rfl, h1, h2, h3⟩ := has_agg3 h
  obtain ⟨a, rfl, _, _⟩ := has_i64 h1
  obtain ⟨b, rfl, _, _⟩ := has_i64 h2
  obtain ⟨c, rfl, _, _⟩ := has_i64 h3
  exact ⟨⟨a, b, c⟩, rfl⟩
theorem has_dom {d : D} (h : Has (.slc tyT) d) : ∃ l : List Tst, d = .slc (nz 3 (l.map tstD)) (l.map tstD) false ∧ l.length ≤ maxLen := has_slc (f := tstD) (fun x hx => has_tst hx) h
theorem has_ints {n : Nat} {d : D} (h : Has (.agg (List.replicate n (.int .i64))) d) : ∃ l : List Int, d = .agg (l.map nI) ∧ l.length = n := by
  cases h with
  | agg _ xs h1 h2 =>
    obtain ⟨l, rfl⟩ := lift_map (f := nI) (els := xs) fun x hx => by
      obtain ⟨i, hi⟩ := List.getElem?_of_mem hx
      have hlt : i < n := by
        have := (List.getElem?_eq_some_iff.1 hi).1
        rw [← h1, List.length_replicate] at this
        exact this
      obtain ⟨a, rfl, _, _⟩ := has_i64 (h2 i (.int .i64) x (by rw [List.getElem?_replicate, if_pos hlt]) hi)
      exact ⟨a, rfl⟩
    refine ⟨l, ?_, by simpa using h1.symm⟩
    congr 1
    clear h1 h2
    induction l with
    | nil => rfl
    | cons a l ih => simp only [List.map_cons, List.flatMap_cons, ih]; rfl
theorem has_O {d : D} (h : Has tyO d) : ∃ l, d = .slc (nz 7 l) l false := by
  cases h with
  | opq Q sz els hq =>
    generalize hd : D.slc (nz sz els) els false = x at hq
    cases hq with
    | slc t e els' hu _ _ =>
      have he : Try.prog.underlying 25 = some (.slice 27) := by kernel_rfl
      rw [he] at hu
      simp only [Option.some.injEq, TypeDesc.slice.injEq] at hu
      subst hu
      have hc : Try.prog.cellsOf 27 = 7 := by kernel_rfl
      rw [hc]
      exact ⟨els', rfl⟩
    | _ => cases hd
theorem has_X {d : D} (h : Has (.slc (tyE tyO)) d) : ∃ l, d = .slc (nz 7 l) l false := by
  cases h with
  | slc _ els h1 h2 => exact ⟨els, rfl⟩
theorem has_C {X : Ty} (hX : ∀ d, Has X d → ∃ l, d = .slc (nz 7 l) l false) {d : D} (h : Has (tyC X) d) : ∃ c, d = clsD c ∧ c.wh.length ≤ maxLen := by
  obtain ⟨x, y, z, rfl, h1, h2, h3⟩ := has_agg3 h
  obtain ⟨s, rfl, _⟩ := has_str h1
  obtain ⟨w, rfl, hw⟩ := has_dom h2
  cases h3 with
  | agg _ xs g1 g2 =>
    match xs, g1 with
    | [a, b, u, e], _ =>
      obtain ⟨a, rfl, _, _⟩ := has_i64 (g2 0 _ a rfl rfl)
      obtain ⟨b, rfl, _, _⟩ := has_i64 (g2 1 _ b rfl rfl)
      obtain ⟨l, rfl, hl⟩ := has_ints (g2 2 _ u rfl rfl)
      obtain ⟨m, rfl⟩ := hX _ (g2 3 _ e rfl rfl)
      match l, hl with
      | [u0, u1, u2, u3], _ => exact ⟨⟨s, w, a, b, u0, u1, u2, u3, m⟩, rfl, hw⟩
theorem has_cls4 {d : D} (h : Has tyCls4 d) : ∃ c, d = clsD c ∧ c.wh.length ≤ maxLen := has_C (fun _ => has_O) h
theorem has_cls6 {d : D} (h : Has tyCls6 d) : ∃ c, d = clsD c ∧ c.wh.length ≤ maxLen := has_C (fun _ => has_X) h
def tarOk (t : Tar) : Prop := t.cl.length ≤ maxLen ∧ ∀ c ∈ t.cl, c.wh.length ≤ maxLen
theorem has_tar {d : D} (h : Has tyTar d) : ∃ t, d = tarD t ∧ tarOk t := by
  obtain ⟨x, y, z, rfl, h1, h2, h3⟩ := has_agg3 h
  obtain ⟨s, rfl, _⟩ := has_str h1
  obtain ⟨n, rfl, _, _⟩ := has_i64 h2
  obtain ⟨l, rfl, hl, hp⟩ := has_slcP (f := clsD) (p := fun c => c.wh.length ≤ maxLen) (fun x hx => has_cls4 hx) h3
  exact ⟨⟨s, n, l⟩, rfl, hl, hp⟩
theorem maxLen_le : maxLen ≤ 9223372036854775807 := by decide
theorem fewOk {t : Tar} (ht : tarOk t) {l : List Tst} (hl : l.length ≤ maxLen) : t.cl.length ≤ 9223372036854775807 ∧ l.length ≤ 9223372036854775807 ∧ ∀ c ∈ t.cl, c.wh.length ≤ 9223372036854775807 :=
  ⟨Nat.le_trans ht.1 maxLen_le, Nat.le_trans hl maxLen_le, fun c hc => Nat.le_trans (ht.2 c hc) maxLen_le⟩
end Go.Proofs.Ytgppecaeegaooaa.PI
