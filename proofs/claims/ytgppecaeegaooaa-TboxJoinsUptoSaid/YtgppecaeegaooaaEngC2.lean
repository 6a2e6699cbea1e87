/-
  A copy of a slice: a function that first asks whether its slice is nil.
  Conditions: none; these are lemmas.
-/
import Derived.Test.YtgppecaeegaooaaEngR
import Derived.Laws.Cover3
namespace Go.Proofs.Ytgppecaeegaooaa.PI
open Go
set_option linter.unusedSimpArgs false
set_option linter.unusedVariables false

section
variable {P : Program} {G : Glob} {T : Tbl} {il : List Nat}

/-- nothing is nothing, whatever size is told of it -/
theorem RepV.empty {w : World} {g : Ghost} {st : St} {sz sz' : Nat} {t : Bool} {v : Value} (h : RepV w g st (.slc sz [] t) v) : RepV w g st (.slc sz' [] false) v := by
  cases h with
  | slcE _ _ a cap h => exact .slcE _ _ a cap (fun h => by cases h)
  | slc _ _ b off cap _ val h1 => exact absurd rfl h1
theorem slc_val {w : World} {g : Ghost} {st : St} {sz : Nat} {els : List D} {t : Bool} {v : Value} (h : RepV w g st (.slc sz els t) v) : ∃ a n cap, v = .slice a n cap ∧ (els ≠ [] → a.isNone = false) := by
  cases h with
  | slcE _ _ a cap h => exact ⟨a, 0, cap, rfl, fun h => absurd rfl h⟩
  | slc _ _ b off cap _ val h1 => exact ⟨_, _, _, rfl, fun _ => rfl⟩
theorem eq_nil_run {t e : TypeId} (ht : P.underlying t = some (.slice e)) (w : World) (a : Option Addr) (n cap : Nat) : (binOp .eql t (.slice a n cap) (.slice none 0 0)).run P w = .ok (.bool a.isNone) w := by
  have he : (Op.equal t (.slice a n cap) (.slice none 0 0)).run P w = .ok a.isNone w := run_equalIn_slice_nil w 9999 t e a n cap ht
  simp [binOp, he]

/-- THE COPY's CONTRACT, out of what both its ways come to. -/
theorem clone_of (hT : TblOK P G T) (hy : T.y = fun _ _ _ => none) {f id1 : Nat} {fn : Func} {c0 A B : Code} {o1 o2 : Oper} {t3 t4 : Nat} {tS e : TypeId} {l0 : List PI} {pA pB : PC} {res : List PRes}
    (hfn : P.funcs[f]? = some fn) (hname : (fn.name == "runtime.NumGoroutine") = false) (hc : fn.body = some (.seq c0 (.seq (.seq (.region id1 #[o1, o2] false) (.cond (.tmp t4) A .skip)) B)))
    (h0 : trC P il fn.ntmps [] c0 = some (.ops l0, [])) (hA : trC P il fn.ntmps [] A = some (pA, [])) (hB : trC P il fn.ntmps [] B = some (pB, [])) (hr : trRes P fn.results.toList = some res)
    (ho1 : trI P il fn.ntmps #[o1, o2] o1 = some { dst := some t3, op := .mov (.s 0) }) (ho2 : o2.op = .binOp .eql tS (.tmp t3) (.const (.slice none 0 0)) tS) (hd2 : o2.dst = some t4) (hg2 : o2.guard = none) (ht4 : t4 < fn.ntmps)
    (hS : P.underlying tS = some (.slice e)) {sp : List D → St → Option (D × St)}
    (hsp : ∀ ds st d st', sp ds st = some (d, st') → ∃ sz els t fr0, ds = [.slc sz els t] ∧ execs G T l0 ⟨argF ds, st⟩ = some ⟨fr0, st⟩ ∧ fr0 0 = .slc sz els t ∧
      (els = [] → ∃ fuel sA xs, pA.exec G T fuel ⟨(fr0.set t3 (.slc sz els t)).set t4 (.bool true), st⟩ = some (.ret, sA) ∧ sA.st = st' ∧ raws sA res = some xs ∧ ∀ w g v, RepV w g st' (pack xs) v → RepV w g st' d v) ∧
      (∃ fuel sB xs, pB.exec G T fuel ⟨(fr0.set t3 (.slc sz els t)).set t4 (.bool false), st⟩ = some (.ret, sB) ∧ sB.st = st' ∧ raws sB res = some xs ∧ ∀ w g v, RepV w g st' (pack xs) v → RepV w g st' d v)) : IContract P G f sp := by
  refine ⟨⟨fn, hfn, by rw [hc]; rfl, hname⟩, ?_⟩
  intro base w g st st' ds vs d hx hSR hG hlen hrep
  have hR0 : R G base fn.ntmps w g st [] { fr := argF ds, st } { tmps := vs.toArray ++ Array.replicate (fn.ntmps - vs.toArray.size) undef, defers := [] } w := by
    refine ⟨g, Go1.refl hSR, ?_, hG, ⟨[], rfl, trivial⟩, ?_⟩
    · intro s
      simp only [argF]
      rcases Nat.lt_or_ge s ds.length with h1 | h1
      · have h2 : s < vs.length := by omega
        have h3 : (vs.toArray ++ Array.replicate (fn.ntmps - vs.toArray.size) undef).getD s undef = vs[s] := by
          simp [Array.getD, h2]
          intro h4
          omega
        rw [h3]
        have := hrep s ds[s] vs[s] (by simp [h1]) (by simp [h2])
        simpa [List.getD_eq_getElem?_getD, h1] using this
      · simp [List.getD_eq_getElem?_getD, List.getElem?_eq_none h1]
        exact .junk _
    · simp; omega
  obtain ⟨sz, els, t, fr0, rfl, e0, e1, eA, eB⟩ := hsp _ _ _ _ hx
  have hY : YOK P G T.y base w g st := by rw [hy]; exact YOK.none
  refine callsIn_wide.1 (callsIn_of_wp_marks (F := Fence.wide) (n := 0) hfn hc trivial ?_)
  have fin : ∀ (s' : PS) (xs : List D), s'.st = st' → raws s' res = some xs → (∀ w g v, RepV w g st' (pack xs) v → RepV w g st' d v) → ∀ a' w', R G base fn.ntmps w g st [] s' a' w' →
      LeavesInM Fence.wide 0 P fn a'.tmps (fun e w' => ∃ v g', e = .returned v ∧ Go1 base w g st w' g' st' ∧ RepV w' g' st' d v) a'.defers .returning w' := by
    rintro s' xs rfl hx1 hw a' w' ⟨g1, h⟩
    obtain ⟨dd, hd1, hd2⟩ := h.df
    rw [hd1, List.append_nil]
    refine leaves_ok hSR.size dd w' h.go1 h.fr hd2 fun w2 hgo hF => ?_
    obtain ⟨us, e1, e2, e3⟩ := raws_run hgo.sr hF hr hx1
    exact ⟨_, results_run e3, _, g1, rfl, hgo, hw _ _ _ (pack_rep e1 e2)⟩
  refine wpIn_seq (code_sim hT c0 none (.inl rfl) w g st [] hY hSR.size [] _ h0 0 _ ⟨fr0, st⟩ .next (by simp only [PC.exec, e0]) _ w _ hR0 fun a1 w1 hR1 => ?_)
  refine wpIn_seq (wpIn_seq (wpIn_region_list ?_))
  refine step_sim (r := none) hT hY hR1 ho1 (s' := ⟨fr0.set t3 (.slc sz els t), st⟩) (by simp [PI.exec, PI.step, PI.wanted, POp.exec, rho, e1, Frame.set, Frame.put]) fun a2 w2 hR2 => ?_
  obtain ⟨g2, h2⟩ := id hR2
  have hv : RepV w2 g2 st ((fr0.set t3 (.slc sz els t)) t3) (a2.tmps.getD t3 undef) := h2.fr t3
  have hset : (Frame.set fr0 t3 (.slc sz els t)) t3 = .slc sz els t := by simp [Frame.set]
  rw [hset] at hv
  obtain ⟨a, n, cap, hva, hne⟩ := slc_val hv
  obtain ⟨dst2, op2, ty2, pos2, after2, guard2⟩ := o2
  dsimp only at ho2 hd2 hg2
  subst ho2 hd2 hg2
  have hw2 : ∀ y, Region.wanted (⟨some t4, .binOp .eql tS (.tmp t3) (.const (.slice none 0 0)) tS, ty2, pos2, after2, none⟩ : Oper) y = true := fun y => rfl
  have hev : a2.eval (.tmp t3) = .slice a n cap := hva
  have hsz2 : t4 < a2.tmps.size := Nat.lt_of_lt_of_le ht4 h2.sz
  show (if Region.wanted _ _ = true then _ else _)
  rw [hw2, if_pos rfl]
  refine wpIn_of_wp (by intro c h; cases h) ?_
  refine wp_still (d := .bool a.isNone) (s := do eqGuard .eql tS (.tmp t3) (.const (.slice none 0 0)) (a2.eval (.tmp t3)) (a2.eval (.const (.slice none 0 0))); binOp .eql tS (a2.eval (.tmp t3)) (a2.eval (.const (.slice none 0 0)))) h2.sr rfl ?_ (.bool _) ?_
  · simp only [Sem.run_bind, hev, eqGuard_flat .eql tS (.tmp t3) (.const (.slice none 0 0)) (.slice a n cap) (a2.eval (.const (.slice none 0 0))) (fun u e => by cases e) (fun e => by cases e), Result.andThen_ok]
    exact eq_nil_run hS w2 a n cap
  intro v w3 g3 hgo hrep3
  have hR3 : R G base fn.ntmps w g st [] ⟨(fr0.set t3 (.slc sz els t)).set t4 (.bool a.isNone), st⟩ (a2.put (some t4) v) w3 :=
    ⟨g3, h2.go hgo ((h2.fr.mono hgo.im hgo.evo).put (dst := some t4) (fun t e => by cases e; exact hsz2) hrep3) (put_defers' ..) (by rw [put_size]; exact h2.sz)⟩
  obtain rfl := bool_inv hrep3
  have hbv : (a2.put (some t4) (.bool a.isNone)).eval (.tmp t4) = .bool a.isNone := by
    simp [Act.eval, Act.put, hsz2]
  cases hnil : a.isNone with
  | true =>
    rw [hnil] at hbv hR3
    have hels : els = [] := Classical.byContradiction fun h => by rw [hne h] at hnil; cases hnil
    obtain ⟨fuel, sA, xs, x1, x2, x3, x4⟩ := eA hels
    refine wpIn_cond_true hbv ?_
    refine code_sim hT A none (.inl rfl) w g st [] hY hSR.size [] _ hA fuel _ sA .ret x1 _ _ _ hR3 fun a4 w4 hR4 => ?_
    exact fin sA xs x2 x3 x4 a4 w4 hR4
  | false =>
    rw [hnil] at hbv hR3
    obtain ⟨fuel, sB, xs, x1, x2, x3, x4⟩ := eB
    refine wpIn_cond_false hbv (wpIn_skip ?_)
    refine code_sim hT B none (.inl rfl) w g st [] hY hSR.size [] _ hB fuel _ sB .ret x1 _ _ _ hR3 fun a4 w4 hR4 => ?_
    exact fin sB xs x2 x3 x4 a4 w4 hR4
end
end Go.Proofs.Ytgppecaeegaooaa.PI
