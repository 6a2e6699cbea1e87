/-
  Functions that panic, and functions that put off a call which recovers: their contracts out of what their code comes to.
  Conditions: none; these are definitions and lemmas.
-/
import Derived.RecoverIn
import Derived.Test.YtgppecaeegaooaaEngC2
import Derived.Test.YtgppecaeegaooaaEngV2
namespace Go.Proofs.Ytgppecaeegaooaa.PI
open Go Go.RowKit
section
variable {P : Program} {G : Glob} {T : Tbl} {base n : Nat} {w : World} {g : Ghost} {st : St}
theorem pack_inv {ds : List D} {v : Value} (h : RepV w g st (pack ds) v) : ∃ us : List Value, v = packV us ∧ ds.length = us.length ∧ ∀ (i : Nat) d u, ds[i]? = some d → us[i]? = some u → RepV w g st d u := by
  match ds with
  | [d] =>
    refine ⟨[v], rfl, rfl, fun i d' u h1 h2 => ?_⟩
    cases i with
    | zero =>
      simp only [List.getElem?_cons_zero, Option.some.injEq] at h1 h2
      subst h1; subst h2
      exact h
    | succ i => simp at h1
  | [] =>
    cases h with
    | tup _ vs h1 h2 =>
      obtain rfl : vs = [] := List.eq_nil_of_length_eq_zero h1.symm
      exact ⟨[], rfl, rfl, h2⟩
  | a :: b :: l =>
    cases h with
    | tup _ vs h1 h2 =>
      match vs, h1 with
      | x :: y :: r, h1 => exact ⟨x :: y :: r, rfl, h1, h2⟩
theorem contract_at {f : Nat} {sp : List D → St → Option (D × St)} (h : IContract P G f sp) {ds xs ys : List D} {st' : St} (h1 : sp ds [] = some (pack xs, st')) (h2 : imms st' xs = some ys) :
    ∀ (w : World) (g : Ghost) (vs : List Value), GlobOK G w g → (∀ b o, g.Im b o → (w.cell? ⟨b, o, none⟩).isSome = true) → ds.length = vs.length →
    (∀ (i : Nat) d v, ds[i]? = some d → vs[i]? = some v → RepV w g [] d v) →
    Calls P f vs.toArray w fun e w' => ∃ v g', e = .returned v ∧ RepV w' g' [] (pack ys) v ∧ purR (pack ys) = true ∧ ImLe w g w' g' ∧ (∀ b o, g'.Im b o → g.Im b o ∨ w.heap.size ≤ b) ∧
      (∀ b o, g'.Im b o → (w'.cell? ⟨b, o, none⟩).isSome = true) ∧ Below w.heap.size w w' := by
  intro w g vs hG hIm hlen hrep
  have hS : SR w.heap.size w g [] := ⟨fun k o h => by simp at h, fun k o h => by simp at h, fun k k' o o' h => by simp at h, hIm, fun k o x h => by simp at h, Nat.le_refl _⟩
  refine (h.2 w.heap.size w g [] st' ds vs _ h1 hS hG hlen hrep).mono ?_
  rintro e w' ⟨v, g1, rfl, hgo1, hr⟩
  obtain ⟨us, rfl, e1, e2⟩ := pack_inv hr
  obtain ⟨g2, hgo, _, e5, e6, e7⟩ := lend_args hgo1.sr h2
  have hall := hgo1.trans hgo
  refine ⟨_, g2, rfl, ?_, pack_pur e6, hall.im, hall.new, hall.sr.im, hall.below⟩
  have h8 := pack_rep (g := g2) (w := w') (ds := ys) (vs := us) (by omega) fun i y v hy hv => e7 i y v hy fun x hx => e2 i x v hx hv
  exact h8.purR (ImLe.refl _ _) (pack_pur e6)
theorem dcontract_of {il : List Nat} {f : Nat} {hints : List (List Nat)} {F : PFD} {H : HTbl} (ht : trFD P il f hints = some F) (hT : TblOK P G T) (hH : ∀ f h, H f = some h → HContract P G f h) {α : Type} {enc : α → List D} {pre : α → Prop} {r : α → D}
    (h : ∀ a, pre a → wDf G T F H (enc a) [] fun h das => retDQ h das F.res (r a)) (hy : T.y = fun _ _ _ => none := by rfl) : Contract P G f (spOf enc pre r) := by
  intro w g ds vs d hd hG hIm hlen hrep _
  obtain ⟨a, rfl, hp, rfl⟩ := spOf_inv hd
  obtain ⟨k, s1, f', das, h', e, fr', st', h1, h2, h3, h4, h5⟩ := runD_of_W (h a hp)
  have hI := fun_simD hT hy ht hH k
  have fin : ∀ (st3 : St), (gets ⟨fr', st3⟩ F.res).map pack = some (r a) → (∀ xs, raws ⟨fr', st3⟩ F.res = some xs → F.runI G T H k (enc a) [] = some (pack xs, st3)) → Calls P f vs.toArray w fun e w' => ∃ v g', e = .returned v ∧ RepV w' g' [] (r a) v ∧ purR (r a) = true ∧ ImLe w g w' g' ∧ (∀ b o, g'.Im b o → g.Im b o ∨ w.heap.size ≤ b) ∧
      (∀ b o, g'.Im b o → (w'.cell? ⟨b, o, none⟩).isSome = true) ∧ Below w.heap.size w w' := by
    intro st3 hg hx
    simp only [Option.map_eq_some_iff] at hg
    obtain ⟨ys, hy1, hy2⟩ := hg
    obtain ⟨xs, q1, q2⟩ := gets_raws hy1
    rw [← hy2]
    exact contract_at hI (hx xs q1) q2 w g vs hG hIm hlen hrep
  unfold retDQ at h5
  cases e with
  | next => exact fin st' h5 fun xs hx => by simp only [PFD.runI, h1, h2, h3, h4 k (Nat.le_refl _), hx, Option.map_some]
  | ret => exact fin st' h5 fun xs hx => by simp only [PFD.runI, h1, h2, h3, h4 k (Nat.le_refl _), hx, Option.map_some]
  | exit id => exact h5.elim
  | panic t dd =>
    simp only at h5
    unfold on at h5
    split at h5
    case h_2 => exact h5.elim
    rename_i st3 h6
    exact fin st3 h5 fun xs hx => by simp only [PFD.runI, h1, h2, h3, h4 k (Nat.le_refl _), h6, hx, Option.map_some]
theorem xcontract_of {il : List Nat} {f : Nat} {hints : List (List Nat)} {F : PF} (ht : trF P il f hints = some F) (hT : TblOK P G T) {sx : List D → St → Option (Nat × D × St)}
    (h : ∀ ds st r, sx ds st = some r → @wW G T F.code (argF ds) st ⟨@retX ⟨fun t d st' => (t, d, st') = r⟩⟩) (hy : T.y = fun _ _ _ => none := by rfl) : XIContract P G f sx := by
  refine ⟨(fun_simX hT hy ht 0).1, ?_⟩
  intro base w g st st' ds vs t d hsp hS hG hl hrep
  obtain ⟨k, t1, d1, st1, h1, h2⟩ := runX_of_W (W_of (h ds st _ hsp))
  simp only [Prod.mk.injEq] at h2
  obtain ⟨rfl, rfl, rfl⟩ := h2
  exact (fun_simX hT hy ht k).2 base w g st _ ds vs _ _ (h1 k (Nat.le_refl _)) hS hG hl hrep
theorem icontract_keep' {il : List Nat} {f : Nat} {hints : List (List Nat)} {F : PF} (ht : trF P il f hints = some F) (hT : TblOK P G T) {sp : List D → St → Option (D × St)}
    (h : ∀ ds st r, sp ds st = some r → @wW G T F.code (argF ds) st ⟨@retI F.res ⟨fun d st' => (d, st') = r⟩⟩) (hy : T.y = fun _ _ _ => none := by rfl) : IContract P G f sp := by
  refine ⟨(fun_simI hT hy ht 0).1, ?_⟩
  intro base w g st st' ds vs d hsp hS hG hl hrep
  obtain ⟨k, d1, st1, h1, h2⟩ := runI_of_W (W_of (h ds st _ hsp))
  simp only [Prod.mk.injEq] at h2
  obtain ⟨rfl, rfl⟩ := h2
  exact (fun_simI hT hy ht k).2 base w g st _ ds vs _ (h1 k (Nat.le_refl _)) hS hG hl hrep
theorem Contract.or {f : Nat} {sp sp1 sp2 : List D → Option D} (h1 : Contract P G f sp1) (h2 : Contract P G f sp2) (h : ∀ ds d, sp ds = some d → sp1 ds = some d ∨ sp2 ds = some d) : Contract P G f sp := by
  intro w g ds vs d hd
  rcases h ds d hd with h | h
  · exact h1 w g ds vs d h
  · exact h2 w g ds vs d h
def noT : Tbl := { p := fun _ => none, i := fun _ => none, m := fun _ => none }
theorem noT_ok : TblOK P G noT := ⟨fun _ _ h => (by cases h), fun _ _ h => (by cases h), fun _ _ h => (by cases h), fun _ _ h => (by cases h), fun _ _ h => (by cases h)⟩
/-- a function that recovers from panics with values of a type: where the value is laid, which slots are written ahead, what is done -/
structure PH where
  t : Nat
  js : List Nat
  vs : Nat
  l : List PI
  deriving Inhabited
def junks (fr : Frame) : List Nat → Frame
  | [] => fr
  | s :: l => junks (fr.set s .junk) l
def PH.run (G : Glob) (F : PH) : Nat → D → List D → St → Option St := fun t d das st =>
  if t = F.t ∧ intsD d = true then (execs G noT F.l ⟨(junks (argF das) F.js).set F.vs d, st⟩).map (·.st) else none
def trBody (P : Program) (n : Nat) : Code → Option (List PI)
  | .region _ ops false => trIs P [] n ops ops.toList
  | .seq a b => match trBody P n a, trBody P n b with
    | some x, some y => some (x ++ y)
    | _, _ => none
  | .skip => some []
  | _ => none
theorem body_sim {w0 : World} {g0 : Ghost} {st0 : St} {dl : List Deferred} : ∀ (c : Code) (l : List PI) (s s' : PS) (a : Act) (w : World) (Q : Exit → Act → World → Prop), trBody P n c = some l → execs G noT l s = some s' → R G base n w0 g0 st0 dl s a w →
    (∀ a' w', R G base n w0 g0 st0 dl s' a' w' → a'.defers = a.defers → Q .normal a' w') → c.wpIn Fence.wide 0 P Q a w
  | .region id ops draw, l, s, s', a, w, Q, ht, hx, hR, hQ => by
    cases draw with
    | true => simp [trBody] at ht
    | false => exact wpIn_region_list (list_simD (r := none) noT_ok YOK.none _ _ s s' a w ht hx hR hQ)
  | .seq x y, l, s, s', a, w, Q, ht, hx, hR, hQ => by
    simp only [trBody] at ht
    split at ht
    case h_2 => cases ht
    rename_i lx ly h1 h2
    simp only [Option.some.injEq] at ht
    subst ht
    rw [execs_append, Option.bind_eq_some_iff] at hx
    obtain ⟨s1, hx1, hx2⟩ := hx
    refine wpIn_seq (body_sim x lx s s1 a w _ h1 hx1 hR fun a' w' hR' hd' => ?_)
    exact body_sim y ly s1 s' a' w' _ h2 hx2 hR' fun a2 w2 hR2 hd2 => hQ a2 w2 hR2 (hd2.trans hd')
  | .skip, l, s, s', a, w, Q, ht, hx, hR, hQ => by
    simp only [trBody, Option.some.injEq] at ht
    subst ht
    simp only [execs, Option.some.injEq] at hx
    subst hx
    exact wpIn_skip (hQ a w hR rfl)
  | .cond _ _ _, _, _, _, _, _, _, ht, _, _, _ => by simp [trBody] at ht
  | .block _ _, _, _, _, _, _, _, ht, _, _, _ => by simp [trBody] at ht
  | .loop _, _, _, _, _, _, _, ht, _, _, _ => by simp [trBody] at ht
  | .exit _, _, _, _, _, _, _, ht, _, _, _ => by simp [trBody] at ht
  | .ret, _, _, _, _, _, _, ht, _, _, _ => by simp [trBody] at ht
  | .rangeFunc _ _ _ _, _, _, _, _, _, _, ht, _, _, _ => by simp [trBody] at ht
  | .scope _, _, _, _, _, _, _, ht, _, _, _ => by simp [trBody] at ht
  | .label _, _, _, _, _, _, _, ht, _, _, _ => by simp [trBody] at ht
  | .goto _, _, _, _, _, _, _, ht, _, _, _ => by simp [trBody] at ht
  | .refuse _, _, _, _, _, _, _, ht, _, _, _ => by simp [trBody] at ht
theorem run_eqlN {t : TypeId} {ms : _} (ht : P.underlying t = some (.interface ms)) {x : Operand} {a : Act} {dst : Option Tmp} {ty yt : TypeId} {pos : String} {after : Array Edge} {guard : Option (Nat × Bool)} (w : World) :
    (a.eval x = .nilIface → (execOp a.eval { dst := dst, op := .binOp .eql t x (.const .nilIface) yt, type := ty, pos := pos, after := after, guard := guard }).run P w = .ok (.value (.bool true)) w) ∧
    (∀ t' v, a.eval x = .iface t' v → (execOp a.eval { dst := dst, op := .binOp .eql t x (.const .nilIface) yt, type := ty, pos := pos, after := after, guard := guard }).run P w = .ok (.value (.bool false)) w) := by
  refine ⟨fun h => ?_, fun t' v h => ?_⟩
  · have h2 : (Op.equal t .nilIface .nilIface).run P w = .ok true w := by
      have h5 : ∀ n, (Op.equalIn (n + 1) t .nilIface .nilIface).run P w = .ok true w := fun n => by
        simp [Op.equalIn, run_underlying ht]
      exact h5 9999
    have h3 : a.eval (.const .nilIface) = .nilIface := rfl
    simp [execOp, h, h3, eqGuard, binOp, h2]
  · have h2 : (Op.equal t (.iface t' v) .nilIface).run P w = .ok false w := by
      have h5 : ∀ n, (Op.equalIn (n + 1) t (.iface t' v) .nilIface).run P w = .ok false w := fun n => by
        simp [Op.equalIn, run_underlying ht]
      exact h5 9999
    have h3 : a.eval (.const .nilIface) = .nilIface := rfl
    simp [execOp, h, h3, eqGuard, binOp, h2]
theorem run_taHit {T1 : TypeId} {u : TypeDesc} (ht : P.underlying T1 = some u) (hn : ∀ m, u ≠ .interface m) {x : Operand} {a : Act} {v : Value} (hx : a.eval x = .iface T1 v) {dst : Option Tmp} {ty xt : TypeId} {pos : String} {after : Array Edge} {guard : Option (Nat × Bool)} (w : World) :
    (execOp a.eval { dst := dst, op := .typeAssert x xt T1 true, type := ty, pos := pos, after := after, guard := guard }).run P w = .ok (.value (.tuple #[v, .bool true])) w := by
  simp only [execOp, hx, Instr.typeAssert, Sem.run_bind, run_underlying ht, Result.andThen_ok]
  cases u with
  | interface m => exact absurd rfl (hn m)
  | _ => simp
theorem valI_repr {d : D} (h : isI d = true) : RepV w g st d (valI d) := by
  cases d with
  | int k m => exact .int k m
  | _ => simp [isI] at h
theorem valOf_repr {d : D} (h : intsD d = true) : RepV w g st d (valOf d) := by
  cases d with
  | int k m => exact .int k m
  | agg l =>
    refine .agg l _ (by simp) fun i d v hd hv => ?_
    rw [List.getElem?_map, hd] at hv
    simp only [Option.map_some, Option.some.injEq] at hv
    subst hv
    exact valI_repr (List.all_eq_true.1 h _ (List.mem_of_getElem? hd))
  | _ => simp [intsD, isI] at h
theorem eval_put {a : Act} {r : Nat} {v : Value} (h : r < a.tmps.size) : (a.put (some r) v).eval (.tmp r) = v := by
  simp [Act.put, Act.eval, h]
theorem eval_put_ne {a : Act} {r s : Nat} {v : Value} (h : r ≠ s) : (a.put (some s) v).eval (.tmp r) = a.eval (.tmp r) := by
  have h' : ¬ s = r := fun e => h e.symm
  simp [Act.put, Act.eval, Array.getD_eq_getD_getElem?, h']
theorem put_size' (a : Act) (r : Nat) (v : Value) : (a.put (some r) v).tmps.size = a.tmps.size := by simp [Act.put]
theorem run_recover {o : Oper} {a : Act} {w : World} (h : o.op = .call { callee := .builtin .recover, args := #[], argTypes := #[] }) : (execOp a.eval o).run P w = .ok .recover w := by
  simp only [execOp, h]
  rfl
theorem start_FR {ds : List D} {vs : List Value} {m : Nat} (hlen : ds.length = vs.length) (hrep : ∀ (i : Nat) d v, ds[i]? = some d → vs[i]? = some v → RepV w g st d v) :
    FR w g st (argF ds) { tmps := vs.toArray ++ Array.replicate (m - vs.toArray.size) undef, defers := [] } ∧ m ≤ (vs.toArray ++ Array.replicate (m - vs.toArray.size) undef).size := by
  refine ⟨?_, by simp; omega⟩
  intro s
  simp only [argF]
  rcases Nat.lt_or_ge s ds.length with h1 | h1
  · have h2 : s < vs.length := by omega
    have h3 : (vs.toArray ++ Array.replicate (m - vs.toArray.size) undef).getD s undef = vs[s] := by
      simp [Array.getD, h2]
      intro h4
      omega
    rw [h3]
    have := hrep s ds[s] vs[s] (by simp [h1]) (by simp [h2])
    simpa [List.getD_eq_getElem?_getD, h1] using this
  · simp [List.getD_eq_getElem?_getD, List.getElem?_eq_none h1]
    exact .junk _
def isConc (P : Program) (t : TypeId) : Bool := match P.underlying t with
  | some (.interface _) | none => false
  | some _ => true
theorem isConc_spec {t : TypeId} (h : isConc P t = true) : ∃ u, P.underlying t = some u ∧ ∀ m, u ≠ .interface m := by
  unfold isConc at h
  split at h
  · cases h
  · cases h
  · rename_i u hne hu
    exact ⟨u, hu, fun m e => hne m e⟩
def isIfc (P : Program) (t : TypeId) : Bool := match P.underlying t with
  | some (.interface _) => true
  | _ => false
theorem isIfc_spec {t : TypeId} (h : isIfc P t = true) : ∃ m, P.underlying t = some (.interface m) := by
  unfold isIfc at h
  split at h
  · rename_i m hm; exact ⟨m, hm⟩
  · cases h
theorem handlerA {f i0 ib i1 iX i2 r e d ok vs t1 ti xt : Nat} {fn : Func} {o0 o1 oX p1 p2 p3 : Oper} {body other : Code} {l : List PI} {xX : Operand} {ty : TypeId}
    (hfn : P.funcs[f]? = some fn) (hname : (fn.name == "runtime.NumGoroutine") = false) (hres : fn.results = #[])
    (hc : fn.body = some (.seq (.region i0 #[o0] false) (.block ib (.seq (.region i1 #[o1] false) (.cond (.tmp e) (.region iX #[oX] false) (.seq (.region i2 #[p1, p2, p3] false) (.cond (.tmp ok) body other)))))))
    (h0 : o0.op = .call { callee := .builtin .recover, args := #[], argTypes := #[] } ∧ o0.dst = some r ∧ o0.guard = none)
    (h1 : o1.op = .binOp .eql ti (.tmp r) (.const .nilIface) ty ∧ o1.dst = some e ∧ o1.guard = none)
    (hX : oX.op = .assign xX ∧ oX.guard = none)
    (k1 : p1.op = .typeAssert (.tmp r) xt t1 true ∧ p1.dst = some d ∧ p1.guard = none)
    (k2 : p2.op = .extract (.tmp d) 1 ∧ p2.dst = some ok ∧ p2.guard = none)
    (k3 : p3.op = .extract (.tmp d) 0 ∧ p3.dst = some vs ∧ p3.guard = none)
    (hlt : r < fn.ntmps ∧ e < fn.ntmps ∧ d < fn.ntmps ∧ ok < fn.ntmps ∧ vs < fn.ntmps) (hne : r ≠ e ∧ d ≠ ok ∧ ok ≠ vs)
    (hti : isIfc P ti = true) (ht1 : isConc P t1 = true) (hb : trBody P fn.ntmps body = some l) :
    HContract P G f (PH.run G ⟨t1, [r, e, d, ok], vs, l⟩) := by
  refine ⟨⟨fn, hfn, by rw [hc]; rfl, hname⟩, ?_⟩
  obtain ⟨ms, hti⟩ := isIfc_spec hti
  obtain ⟨u, ht1, hu1⟩ := isConc_spec ht1
  intro base w g st das ws hS hG hlen hrep
  obtain ⟨hF0, hs0⟩ := start_FR (m := fn.ntmps) hlen hrep
  obtain ⟨h0a, h0b, h0c⟩ := h0
  obtain ⟨h1a, h1b, h1c⟩ := h1
  obtain ⟨hXa, hXc⟩ := hX
  obtain ⟨k1a, k1b, k1c⟩ := k1
  obtain ⟨k2a, k2b, k2c⟩ := k2
  obtain ⟨k3a, k3b, k3c⟩ := k3
  obtain ⟨l1, l2, l3, l4, l5⟩ := hlt
  obtain ⟨n1, n2, n3⟩ := hne
  have hresults : ∀ (tm : Array Value) (w' : World), (results fn tm).run P w' = .ok (.tuple #[]) w' := by
    intro tm w'
    simp [results, hres]
  generalize ha0 : ({ tmps := ws.toArray ++ Array.replicate (fn.ntmps - ws.toArray.size) undef, defers := [] } : Act) = a0 at *
  have hd0 : a0.defers = [] := by rw [← ha0]
  have hs0' : fn.ntmps ≤ a0.tmps.size := by rw [← ha0]; exact hs0
  refine ⟨?_, ?_⟩
  · refine callsDIn_of_wpSIn hfn hc trivial fun c₀ cs hu => ?_
    rw [ha0]
    refine wpSIn_seq (wpSIn_region ?_)
    have hr : recoverD (c₀ :: cs) = none := by simp [recoverD, hu]
    simp only [List.size_toArray, List.length_cons, List.length_nil, Nat.zero_add, List.range_one, wpOpsSIn, List.getElem?_toArray, List.getElem?_cons_zero, Region.wanted, h0c, if_true, run_recover h0a, hr, h0b]
    refine ⟨fun _ _ => trivial, ?_⟩
    refine wpSIn_of_wpIn rfl (wpIn_block (wpIn_seq (wpIn_region_list ?_)))
    have he1 := (run_eqlN (P := P) hti (x := .tmp r) (a := a0.put (some r) .nilIface) (dst := o1.dst) (ty := o1.type) (yt := ty) (pos := o1.pos) (after := o1.after) (guard := o1.guard) w).1 (eval_put (by omega))
    have ho1 : ({ dst := o1.dst, op := .binOp .eql ti (.tmp r) (.const .nilIface) ty, type := o1.type, pos := o1.pos, after := o1.after, guard := o1.guard } : Oper) = o1 := by rw [← h1a]
    rw [ho1] at he1
    simp only [wpListIn, Region.wanted, h1c, if_true]
    refine ⟨fun _ _ => trivial, ?_⟩
    show o1.uponIn _ _ _ _ _ _ ((execOp (a0.put (some r) .nilIface).eval o1).run P w)
    rw [he1, Oper.uponIn_value, h1b]
    show Code.wpIn _ _ _ _ _ _ _
    refine wpIn_cond_true (eval_put (by rw [put_size']; omega)) (wpIn_region_list ?_)
    simp only [wpListIn, Region.wanted, hXc, if_true]
    refine ⟨fun _ _ => trivial, ?_⟩
    have hX2 : (execOp ((a0.put (some r) .nilIface).put (some e) (.bool true)).eval oX).run P w = .ok (.value (((a0.put (some r) .nilIface).put (some e) (.bool true)).eval xX)) w := by
      simp only [execOp, hXa]
      rfl
    show oX.uponIn _ _ _ _ _ _ ((execOp ((a0.put (some r) .nilIface).put (some e) (.bool true)).eval oX).run P w)
    rw [hX2, Oper.uponIn_value]
    refine ⟨?_, .returning, by rw [← hu], _, hresults _ _, rfl, rfl, g, Go1.refl hS⟩
    cases oX.dst <;> simp [Act.put, hd0]
  · intro t dv st' hrun
    unfold PH.run at hrun
    split at hrun
    case isFalse => cases hrun
    rename_i hcnd
    obtain ⟨rfl, hi⟩ := hcnd
    simp only [Option.map_eq_some_iff] at hrun
    obtain ⟨s', hx, rfl⟩ := hrun
    refine callsDIn_of_wpSIn hfn hc trivial fun c₀ cs hu => ?_
    rw [ha0]
    refine wpSIn_seq (wpSIn_region ?_)
    have hr : recoverD (c₀ :: cs) = some (.iface t (valOf dv), { c₀ with mode := .panicking (chainRec t dv) } :: cs) := by simp [recoverD, hu, chainOf, chainRec]
    simp only [List.size_toArray, List.length_cons, List.length_nil, Nat.zero_add, List.range_one, wpOpsSIn, List.getElem?_toArray, List.getElem?_cons_zero, Region.wanted, h0c, if_true, run_recover h0a, hr, h0b]
    refine ⟨fun _ _ => trivial, ?_⟩
    refine wpSIn_of_wpIn rfl (wpIn_block (wpIn_seq (wpIn_region_list ?_)))
    generalize ha1 : a0.put (some r) (.iface t (valOf dv)) = a1
    have hs1 : fn.ntmps ≤ a1.tmps.size := by rw [← ha1, put_size']; exact hs0'
    have hd1 : a1.defers = [] := by rw [← ha1]; simp [Act.put, hd0]
    have hF1 : FR w g st ((argF das).set r .junk) a1 := by rw [← ha1]; exact hF0.put (dst := some r) (fun t e => by cases e; omega) (.junk _)
    have hv1 : a1.eval (.tmp r) = .iface t (valOf dv) := by rw [← ha1]; exact eval_put (by omega)
    have he1 := (run_eqlN (P := P) hti (x := .tmp r) (a := a1) (dst := o1.dst) (ty := o1.type) (yt := ty) (pos := o1.pos) (after := o1.after) (guard := o1.guard) w).2 _ _ hv1
    have ho1 : ({ dst := o1.dst, op := .binOp .eql ti (.tmp r) (.const .nilIface) ty, type := o1.type, pos := o1.pos, after := o1.after, guard := o1.guard } : Oper) = o1 := by rw [← h1a]
    rw [ho1] at he1
    simp only [wpListIn, Region.wanted, h1c, if_true]
    refine ⟨fun _ _ => trivial, ?_⟩
    show o1.uponIn _ _ _ _ _ _ ((execOp a1.eval o1).run P w)
    rw [he1, Oper.uponIn_value, h1b]
    show Code.wpIn _ _ _ _ _ _ _
    generalize ha2 : a1.put (some e) (.bool false) = a2
    have hs2 : fn.ntmps ≤ a2.tmps.size := by rw [← ha2, put_size']; exact hs1
    have hd2 : a2.defers = [] := by rw [← ha2]; simp [Act.put, hd1]
    have hF2 : FR w g st (((argF das).set r .junk).set e .junk) a2 := by rw [← ha2]; exact hF1.put (dst := some e) (fun t e => by cases e; omega) (.junk _)
    have hv2 : a2.eval (.tmp r) = .iface t (valOf dv) := by rw [← ha2, eval_put_ne n1]; exact hv1
    refine wpIn_cond_false (by rw [← ha2]; exact eval_put (by omega)) (wpIn_seq (wpIn_region_list ?_))
    have he3 := run_taHit (P := P) ht1 hu1 (x := .tmp r) hv2 (dst := p1.dst) (ty := p1.type) (xt := xt) (pos := p1.pos) (after := p1.after) (guard := p1.guard) w
    have hp1 : ({ dst := p1.dst, op := .typeAssert (.tmp r) xt t true, type := p1.type, pos := p1.pos, after := p1.after, guard := p1.guard } : Oper) = p1 := by rw [← k1a]
    rw [hp1] at he3
    simp only [wpListIn, Region.wanted, k1c, k2c, k3c, if_true]
    refine ⟨fun _ _ => trivial, ?_⟩
    show p1.uponIn _ _ _ _ _ _ ((execOp a2.eval p1).run P w)
    rw [he3, Oper.uponIn_value, k1b]
    generalize ha3 : a2.put (some d) (.tuple #[valOf dv, .bool true]) = a3
    have hs3 : fn.ntmps ≤ a3.tmps.size := by rw [← ha3, put_size']; exact hs2
    have hd3 : a3.defers = [] := by rw [← ha3]; simp [Act.put, hd2]
    have hF3 : FR w g st ((((argF das).set r .junk).set e .junk).set d .junk) a3 := by rw [← ha3]; exact hF2.put (dst := some d) (fun t e => by cases e; omega) (.junk _)
    have hv3 : a3.eval (.tmp d) = .tuple #[valOf dv, .bool true] := by rw [← ha3]; exact eval_put (by omega)
    refine ⟨fun _ _ => trivial, ?_⟩
    have he4 : (execOp a3.eval p2).run P w = .ok (.value (.bool true)) w := by
      simp only [execOp, k2a, hv3]
      rfl
    show p2.uponIn _ _ _ _ _ _ ((execOp a3.eval p2).run P w)
    rw [he4, Oper.uponIn_value, k2b]
    generalize ha4 : a3.put (some ok) (.bool true) = a4
    have hs4 : fn.ntmps ≤ a4.tmps.size := by rw [← ha4, put_size']; exact hs3
    have hd4 : a4.defers = [] := by rw [← ha4]; simp [Act.put, hd3]
    have hF4 : FR w g st (((((argF das).set r .junk).set e .junk).set d .junk).set ok .junk) a4 := by rw [← ha4]; exact hF3.put (dst := some ok) (fun t e => by cases e; omega) (.junk _)
    have hv4 : a4.eval (.tmp d) = .tuple #[valOf dv, .bool true] := by rw [← ha4, eval_put_ne n2]; exact hv3
    have hv4' : a4.eval (.tmp ok) = .bool true := by rw [← ha4]; exact eval_put (by omega)
    refine ⟨fun _ _ => trivial, ?_⟩
    have he5 : (execOp a4.eval p3).run P w = .ok (.value (valOf dv)) w := by
      simp only [execOp, k3a, hv4]
      rfl
    show p3.uponIn _ _ _ _ _ _ ((execOp a4.eval p3).run P w)
    rw [he5, Oper.uponIn_value, k3b]
    show Code.wpIn _ _ _ _ _ _ _
    refine wpIn_cond_true (by rw [eval_put_ne n3]; exact hv4') ?_
    refine body_sim (w0 := w) (g0 := g) (st0 := st) (dl := []) body l _ s' _ w _ hb hx ⟨g, Go1.refl hS, ?_, hG, ⟨[], by simp [Act.put, hd4], trivial⟩, by rw [put_size']; exact hs4⟩ ?_
    · exact hF4.put (dst := some vs) (fun t e => by cases e; omega) (valOf_repr hi)
    · rintro a' w' ⟨g', h'⟩ hd'
      refine ⟨by rw [hd']; simp [Act.put, hd4], .panicking (chainRec t dv), rfl, _, hresults _ _, rfl, rfl, g', h'.go1⟩
end
end Go.Proofs.Ytgppecaeegaooaa.PI
