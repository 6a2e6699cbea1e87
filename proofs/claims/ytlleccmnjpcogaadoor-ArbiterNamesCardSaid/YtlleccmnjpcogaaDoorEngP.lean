/-
  Which pure operations may change places, and that they then come to the same.
  Conditions: none; these are definitions and lemmas.
-/
import Derived.Test.YtlleccmnjpcogaaDoorEngO
set_option linter.unusedVariables false
set_option linter.unusedSimpArgs false
namespace Go.Proofs.YtlleccmnjpcogaaDoor.PI
open Go Go.RowKit
def POp.cls:POp → Nat
  | .mov _ | .pick _ _ _ | .bld _ _ | .bin _ _ _ | .beq _ _ _ | .aeq _ _ _ _ | .un _ _ | .sliceA _ _ _ _ _ _ | .fldv _ _ _ _ | .idx _ _ | .idxV _ _ _ _ _ | .lenA _ | .mm _ _ _ | .mm3 _ _ _ _ | .ext _ _ | .mkclo _ _ => 0
  | .conv c _ => match c with
    | .str => 1
    | _ => 0
  | .load _ _ _ | .nilc _ | .slice _ _ _ _ _ | .fld _ _ | .idxS _ _ _ | .idxA _ _ _ _ | .len _ _ | .mapget _ _ _ _ _ _ | .rcall _ _ => 1
  | .bslc _ _ | .call _ _ => 2
  | .box _ | .stor _ _ _ | .mkslc _ _ _ _ _ | .app _ _ _ _ | .icall _ _ | .mcall _ _ | .callv _ _ | .mkmap _ | .mapup _ _ _ _ _ | .cpy _ _ _ | .fail => 3
def PA.slot:PA → List Nat
  | .s n => [n]
  | _ => []
def PI.reads (i:PI):List Nat := i.op.args.flatMap PA.slot ++ (optL i.guard).map (·.1)
def POp.push:POp → Bool
  | .box _ | .mkslc _ _ _ _ _ => true
  | _ => false
def PI.apart (x y:PI):Bool :=
  (match x.dst with
   | some d => !(y.reads.contains d) && y.dst != some d
   | none => true) &&
  (match y.dst with
   | some d => !(x.reads.contains d)
   | none => true) &&
  (x.op.cls == 0 || y.op.cls == 0 || (decide (x.op.cls ≤ 2) && (decide (y.op.cls ≤ 2) || y.op.push)))
theorem map_congr_mem {α β:Type} {f g:α → β}:∀ {l:List α},(∀ x ∈ l,f x = g x) → l.map f = l.map g := fun h => List.map_congr_left h
theorem exec_congr {T:Tbl} {ρ ρ':PA → D} {st:St} (p:POp) (h:∀ x ∈ p.args,ρ x = ρ' x):p.exec T ρ st = p.exec T ρ' st := by
  have opt:∀ (o:Option PA),(∀ x ∈ optL o,ρ x = ρ' x) → o.map ρ = o.map ρ' := by
    intro o ho
    cases o with
    | none => rfl
    | some x => simp [ho x (by simp [optL])]
  cases p with
  | bld zero parts =>
    have:(parts.map fun p => (p.1,p.2.1,ρ p.2.2)) = parts.map fun p => (p.1,p.2.1,ρ' p.2.2) := map_congr_mem fun q hq => by
      rw [h q.2.2 (by simp only [POp.args,List.mem_map]; exact ⟨q,hq,rfl⟩)]
    simp only [POp.exec,this]
  | bslc sz parts =>
    have:parts.map ρ = parts.map ρ' := map_congr_mem fun q hq => h q hq
    simp only [POp.exec,this]
  | call f args =>
    have:args.map ρ = args.map ρ' := map_congr_mem fun q hq => h q hq
    simp only [POp.exec,this]
  | icall f args =>
    have:args.map ρ = args.map ρ' := map_congr_mem fun q hq => h q hq
    simp only [POp.exec,this]
  | mcall f args =>
    have:args.map ρ = args.map ρ' := map_congr_mem fun q hq => h q hq
    simp only [POp.exec,this]
  | rcall f args =>
    have:args.map ρ = args.map ρ' := map_congr_mem fun q hq => h q hq
    simp only [POp.exec,this]
  | mkclo f args =>
    have:args.map ρ = args.map ρ' := map_congr_mem fun q hq => h q hq
    simp only [POp.exec,this]
  | callv x args =>
    have:args.map ρ = args.map ρ' := map_congr_mem fun q hq => h q (by simp [POp.args,hq])
    simp only [POp.exec,this,h x (by simp [POp.args])]
  | slice sz x lo hi mx =>
    simp only [POp.args,List.mem_cons,List.mem_append] at h
    simp only [POp.exec,h x (.inl rfl),opt lo (fun y hy => h y (.inr (.inl (.inl hy)))),opt hi (fun y hy => h y (.inr (.inl (.inr hy)))),opt mx (fun y hy => h y (.inr (.inr hy)))]
  | sliceA n sz ag x lo hi =>
    simp only [POp.args,List.mem_cons,List.mem_append] at h
    simp only [POp.exec,h x (.inl rfl),opt lo (fun y hy => h y (.inr (.inl hy))),opt hi (fun y hy => h y (.inr (.inr hy)))]
  | _ =>
    simp only [POp.args,List.mem_cons,List.not_mem_nil,or_false,forall_eq_or_imp,forall_eq] at h
    simp only [POp.exec,h]
abbrev lend1 (k:Nat) (st:St):St := st.modify k fun o => { o with lent := true }
theorem live_lend1 (st:St) (k key tot:Nat):live (lend1 k st) key tot = live st key tot := by
  unfold live
  rw [modify_get]
  cases st[key]? with
  | none => rfl
  | some o => by_cases e:k = key <;> simp [e]
theorem sLen_lend1 (st:St) (k:Nat) (d:D):sLen (lend1 k st) d = sLen st d := by
  cases d <;> simp only [sLen,live_lend1]
theorem pconv_lend1 (st:St) (k:Nat) (c:PConv) (d:D):pconv (lend1 k st) c d = pconv st c d := by
  cases c <;> cases d <;> simp only [pconv,rowEls_lend1]
theorem pslice_lend1 (st:St) (k sz:Nat) (x:D) (lo hi mx:Option D):pslice (lend1 k st) sz x lo hi mx = pslice st sz x lo hi mx := by
  cases x with
  | row key tot off len =>
    simp only [pslice,modify_get]
    cases st[key]? with
    | none => rfl
    | some o => by_cases e:k = key <;> simp [e]
  | _ => simp only [pslice]
theorem pidxS_lend1 (st:St) (k sz:Nat) (x i:D):pidxS (lend1 k st) sz x i = pidxS st sz x i := by
  unfold pidxS
  cases natOf i with
  | none => rfl
  | some j =>
    cases x with
    | row key tot off len =>
      simp only [modify_get]
      cases st[key]? with
      | none => rfl
      | some o => by_cases e:k = key <;> simp [e]
    | _ => rfl
theorem pfld_lend1 (st:St) (k off:Nat) (x:D):pfld (lend1 k st) off x = pfld st off x := by
  cases x <;> simp only [pfld,live_lend1]
theorem pidxA_lend1 (st:St) (k n sz:Nat) (x i:D):pidxA (lend1 k st) n sz x i = pidxA st n sz x i := by
  simp only [pidxA,pfld_lend1]
theorem pload_lend1 (st:St) (k n:Nat) (ag:Bool) (p:D):pload (lend1 k st) n ag p = pload st n ag p := by
  cases p with
  | ptr key off =>
    simp only [pload,modify_get]
    cases st[key]? with
    | none => rfl
    | some o => by_cases e:k = key <;> simp [e]
  | rptr key tot i off =>
    simp only [pload,modify_get]
    cases st[key]? with
    | none => rfl
    | some o => by_cases e:k = key <;> simp [e]
  | _ => simp only [pload]
theorem pmapget_lend1 (st:St) (k0 sz:Nat) (ks:List Nat) (ok:Bool) (zero m k:D):pmapget (lend1 k0 st) sz ks ok zero m k = pmapget st sz ks ok zero m k := by
  cases m with
  | mapv key =>
    simp only [pmapget,modify_get]
    cases st[key]? with
    | none => rfl
    | some o => by_cases e:k0 = key <;> simp [e,Obj.isMap]
  | _ => simp only [pmapget]
theorem lend1_comm (a b:Nat) (st:St):lend1 a (lend1 b st) = lend1 b (lend1 a st) := by
  apply List.ext_getElem?
  intro i
  simp only [modify_get]
  cases st[i]? with
  | none => rfl
  | some o => by_cases e:a = i <;> by_cases e':b = i <;> simp [e,e']
theorem lend_lend1 (a:Nat):∀ (ks:List Nat) (st:St),lend ks (lend1 a st) = lend1 a (lend ks st)
  | [],_ => rfl
  | k :: r,st => by
    show lend r (lend1 k (lend1 a st)) = lend1 a (lend r (lend1 k st))
    rw [lend1_comm,lend_lend1 a r]
theorem lend_comm:∀ (ks qs:List Nat) (st:St),lend ks (lend qs st) = lend qs (lend ks st)
  | [],_,_ => rfl
  | k :: r,qs,st => by
    show lend r (lend1 k (lend qs st)) = lend qs (lend r (lend1 k st))
    rw [← lend_lend1,lend_comm r qs]
theorem get_lend1 (st:St) (k key:Nat):((lend1 k st)[key]?).map Obj.see = (st[key]?).map Obj.see := by
  rw [modify_get]
  cases st[key]? with
  | none => rfl
  | some o => by_cases e:k = key <;> simp [e,Obj.see]
theorem sees_lend1 (st:St) (k:Nat):∀ l:List Nat,sees (lend1 k st) l = sees st l
  | [] => rfl
  | a :: l => by simp only [sees,get_lend1,sees_lend1 st k l]
theorem isSome_lend1 (st:St) (k key:Nat):((lend1 k st)[key]?).isSome = (st[key]?).isSome := by
  rw [modify_get]
  cases st[key]? <;> rfl
theorem reads1_lend1 (st:St) (k:Nat) (sp:List D → List (Option (Bool × Nat × List D)) → Option D) (ds:List D):reads1 sp ds (lend1 k st) = reads1 sp ds st := by
  unfold reads1
  simp only [isSome_lend1,sees_lend1]
theorem exec_lend1 {T:Tbl} {ρ:PA → D} (p:POp) (hc:p.cls ≤ 2) (k:Nat) (st:St):p.exec T ρ (lend1 k st) = (p.exec T ρ st).map fun r => (r.1,lend1 k r.2) := by
  have mp:∀ {α:Type} (o:Option α) (f:α → D),(o.map fun x => (f x,lend1 k st)) = (o.map fun x => (f x,st)).map fun r => (r.1,lend1 k r.2) := by
    intro α o f
    cases o <;> rfl
  cases p with
  | mov x => rfl
  | pick c x y => simp only [POp.exec]; split <;> rfl
  | box x => simp [POp.cls] at hc
  | bld zero parts => simp only [POp.exec]; exact mp _ _
  | bslc sz parts =>
    simp only [POp.exec,imms_lend1]
    split
    · split
      · simp only [Option.map_some,lend_lend1]
      · rfl
    · rfl
  | load n ag x => simp only [POp.exec,pload_lend1]; exact mp _ _
  | stor n p x => simp [POp.cls] at hc
  | nilc x =>
    simp only [POp.exec,live_lend1]
    split
    · rfl
    · rfl
    · split <;> rfl
    · rfl
  | bin op x y => simp only [POp.exec]; exact mp _ _
  | beq neg x y => simp only [POp.exec]; exact mp _ _
  | aeq ks neg x y => simp only [POp.exec]; exact mp _ _
  | un op x => simp only [POp.exec]; exact mp _ _
  | conv c x => simp only [POp.exec,pconv_lend1]; exact mp _ _
  | mkslc sz bytes zero l c => simp [POp.cls] at hc
  | slice sz x lo hi mx => simp only [POp.exec,pslice_lend1]; exact mp _ _
  | sliceA n sz ag x lo hi => simp only [POp.exec]; exact mp _ _
  | fld off x => simp only [POp.exec,pfld_lend1]; exact mp _ _
  | fldv off n ag x => simp only [POp.exec]; exact mp _ _
  | idxS sz x i => simp only [POp.exec,pidxS_lend1]; exact mp _ _
  | idxA n sz x i => simp only [POp.exec,pidxA_lend1]; exact mp _ _
  | idx x i => simp only [POp.exec]; exact mp _ _
  | idxV l sz ag x i => simp only [POp.exec]; exact mp _ _
  | len str x =>
    simp only [POp.exec,sLen_lend1]
    split
    · cases sLen st (ρ x) <;> rfl
    · rfl
  | lenA n => rfl
  | app sz bytes s x => simp [POp.cls] at hc
  | mm mx x y => simp only [POp.exec]; split <;> rfl
  | mm3 mx x y z => simp only [POp.exec]; split <;> rfl
  | rcall f args =>
    simp only [POp.exec,reads1_lend1]
    split
    · exact mp _ _
    · rfl
  | icall f args => simp [POp.cls] at hc
  | mcall f args => simp [POp.cls] at hc
  | fail => simp [POp.cls] at hc
  | mkmap sz => simp [POp.cls] at hc
  | mapup sz ks m k v => simp [POp.cls] at hc
  | cpy sz d s => simp [POp.cls] at hc
  | mapget sz ks ok zero m k => simp only [POp.exec,pmapget_lend1]; exact mp _ _
  | callv x args => simp [POp.cls] at hc
  | mkclo f args => rfl
  | call f args =>
    simp only [POp.exec,imms_lend1]
    split
    · split
      · split
        · rfl
        · simp only [Option.map_some,lend_lend1]
      · rfl
    · rfl
  | ext x i =>
    simp only [POp.exec]
    split
    · exact mp _ id
    · rfl
theorem exec_lend {T:Tbl} {ρ:PA → D} (p:POp) (hc:p.cls ≤ 2):∀ (ks:List Nat) (st:St),p.exec T ρ (lend ks st) = (p.exec T ρ st).map fun r => (r.1,lend ks r.2)
  | [],st => by cases h:p.exec T ρ st <;> simp [lend,h]
  | k :: r,st => by
    show p.exec T ρ (lend r (lend1 k st)) = _
    rw [exec_lend p hc r,exec_lend1 p hc k st]
    cases p.exec T ρ st <;> rfl
theorem exec_form {T:Tbl} {ρ:PA → D} {st st':St} {d:D} (p:POp) (hc:p.cls ≤ 2) (h:p.exec T ρ st = some (d,st')):∃ ks,st' = lend ks st := by
  have mp:∀ {α:Type} (o:Option α) (f:α → D),(o.map fun x => (f x,st)) = some (d,st') → ∃ ks,st' = lend ks st := by
    intro α o f h
    simp only [Option.map_eq_some_iff,Prod.mk.injEq] at h
    obtain ⟨_,_,_,rfl⟩ := h
    exact ⟨[],rfl⟩
  cases p with
  | mov x => simp only [POp.exec,Option.some.injEq,Prod.mk.injEq] at h; exact ⟨[],h.2.symm⟩
  | pick c x y =>
    simp only [POp.exec] at h
    split at h
    · simp only [Option.some.injEq,Prod.mk.injEq] at h; exact ⟨[],h.2.symm⟩
    · cases h
  | box x => simp [POp.cls] at hc
  | bld zero parts => simp only [POp.exec] at h; exact mp _ _ h
  | bslc sz parts =>
    simp only [POp.exec] at h
    split at h
    · split at h
      · simp only [Option.some.injEq,Prod.mk.injEq] at h; exact ⟨_,h.2.symm⟩
      · cases h
    · cases h
  | load n ag x => simp only [POp.exec] at h; exact mp _ _ h
  | stor n p x => simp [POp.cls] at hc
  | nilc x =>
    simp only [POp.exec] at h
    split at h
    · simp only [Option.some.injEq,Prod.mk.injEq] at h; exact ⟨[],h.2.symm⟩
    · simp only [Option.some.injEq,Prod.mk.injEq] at h; exact ⟨[],h.2.symm⟩
    · split at h
      · simp only [Option.some.injEq,Prod.mk.injEq] at h; exact ⟨[],h.2.symm⟩
      · cases h
    · cases h
  | bin op x y => simp only [POp.exec] at h; exact mp _ _ h
  | beq neg x y => simp only [POp.exec] at h; exact mp _ _ h
  | aeq ks neg x y => simp only [POp.exec] at h; exact mp _ _ h
  | un op x => simp only [POp.exec] at h; exact mp _ _ h
  | conv c x => simp only [POp.exec] at h; exact mp _ _ h
  | mkslc sz bytes zero l c => simp [POp.cls] at hc
  | slice sz x lo hi mx => simp only [POp.exec] at h; exact mp _ _ h
  | sliceA n sz ag x lo hi => simp only [POp.exec] at h; exact mp _ _ h
  | fld off x => simp only [POp.exec] at h; exact mp _ _ h
  | fldv off n ag x => simp only [POp.exec] at h; exact mp _ _ h
  | idxS sz x i => simp only [POp.exec] at h; exact mp _ _ h
  | idxA n sz x i => simp only [POp.exec] at h; exact mp _ _ h
  | idx x i => simp only [POp.exec] at h; exact mp _ _ h
  | idxV l sz ag x i => simp only [POp.exec] at h; exact mp _ _ h
  | len str x =>
    simp only [POp.exec] at h
    split at h
    · exact mp _ (fun n:Nat => D.int .i64 (n:Int)) h
    · cases h
  | lenA n => simp only [POp.exec,Option.some.injEq,Prod.mk.injEq] at h; exact ⟨[],h.2.symm⟩
  | app sz bytes s x => simp [POp.cls] at hc
  | mm mx x y =>
    simp only [POp.exec] at h
    split at h
    · simp only [Option.some.injEq,Prod.mk.injEq] at h; exact ⟨[],h.2.symm⟩
    · cases h
  | mm3 mx x y z =>
    simp only [POp.exec] at h
    split at h
    · simp only [Option.some.injEq,Prod.mk.injEq] at h; exact ⟨[],h.2.symm⟩
    · cases h
  | rcall f args =>
    simp only [POp.exec] at h
    split at h
    · exact mp _ id (by simpa using h)
    · cases h
  | icall f args => simp [POp.cls] at hc
  | mcall f args => simp [POp.cls] at hc
  | fail => simp [POp.cls] at hc
  | mkmap sz => simp [POp.cls] at hc
  | mapup sz ks m k v => simp [POp.cls] at hc
  | cpy sz d s => simp [POp.cls] at hc
  | mapget sz ks ok zero m k => simp only [POp.exec] at h; exact mp _ _ h
  | callv x args => simp [POp.cls] at hc
  | mkclo f args => simp only [POp.exec,Option.some.injEq,Prod.mk.injEq] at h; exact ⟨[],h.2.symm⟩
  | call f args =>
    simp only [POp.exec] at h
    split at h
    · split at h
      · simp only [Option.some.injEq,Prod.mk.injEq] at h
        obtain ⟨_,rfl⟩ := h
        split
        · exact ⟨[],rfl⟩
        · exact ⟨_,rfl⟩
      · cases h
    · cases h
  | ext x i =>
    simp only [POp.exec] at h
    split at h
    · exact mp _ id h
    · cases h
theorem exec_pure {T:Tbl} {ρ:PA → D} {st st':St} {d:D} (p:POp) (hc:p.cls = 0) (h:p.exec T ρ st = some (d,st')):st' = st ∧ ∀ st2,p.exec T ρ st2 = some (d,st2) := by
  have mp:∀ {α:Type} (o:Option α) (f:α → D),(o.map fun x => (f x,st)) = some (d,st') → st' = st ∧ ∀ st2:St,(o.map fun x => (f x,st2)) = some (d,st2) := by
    intro α o f h
    simp only [Option.map_eq_some_iff,Prod.mk.injEq] at h
    obtain ⟨x,hx,h1,rfl⟩ := h
    exact ⟨rfl,fun st2 => by rw [hx]; simp [h1]⟩
  cases p with
  | mov x => simp only [POp.exec,Option.some.injEq,Prod.mk.injEq] at h ⊢; exact ⟨h.2.symm,fun st2 => ⟨h.1,trivial⟩⟩
  | pick c x y =>
    simp only [POp.exec] at h ⊢
    split at h
    · rename_i b hb
      simp only [Option.some.injEq,Prod.mk.injEq] at h
      exact ⟨h.2.symm,fun st2 => by rw [← h.1]⟩
    · cases h
  | bld zero parts => simp only [POp.exec] at h ⊢; exact mp _ _ h
  | bin op x y => simp only [POp.exec] at h ⊢; exact mp _ _ h
  | beq neg x y => simp only [POp.exec] at h ⊢; exact mp _ _ h
  | aeq ks neg x y => simp only [POp.exec] at h ⊢; exact mp _ _ h
  | un op x => simp only [POp.exec] at h ⊢; exact mp _ _ h
  | conv c x =>
    cases c with
    | str => simp [POp.cls] at hc
    | int k =>
      have e:∀ st2,pconv st2 (.int k) (ρ x) = pconv st (.int k) (ρ x) := fun st2 => by cases ρ x <;> simp only [pconv]
      simp only [POp.exec] at h ⊢
      obtain ⟨h1,h2⟩ := mp _ _ h
      exact ⟨h1,fun st2 => by rw [e]; exact h2 st2⟩
    | bytes =>
      have e:∀ st2,pconv st2 .bytes (ρ x) = pconv st .bytes (ρ x) := fun st2 => by cases ρ x <;> simp only [pconv]
      simp only [POp.exec] at h ⊢
      obtain ⟨h1,h2⟩ := mp _ _ h
      exact ⟨h1,fun st2 => by rw [e]; exact h2 st2⟩
    | same =>
      have e:∀ st2,pconv st2 .same (ρ x) = pconv st .same (ρ x) := fun st2 => by cases ρ x <;> simp only [pconv]
      simp only [POp.exec] at h ⊢
      obtain ⟨h1,h2⟩ := mp _ _ h
      exact ⟨h1,fun st2 => by rw [e]; exact h2 st2⟩
  | sliceA n sz ag x lo hi => simp only [POp.exec] at h ⊢; exact mp _ _ h
  | fldv off n ag x => simp only [POp.exec] at h ⊢; exact mp _ _ h
  | idx x i => simp only [POp.exec] at h ⊢; exact mp _ _ h
  | idxV l sz ag x i => simp only [POp.exec] at h ⊢; exact mp _ _ h
  | mkclo f args => simp only [POp.exec,Option.some.injEq,Prod.mk.injEq] at h ⊢; exact ⟨h.2.symm,fun st2 => ⟨h.1,trivial⟩⟩
  | lenA n => simp only [POp.exec,Option.some.injEq,Prod.mk.injEq] at h ⊢; exact ⟨h.2.symm,fun st2 => ⟨h.1,trivial⟩⟩
  | mm mx x y =>
    simp only [POp.exec] at h ⊢
    split at h
    · simp only [Option.some.injEq,Prod.mk.injEq] at h
      exact ⟨h.2.symm,fun st2 => by rw [← h.1]⟩
    · cases h
  | mm3 mx x y z =>
    simp only [POp.exec] at h ⊢
    split at h
    · simp only [Option.some.injEq,Prod.mk.injEq] at h
      exact ⟨h.2.symm,fun st2 => by rw [← h.1]⟩
    · cases h
  | ext x i =>
    simp only [POp.exec] at h ⊢
    split at h
    · exact mp _ id h
    · cases h
  | _ => simp [POp.cls] at hc
theorem put_comm (fr:Frame) {x y:Option Nat} (u v:D) (h:∀ d,x = some d → y ≠ some d):(fr.put x u).put y v = (fr.put y v).put x u := by
  cases x with
  | none => rfl
  | some a =>
    cases y with
    | none => rfl
    | some b =>
      have hne:a ≠ b := fun e => h a rfl (e ▸ rfl)
      funext t
      simp only [Frame.put,Frame.set]
      by_cases e1:t = a <;> by_cases e2:t = b <;> simp_all
theorem get_push {st:St} {k:Nat} {a:Obj} (o:Obj) (h:st[k]? = some a):(st ++ [o])[k]? = some a := by
  rw [List.getElem?_append_left (List.getElem?_eq_some_iff.1 h).1]; exact h
theorem rowEls_push {st:St} {key tot off len:Nat} {r:Nat × List D} (o:Obj) (h:rowEls st key tot off len = some r):rowEls (st ++ [o]) key tot off len = some r := by
  unfold rowEls at h ⊢
  split at h
  · rename_i a ha
    rw [get_push o ha]; exact h
  · cases h
theorem bslI_push {st:St} {key off n sz:Nat} {ag:Bool} {r:List D} (o:Obj) (h:bslI st key off n sz ag = some r):bslI (st ++ [o]) key off n sz ag = some r := by
  unfold bslI bslEls at h ⊢
  cases hk:st[key]? with
  | none => simp [hk] at h
  | some a =>
    rw [get_push o hk]
    rw [hk] at h
    exact h
theorem imm1_push {st:St} {d y:D} (o:Obj) (h:imm1 st d = some y):imm1 (st ++ [o]) d = some y := by
  cases d <;> simp only [imm1] at h ⊢ <;> first
    | exact h
    | (simp only [Option.map_eq_some_iff] at h ⊢
       obtain ⟨r,h1,h2⟩ := h
       exact ⟨r,rowEls_push o h1,h2⟩)
    | (simp only [Option.map_eq_some_iff] at h ⊢
       obtain ⟨r,h1,h2⟩ := h
       exact ⟨r,bslI_push o h1,h2⟩)
theorem immL_push {st:St} (o:Obj):∀ {ds ys:List D},immL st ds = some ys → immL (st ++ [o]) ds = some ys
  | [],ys,h => h
  | d :: l,ys,h => by
    simp only [immL] at h ⊢
    split at h
    · rename_i x y hx hy
      rw [imm1_push o hx,immL_push o hy]; exact h
    · cases h
theorem imm_push {st:St} {d y:D} (o:Obj) (h:imm st d = some y):imm (st ++ [o]) d = some y := by
  cases d <;> simp only [imm] at h ⊢ <;> first
    | exact imm1_push o h
    | (simp only [Option.map_eq_some_iff] at h ⊢
       obtain ⟨r,h1,h2⟩ := h
       exact ⟨r,immL_push o h1,h2⟩)
    | (cases h; done)
theorem imms_push {st:St} (o:Obj):∀ {ds ys:List D},imms st ds = some ys → imms (st ++ [o]) ds = some ys
  | [],ys,h => h
  | d :: l,ys,h => by
    simp only [imms] at h ⊢
    split at h
    · rename_i x y hx hy
      rw [imm_push o hx,imms_push o hy]; exact h
    · cases h
theorem live_push {st:St} {key tot:Nat} (o:Obj) (h:live st key tot = true):live (st ++ [o]) key tot = true := by
  unfold live at h ⊢
  split at h
  · rename_i a ha
    rw [get_push o ha]; exact h
  · cases h
theorem sLen_push {st:St} {d:D} {n:Nat} (o:Obj) (h:sLen st d = some n):sLen (st ++ [o]) d = some n := by
  cases d <;> simp only [sLen] at h ⊢ <;> first
    | exact h
    | (split at h
       · rename_i hl
         rw [live_push o hl]; simpa using h
       · cases h)
theorem pconv_push {st:St} {c:PConv} {d y:D} (o:Obj) (h:pconv st c d = some y):pconv (st ++ [o]) c d = some y := by
  cases c <;> cases d <;> simp only [pconv] at h ⊢ <;> first
    | exact h
    | (split at h
       · rename_i sz els hr
         rw [rowEls_push o hr]; exact h
       · cases h)
theorem pslice_push {st:St} {sz:Nat} {x y:D} {lo hi mx:Option D} (o:Obj) (h:pslice st sz x lo hi mx = some y):pslice (st ++ [o]) sz x lo hi mx = some y := by
  cases x with
  | row key tot off len =>
    simp only [pslice] at h ⊢
    split at h
    · rename_i a ha
      rw [get_push o ha]; exact h
    · cases h
  | _ => simpa only [pslice] using h
theorem pidxS_push {st:St} {sz:Nat} {x i y:D} (o:Obj) (h:pidxS st sz x i = some y):pidxS (st ++ [o]) sz x i = some y := by
  unfold pidxS at h ⊢
  cases hn:natOf i with
  | none => simp [hn] at h
  | some j =>
    rw [hn] at h
    cases x with
    | row key tot off len =>
      simp only at h ⊢
      split at h
      · rename_i a ha
        rw [get_push o ha]; exact h
      · cases h
    | _ => exact h
theorem pfld_push {st:St} {off:Nat} {x y:D} (o:Obj) (h:pfld st off x = some y):pfld (st ++ [o]) off x = some y := by
  cases x <;> simp only [pfld] at h ⊢ <;> first
    | exact h
    | (split at h
       · rename_i hl
         rw [live_push o hl]; simpa using h
       · cases h)
theorem pidxA_push {st:St} {n sz:Nat} {x i y:D} (o:Obj) (h:pidxA st n sz x i = some y):pidxA (st ++ [o]) n sz x i = some y := by
  unfold pidxA at h ⊢
  cases hn:natOf i with
  | none => simp [hn] at h
  | some j =>
    rw [hn] at h
    simp only at h ⊢
    split at h
    · rename_i hj
      rw [if_pos hj]; exact pfld_push o h
    · cases h
theorem pload_push {st:St} {n:Nat} {ag:Bool} {p y:D} (o:Obj) (h:pload st n ag p = some y):pload (st ++ [o]) n ag p = some y := by
  unfold pload at h ⊢
  split at h
  · cases h
  · rename_i hc
    rw [if_neg hc]
    cases p with
    | ptr key off =>
      simp only at h ⊢
      split at h
      · rename_i a ha
        rw [get_push o ha]; exact h
      · cases h
    | rptr key tot i off =>
      simp only at h ⊢
      split at h
      · rename_i a ha
        rw [get_push o ha]; exact h
      · cases h
    | _ => exact h
theorem pmapget_push {st:St} {sz:Nat} {ks:List Nat} {ok:Bool} {zero m k y:D} (o:Obj) (h:pmapget st sz ks ok zero m k = some y):pmapget (st ++ [o]) sz ks ok zero m k = some y := by
  unfold pmapget at h ⊢
  cases m with
  | mapv key =>
    simp only at h ⊢
    split at h
    · rename_i a ha
      rw [get_push o ha]; exact h
    · cases h
  | _ => exact h
theorem imm1_keys {st:St} {d y:D} (h:imm1 st d = some y):∀ k ∈ key1 d,k < st.length := by
  cases d with
  | row key tot off len =>
    simp only [imm1,Option.map_eq_some_iff] at h
    obtain ⟨r,h1,_⟩ := h
    unfold rowEls at h1
    split at h1
    · rename_i a ha
      intro k hk
      simp only [key1,List.mem_singleton] at hk
      subst hk
      exact (List.getElem?_eq_some_iff.1 ha).1
    · cases h1
  | bsl key off n sz ag =>
    simp only [imm1,Option.map_eq_some_iff] at h
    obtain ⟨r,h1,_⟩ := h
    intro k hk
    simp only [key1,List.mem_singleton] at hk
    subst hk
    unfold bslI bslEls at h1
    cases ha:st[k]? with
    | none => simp [ha] at h1
    | some a => exact (List.getElem?_eq_some_iff.1 ha).1
  | _ => intro k hk; simp [key1] at hk
theorem immL_keys {st:St}:∀ {ds ys:List D},immL st ds = some ys → ∀ k ∈ ds.flatMap key1,k < st.length
  | [],_,_ => fun k hk => by simp at hk
  | d :: l,ys,h => by
    simp only [immL] at h
    split at h
    · rename_i x y hx hy
      intro k hk
      simp only [List.flatMap_cons,List.mem_append] at hk
      rcases hk with hk | hk
      · exact imm1_keys hx k hk
      · exact immL_keys hy k hk
    · cases h
theorem imm_keys {st:St} {d y:D} (h:imm st d = some y):∀ k ∈ keys d,k < st.length := by
  cases d with
  | agg l =>
    simp only [imm,Option.map_eq_some_iff] at h
    obtain ⟨r,h1,_⟩ := h
    exact immL_keys h1
  | tup l => simp [imm] at h
  | _ => simp only [imm] at h; exact imm1_keys h
theorem imms_keys {st:St}:∀ {ds ys:List D},imms st ds = some ys → ∀ k ∈ ds.flatMap keys,k < st.length
  | [],_,_ => fun k hk => by simp at hk
  | d :: l,ys,h => by
    simp only [imms] at h
    split at h
    · rename_i x y hx hy
      intro k hk
      simp only [List.flatMap_cons,List.mem_append] at hk
      rcases hk with hk | hk
      · exact imm_keys hx k hk
      · exact imms_keys hy k hk
    · cases h
theorem lend_length:∀ (ks:List Nat) (st:St),(lend ks st).length = st.length
  | [],_ => rfl
  | k :: r,st => by rw [lend,lend_length r,List.length_modify]
theorem lend_push {o:Obj}:∀ (ks:List Nat) (st:St),(∀ k ∈ ks,k < st.length) → lend ks (st ++ [o]) = lend ks st ++ [o]
  | [],_,_ => rfl
  | k :: r,st,h => by
    have h1:(st ++ [o]).modify k (fun o => { o with lent := true }) = st.modify k (fun o => { o with lent := true }) ++ [o] := by
      apply List.ext_getElem?
      intro i
      have hk := h k (by simp)
      rw [List.getElem?_modify]
      rcases Nat.lt_or_ge i st.length with hi | hi
      · rw [List.getElem?_append_left hi,List.getElem?_append_left (by rw [List.length_modify]; exact hi),List.getElem?_modify]
      · rw [List.getElem?_append_right hi,List.getElem?_append_right (by rw [List.length_modify]; exact hi),List.length_modify]
        have:¬ k = i := by omega
        simp [this]
    rw [lend,lend,h1,lend_push r _ (fun q hq => by rw [List.length_modify]; exact h q (by simp [hq]))]
theorem sees_push {st:St} (o:Obj):∀ {l:List Nat},l.all (fun k => (st[k]?).isSome) = true → sees (st ++ [o]) l = sees st l
  | [],_ => rfl
  | a :: l,h => by
    simp only [List.all_cons,Bool.and_eq_true] at h
    obtain ⟨x,hx⟩ := Option.isSome_iff_exists.1 h.1
    simp only [sees,get_push o hx,hx,sees_push o h.2]
theorem reads1_push {st:St} (o:Obj) {sp:List D → List (Option (Bool × Nat × List D)) → Option D} {ds:List D} {d:D} (h:reads1 sp ds st = some d):reads1 sp ds (st ++ [o]) = some d := by
  unfold reads1 at h ⊢
  split at h
  case isFalse => cases h
  rename_i hc
  rw [if_pos (by
    rw [List.all_eq_true] at hc ⊢
    intro k hk
    obtain ⟨x,hx⟩ := Option.isSome_iff_exists.1 (hc k hk)
    rw [get_push o hx]; rfl),sees_push o hc]
  exact h
theorem exec_push {T:Tbl} {ρ:PA → D} {st st':St} {d:D} {o:Obj} (p:POp) (hc:p.cls ≤ 2) (h:p.exec T ρ st = some (d,st')):p.exec T ρ (st ++ [o]) = some (d,st' ++ [o]) := by
  have mp:∀ {α:Type} (a b:Option α) (f:α → D),(∀ y,a = some y → b = some y) → (a.map fun x => (f x,st)) = some (d,st') → (b.map fun x => (f x,st ++ [o])) = some (d,st' ++ [o]) := by
    intro α a b f hab h
    simp only [Option.map_eq_some_iff,Prod.mk.injEq] at h ⊢
    obtain ⟨y,h1,h2,rfl⟩ := h
    exact ⟨y,hab y h1,h2,rfl⟩
  cases p with
  | mov x => simp only [POp.exec,Option.some.injEq,Prod.mk.injEq] at h ⊢; exact ⟨h.1,by rw [h.2]⟩
  | pick c x y =>
    simp only [POp.exec] at h ⊢
    split at h
    · simp only [Option.some.injEq,Prod.mk.injEq] at h ⊢; exact ⟨h.1,by rw [h.2]⟩
    · cases h
  | box x => simp [POp.cls] at hc
  | bld zero parts => simp only [POp.exec] at h ⊢; exact mp _ _ _ (fun _ h => h) h
  | bslc sz parts =>
    simp only [POp.exec] at h ⊢
    split at h
    · rename_i els he
      rw [imms_push o he]
      simp only
      split at h
      · rename_i hif
        rw [if_pos hif]
        simp only [Option.some.injEq,Prod.mk.injEq] at h ⊢
        exact ⟨h.1,by rw [← h.2,lend_push _ _ (imms_keys he)]⟩
      · cases h
    · cases h
  | load n ag x => simp only [POp.exec] at h ⊢; exact mp _ _ _ (fun _ h => pload_push o h) h
  | stor n p x => simp [POp.cls] at hc
  | nilc x =>
    simp only [POp.exec] at h ⊢
    split at h
    · simp only [Option.some.injEq,Prod.mk.injEq] at h ⊢; exact ⟨h.1,by rw [h.2]⟩
    · simp only [Option.some.injEq,Prod.mk.injEq] at h ⊢; exact ⟨h.1,by rw [h.2]⟩
    · split at h
      · rename_i hl
        rw [live_push o hl]
        simp only [Option.some.injEq,Prod.mk.injEq] at h
        simp [h.1,h.2]
      · cases h
    · cases h
  | bin op x y => simp only [POp.exec] at h ⊢; exact mp _ _ _ (fun _ h => h) h
  | beq neg x y => simp only [POp.exec] at h ⊢; exact mp _ _ _ (fun _ h => h) h
  | aeq ks neg x y => simp only [POp.exec] at h ⊢; exact mp _ _ _ (fun _ h => h) h
  | un op x => simp only [POp.exec] at h ⊢; exact mp _ _ _ (fun _ h => h) h
  | conv c x => simp only [POp.exec] at h ⊢; exact mp _ _ _ (fun _ h => pconv_push o h) h
  | mkslc sz bytes zero l c => simp [POp.cls] at hc
  | slice sz x lo hi mx => simp only [POp.exec] at h ⊢; exact mp _ _ _ (fun _ h => pslice_push o h) h
  | sliceA n sz ag x lo hi => simp only [POp.exec] at h ⊢; exact mp _ _ _ (fun _ h => h) h
  | fld off x => simp only [POp.exec] at h ⊢; exact mp _ _ _ (fun _ h => pfld_push o h) h
  | fldv off n ag x => simp only [POp.exec] at h ⊢; exact mp _ _ _ (fun _ h => h) h
  | idxS sz x i => simp only [POp.exec] at h ⊢; exact mp _ _ _ (fun _ h => pidxS_push o h) h
  | idxA n sz x i => simp only [POp.exec] at h ⊢; exact mp _ _ _ (fun _ h => pidxA_push o h) h
  | idx x i => simp only [POp.exec] at h ⊢; exact mp _ _ _ (fun _ h => h) h
  | idxV l sz ag x i => simp only [POp.exec] at h ⊢; exact mp _ _ _ (fun _ h => h) h
  | len str x =>
    simp only [POp.exec] at h ⊢
    split at h
    · rename_i hs
      rw [if_pos hs]
      exact mp _ _ _ (fun _ h => sLen_push o h) h
    · cases h
  | lenA n => simp only [POp.exec,Option.some.injEq,Prod.mk.injEq] at h ⊢; exact ⟨h.1,by rw [h.2]⟩
  | app sz bytes s x => simp [POp.cls] at hc
  | mm mx x y =>
    simp only [POp.exec] at h ⊢
    split at h
    · simp only [Option.some.injEq,Prod.mk.injEq] at h ⊢; exact ⟨h.1,by rw [h.2]⟩
    · cases h
  | mm3 mx x y z =>
    simp only [POp.exec] at h ⊢
    split at h
    · simp only [Option.some.injEq,Prod.mk.injEq] at h ⊢; exact ⟨h.1,by rw [h.2]⟩
    · cases h
  | rcall f args =>
    simp only [POp.exec] at h ⊢
    split at h
    · exact mp _ _ _ (fun _ h => reads1_push o h) h
    · cases h
  | icall f args => simp [POp.cls] at hc
  | mcall f args => simp [POp.cls] at hc
  | fail => simp [POp.cls] at hc
  | mkmap sz => simp [POp.cls] at hc
  | mapup sz ks m k v => simp [POp.cls] at hc
  | cpy sz d s => simp [POp.cls] at hc
  | mapget sz ks ok zero m k => simp only [POp.exec] at h ⊢; exact mp _ _ _ (fun _ h => pmapget_push o h) h
  | callv x args => simp [POp.cls] at hc
  | mkclo f args => simp only [POp.exec,Option.some.injEq,Prod.mk.injEq] at h ⊢; exact ⟨h.1,by rw [h.2]⟩
  | call f args =>
    simp only [POp.exec] at h ⊢
    split at h
    · rename_i sp vs hsp hvs
      simp only [hsp,imms_push o hvs]
      split at h
      · rename_i r hr
        simp only [Option.some.injEq,Prod.mk.injEq] at h ⊢
        refine ⟨h.1,?_⟩
        rw [← h.2]
        split
        · rfl
        · rw [lend_push _ _ (imms_keys hvs)]
      · cases h
    · cases h
  | ext x i =>
    simp only [POp.exec] at h ⊢
    split at h
    · exact mp _ _ id (fun _ h => h) h
    · cases h
theorem push_form {T:Tbl} {ρ:PA → D} {st st':St} {d:D} {p:POp} (hp:p.push = true) (h:p.exec T ρ st = some (d,st')):∃ o,∀ st1:St,st1.length = st.length → p.exec T ρ st1 = some (d,st1 ++ [o]) := by
  cases p with
  | box x =>
    simp only [POp.exec] at h ⊢
    split at h
    · rename_i hc
      simp only [Option.some.injEq,Prod.mk.injEq] at h
      exact ⟨_,fun st1 hl => by rw [if_pos hc,hl,h.1]⟩
    · cases h
  | mkslc sz bytes zero l c =>
    simp only [POp.exec] at h ⊢
    split at h
    · split at h
      · rename_i hc
        simp only [Option.some.injEq,Prod.mk.injEq] at h
        exact ⟨_,fun st1 hl => by rw [if_pos hc,hl,h.1]⟩
      · cases h
    · cases h
  | _ => simp [POp.push] at hp
theorem rho_put {G:Glob} {fr:Frame} {dst:Option Nat} {d:D} {pa:PA} (h:∀ t,dst = some t → t ∉ pa.slot):rho G (fr.put dst d) pa = rho G fr pa := by
  cases pa with
  | s n =>
    cases dst with
    | none => rfl
    | some t =>
      have:n ≠ t := fun e => h t rfl (by simp [PA.slot,e])
      simp [rho,Frame.put,Frame.set,this]
  | _ => rfl
theorem exec_put {G:Glob} {T:Tbl} {fr:Frame} {dst:Option Nat} {d:D} {st:St} {i:PI} (h:∀ t,dst = some t → t ∉ i.reads):i.op.exec T (rho G (fr.put dst d)) st = i.op.exec T (rho G fr) st := by
  refine exec_congr i.op fun x hx => rho_put fun t ht hm => h t ht ?_
  simp only [PI.reads,List.mem_append,List.mem_flatMap]
  exact .inl ⟨x,hx,hm⟩
theorem wanted_put' {fr:Frame} {dst:Option Nat} {d:D} {i:PI} (h:∀ t,dst = some t → t ∉ i.reads):i.wanted (fr.put dst d) = i.wanted fr := by
  unfold PI.wanted
  cases hg:i.guard with
  | none => rfl
  | some q =>
    obtain ⟨s,want⟩ := q
    cases dst with
    | none => rfl
    | some t =>
      have:s ≠ t := fun e => h t rfl (by simp [PI.reads,hg,optL,e])
      simp [Frame.put,Frame.set,this]
def PI.step (G:Glob) (T:Tbl) (i:PI) (s:PS):Option (D × St) :=
  match i.wanted s.fr with
  | none => none
  | some false => some (.tup [],s.st)
  | some true => i.op.exec T (rho G s.fr) s.st
theorem PI.exec_eq {G:Glob} {T:Tbl} (i:PI) (s:PS):i.exec G T s = (i.step G T s).map fun r => { fr := s.fr.put i.dst r.1,st := r.2 } := by
  unfold PI.exec PI.step
  split <;> simp_all
  split <;> simp_all
theorem apart_spec {x y:PI} (h:x.apart y = true):(∀ t,x.dst = some t → t ∉ y.reads) ∧ (∀ t,x.dst = some t → y.dst ≠ some t) ∧ (∀ t,y.dst = some t → t ∉ x.reads) ∧ (x.op.cls = 0 ∨ y.op.cls = 0 ∨ (x.op.cls ≤ 2 ∧ y.op.cls ≤ 2) ∨ (x.op.cls ≤ 2 ∧ y.op.push = true)) := by
  simp only [PI.apart,Bool.and_eq_true,Bool.or_eq_true,beq_iff_eq,decide_eq_true_eq] at h
  obtain ⟨⟨h1,h2⟩,h3⟩ := h
  refine ⟨fun t ht => ?_,fun t ht => ?_,fun t ht => ?_,?_⟩
  · simp only [ht,Bool.and_eq_true,Bool.not_eq_true'] at h1
    simpa using h1.1
  · simp only [ht,Bool.and_eq_true,bne_iff_ne] at h1
    exact h1.2
  · simp only [ht,Bool.not_eq_true'] at h2
    simpa using h2
  · rcases h3 with (h3 | h3) | h3
    · exact .inl h3
    · exact .inr (.inl h3)
    · rcases h3.2 with h4 | h4
      · exact .inr (.inr (.inl ⟨h3.1,h4⟩))
      · exact .inr (.inr (.inr ⟨h3.1,h4⟩))
theorem swap {G:Glob} {T:Tbl} {x y:PI} {s s1 s2:PS} (h:x.apart y = true) (hx:x.exec G T s = some s1) (hy:y.exec G T s1 = some s2):∃ s1',y.exec G T s = some s1' ∧ x.exec G T s1' = some s2 := by
  obtain ⟨a1,a2,a3,a4⟩ := apart_spec h
  rw [PI.exec_eq] at hx hy
  simp only [Option.map_eq_some_iff] at hx hy
  obtain ⟨⟨dx,stx⟩,hx,rfl⟩ := hx
  obtain ⟨⟨dy,sty⟩,hy,rfl⟩ := hy
  simp only at hy
  have hyw:y.wanted (s.fr.put x.dst dx) = y.wanted s.fr := wanted_put' a1
  have key:∀ sty',y.step G T s = some (dy,sty') → (∀ d,x.step G T { fr := s.fr.put y.dst d,st := sty' } = some (dx,sty)) → ∃ s1',y.exec G T s = some s1' ∧ x.exec G T s1' = some { fr := (s.fr.put x.dst dx).put y.dst dy,st := sty } := by
    intro sty' h1 h2
    refine ⟨{ fr := s.fr.put y.dst dy,st := sty' },by rw [PI.exec_eq,h1]; rfl,?_⟩
    rw [PI.exec_eq,h2 dy]
    simp only [Option.map_some]
    rw [put_comm s.fr dx dy a2]
  unfold PI.step at hx hy
  simp only [hyw] at hy
  have hxw:∀ d,x.wanted (s.fr.put y.dst d) = x.wanted s.fr := fun d => wanted_put' a3
  -- by which of the two is carried out
  cases hwx:x.wanted s.fr with
  | none => simp [hwx] at hx
  | some bx =>
    cases hwy:y.wanted s.fr with
    | none => simp [hwy] at hy
    | some by' =>
      cases bx with
      | false =>
        simp only [hwx,Option.some.injEq,Prod.mk.injEq] at hx
        obtain ⟨rfl,rfl⟩ := hx
        cases by' with
        | false =>
          simp only [hwy,Option.some.injEq,Prod.mk.injEq] at hy
          obtain ⟨rfl,rfl⟩ := hy
          exact key s.st (by simp [PI.step,hwy]) (fun d => by simp [PI.step,hxw,hwx])
        | true =>
          simp only [hwy] at hy
          rw [exec_put a1] at hy
          exact key sty (by simp [PI.step,hwy,hy]) (fun d => by simp [PI.step,hxw,hwx])
      | true =>
        simp only [hwx] at hx
        cases by' with
        | false =>
          simp only [hwy,Option.some.injEq,Prod.mk.injEq] at hy
          obtain ⟨rfl,rfl⟩ := hy
          exact key s.st (by simp [PI.step,hwy]) (fun d => by simp only [PI.step,hxw,hwx]; rw [exec_put a3]; exact hx)
        | true =>
          simp only [hwy] at hy
          rw [exec_put a1] at hy
          rcases a4 with c | c | ⟨c1,c2⟩ | ⟨c1,c2⟩
          · obtain ⟨rfl,h2⟩ := exec_pure x.op c hx
            exact key sty (by simp [PI.step,hwy,hy]) (fun d => by simp only [PI.step,hxw,hwx]; rw [exec_put a3]; exact h2 _)
          · obtain ⟨rfl,h2⟩ := exec_pure y.op c hy
            exact key s.st (by simp only [PI.step,hwy]; exact h2 _) (fun d => by simp only [PI.step,hxw,hwx]; rw [exec_put a3]; exact hx)
          · obtain ⟨ks,rfl⟩ := exec_form x.op c1 hx
            rw [exec_lend y.op c2] at hy
            simp only [Option.map_eq_some_iff,Prod.mk.injEq,Prod.exists] at hy
            obtain ⟨dy',st',h1,rfl,rfl⟩ := hy
            obtain ⟨qs,rfl⟩ := exec_form y.op c2 h1
            refine key _ (by simp only [PI.step,hwy]; exact h1) (fun d => ?_)
            simp only [PI.step,hxw,hwx]
            rw [exec_put a3,exec_lend x.op c1,hx]
            simp only [Option.map_some]
            rw [lend_comm]
          · obtain ⟨ks,rfl⟩ := exec_form x.op c1 hx
            obtain ⟨o,ho⟩ := push_form c2 hy
            have h1 := ho s.st (by rw [lend_length])
            have h2 := ho (lend ks s.st) rfl
            rw [hy] at h2
            simp only [Option.some.injEq,Prod.mk.injEq,true_and] at h2
            refine key _ (by simp only [PI.step,hwy]; exact h1) (fun d => ?_)
            simp only [PI.step,hxw,hwx]
            rw [exec_put a3,exec_push x.op c1 hx,h2]
end Go.Proofs.YtlleccmnjpcogaaDoor.PI
