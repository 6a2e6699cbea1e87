/-
  Operations change places that touch different objects, as it shows when they are carried out.
  Conditions: none; these are definitions and lemmas.
-/
import Derived.Test.YtlleccmnjpcogaaDoorEngP
set_option linter.unusedVariables false
set_option linter.unusedSimpArgs false
namespace Go.Proofs.YtlleccmnjpcogaaDoor.PI
open Go Go.RowKit
def Like (st st2:St) (k:Nat):Prop := (st[k]? = none ∧ st2[k]? = none) ∨ ∃ o o2,st[k]? = some o ∧ st2[k]? = some o2 ∧ o2.row = o.row ∧ o2.sz = o.sz ∧ o2.els = o.els
theorem Like.symm {st st2:St} {k:Nat} (h:Like st st2 k):Like st2 st k := by
 rcases h with ⟨a,b⟩ | ⟨o,o2,a,b,c,d,e⟩
 ·exact .inl ⟨b,a⟩
 ·exact .inr ⟨o2,o,b,a,c.symm,d.symm,e.symm⟩
theorem Like.of_eq {st st2:St} {k:Nat} (h:st2[k]? = st[k]?):Like st st2 k := by
 cases hk:st[k]? with
 | none => exact .inl ⟨hk,by rw [h,hk]⟩
 | some o => exact .inr ⟨o,o,hk,by rw [h,hk],rfl,rfl,rfl⟩
theorem rowEls_like {st st2:St} {key:Nat} (h:Like st st2 key) (tot off len:Nat):rowEls st2 key tot off len = rowEls st key tot off len := by
 unfold rowEls
 rcases h with ⟨a,b⟩ | ⟨o,o2,a,b,c,d,e⟩
 ·rw [a,b]
 ·simp only [a,b,c,d,e]
theorem bslEls_like {st st2:St} {key:Nat} (h:Like st st2 key) (off n sz:Nat) (ag:Bool):bslEls st2 key off n sz ag = bslEls st key off n sz ag := by
 unfold bslEls
 rcases h with ⟨a,b⟩ | ⟨o,o2,a,b,c,d,e⟩
 ·rw [a,b]
 ·simp only [a,b,c,e]
theorem live_like {st st2:St} {key:Nat} (h:Like st st2 key) (tot:Nat):live st2 key tot = live st key tot := by
 unfold live
 rcases h with ⟨a,b⟩ | ⟨o,o2,a,b,c,d,e⟩
 ·rw [a,b]
 ·simp only [a,b,c,e]
theorem imm1_like {st st2:St} {d:D} (h:∀ k ∈ hk1 d,Like st st2 k):imm1 st2 d = imm1 st d := by
 cases d with
 | row key tot off len => simp only [imm1,rowEls_like (h key (by simp [hk1,hk0]))]
 | bsl key off n sz ag => simp only [imm1,bslI,bslEls_like (h key (by simp [hk1,hk0]))]
 | _ => simp only [imm1]
theorem immL_like {st st2:St}:∀ {l:List D},(∀ k ∈ l.flatMap hk1,Like st st2 k) → immL st2 l = immL st l
 | [],_ => rfl
 | d :: l,h => by
  simp only [immL]
  rw [imm1_like (fun k hk => h k (by simp [hk])),immL_like (fun k hk => h k (by rw [List.flatMap_cons,List.mem_append]; exact .inr hk))]
theorem imm_like {st st2:St} {d:D} (h:∀ k ∈ hk d,Like st st2 k):imm st2 d = imm st d := by
 cases d with
 | agg l => simp only [imm]; rw [immL_like h]
 | tup l => rfl
 | _ => simp only [imm]; exact imm1_like h
theorem imms_like {st st2:St}:∀ {l:List D},(∀ k ∈ l.flatMap hk,Like st st2 k) → imms st2 l = imms st l
 | [],_ => rfl
 | d :: l,h => by
  simp only [imms]
  rw [imm_like (fun k hk => h k (by rw [List.flatMap_cons,List.mem_append]; exact .inl hk)),imms_like (fun k hk => h k (by rw [List.flatMap_cons,List.mem_append]; exact .inr hk))]
theorem elsOf_like {st st2:St} {d:D} (h:∀ k ∈ hk d,Like st st2 k):elsOf st2 d = elsOf st d := by
 cases d with
 | row key tot off len => simp only [elsOf,rowEls_like (h key (by simp [hk,hk1,hk0]))]
 | bsl key off n sz ag => simp only [elsOf,bslEls_like (h key (by simp [hk,hk1,hk0]))]
 | _ => rfl
theorem sLen_like {st st2:St} {d:D} (h:∀ k ∈ hk d,Like st st2 k):sLen st2 d = sLen st d := by
 cases d with
 | row key tot off len => simp only [sLen,live_like (h key (by simp [hk,hk1,hk0]))]
 | _ => rfl
theorem pconv_like {st st2:St} {c:PConv} {d:D} (h:∀ k ∈ hk d,Like st st2 k):pconv st2 c d = pconv st c d := by
 cases d with
 | row key tot off len => cases c <;> simp only [pconv,rowEls_like (h key (by simp [hk,hk1,hk0]))]
 | _ => cases c <;> simp only [pconv]
theorem pslice_like {st st2:St} {sz:Nat} {x:D} {lo hi mx:Option D} (h:∀ k ∈ hk x,Like st st2 k):pslice st2 sz x lo hi mx = pslice st sz x lo hi mx := by
 cases x with
 | row key tot off len =>
  simp only [pslice]
  rcases h key (by simp [hk,hk1,hk0]) with ⟨a,b⟩ | ⟨o,o2,a,b,c,d,e⟩
  ·rw [a,b]
  ·simp only [a,b,c,d,e]
 | _ => simp only [pslice]
theorem pidxS_like {st st2:St} {sz:Nat} {x i:D} (h:∀ k ∈ hk x,Like st st2 k):pidxS st2 sz x i = pidxS st sz x i := by
 unfold pidxS
 cases natOf i with
 | none => rfl
 | some j =>
  cases x with
  | row key tot off len =>
   simp only
   rcases h key (by simp [hk,hk1,hk0]) with ⟨a,b⟩ | ⟨o,o2,a,b,c,d,e⟩
   ·rw [a,b]
   ·simp only [a,b,c,d,e]
  | _ => rfl
theorem pfld_like {st st2:St} {off:Nat} {x:D} (h:∀ k ∈ rpK x,Like st st2 k):pfld st2 off x = pfld st off x := by
 cases x with
 | rptr key tot i o => simp only [pfld,live_like (h key (by simp [rpK]))]
 | _ => rfl
theorem pidxA_like {st st2:St} {n sz:Nat} {x i:D} (h:∀ k ∈ rpK x,Like st st2 k):pidxA st2 n sz x i = pidxA st n sz x i := by
 simp only [pidxA,pfld_like h]
theorem pload_like {st st2:St} {n:Nat} {ag:Bool} {p:D} (h:∀ k ∈ hk p,Like st st2 k):pload st2 n ag p = pload st n ag p := by
 cases p with
 | ptr key off =>
  simp only [pload]
  rcases h key (by simp [hk,hk1,hk0]) with ⟨a,b⟩ | ⟨o,o2,a,b,c,d,e⟩
  ·rw [a,b]
  ·simp only [a,b,c,e]
 | rptr key tot i off =>
  simp only [pload]
  rcases h key (by simp [hk,hk1,hk0]) with ⟨a,b⟩ | ⟨o,o2,a,b,c,d,e⟩
  ·rw [a,b]
  ·simp only [a,b,c,e]
 | _ => simp only [pload]
theorem pmapget_like {st st2:St} {sz:Nat} {ks:List Nat} {ok:Bool} {zero m k:D} (h:∀ k ∈ hk m,Like st st2 k):pmapget st2 sz ks ok zero m k = pmapget st sz ks ok zero m k := by
 cases m with
 | mapv key =>
  simp only [pmapget]
  rcases h key (by simp [hk,hk1,hk0]) with ⟨a,b⟩ | ⟨o,o2,a,b,c,d,e⟩
  ·rw [a,b]
  ·simp only [a,b,Obj.isMap,c,d,e]
   rfl
 | _ => simp only [pmapget]
theorem nilc_like {st st2:St} {p:D} (h:∀ k ∈ rpK p,Like st st2 k):∀ key tot i off,p = .rptr key tot i off → live st2 key tot = live st key tot := by
 rintro key tot i off rfl
 exact live_like (h key (by simp [rpK])) tot
theorem key1_hk1 {d:D} {k:Nat} (h:k ∈ key1 d):k ∈ hk1 d := by
 cases d <;> simp_all [key1,hk1,hk0]
theorem keys_hk {d:D} {k:Nat} (h:k ∈ keys d):k ∈ hk d := by
 cases d with
 | agg l =>
  simp only [keys,hk,List.mem_flatMap] at h ⊢
  obtain ⟨x,h1,h2⟩ := h
  exact ⟨x,h1,key1_hk1 h2⟩
 | row a b c e => exact h
 | bsl key off n sz ag => simp only [keys,key1,List.mem_singleton] at h; subst h; simp [hk,hk1,hk0]
 | _ => simp [keys,key1] at h
theorem keysL_hk {l:List D} {k:Nat} (h:k ∈ l.flatMap keys):k ∈ l.flatMap hk := by
 simp only [List.mem_flatMap] at h ⊢
 obtain ⟨x,h1,h2⟩ := h
 exact ⟨x,h1,keys_hk h2⟩
inductive Eff where
 | lend (ks:List Nat)
 | set (k:Nat) (o:Obj)
 | push (os:List Obj)
theorem appN_of {st:St} {d:D} {szx:Nat} {xs:List D} (h:elsOf st d = some (szx,xs)) (hx:xs ≠ []) (n:Nat):appN d n = some n := by
 unfold appN
 split
 ·simp only [elsOf,Option.some.injEq,Prod.mk.injEq] at h
  exact absurd h.2.symm hx
 ·rfl
theorem appN_some {d:D} {n m:Nat} (h:appN d m = some n):n = m := by
 unfold appN at h
 split at h
 ·cases h
 ·simpa using h.symm
theorem appN_none {d:D} {n:Nat} (h:appN d n = none) (m:Nat):appN d m = none := by
 unfold appN at h ⊢
 split
 ·rfl
 ·rename_i hx
  split at h
  ·rename_i a b; exact absurd rfl (hx _ _)
  ·cases h
def Eff.app:Eff → St → St
 | .lend ks,st => PI.lend ks st
 | .set k o,st => st.set k o
 | .push os,st => st ++ os
def Eff.inn (f:Foot):Eff → Prop
 | .lend ks => ∀ k ∈ ks,k ∈ f.rd
 | .set k _ => k ∈ f.wr
 | .push _ => f.nu.isSome = true
theorem sees_like {st st2:St}:∀ {l:List Nat},(∀ k ∈ l,Like st st2 k) → sees st2 l = sees st l
 | [],_ => rfl
 | a :: l,h => by
  have e:(st2[a]?).map Obj.see = (st[a]?).map Obj.see := by
   rcases h a (by simp) with ⟨x,y⟩ | ⟨o,o2,x,y,c,d,e⟩
   ·rw [x,y]
   ·simp only [x,y,Option.map_some,Obj.see,c,d,e]
  have ih := sees_like (st := st) (st2 := st2) (l := l) fun k hk => h k (by simp [hk])
  simp only [sees,e,ih]
theorem reads1_like {st st2:St} {sp:List D → List (Option (Bool × Nat × List D)) → Option D} {ds:List D} (h:∀ k ∈ ds.flatMap hk,Like st st2 k):reads1 sp ds st2 = reads1 sp ds st := by
 have e:(ds.flatMap hk).all (fun k => (st2[k]?).isSome) = (ds.flatMap hk).all (fun k => (st[k]?).isSome) := by
  rw [Bool.eq_iff_iff,List.all_eq_true,List.all_eq_true]
  refine forall_congr' fun k => imp_congr_right fun hk => ?_
  rcases h k hk with ⟨x,y⟩ | ⟨o,o2,x,y,_⟩
  ·rw [x,y]
  ·rw [x,y]; simp
 unfold reads1
 rw [e,sees_like h]
theorem exec_same {T:Tbl} {ρ:PA → D} (p:POp) {st st':St} {d:D} {f:Foot} (hf:p.foot ρ st = some f) (h:p.exec T ρ st = some (d,st')) :
  ∃ e:Eff,e.inn f ∧ st' = e.app st ∧ ∀ st2:St,(∀ k ∈ f.rd,Like st st2 k) → (∀ k ∈ f.wr,st2[k]? = st[k]?) → (f.nu.isSome = true → st2.length = st.length) → p.exec T ρ st2 = some (d,e.app st2) := by
 by_cases hc:p.cls = 0
 ·obtain ⟨h1,h2⟩ := exec_pure p hc h
  exact ⟨.lend [],(fun k hk => by cases hk),h1,fun st2 _ _ _ => h2 st2⟩
 have rd:∀ {α:Type} (F:St → Option α) (g:α → D),((F st).map fun x => (g x,st)) = some (d,st') → (∀ st2,(∀ k ∈ f.rd,Like st st2 k) → F st2 = F st) → (∀ st2,p.exec T ρ st2 = (F st2).map fun x => (g x,st2)) →
   ∃ e:Eff,e.inn f ∧ st' = e.app st ∧ ∀ st2:St,(∀ k ∈ f.rd,Like st st2 k) → (∀ k ∈ f.wr,st2[k]? = st[k]?) → (f.nu.isSome = true → st2.length = st.length) → p.exec T ρ st2 = some (d,e.app st2) := by
  intro α F g h1 h2 h3
  simp only [Option.map_eq_some_iff,Prod.mk.injEq] at h1
  obtain ⟨x,hx,h4,h5⟩ := h1
  refine ⟨.lend [],(fun k hk => by cases hk),h5.symm,fun st2 hl _ _ => ?_⟩
  rw [h3,h2 st2 hl,hx,← h4]; rfl
 cases p with
 | load n ag x =>
  simp only [POp.foot,POp.args,Option.some.injEq] at hf; subst hf
  exact rd (fun st => pload st n ag (ρ x)) id h (fun st2 hl => pload_like fun k hk => hl k (by simpa using hk)) (fun _ => rfl)
 | fld off x =>
  simp only [POp.foot,Option.some.injEq] at hf; subst hf
  exact rd (fun st => pfld st off (ρ x)) id h (fun st2 hl => pfld_like hl) (fun _ => rfl)
 | conv c x =>
  simp only [POp.foot,POp.args,Option.some.injEq] at hf; subst hf
  exact rd (fun st => pconv st c (ρ x)) id h (fun st2 hl => pconv_like fun k hk => hl k (by simpa using hk)) (fun _ => rfl)
 | slice sz x lo hi mx =>
  simp only [POp.foot,POp.args,Option.some.injEq] at hf; subst hf
  exact rd (fun st => pslice st sz (ρ x) (lo.map ρ) (hi.map ρ) (mx.map ρ)) id h (fun st2 hl => pslice_like fun k hk => hl k (by rw [List.map_cons,List.flatMap_cons,List.mem_append]; exact .inl hk)) (fun _ => rfl)
 | idxS sz x i =>
  simp only [POp.foot,POp.args,Option.some.injEq] at hf; subst hf
  exact rd (fun st => pidxS st sz (ρ x) (ρ i)) id h (fun st2 hl => pidxS_like fun k hk => hl k (by rw [List.map_cons,List.flatMap_cons,List.mem_append]; exact .inl hk)) (fun _ => rfl)
 | idxA n sz x i =>
  simp only [POp.foot,Option.some.injEq] at hf; subst hf
  exact rd (fun st => pidxA st n sz (ρ x) (ρ i)) id h (fun st2 hl => pidxA_like hl) (fun _ => rfl)
 | len str x =>
  simp only [POp.foot,POp.args,Option.some.injEq] at hf; subst hf
  simp only [POp.exec] at h
  split at h
  ·rename_i hs
   exact rd (fun st => sLen st (ρ x)) (fun n:Nat => D.int .i64 (n:Int)) h (fun st2 hl => sLen_like fun k hk => hl k (by simpa using hk)) (fun st2 => by simp only [POp.exec]; rw [if_pos hs])
  ·cases h
 | nilc x =>
  simp only [POp.foot,Option.some.injEq] at hf; subst hf
  have hn := fun st2 (hl:∀ k ∈ rpK (ρ x),Like st st2 k) => nilc_like (p := ρ x) hl
  simp only [POp.exec] at h ⊢
  cases hx:ρ x with
  | ptr key off =>
   simp only [hx,Option.some.injEq,Prod.mk.injEq] at h
   refine ⟨.lend [],(fun k hk => by cases hk),h.2.symm,fun st2 hl _ _ => by rw [← h.1]; rfl⟩
  | eptr el off =>
   simp only [hx,Option.some.injEq,Prod.mk.injEq] at h
   refine ⟨.lend [],(fun k hk => by cases hk),h.2.symm,fun st2 hl _ _ => by rw [← h.1]; rfl⟩
  | rptr key tot i off =>
   simp only [hx] at h ⊢
   split at h
   ·rename_i hlv
    simp only [Option.some.injEq,Prod.mk.injEq] at h
    refine ⟨.lend [],(fun k hk => by cases hk),h.2.symm,fun st2 hl _ _ => ?_⟩
    rw [hn st2 (by rw [hx]; exact hl) key tot i off hx,if_pos hlv,← h.1]; rfl
   ·cases h
  | _ => simp [hx] at h
 | bslc sz parts =>
  simp only [POp.foot,POp.args,Option.some.injEq] at hf; subst hf
  simp only [POp.exec] at h ⊢
  split at h
  ·rename_i els he
   split at h
   ·rename_i hcond
    simp only [Option.some.injEq,Prod.mk.injEq] at h
    refine ⟨.lend ((parts.map ρ).flatMap keys),fun k hk => keysL_hk hk,h.2.symm,fun st2 hl _ _ => ?_⟩
    rw [imms_like hl,he]
    simp only [hcond,if_true,← h.1]
    rfl
   ·cases h
  ·cases h
 | call fn args =>
  simp only [POp.foot,POp.args,Option.some.injEq] at hf; subst hf
  simp only [POp.exec] at h ⊢
  split at h
  ·rename_i sp vs hsp hvs
   split at h
   ·rename_i r hr
    simp only [Option.some.injEq,Prod.mk.injEq] at h
    by_cases hn:r.noRef = true
    ·refine ⟨.lend [],(fun k hk => by cases hk),?_,fun st2 hl _ _ => ?_⟩
     ·rw [← h.2,if_pos hn]; rfl
     ·simp only [hsp,imms_like hl,hvs,hr,hn,if_true,← h.1]; rfl
    ·refine ⟨.lend ((args.map ρ).flatMap keys),fun k hk => keysL_hk hk,?_,fun st2 hl _ _ => ?_⟩
     ·rw [← h.2,if_neg hn]; rfl
     ·simp only [hsp,imms_like hl,hvs,hr,hn,← h.1]; rfl
   ·cases h
  ·cases h
 | box x =>
  simp only [POp.foot,Option.some.injEq] at hf; subst hf
  simp only [POp.exec] at h ⊢
  split at h
  ·rename_i hcond
   simp only [Option.some.injEq,Prod.mk.injEq] at h
   refine ⟨.push _,rfl,h.2.symm,fun st2 _ _ hm => ?_⟩
   rw [if_pos hcond,hm rfl,← h.1]; rfl
  ·cases h
 | mkslc sz bytes zero l c =>
  simp only [POp.foot,Option.some.injEq] at hf; subst hf
  simp only [POp.exec] at h ⊢
  split at h
  ·split at h
   ·rename_i hcond
    simp only [Option.some.injEq,Prod.mk.injEq] at h
    refine ⟨.push _,rfl,h.2.symm,fun st2 _ _ hm => ?_⟩
    rw [if_pos hcond,hm rfl,← h.1]; rfl
   ·cases h
  ·cases h
 | mcall fn args =>
  simp only [POp.foot,Option.some.injEq] at hf; subst hf
  simp only [POp.exec] at h ⊢
  split at h
  ·split at h
   ·simp only [Option.some.injEq,Prod.mk.injEq] at h
    refine ⟨.push _,rfl,h.2.symm,fun st2 _ _ hm => ?_⟩
    rw [hm rfl,← h.1]; rfl
   ·cases h
  ·cases h
 | stor n p x =>
  simp only [POp.foot,Option.some.injEq] at hf; subst hf
  simp only [POp.exec] at h ⊢
  cases hp:ρ p with
  | ptr key off =>
   rw [hp] at h
   simp only [pstor] at h ⊢
   cases hk:st[key]? with
   | none => simp [hk] at h
   | some o =>
    simp only [hk] at h
    split at h
    ·rename_i hcond
     simp only [Option.map_some,Option.some.injEq,Prod.mk.injEq] at h
     refine ⟨.set key _,by simp [Eff.inn,PI.hk,hk1,hk0],h.2.symm,fun st2 _ hw _ => ?_⟩
     have e := hw key (by simp [PI.hk,hk1,hk0])
     rw [e,hk]
     simp only [hcond,if_true,Option.map_some,← h.1]
     rfl
    ·simp at h
  | rptr key tot i off =>
   rw [hp] at h
   simp only [pstor] at h ⊢
   cases hk:st[key]? with
   | none => simp [hk] at h
   | some o =>
    cases hy:imm st (ρ x) with
    | none => simp [hk,hy] at h
    | some y =>
     simp only [hk,hy] at h
     split at h
     case isFalse => simp at h
     rename_i hcond
     split at h
     case h_2 => simp at h
     rename_i el hel
     split at h
     case h_2 => simp at h
     rename_i el' hel'
     split at h
     case isFalse => simp at h
     rename_i hlen
     simp only [Option.map_some,Option.some.injEq,Prod.mk.injEq] at h
     refine ⟨.set key _,by simp [Eff.inn,PI.hk,hk1,hk0],h.2.symm,fun st2 hl hw _ => ?_⟩
     have e := hw key (by simp [PI.hk,hk1,hk0])
     rw [e,hk,imm_like hl,hy]
     simp only [hcond,if_true,hel,hel',hlen,Option.map_some,← h.1]
     rfl
  | _ => simp [hp,pstor] at h
 | app sz bytes s x =>
  simp only [POp.foot] at hf
  simp only [POp.exec] at h ⊢
  unfold papp at h ⊢
  have hels:∀ st2,(∀ k ∈ hk (ρ x),Like st st2 k) → elsOf st2 (ρ x) = elsOf st (ρ x) := fun st2 hl => elsOf_like hl
  cases he:elsOf st (ρ x) with
  | none => simp [he] at h
  | some r =>
   obtain ⟨szx,xs⟩ := r
   simp only [he] at h
   split at h
   ·cases h
   rename_i hc1
   cases hs:ρ s with
   | row key tot off len =>
    simp only [hs,Option.some.injEq] at hf; subst hf
    simp only [hs] at h ⊢
    cases hk:st[key]? with
    | none => simp [hk] at h
    | some o =>
     simp only [hk] at h
     split at h
     case isFalse => cases h
     rename_i hcond
     simp only [Option.some.injEq,Prod.mk.injEq] at h
     refine ⟨.set key _,by simp [Eff.inn],h.2.symm,fun st2 hl hw _ => ?_⟩
     have e := hw key (by simp)
     rw [hels st2 hl,he,e,hk]
     simp only [hc1,if_false,Bool.false_eq_true,hcond,if_true,← h.1]
     rfl
   | slc sz' els t =>
    simp only [hs,Option.some.injEq] at hf; subst hf
    cases t with
    | false => simp [hs] at h
    | true =>
     simp only [hs] at h ⊢
     split at h
     ·rename_i hemp
      simp only [Option.some.injEq,Prod.mk.injEq] at h
      refine ⟨.lend [],(fun k hk => by cases hk),h.2.symm,fun st2 hl _ _ => ?_⟩
      rw [hels st2 hl,he]
      dsimp only
      rw [if_neg hc1,if_pos hemp,← h.1]
      rfl
     ·rename_i hemp
      split at h
      case isFalse => cases h
      rename_i hcond
      simp only [Option.some.injEq,Prod.mk.injEq] at h
      have hN:appN (ρ x) st.length = some st.length := appN_of he (by simpa using hemp) _
      refine ⟨.push _,(by show (appN (ρ x) st.length).isSome = true; rw [hN]; rfl),h.2.symm,fun st2 hl _ hm => ?_⟩
      rw [hels st2 hl,he,hm (by show (appN (ρ x) st.length).isSome = true; rw [hN]; rfl)]
      dsimp only
      rw [if_neg hc1,if_neg hemp,if_pos hcond,← h.1]
      rfl
   | _ => simp [hs] at h
 | rcall fn args =>
  simp only [POp.foot,POp.args,Option.some.injEq] at hf; subst hf
  simp only [POp.exec] at h
  split at h
  ·rename_i sp hsp
   exact rd (fun st => reads1 sp (args.map ρ) st) id h (fun st2 hl => reads1_like hl) (fun st2 => by simp only [POp.exec,hsp]; rfl)
  ·cases h
 | icall fn args => simp [POp.foot] at hf
 | callv x args => simp [POp.foot] at hf
 | fail => simp [POp.foot] at hf
 | mkmap sz => simp [POp.foot] at hf
 | mapup sz ks m k v => simp [POp.foot] at hf
 | cpy sz d s => simp [POp.foot] at hf
 | mapget sz ks ok zero m k =>
  simp only [POp.foot,POp.args,Option.some.injEq] at hf; subst hf
  exact rd (fun st => pmapget st sz ks ok zero (ρ m) (ρ k)) id h (fun st2 hl => pmapget_like fun k hk => hl k (by rw [List.map_cons,List.flatMap_cons,List.mem_append]; exact .inl hk)) (fun _ => rfl)
 | _ => simp [POp.cls] at hc
theorem foot_mk {ρ:PA → D} {st:St} {p:POp} {f:Foot} (h:p.foot ρ st = some f):∀ n,f.nu = some n → n = st.length := by
 intro n hn
 cases p with
 | app sz bytes s x =>
  simp only [POp.foot] at h
  cases hs:ρ s <;> simp only [hs,Option.some.injEq] at h <;> subst h <;> first | exact appN_some hn | (simp at hn; done) | exact (by simpa using hn.symm)
 | _ =>
  simp only [POp.foot,Option.some.injEq,reduceCtorEq] at h
  try subst h
  try simp at hn
  try exact hn.symm
theorem foot_len {ρ:PA → D} {st st2:St} (p:POp) (h:st2.length = st.length):p.foot ρ st2 = p.foot ρ st := by
 cases p <;> simp only [POp.foot,h]
theorem foot_low {ρ:PA → D} (p:POp) (hc:p.cls ≤ 2) (st st2:St):p.foot ρ st2 = p.foot ρ st := by
 cases p <;> first | rfl | (simp [POp.cls] at hc; done)
theorem foot_fresh {ρ:PA → D} {st st2:St} {p:POp} {f:Foot} (h:p.foot ρ st = some f) (hm:f.nu = none):p.foot ρ st2 = some f := by
 cases p with
 | app sz bytes s x =>
  simp only [POp.foot] at h ⊢
  cases hs:ρ s <;> simp only [hs,Option.some.injEq] at h ⊢ <;> subst h <;> first | rfl | (simp only [appN_none hm _]; done) | (simp at hm; done) | (rw [appN_none hm st2.length,hm])
 | box x => simp only [POp.foot,Option.some.injEq] at h; subst h; cases hm
 | mkslc a b c d e => simp only [POp.foot,Option.some.injEq] at h; subst h; cases hm
 | mcall fn args => simp only [POp.foot,Option.some.injEq] at h; subst h; cases hm
 | _ => exact h
theorem foot_congr {ρ ρ':PA → D} {st:St} (p:POp) (h:∀ x ∈ p.args,ρ x = ρ' x):p.foot ρ st = p.foot ρ' st := by
 cases p with
 | stor n p x => simp only [POp.args,List.mem_cons,List.not_mem_nil,or_false,forall_eq_or_imp,forall_eq] at h; simp only [POp.foot,h]
 | app a b s x => simp only [POp.args,List.mem_cons,List.not_mem_nil,or_false,forall_eq_or_imp,forall_eq] at h; simp only [POp.foot,h]
 | box x => rfl
 | mkslc a b c d e => rfl
 | mcall f args => rfl
 | icall f args => rfl
 | callv x args => rfl
 | fail => rfl
 | mkmap sz => rfl
 | mapup sz ks m k v => rfl
 | cpy sz d s => rfl
 | fld n x => simp only [POp.args,List.mem_cons,List.not_mem_nil,or_false,forall_eq] at h; simp only [POp.foot,h]
 | nilc x => simp only [POp.args,List.mem_cons,List.not_mem_nil,or_false,forall_eq] at h; simp only [POp.foot,h]
 | idxA a b x i => simp only [POp.args,List.mem_cons,List.not_mem_nil,or_false,forall_eq_or_imp,forall_eq] at h; simp only [POp.foot,h]
 | _ =>
  simp only [POp.foot]
  rw [List.map_congr_left h]
theorem away_spec {a b:List Nat} (h:away a b = true):∀ k ∈ a,k ∉ b := by
 simp only [away,List.all_eq_true,Bool.not_eq_true'] at h
 intro k hk hb
 have := h k hk
 simp [hb] at this
theorem awayM_spec {m:Option Nat} {b:List Nat} (h:awayM m b = true):∀ n,m = some n → ∀ k ∈ b,k < n := by
 rintro n rfl k hk
 simp only [awayM,List.all_eq_true,decide_eq_true_eq] at h
 exact h k hk
theorem ok_spec {f g:Foot} (h:f.ok g = true):(∀ k ∈ g.wr,k ∉ f.rd) ∧ (∀ k ∈ g.wr,k ∉ f.wr) ∧ (∀ k ∈ f.wr,k ∉ g.rd) ∧ (∀ n,f.nu = some n → ∀ k ∈ g.rd,k < n) ∧ (∀ n,f.nu = some n → ∀ k ∈ g.wr,k < n) ∧ (∀ n,g.nu = some n → ∀ k ∈ f.rd,k < n) ∧ (∀ n,g.nu = some n → ∀ k ∈ f.wr,k < n) ∧ (f.nu = none ∨ g.nu = none) := by
 simp only [Foot.ok,Bool.and_eq_true,Bool.or_eq_true,Option.isNone_iff_eq_none] at h
 obtain ⟨⟨⟨⟨⟨⟨⟨h1,h2⟩,h3⟩,h4⟩,h5⟩,h6⟩,h7⟩,h8⟩ := h
 exact ⟨away_spec h1,away_spec h2,away_spec h3,awayM_spec h4,awayM_spec h5,awayM_spec h6,awayM_spec h7,h8⟩
theorem lend_at:∀ (ks:List Nat) (st:St) (i:Nat),(lend ks st)[i]? = (st[i]?).map fun o => if i ∈ ks then { o with lent := true } else o
 | [],st,i => by simp [lend]
 | k :: r,st,i => by
  rw [lend,lend_at r,modify_get]
  cases st[i]? with
  | none => rfl
  | some o =>
   by_cases e:k = i
   ·subst e; by_cases e':k ∈ r <;> simp [e']
   ·have e2:¬ i = k := fun h => e h.symm
    by_cases e':i ∈ r <;> simp [e,e',e2]
theorem lend_set (ks:List Nat) (st:St) (k:Nat) (o:Obj) (h:k ∉ ks):lend ks (st.set k o) = (lend ks st).set k o := by
 apply List.ext_getElem?
 intro i
 rw [lend_at,List.getElem?_set,List.getElem?_set,lend_at,lend_length]
 by_cases e:k = i
 ·subst e
  by_cases hl:k < st.length <;> simp [hl,h]
 ·simp [e]
theorem lend_app (ks:List Nat) (st:St) (os:List Obj) (h:∀ k ∈ ks,k < st.length):lend ks (st ++ os) = lend ks st ++ os := by
 apply List.ext_getElem?
 intro i
 rw [lend_at]
 rcases Nat.lt_or_ge i st.length with hi | hi
 ·rw [List.getElem?_append_left hi,List.getElem?_append_left (by rw [lend_length]; exact hi),lend_at]
 ·rw [List.getElem?_append_right hi,List.getElem?_append_right (by rw [lend_length]; exact hi),lend_length]
  have:i ∉ ks := fun hk => by have := h i hk; omega
  simp [this]
theorem set_app (st:St) (k:Nat) (o:Obj) (os:List Obj) (h:k < st.length):(st ++ os).set k o = st.set k o ++ os := List.set_append_left _ _ h
theorem Eff.len {e:Eff} {f:Foot} {st:St} (h:e.inn f) (hm:f.nu = none):(e.app st).length = st.length := by
 cases e with
 | lend ks => exact lend_length ks st
 | set k o => simp [Eff.app]
 | push os => simp [Eff.inn,hm] at h
theorem Eff.comm {e e':Eff} {f g:Foot} {st:St} (h:e.inn f) (h':e'.inn g) (hok:f.ok g = true) (hf:∀ n,f.nu = some n → n = st.length) (hg:∀ n,g.nu = some n → n = st.length):e.app (e'.app st) = e'.app (e.app st) := by
 obtain ⟨o1,o2,o3,o4,o5,o6,o7,o8⟩ := ok_spec hok
 have some_of:∀ {m:Option Nat},m.isSome = true → (∀ n,m = some n → n = st.length) → m = some st.length := by
  intro m h1 h2
  cases m with
  | none => cases h1
  | some n => rw [h2 n rfl]
 cases e with
 | lend ks =>
  cases e' with
  | lend qs => exact lend_comm ks qs st
  | set k o => exact lend_set ks st k o fun hk => o1 k h' (h k hk)
  | push os => exact lend_app ks st os fun k hk => o6 _ (some_of h' hg) k (h _ hk)
 | set k o =>
  cases e' with
  | lend qs => exact (lend_set qs st k o fun hk => o3 k h (h' k hk)).symm
  | set k' q => exact List.set_comm _ _ (fun e => o2 k' h' (e ▸ h))
  | push q => exact set_app st k o q (o7 _ (some_of h' hg) _ h)
 | push o =>
  cases e' with
  | lend qs => exact (lend_app qs st o fun k hk => o4 _ (some_of h hf) k (h' _ hk)).symm
  | set k q => exact (set_app st k q o (o5 _ (some_of h hf) _ h')).symm
  | push q =>
   have a := some_of h hf
   have b := some_of h' hg
   rcases o8 with c | c
   ·rw [c] at a; cases a
   ·rw [c] at b; cases b
theorem Eff.eq_at {e:Eff} {f:Foot} {st:St} (h:e.inn f) (hm:∀ n,f.nu = some n → n = st.length) {k:Nat} (h1:k ∉ f.rd) (h2:k ∉ f.wr) (h3:∀ n,f.nu = some n → k < n):(e.app st)[k]? = st[k]? := by
 cases e with
 | lend ks =>
  show (PI.lend ks st)[k]? = _
  rw [lend_at]
  have:k ∉ ks := fun hk => h1 (h k hk)
  simp [this]
 | set q o =>
  have:q ≠ k := fun e => h2 (e ▸ h)
  simp [Eff.app,this]
 | push o =>
  have hs:f.nu = some st.length := by
   cases hk:f.nu with
   | none => simp [Eff.inn,hk] at h
   | some n => rw [hm n hk]
  have := h3 _ hs
  show (st ++ o)[k]? = _
  rw [List.getElem?_append_left this]
theorem Eff.like_at {e:Eff} {f:Foot} {st:St} (h:e.inn f) (hm:∀ n,f.nu = some n → n = st.length) {k:Nat} (h2:k ∉ f.wr) (h3:∀ n,f.nu = some n → k < n):Like st (e.app st) k := by
 cases e with
 | lend ks =>
  show Like st (PI.lend ks st) k
  unfold Like
  rw [lend_at]
  cases hk:st[k]? with
  | none => exact .inl ⟨rfl,rfl⟩
  | some o => exact .inr ⟨o,_,rfl,rfl,by split <;> rfl,by split <;> rfl,by split <;> rfl⟩
 | set q o =>
  have:q ≠ k := fun e => h2 (e ▸ h)
  exact Like.of_eq (by simp [Eff.app,this])
 | push o =>
  have hs:f.nu = some st.length := by
   cases hk:f.nu with
   | none => simp [Eff.inn,hk] at h
   | some n => rw [hm n hk]
  have := h3 _ hs
  refine Like.of_eq ?_
  show (st ++ o)[k]? = _
  rw [List.getElem?_append_left this]
theorem swapOp {T:Tbl} {ρx ρy:PA → D} {x y:POp} {st st1 st2:St} {dx dy:D} {f g:Foot} (hx:x.exec T ρx st = some (dx,st1)) (hfx:x.foot ρx st = some f) (hy:y.exec T ρy st1 = some (dy,st2)) (hgy:y.foot ρy st1 = some g) (hok:f.ok g = true) :
  ∃ st1',y.exec T ρy st = some (dy,st1') ∧ y.foot ρy st = some g ∧ x.exec T ρx st1' = some (dx,st2) ∧ x.foot ρx st1' = some f := by
 obtain ⟨o1,o2,o3,o4,o5,o6,o7,o8⟩ := ok_spec hok
 obtain ⟨e,e1,e2,e3⟩ := exec_same x hfx hx
 have hfm := foot_mk hfx
 have hgm0 := foot_mk hgy
 have hgm:∀ n,g.nu = some n → n = st.length := by
  intro n hn
  rw [hgm0 n hn,e2]
  rcases o8 with c | c
  ·exact Eff.len e1 c
  ·rw [c] at hn; cases hn
 have hgy':y.foot ρy st = some g := by
  rcases o8 with c | c
  ·rw [foot_len (st := st1) y (by rw [e2]; exact (Eff.len e1 c).symm)]; exact hgy
  ·exact foot_fresh hgy c
 obtain ⟨q,q1,q2,q3⟩ := exec_same y hgy hy
 have hy' := q3 st (fun k hk => by
   rw [e2]
   exact (Eff.like_at e1 hfm (fun hw => o3 k hw hk) (fun n hn => o4 n hn k hk)).symm)
  (fun k hk => by
   rw [e2]
   exact (Eff.eq_at e1 hfm (fun hr => o1 k hk hr) (fun hw => o2 k hk hw) (fun n hn => o5 n hn k hk)).symm)
  (fun hm => by
   rw [e2]
   rcases o8 with c | c
   ·exact (Eff.len e1 c).symm
   ·rw [c] at hm; cases hm)
 refine ⟨q.app st,hy',hgy',?_,?_⟩
 ·have := e3 (q.app st) (fun k hk => Eff.like_at q1 hgm (fun hw => o1 k hw hk) (fun n hn => o6 n hn k hk))
   (fun k hk => Eff.eq_at q1 hgm (fun hr => o3 k hk hr) (fun hw => o2 k hw hk) (fun n hn => o7 n hn k hk))
   (fun hm => by
    rcases o8 with c | c
    ·rw [c] at hm; cases hm
    ·exact Eff.len q1 c)
  rw [this,q2,e2,Eff.comm e1 q1 hok hfm hgm]
 ·rcases o8 with c | c
  ·exact foot_fresh hfx c
  ·rw [foot_len (st := st) x (Eff.len q1 c)]; exact hfx
def PI.regs (x y:PI):Bool :=
 (match x.dst with
  | some d => !(y.reads.contains d) && y.dst != some d
  | none => true) &&
 (match y.dst with
  | some d => !(x.reads.contains d)
  | none => true)
theorem regs_spec {x y:PI} (h:x.regs y = true):(∀ t,x.dst = some t → t ∉ y.reads) ∧ (∀ t,x.dst = some t → y.dst ≠ some t) ∧ (∀ t,y.dst = some t → t ∉ x.reads) := by
 simp only [PI.regs,Bool.and_eq_true] at h
 obtain ⟨h1,h2⟩ := h
 refine ⟨fun t ht => ?_,fun t ht => ?_,fun t ht => ?_⟩
 ·simp only [ht,Bool.and_eq_true,Bool.not_eq_true'] at h1
  simpa using h1.1
 ·simp only [ht,Bool.and_eq_true,bne_iff_ne] at h1
  exact h1.2
 ·simp only [ht,Bool.not_eq_true'] at h2
  simpa using h2
theorem regs_of_apart {x y:PI} (h:x.apart y = true):x.regs y = true := by
 simp only [PI.apart,Bool.and_eq_true] at h
 simp only [PI.regs,Bool.and_eq_true]
 exact h.1
theorem foot_put {G:Glob} {fr:Frame} {dst:Option Nat} {d:D} {st:St} {i:PI} (h:∀ t,dst = some t → t ∉ i.reads):i.op.foot (rho G (fr.put dst d)) st = i.op.foot (rho G fr) st := by
 refine foot_congr i.op fun x hx => rho_put fun t ht hm => h t ht ?_
 simp only [PI.reads,List.mem_append,List.mem_flatMap]
 exact .inl ⟨x,hx,hm⟩
def Pair (x y:PI × Option Foot):Prop := x.1.regs y.1 = true ∧ (x.1.apart y.1 = true ∨ ∃ f g:Foot,x.2 = some f ∧ y.2 = some g ∧ f.ok g = true)
theorem len_low {G:Glob} {T:Tbl} {x:PI} {s s1:PS} (h:x.exec G T s = some s1) (hc:x.op.cls ≤ 2):s1.st.length = s.st.length := by
 rw [PI.exec_eq] at h
 simp only [Option.map_eq_some_iff] at h
 obtain ⟨⟨d,st⟩,h1,rfl⟩ := h
 unfold PI.step at h1
 split at h1
 ·cases h1
 ·simp only [Option.some.injEq,Prod.mk.injEq] at h1; rw [h1.2]
 ·obtain ⟨ks,rfl⟩ := exec_form x.op hc h1
  exact lend_length ks s.st
theorem fr_exec {G:Glob} {T:Tbl} {x:PI} {s s1:PS} (h:x.exec G T s = some s1):∃ d,s1.fr = s.fr.put x.dst d := by
 rw [PI.exec_eq] at h
 simp only [Option.map_eq_some_iff] at h
 obtain ⟨⟨d,st⟩,h1,rfl⟩ := h
 exact ⟨d,rfl⟩
theorem footPI {G:Glob} {i:PI} {s s':PS} {dst:Option Nat} {d:D} (hfr:s'.fr = s.fr.put dst d) (h:∀ t,dst = some t → t ∉ i.reads) (hst:i.op.foot (rho G s.fr) s'.st = i.op.foot (rho G s.fr) s.st):i.foot G s' = i.foot G s := by
 unfold PI.foot
 rw [hfr,wanted_put' h,foot_put h,hst]
theorem swapD {G:Glob} {T:Tbl} {x y:PI} {s s1 s2:PS} (h:Pair (x,x.foot G s) (y,y.foot G s1)) (hx:x.exec G T s = some s1) (hy:y.exec G T s1 = some s2) :
  ∃ s1',y.exec G T s = some s1' ∧ x.exec G T s1' = some s2 ∧ y.foot G s = y.foot G s1 ∧ x.foot G s1' = x.foot G s := by
 obtain ⟨hreg,h⟩ := h
 dsimp only at hreg h
 obtain ⟨a1,a2,a3⟩ := regs_spec hreg
 rcases h with h | ⟨f,g,hf,hg,hok⟩
 ·obtain ⟨s1',h1,h2⟩ := swap h hx hy
  obtain ⟨_,_,_,a4⟩ := apart_spec h
  obtain ⟨dx,ex⟩ := fr_exec hx
  obtain ⟨dy,ey⟩ := fr_exec h1
  refine ⟨s1',h1,h2,(footPI ex a1 ?_).symm,footPI ey a3 ?_⟩
  ·rcases a4 with c | c | ⟨c,_⟩ | ⟨c,_⟩
   ·exact foot_len _ (len_low hx (by omega))
   ·exact foot_low _ (by omega) _ _
   ·exact foot_len _ (len_low hx c)
   ·exact foot_len _ (len_low hx c)
  ·rcases a4 with c | c | ⟨c,_⟩ | ⟨c,_⟩
   ·exact foot_low _ (by omega) _ _
   ·exact foot_len _ (len_low h1 (by omega))
   ·exact foot_low _ c _ _
   ·exact foot_low _ c _ _
 ·have hyw:y.wanted s1.fr = y.wanted s.fr := by
   obtain ⟨dx,ex⟩ := fr_exec hx
   rw [ex]; exact wanted_put' a1
  rw [PI.exec_eq] at hx hy
  simp only [Option.map_eq_some_iff] at hx hy
  obtain ⟨⟨dx,stx⟩,hx,rfl⟩ := hx
  obtain ⟨⟨dy,sty⟩,hy,rfl⟩ := hy
  simp only at hy hyw hg ⊢
  have hxw:∀ d,x.wanted (s.fr.put y.dst d) = x.wanted s.fr := fun d => wanted_put' a3
  have key:∀ sty',y.step G T s = some (dy,sty') → (∀ d,x.step G T { fr := s.fr.put y.dst d,st := sty' } = some (dx,sty)) → x.op.foot (rho G s.fr) sty' = x.op.foot (rho G s.fr) s.st → y.op.foot (rho G s.fr) stx = y.op.foot (rho G s.fr) s.st →
    ∃ s1',y.exec G T s = some s1' ∧ x.exec G T s1' = some { fr := (s.fr.put x.dst dx).put y.dst dy,st := sty } ∧ y.foot G s = y.foot G { fr := s.fr.put x.dst dx,st := stx } ∧ x.foot G s1' = x.foot G s := by
   intro sty' h1 h2 h3 h4
   refine ⟨{ fr := s.fr.put y.dst dy,st := sty' },by rw [PI.exec_eq,h1]; rfl,?_,(footPI (s' := { fr := s.fr.put x.dst dx,st := stx }) rfl a1 h4).symm,footPI (s' := { fr := s.fr.put y.dst dy,st := sty' }) rfl a3 h3⟩
   rw [PI.exec_eq,h2 dy]
   simp only [Option.map_some]
   rw [put_comm s.fr dx dy a2]
  unfold PI.step at hx hy
  simp only [hyw] at hy
  cases hwx:x.wanted s.fr with
  | none => simp [hwx] at hx
  | some bx =>
   cases hwy:y.wanted s.fr with
   | none => simp [hwy] at hy
   | some by' =>
    cases bx with
    | false =>
     simp only [hwx,Option.some.injEq,Prod.mk.injEq] at hx
     obtain ⟨rfl,rfl⟩ := hx
     cases by' with
     | false =>
      simp only [hwy,Option.some.injEq,Prod.mk.injEq] at hy
      obtain ⟨rfl,rfl⟩ := hy
      exact key s.st (by simp [PI.step,hwy]) (fun d => by simp [PI.step,hxw,hwx]) rfl rfl
     | true =>
      simp only [hwy] at hy
      rw [exec_put a1] at hy
      refine ⟨{ fr := s.fr.put y.dst dy,st := sty },by rw [PI.exec_eq]; simp [PI.step,hwy,hy],?_,?_,?_⟩
      ·rw [PI.exec_eq]
       simp only [PI.step,hxw,hwx,Option.map_some]
       rw [put_comm s.fr _ dy a2]
      ·exact (footPI (s' := { fr := s.fr.put x.dst (.tup []),st := s.st }) rfl a1 rfl).symm
      ·unfold PI.foot
       simp only [hxw,hwx]
    | true =>
     simp only [hwx] at hx
     simp only [PI.foot,hwx] at hf
     cases by' with
     | false =>
      simp only [hwy,Option.some.injEq,Prod.mk.injEq] at hy
      obtain ⟨rfl,rfl⟩ := hy
      refine ⟨{ fr := s.fr.put y.dst (.tup []),st := s.st },by rw [PI.exec_eq]; simp [PI.step,hwy],?_,?_,?_⟩
      ·rw [PI.exec_eq]
       simp only [PI.step,hxw,hwx]
       rw [exec_put a3,hx]
       simp only [Option.map_some]
       rw [put_comm s.fr dx _ a2]
      ·unfold PI.foot
       simp only [hyw,hwy]
      ·exact footPI (s' := { fr := s.fr.put y.dst (.tup []),st := s.st }) rfl a3 rfl
     | true =>
      simp only [hwy] at hy
      rw [exec_put a1] at hy
      simp only [PI.foot,hyw,hwy] at hg
      rw [foot_put a1] at hg
      obtain ⟨st1',h1,h2,h3,h4⟩ := swapOp hx hf hy hg hok
      exact key st1' (by simp only [PI.step,hwy]; exact h1) (fun d => by simp only [PI.step,hxw,hwx]; rw [exec_put a3]; exact h3) (by rw [h4,hf]) (by rw [hg,h2])
def Run (G:Glob) (T:Tbl):List (PI × Option Foot) → PS → PS → Prop
 | [],s,s' => s' = s
 | a :: l,s,s' => a.1.foot G s = a.2 ∧ ∃ s1,a.1.exec G T s = some s1 ∧ Run G T l s1 s'
theorem pullD {G:Glob} {T:Tbl} {i:PI × Option Foot}:∀ (l r:List (PI × Option Foot)) (s sf:PS),(∀ x ∈ l,Pair x i) → Run G T (l ++ i :: r) s sf → ∃ s',i.1.exec G T s = some s' ∧ i.1.foot G s = i.2 ∧ Run G T (l ++ r) s' sf
 | [],r,s,sf,_,h => by
  obtain ⟨h1,s1,h2,h3⟩ := h
  exact ⟨s1,h2,h1,h3⟩
 | x :: l,r,s,sf,ha,h => by
  obtain ⟨h1,s1,h2,h3⟩ := h
  obtain ⟨s2,h4,h5,h6⟩ := pullD l r s1 sf (fun y hy => ha y (by simp [hy])) h3
  have hp := ha x (by simp)
  have hp':Pair (x.1,x.1.foot G s) (i.1,i.1.foot G s1) := by rw [h1,h5]; exact hp
  obtain ⟨s1',k1,k2,k3,k4⟩ := swapD hp' h2 h4
  exact ⟨s1',k1,by rw [k3,h5],by rw [k4,h1],s2,k2,h6⟩
theorem run_of_execs {G:Glob} {T:Tbl}:∀ (l:List PI) (s sf:PS),execs G T l s = some sf → ∃ F:List (Option Foot),F.length = l.length ∧ Run G T (l.zip F) s sf
 | [],s,sf,h => by
  simp only [execs,Option.some.injEq] at h
  exact ⟨[],rfl,h.symm⟩
 | i :: l,s,sf,h => by
  simp only [execs] at h
  split at h
  ·rename_i s1 hs
   obtain ⟨F,h1,h2⟩ := run_of_execs l s1 sf h
   exact ⟨i.foot G s :: F,by simp [h1],rfl,s1,hs,h2⟩
  ·cases h
theorem ckF_spec {fs:List (Option Foot)} {g:Option Foot}:∀ {cs:List Nat},ckF fs g cs = true → ∀ j ∈ cs,∃ f g':Foot,fs[j]? = some (some f) ∧ g = some g' ∧ f.ok g' = true
 | [],_,j,hj => by cases hj
 | c :: cs,h,j,hj => by
  simp only [ckF,Bool.and_eq_true] at h
  rcases List.mem_cons.1 hj with rfl | hj
  ·have h1 := h.1
   cases hf:fs[j]? with
   | none => rw [hf] at h1; cases h1
   | some o =>
    rw [hf] at h1
    cases o with
    | none => cases h1
    | some f =>
     cases g with
     | none => cases h1
     | some g' => exact ⟨f,g',rfl,rfl,h1⟩
  ·exact ckF_spec h.2 j hj
theorem run_of_anys {G:Glob} {T:Tbl}:∀ (l:List (PI × Bool × List Nat)) (fs:List (Option Foot)) (s sf:PS),anys G T l fs s = some sf → ∃ F:List (Option Foot),F.length = l.length ∧ Run G T ((l.map (·.1)).zip F) s sf ∧
   ∀ (i:Nat) (q:PI × Bool × List Nat),l[i]? = some q → ∀ j ∈ q.2.2,∃ f g:Foot,F[i]? = some (some g) ∧ f.ok g = true ∧ (fs[j]? = some (some f) ∨ (fs.length ≤ j ∧ F[j - fs.length]? = some (some f)))
 | [],fs,s,sf,h => by
  simp only [anys,Option.some.injEq] at h
  exact ⟨[],rfl,h.symm,fun i q hq => by simp at hq⟩
 | (i0,b,cs) :: l,fs,s,sf,h => by
  simp only [anys] at h
  split at h
  case isFalse => cases h
  rename_i hck
  split at h
  ·rename_i s1 hs
   obtain ⟨F,h1,h2,h3⟩ := run_of_anys l _ s1 sf h
   refine ⟨i0.foot G s :: F,by simp [h1],⟨rfl,s1,hs,h2⟩,?_⟩
   intro i q hq j hj
   cases i with
   | zero =>
    simp only [List.getElem?_cons_zero,Option.some.injEq] at hq
    subst hq
    obtain ⟨f,g',e1,e2,e3⟩ := ckF_spec hck j hj
    exact ⟨f,g',by simp [e2],e3,.inl e1⟩
   | succ i =>
    simp only [List.getElem?_cons_succ] at hq
    obtain ⟨f,g,e1,e2,e3⟩ := h3 i q hq j hj
    refine ⟨f,g,by simpa using e1,e2,?_⟩
    rcases e3 with e3 | ⟨e3,e4⟩
    ·rcases Nat.lt_trichotomy j fs.length with hjl | hjl | hjl
     ·rw [List.getElem?_append_left hjl] at e3; exact .inl e3
     ·subst hjl
      rw [List.getElem?_append_right (Nat.le_refl _)] at e3
      simp only [Nat.sub_self,List.getElem?_cons_zero,Option.some.injEq] at e3
      cases b with
      | false => simp at e3
      | true => exact .inr ⟨Nat.le_refl _,by simp [← e3]⟩
     ·rw [List.getElem?_eq_none (by simp; omega)] at e3; cases e3
    ·simp only [List.length_append,List.length_cons,List.length_nil] at e3 e4
     refine .inr ⟨by omega,?_⟩
     rw [show j - fs.length = (j - (fs.length + (0 + 1))) + 1 by omega]
     simpa using e4
  ·cases h
def csOf (ms:List Nat) (l:List PI) (i:Nat) (y:PI):List Nat := (List.range i).filter fun j => !((ms.getD i 0).testBit j) && !((l.getD j default).apart y)
def anyOf (ms:List Nat) (l:List PI):Option (List (PI × Bool × List Nat)) :=
 if l.zipIdx.all fun yi => (csOf ms l yi.2 yi.1).all fun j => (l.getD j default).regs yi.1 then
  some (l.zipIdx.map fun yi => (yi.1,(l.zipIdx.map fun zj => csOf ms l zj.2 zj.1).any (fun c => c.contains yi.2),csOf ms l yi.2 yi.1))
 else none
theorem anyOf_spec {ms:List Nat} {l:List PI} {q:List (PI × Bool × List Nat)} (h:anyOf ms l = some q):q.length = l.length ∧ q.map (·.1) = l ∧ (∀ (i:Nat) y,l[i]? = some y → ∃ b,q[i]? = some (y,b,csOf ms l i y) ∧ ∀ j ∈ csOf ms l i y,(l.getD j default).regs y = true) := by
 unfold anyOf at h
 split at h
 case isFalse => cases h
 rename_i hall
 simp only [Option.some.injEq] at h
 subst h
 refine ⟨by simp,?_,?_⟩
 ·rw [List.map_map]
  apply List.ext_getElem?
  intro i
  simp only [List.getElem?_map,List.getElem?_zipIdx,Option.map_map]
  cases l[i]? <;> rfl
 ·intro i y hy
  refine ⟨(l.zipIdx.map fun zj => csOf ms l zj.2 zj.1).any (fun c => c.contains i),?_,?_⟩
  ·simp only [List.getElem?_map,List.getElem?_zipIdx,hy,Option.map_some,Nat.zero_add]
  ·rw [List.all_eq_true] at hall
   have := hall (y,i) (by rw [List.mk_mem_zipIdx_iff_getElem?]; exact hy)
   simpa [List.all_eq_true] using this
def csOrd (ms:List Nat) (l:List PI) (bad:Option (Nat × Nat)) (ord:List Nat) (p i:Nat):List Nat :=
 (List.range p).filter fun j => !((ms.getD i 0).testBit (ord.getD j 0)) && !((l.getD (ord.getD j 0) default).apart (l.getD i default)) && !(bad == some (ord.getD j 0,i))
def anyOrd (ms:List Nat) (l:List PI) (bad:Option (Nat × Nat)) (ord:List Nat):Option (List (PI × Bool × List Nat)) :=
 if ord.zipIdx.all fun ip => (csOrd ms l bad ord ip.2 ip.1).all fun j => (l.getD (ord.getD j 0) default).regs (l.getD ip.1 default) then
  some (ord.zipIdx.map fun ip => (l.getD ip.1 default,(ord.zipIdx.map fun kq => csOrd ms l bad ord kq.2 kq.1).any (fun c => c.contains ip.2),csOrd ms l bad ord ip.2 ip.1))
 else none
theorem anyOrd_spec {ms:List Nat} {l:List PI} {bad:Option (Nat × Nat)} {ord:List Nat} {q:List (PI × Bool × List Nat)} (h:anyOrd ms l bad ord = some q) :
  q.length = ord.length ∧ q.map (·.1) = ord.map (fun k => l.getD k default) ∧ (∀ (p i:Nat),ord[p]? = some i → ∃ b,q[p]? = some (l.getD i default,b,csOrd ms l bad ord p i) ∧ ∀ j ∈ csOrd ms l bad ord p i,(l.getD (ord.getD j 0) default).regs (l.getD i default) = true) := by
 unfold anyOrd at h
 split at h
 case isFalse => cases h
 rename_i hall
 simp only [Option.some.injEq] at h
 subst h
 refine ⟨by simp,?_,?_⟩
 ·rw [List.map_map]
  apply List.ext_getElem?
  intro i
  simp only [List.getElem?_map,List.getElem?_zipIdx,Option.map_map]
  cases ord[i]? <;> rfl
 ·intro p i hi
  refine ⟨(ord.zipIdx.map fun kq => csOrd ms l bad ord kq.2 kq.1).any (fun c => c.contains p),?_,?_⟩
  ·simp only [List.getElem?_map,List.getElem?_zipIdx,hi,Option.map_some,Nat.zero_add]
  ·rw [List.all_eq_true] at hall
   have := hall (i,p) (by rw [List.mk_mem_zipIdx_iff_getElem?]; exact hi)
   simpa [List.all_eq_true] using this
def badPair (ms:List Nat) (l:List PI):Option (Nat × Nat) :=
 match (l.zipIdx.flatMap fun yi => ((l.take yi.2).zipIdx.filter fun xj => xj.1.op.push && yi.1.op.push && !((ms.getD yi.2 0).testBit xj.2)).map fun xj => (xj.2,yi.2)) with
 | [p] => some p
 | _ => none
def POp.push2:POp → Bool
 | .box _ | .mkslc _ _ _ _ _ | .app _ _ _ _ | .mcall _ _ => true
 | _ => false
def badPairs (ms:List Nat) (l:List PI):List (Nat × Nat) :=
 l.zipIdx.flatMap fun yi => ((l.take yi.2).zipIdx.filter fun xj => xj.1.op.push2 && yi.1.op.push2 && !((ms.getD yi.2 0).testBit xj.2)).map fun xj => (xj.2,yi.2)
def ord2 (ms:List Nat) (m x y:Nat):List Nat :=
 (List.range m).filter (fun k => k < x || (k < y && (ms.getD y 0).testBit k) || k == y) ++ (List.range m).filter (fun k => !(k < x || (k < y && (ms.getD y 0).testBit k) || k == y))
def isOrd (m:Nat) (ord:List Nat):Bool := ord.length == m && (List.range m).all (fun k => ord.contains k)
def altL (keep:List Nat) (ms:List Nat) (l:List PI) (m:Nat):List (Nat × Nat) → PC
 | [] => .fail
 | (x,y) :: r => match anyOrd ms l (some (x,y)) (List.range m),anyOrd ms l (some (y,x)) (ord2 ms m x y) with
  | some q1,some q2 => if isOrd m (ord2 ms m x y) && x != y && decide (x < m) && decide (y < m) then .alt (.any2 keep q1 q2) (altL keep ms l m r) else altL keep ms l m r
  | _,_ => altL keep ms l m r
end Go.Proofs.YtlleccmnjpcogaaDoor.PI
