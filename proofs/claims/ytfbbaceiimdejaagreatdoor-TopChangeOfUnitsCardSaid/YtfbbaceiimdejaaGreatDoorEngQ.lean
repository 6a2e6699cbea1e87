/-
  The translation of code, and that it is sound: a function whose translation comes to a value meets its contract.
  Conditions: none; these are definitions and lemmas.
-/
import Derived.Test.YtfbbaceiimdejaaGreatDoorEngP
import Derived.OrdersIn
import Derived.TacticsIn
import Derived.Sort.LoopGhostIn
import Derived.RangeFuncLeaves
import Derived.RangeFuncRecord
set_option linter.unusedVariables false
set_option linter.unusedSimpArgs false
namespace Go.Proofs.YtfbbaceiimdejaaGreatDoor.PI
open Go Go.RowKit
def Like(st st2:St)(k:Nat):Prop:=(st[k]?=none∧st2[k]?=none)∨∃ o o2,st[k]?=some o∧st2[k]?=some o2∧o2.row=o.row∧o2.sz=o.sz∧o2.els=o.els
theorem Like.symm{st st2:St}{k:Nat}(h:Like st st2 k):Like st2 st k:=by
 rcases h with⟨a,b⟩ | ⟨o,o2,a,b,c,d,e⟩
 ·exact .inl ⟨b,a⟩
 ·exact .inr ⟨o2,o,b,a,c.symm,d.symm,e.symm⟩
theorem Like.of_eq{st st2:St}{k:Nat}(h:st2[k]?=st[k]?):Like st st2 k:=by
 cases hk:st[k]? with
 |none=>exact .inl ⟨hk,by rw[h,hk]⟩
 |some o=>exact .inr ⟨o,o,hk,by rw[h,hk],rfl,rfl,rfl⟩
theorem rowEls_like{st st2:St}{key:Nat}(h:Like st st2 key)(tot off len:Nat):rowEls st2 key tot off len=rowEls st key tot off len:=by
 unfold rowEls
 rcases h with⟨a,b⟩ | ⟨o,o2,a,b,c,d,e⟩
 ·rw[a,b]
 ·simp only[a,b,c,d,e]
theorem bslEls_like{st st2:St}{key:Nat}(h:Like st st2 key)(off n sz:Nat)(ag:Bool):bslEls st2 key off n sz ag=bslEls st key off n sz ag:=by
 unfold bslEls
 rcases h with⟨a,b⟩ | ⟨o,o2,a,b,c,d,e⟩
 ·rw[a,b]
 ·simp only[a,b,c,e]
theorem live_like{st st2:St}{key:Nat}(h:Like st st2 key)(tot:Nat):live st2 key tot=live st key tot:=by
 unfold live
 rcases h with⟨a,b⟩ | ⟨o,o2,a,b,c,d,e⟩
 ·rw[a,b]
 ·simp only[a,b,c,e]
theorem imm1_like{st st2:St}{d:D}(h:∀ k∈hk1 d,Like st st2 k):imm1 st2 d=imm1 st d:=by
 cases d with
 |row key tot off len=>simp only[imm1,rowEls_like (h key (by simp[hk1,hk0]))]
 |bsl key off n sz ag=>simp only[imm1,bslI,bslEls_like (h key (by simp[hk1,hk0]))]
 |_=>simp only[imm1]
theorem immL_like{st st2:St}:∀ {l:List D},(∀ k∈l.flatMap hk1,Like st st2 k)→immL st2 l=immL st l
 |[],_=>rfl
 |d::l,h=>by
  simp only[immL]
  rw[imm1_like (fun k hk=>h k (by simp[hk])),immL_like (fun k hk=>h k (by rw[List.flatMap_cons,List.mem_append]; exact .inr hk))]
theorem imm_like{st st2:St}{d:D}(h:∀ k∈hk d,Like st st2 k):imm st2 d=imm st d:=by
 cases d with
 |agg l=>simp only[imm]; rw[immL_like h]
 |tup l=>rfl
 |_=>simp only[imm]; exact imm1_like h
theorem imms_like{st st2:St}:∀ {l:List D},(∀ k∈l.flatMap hk,Like st st2 k)→imms st2 l=imms st l
 |[],_=>rfl
 |d::l,h=>by
  simp only[imms]
  rw[imm_like (fun k hk=>h k (by rw[List.flatMap_cons,List.mem_append]; exact .inl hk)),imms_like (fun k hk=>h k (by rw[List.flatMap_cons,List.mem_append]; exact .inr hk))]
theorem elsOf_like{st st2:St}{d:D}(h:∀ k∈hk d,Like st st2 k):elsOf st2 d=elsOf st d:=by
 cases d with
 |row key tot off len=>simp only[elsOf,rowEls_like (h key (by simp[hk,hk1,hk0]))]
 |bsl key off n sz ag=>simp only[elsOf,bslEls_like (h key (by simp[hk,hk1,hk0]))]
 |_=>rfl
theorem sLen_like{st st2:St}{d:D}(h:∀ k∈hk d,Like st st2 k):sLen st2 d=sLen st d:=by
 cases d with
 |row key tot off len=>simp only[sLen,live_like (h key (by simp[hk,hk1,hk0]))]
 |_=>rfl
theorem pconv_like{st st2:St}{c:PConv}{d:D}(h:∀ k∈hk d,Like st st2 k):pconv st2 c d=pconv st c d:=by
 cases d with
 |row key tot off len=>cases c <;> simp only[pconv,rowEls_like (h key (by simp[hk,hk1,hk0]))]
 |_=>cases c <;> simp only[pconv]
theorem pslice_like{st st2:St}{sz:Nat}{x:D}{lo hi mx:Option D}(h:∀ k∈hk x,Like st st2 k):pslice st2 sz x lo hi mx=pslice st sz x lo hi mx:=by
 cases x with
 |row key tot off len=>
  simp only[pslice]
  rcases h key (by simp[hk,hk1,hk0])with⟨a,b⟩ | ⟨o,o2,a,b,c,d,e⟩
  ·rw[a,b]
  ·simp only[a,b,c,d,e]
 |_=>simp only[pslice]
theorem pidxS_like{st st2:St}{sz:Nat}{x i:D}(h:∀ k∈hk x,Like st st2 k):pidxS st2 sz x i=pidxS st sz x i:=by
 unfold pidxS
 cases natOf i with
 |none=>rfl
 |some j=>
  cases x with
  |row key tot off len=>
   simp only
   rcases h key (by simp[hk,hk1,hk0])with⟨a,b⟩ | ⟨o,o2,a,b,c,d,e⟩
   ·rw[a,b]
   ·simp only[a,b,c,d,e]
  |_=>rfl
theorem pfld_like{st st2:St}{off:Nat}{x:D}(h:∀ k∈rpK x,Like st st2 k):pfld st2 off x=pfld st off x:=by
 cases x with
 |rptr key tot i o=>simp only[pfld,live_like (h key (by simp[rpK]))]
 |_=>rfl
theorem pidxA_like{st st2:St}{n sz:Nat}{x i:D}(h:∀ k∈rpK x,Like st st2 k):pidxA st2 n sz x i=pidxA st n sz x i:=by
 simp only[pidxA,pfld_like h]
theorem pload_like{st st2:St}{n:Nat}{ag:Bool}{p:D}(h:∀ k∈hk p,Like st st2 k):pload st2 n ag p=pload st n ag p:=by
 cases p with
 |ptr key off=>
  simp only[pload]
  rcases h key (by simp[hk,hk1,hk0])with⟨a,b⟩ | ⟨o,o2,a,b,c,d,e⟩
  ·rw[a,b]
  ·simp only[a,b,c,e]
 |rptr key tot i off=>
  simp only[pload]
  rcases h key (by simp[hk,hk1,hk0])with⟨a,b⟩ | ⟨o,o2,a,b,c,d,e⟩
  ·rw[a,b]
  ·simp only[a,b,c,e]
 |_=>simp only[pload]
theorem pmapget_like{st st2:St}{sz:Nat}{ks:List Nat}{ok:Bool}{zero m k:D}(h:∀ k∈hk m,Like st st2 k):pmapget st2 sz ks ok zero m k=pmapget st sz ks ok zero m k:=by
 cases m with
 |mapv key=>
  simp only[pmapget]
  rcases h key (by simp[hk,hk1,hk0])with⟨a,b⟩ | ⟨o,o2,a,b,c,d,e⟩
  ·rw[a,b]
  ·simp only[a,b,Obj.isMap,c,d,e]
   rfl
 |_=>simp only[pmapget]
theorem nilc_like{st st2:St}{p:D}(h:∀ k∈rpK p,Like st st2 k):∀ key tot i off,p=.rptr key tot i off→live st2 key tot=live st key tot:=by
 rintro key tot i off rfl
 exact live_like (h key (by simp[rpK])) tot
theorem key1_hk1{d:D}{k:Nat}(h:k∈key1 d):k∈hk1 d:=by
 cases d <;> simp_all [key1,hk1,hk0]
theorem keys_hk{d:D}{k:Nat}(h:k∈keys d):k∈hk d:=by
 cases d with
 |agg l=>
  simp only[keys,hk,List.mem_flatMap]at h ⊢
  obtain⟨x,h1,h2⟩:=h
  exact⟨x,h1,key1_hk1 h2⟩
 |row a b c e=>exact h
 |bsl key off n sz ag=>simp only[keys,key1,List.mem_singleton]at h; subst h; simp[hk,hk1,hk0]
 |_=>simp[keys,key1]at h
theorem keysL_hk{l:List D}{k:Nat}(h:k∈l.flatMap keys):k∈l.flatMap hk:=by
 simp only[List.mem_flatMap]at h ⊢
 obtain⟨x,h1,h2⟩:=h
 exact⟨x,h1,keys_hk h2⟩
inductive Eff where
 |lend (ks:List Nat)
 |set (k:Nat) (o:Obj)
 |push (os:List Obj)
theorem appN_of{st:St}{d:D}{szx:Nat}{xs:List D}(h:elsOf st d=some (szx,xs))(hx:xs≠[])(n:Nat):appN d n=some n:=by
 unfold appN
 split
 ·simp only[elsOf,Option.some.injEq,Prod.mk.injEq]at h
  exact absurd h.2.symm hx
 ·rfl
theorem appN_some{d:D}{n m:Nat}(h:appN d m=some n):n=m:=by
 unfold appN at h
 split at h
 ·cases h
 ·simpa using h.symm
theorem appN_none{d:D}{n:Nat}(h:appN d n=none)(m:Nat):appN d m=none:=by
 unfold appN at h ⊢
 split
 ·rfl
 ·rename_i hx
  split at h
  ·rename_i a b; exact absurd rfl (hx _ _)
  ·cases h
def Eff.app:Eff→St→St
 |.lend ks,st=>PI.lend ks st
 |.set k o,st=>st.set k o
 |.push os,st=>st++os
def Eff.inn(f:Foot):Eff→Prop
 |.lend ks=>∀ k∈ks,k∈f.rd
 |.set k _=>k∈f.wr
 |.push _=>f.nu.isSome=true
theorem sees_like{st st2:St}:∀ {l:List Nat},(∀ k∈l,Like st st2 k)→sees st2 l=sees st l
 |[],_=>rfl
 |a::l,h=>by
  have e:(st2[a]?).map Obj.see=(st[a]?).map Obj.see:=by
   rcases h a (by simp)with⟨x,y⟩ | ⟨o,o2,x,y,c,d,e⟩
   ·rw[x,y]
   ·simp only[x,y,Option.map_some,Obj.see,c,d,e]
  have ih:=sees_like (st:=st) (st2:=st2) (l:=l) fun k hk=>h k (by simp[hk])
  simp only[sees,e,ih]
theorem reads1_like{st st2:St}{sp:List D→List (Option (Bool×Nat×List D))→Option D}{ds:List D}(h:∀ k∈ds.flatMap hk,Like st st2 k):reads1 sp ds st2=reads1 sp ds st:=by
 have e:(ds.flatMap hk).all (fun k=>(st2[k]?).isSome)=(ds.flatMap hk).all (fun k=>(st[k]?).isSome):=by
  rw[Bool.eq_iff_iff,List.all_eq_true,List.all_eq_true]
  refine forall_congr' fun k=>imp_congr_right fun hk=>?_
  rcases h k hk with⟨x,y⟩ | ⟨o,o2,x,y,_⟩
  ·rw[x,y]
  ·rw[x,y]; simp
 unfold reads1
 rw[e,sees_like h]
theorem exec_same{T:Tbl}{ρ:PA→D}(p:POp){st st':St}{d:D}{f:Foot}(hf:p.foot ρ st=some f)(h:p.exec T ρ st=some (d,st')) :
  ∃ e:Eff,e.inn f∧st'=e.app st∧∀ st2:St,(∀ k∈f.rd,Like st st2 k)→(∀ k∈f.wr,st2[k]?=st[k]?)→(f.nu.isSome=true→st2.length=st.length)→p.exec T ρ st2=some (d,e.app st2):=by
 by_cases hc:p.cls=0
 ·obtain⟨h1,h2⟩:=exec_pure p hc h
  exact⟨.lend [],(fun k hk=>by cases hk),h1,fun st2 _ _ _=>h2 st2⟩
 have rd:∀ {α:Type} (F:St→Option α) (g:α→D),((F st).map fun x=>(g x,st))=some (d,st')→(∀ st2,(∀ k∈f.rd,Like st st2 k)→F st2=F st)→(∀ st2,p.exec T ρ st2=(F st2).map fun x=>(g x,st2))→
   ∃ e:Eff,e.inn f∧st'=e.app st∧∀ st2:St,(∀ k∈f.rd,Like st st2 k)→(∀ k∈f.wr,st2[k]?=st[k]?)→(f.nu.isSome=true→st2.length=st.length)→p.exec T ρ st2=some (d,e.app st2):=by
  intro α F g h1 h2 h3
  simp only[Option.map_eq_some_iff,Prod.mk.injEq]at h1
  obtain⟨x,hx,h4,h5⟩:=h1
  refine⟨.lend [],(fun k hk=>by cases hk),h5.symm,fun st2 hl _ _=>?_⟩
  rw[h3,h2 st2 hl,hx,← h4]; rfl
 cases p with
 |load n ag x=>
  simp only[POp.foot,POp.args,Option.some.injEq]at hf; subst hf
  exact rd (fun st=>pload st n ag (ρ x)) id h (fun st2 hl=>pload_like fun k hk=>hl k (by simpa using hk)) (fun _=>rfl)
 |fld off x=>
  simp only[POp.foot,Option.some.injEq]at hf; subst hf
  exact rd (fun st=>pfld st off (ρ x)) id h (fun st2 hl=>pfld_like hl) (fun _=>rfl)
 |conv c x=>
  simp only[POp.foot,POp.args,Option.some.injEq]at hf; subst hf
  exact rd (fun st=>pconv st c (ρ x)) id h (fun st2 hl=>pconv_like fun k hk=>hl k (by simpa using hk)) (fun _=>rfl)
 |slice sz x lo hi mx=>
  simp only[POp.foot,POp.args,Option.some.injEq]at hf; subst hf
  exact rd (fun st=>pslice st sz (ρ x) (lo.map ρ) (hi.map ρ) (mx.map ρ)) id h (fun st2 hl=>pslice_like fun k hk=>hl k (by rw[List.map_cons,List.flatMap_cons,List.mem_append]; exact .inl hk)) (fun _=>rfl)
 |idxS sz x i=>
  simp only[POp.foot,POp.args,Option.some.injEq]at hf; subst hf
  exact rd (fun st=>pidxS st sz (ρ x) (ρ i)) id h (fun st2 hl=>pidxS_like fun k hk=>hl k (by rw[List.map_cons,List.flatMap_cons,List.mem_append]; exact .inl hk)) (fun _=>rfl)
 |idxA n sz x i=>
  simp only[POp.foot,Option.some.injEq]at hf; subst hf
  exact rd (fun st=>pidxA st n sz (ρ x) (ρ i)) id h (fun st2 hl=>pidxA_like hl) (fun _=>rfl)
 |len str x=>
  simp only[POp.foot,POp.args,Option.some.injEq]at hf; subst hf
  simp only[POp.exec]at h
  split at h
  ·rename_i hs
   exact rd (fun st=>sLen st (ρ x)) (fun n:Nat=>D.int .i64 (n:Int)) h (fun st2 hl=>sLen_like fun k hk=>hl k (by simpa using hk)) (fun st2=>by simp only[POp.exec]; rw[if_pos hs])
  ·cases h
 |nilc x=>
  simp only[POp.foot,Option.some.injEq]at hf; subst hf
  have hn:=fun st2 (hl:∀ k∈rpK (ρ x),Like st st2 k)=>nilc_like (p:=ρ x) hl
  simp only[POp.exec]at h ⊢
  cases hx:ρ x with
  |ptr key off=>
   simp only[hx,Option.some.injEq,Prod.mk.injEq]at h
   refine⟨.lend [],(fun k hk=>by cases hk),h.2.symm,fun st2 hl _ _=>by rw[← h.1]; rfl⟩
  |eptr el off=>
   simp only[hx,Option.some.injEq,Prod.mk.injEq]at h
   refine⟨.lend [],(fun k hk=>by cases hk),h.2.symm,fun st2 hl _ _=>by rw[← h.1]; rfl⟩
  |rptr key tot i off=>
   simp only[hx]at h ⊢
   split at h
   ·rename_i hlv
    simp only[Option.some.injEq,Prod.mk.injEq]at h
    refine⟨.lend [],(fun k hk=>by cases hk),h.2.symm,fun st2 hl _ _=>?_⟩
    rw[hn st2 (by rw[hx]; exact hl) key tot i off hx,if_pos hlv,← h.1]; rfl
   ·cases h
  |_=>simp[hx]at h
 |bslc sz parts=>
  simp only[POp.foot,POp.args,Option.some.injEq]at hf; subst hf
  simp only[POp.exec]at h ⊢
  split at h
  ·rename_i els he
   split at h
   ·rename_i hcond
    simp only[Option.some.injEq,Prod.mk.injEq]at h
    refine⟨.lend ((parts.map ρ).flatMap keys),fun k hk=>keysL_hk hk,h.2.symm,fun st2 hl _ _=>?_⟩
    rw[imms_like hl,he]
    simp only[hcond,if_true,← h.1]
    rfl
   ·cases h
  ·cases h
 |call fn args=>
  simp only[POp.foot,POp.args,Option.some.injEq]at hf; subst hf
  simp only[POp.exec]at h ⊢
  split at h
  ·rename_i sp vs hsp hvs
   split at h
   ·rename_i r hr
    simp only[Option.some.injEq,Prod.mk.injEq]at h
    by_cases hn:r.noRef=true
    ·refine⟨.lend [],(fun k hk=>by cases hk),?_,fun st2 hl _ _=>?_⟩
     ·rw[← h.2,if_pos hn]; rfl
     ·simp only[hsp,imms_like hl,hvs,hr,hn,if_true,← h.1]; rfl
    ·refine⟨.lend ((args.map ρ).flatMap keys),fun k hk=>keysL_hk hk,?_,fun st2 hl _ _=>?_⟩
     ·rw[← h.2,if_neg hn]; rfl
     ·simp only[hsp,imms_like hl,hvs,hr,hn,← h.1]; rfl
   ·cases h
  ·cases h
 |box x=>
  simp only[POp.foot,Option.some.injEq]at hf; subst hf
  simp only[POp.exec]at h ⊢
  split at h
  ·rename_i hcond
   simp only[Option.some.injEq,Prod.mk.injEq]at h
   refine⟨.push _,rfl,h.2.symm,fun st2 _ _ hm=>?_⟩
   rw[if_pos hcond,hm rfl,← h.1]; rfl
  ·cases h
 |mkslc sz bytes zero l c=>
  simp only[POp.foot,Option.some.injEq]at hf; subst hf
  simp only[POp.exec]at h ⊢
  split at h
  ·split at h
   ·rename_i hcond
    simp only[Option.some.injEq,Prod.mk.injEq]at h
    refine⟨.push _,rfl,h.2.symm,fun st2 _ _ hm=>?_⟩
    rw[if_pos hcond,hm rfl,← h.1]; rfl
   ·cases h
  ·cases h
 |mcall fn args=>
  simp only[POp.foot,Option.some.injEq]at hf; subst hf
  simp only[POp.exec]at h ⊢
  split at h
  ·split at h
   ·simp only[Option.some.injEq,Prod.mk.injEq]at h
    refine⟨.push _,rfl,h.2.symm,fun st2 _ _ hm=>?_⟩
    rw[hm rfl,← h.1]; rfl
   ·cases h
  ·cases h
 |stor n p x=>
  simp only[POp.foot,Option.some.injEq]at hf; subst hf
  simp only[POp.exec]at h ⊢
  cases hp:ρ p with
  |ptr key off=>
   rw[hp]at h
   simp only[pstor]at h ⊢
   cases hk:st[key]? with
   |none=>simp[hk]at h
   |some o=>
    simp only[hk]at h
    split at h
    ·rename_i hcond
     simp only[Option.map_some,Option.some.injEq,Prod.mk.injEq]at h
     refine⟨.set key _,by simp[Eff.inn,PI.hk,hk1,hk0],h.2.symm,fun st2 _ hw _=>?_⟩
     have e:=hw key (by simp[PI.hk,hk1,hk0])
     rw[e,hk]
     simp only[hcond,if_true,Option.map_some,← h.1]
     rfl
    ·simp at h
  |rptr key tot i off=>
   rw[hp]at h
   simp only[pstor]at h ⊢
   cases hk:st[key]? with
   |none=>simp[hk]at h
   |some o=>
    cases hy:imm st (ρ x)with
    |none=>simp[hk,hy]at h
    |some y=>
     simp only[hk,hy]at h
     split at h
     case isFalse=>simp at h
     rename_i hcond
     split at h
     case h_2=>simp at h
     rename_i el hel
     split at h
     case h_2=>simp at h
     rename_i el' hel'
     split at h
     case isFalse=>simp at h
     rename_i hlen
     simp only[Option.map_some,Option.some.injEq,Prod.mk.injEq]at h
     refine⟨.set key _,by simp[Eff.inn,PI.hk,hk1,hk0],h.2.symm,fun st2 hl hw _=>?_⟩
     have e:=hw key (by simp[PI.hk,hk1,hk0])
     rw[e,hk,imm_like hl,hy]
     simp only[hcond,if_true,hel,hel',hlen,Option.map_some,← h.1]
     rfl
  |_=>simp[hp,pstor]at h
 |app sz bytes s x=>
  simp only[POp.foot]at hf
  simp only[POp.exec]at h ⊢
  unfold papp at h ⊢
  have hels:∀ st2,(∀ k∈hk (ρ x),Like st st2 k)→elsOf st2 (ρ x)=elsOf st (ρ x):=fun st2 hl=>elsOf_like hl
  cases he:elsOf st (ρ x)with
  |none=>simp[he]at h
  |some r=>
   obtain⟨szx,xs⟩:=r
   simp only[he]at h
   split at h
   ·cases h
   rename_i hc1
   cases hs:ρ s with
   |row key tot off len=>
    simp only[hs,Option.some.injEq]at hf; subst hf
    simp only[hs]at h ⊢
    cases hk:st[key]? with
    |none=>simp[hk]at h
    |some o=>
     simp only[hk]at h
     split at h
     case isFalse=>cases h
     rename_i hcond
     simp only[Option.some.injEq,Prod.mk.injEq]at h
     refine⟨.set key _,by simp[Eff.inn],h.2.symm,fun st2 hl hw _=>?_⟩
     have e:=hw key (by simp)
     rw[hels st2 hl,he,e,hk]
     simp only[hc1,if_false,Bool.false_eq_true,hcond,if_true,← h.1]
     rfl
   |slc sz' els t=>
    simp only[hs,Option.some.injEq]at hf; subst hf
    cases t with
    |false=>simp[hs]at h
    |true=>
     simp only[hs]at h ⊢
     split at h
     ·rename_i hemp
      simp only[Option.some.injEq,Prod.mk.injEq]at h
      refine⟨.lend [],(fun k hk=>by cases hk),h.2.symm,fun st2 hl _ _=>?_⟩
      rw[hels st2 hl,he]
      dsimp only
      rw[if_neg hc1,if_pos hemp,← h.1]
      rfl
     ·rename_i hemp
      split at h
      case isFalse=>cases h
      rename_i hcond
      simp only[Option.some.injEq,Prod.mk.injEq]at h
      have hN:appN (ρ x) st.length=some st.length:=appN_of he (by simpa using hemp) _
      refine⟨.push _,(by show(appN (ρ x) st.length).isSome=true; rw[hN]; rfl),h.2.symm,fun st2 hl _ hm=>?_⟩
      rw[hels st2 hl,he,hm (by show(appN (ρ x) st.length).isSome=true; rw[hN]; rfl)]
      dsimp only
      rw[if_neg hc1,if_neg hemp,if_pos hcond,← h.1]
      rfl
   |_=>simp[hs]at h
 |rcall fn args=>
  simp only[POp.foot,POp.args,Option.some.injEq]at hf; subst hf
  simp only[POp.exec]at h
  split at h
  ·rename_i sp hsp
   exact rd (fun st=>reads1 sp (args.map ρ) st) id h (fun st2 hl=>reads1_like hl) (fun st2=>by simp only[POp.exec,hsp]; rfl)
  ·cases h
 |icall fn args=>simp[POp.foot]at hf
 |callv x args=>simp[POp.foot]at hf
 |fail=>simp[POp.foot]at hf
 |mkmap sz=>
  simp only[POp.foot,Option.some.injEq]at hf; subst hf
  simp only[POp.exec]at h ⊢
  split at h
  ·rename_i hcond
   simp only[Option.some.injEq,Prod.mk.injEq]at h
   refine⟨.push _,rfl,h.2.symm,fun st2 _ _ hm=>?_⟩
   rw[if_pos hcond,hm rfl,← h.1]; rfl
  ·cases h
 |mapup sz ks m k v=>
  simp only[POp.foot,Option.some.injEq]at hf; subst hf
  simp only[POp.exec]at h ⊢
  cases hm:ρ m with
  |mapv key=>
   rw[hm]at h
   simp only[pmapup]at h ⊢
   cases hk:st[key]? with
   |none=>simp[hk]at h
   |some o=>
    cases hv:mval sz (ρ v)with
    |none=>simp[hk,hv]at h
    |some v'=>
     simp only[hk,hv]at h
     split at h
     case isFalse=>simp at h
     rename_i hcond
     cases hu:upE (mS sz) ks (ρ k) v' o.els with
     |none=>simp[hu]at h
     |some els=>
      simp only[hu,Option.map_some,Option.some.injEq,Prod.mk.injEq]at h
      refine⟨.set key _,by simp[Eff.inn,PI.hk,hk1,hk0],h.2.symm,fun st2 _ hw _=>?_⟩
      have e:=hw key (by simp[PI.hk,hk1,hk0])
      rw[e,hk]
      simp only[hcond,if_true,hu,Option.map_some,← h.1]
      rfl
  |_=>simp[hm,pmapup]at h
 |cpy sz d s=>simp[POp.foot]at hf
 |mapget sz ks ok zero m k=>
  simp only[POp.foot,POp.args,Option.some.injEq]at hf; subst hf
  exact rd (fun st=>pmapget st sz ks ok zero (ρ m) (ρ k)) id h (fun st2 hl=>pmapget_like fun k hk=>hl k (by rw[List.map_cons,List.flatMap_cons,List.mem_append]; exact .inl hk)) (fun _=>rfl)
 |_=>simp[POp.cls]at hc
theorem foot_mk{ρ:PA→D}{st:St}{p:POp}{f:Foot}(h:p.foot ρ st=some f):∀ n,f.nu=some n→n=st.length:=by
 intro n hn
 cases p with
 |app sz bytes s x=>
  simp only[POp.foot]at h
  cases hs:ρ s <;> simp only[hs,Option.some.injEq]at h <;> subst h <;> first | exact appN_some hn | (simp at hn; done) | exact(by simpa using hn.symm)
 |_=>
  simp only[POp.foot,Option.some.injEq,reduceCtorEq]at h
  try subst h
  try simp at hn
  try exact hn.symm
theorem foot_len{ρ:PA→D}{st st2:St}(p:POp)(h:st2.length=st.length):p.foot ρ st2=p.foot ρ st:=by
 cases p <;> simp only[POp.foot,h]
theorem foot_low{ρ:PA→D}(p:POp)(hc:p.cls≤2)(st st2:St):p.foot ρ st2=p.foot ρ st:=by
 cases p <;> first | rfl | (simp[POp.cls]at hc; done)
theorem foot_fresh{ρ:PA→D}{st st2:St}{p:POp}{f:Foot}(h:p.foot ρ st=some f)(hm:f.nu=none):p.foot ρ st2=some f:=by
 cases p with
 |app sz bytes s x=>
  simp only[POp.foot]at h ⊢
  cases hs:ρ s <;> simp only[hs,Option.some.injEq]at h ⊢ <;> subst h <;> first | rfl | (simp only[appN_none hm _]; done) | (simp at hm; done) | (rw[appN_none hm st2.length,hm])
 |box x=>simp only[POp.foot,Option.some.injEq]at h; subst h; cases hm
 |mkslc a b c d e=>simp only[POp.foot,Option.some.injEq]at h; subst h; cases hm
 |mkmap sz=>simp only[POp.foot,Option.some.injEq]at h; subst h; cases hm
 |mcall fn args=>simp only[POp.foot,Option.some.injEq]at h; subst h; cases hm
 |_=>exact h
theorem foot_congr{ρ ρ':PA→D}{st:St}(p:POp)(h:∀ x∈p.args,ρ x=ρ' x):p.foot ρ st=p.foot ρ' st:=by
 cases p with
 |stor n p x=>simp only[POp.args,List.mem_cons,List.not_mem_nil,or_false,forall_eq_or_imp,forall_eq]at h; simp only[POp.foot,h]
 |app a b s x=>simp only[POp.args,List.mem_cons,List.not_mem_nil,or_false,forall_eq_or_imp,forall_eq]at h; simp only[POp.foot,h]
 |box x=>rfl
 |mkslc a b c d e=>rfl
 |mcall f args=>rfl
 |icall f args=>rfl
 |callv x args=>rfl
 |fail=>rfl
 |mkmap sz=>rfl
 |mapup sz ks m k v=>simp only[POp.args,List.mem_cons,List.not_mem_nil,or_false,forall_eq_or_imp,forall_eq]at h; simp only[POp.foot,h]
 |cpy sz d s=>rfl
 |fld n x=>simp only[POp.args,List.mem_cons,List.not_mem_nil,or_false,forall_eq]at h; simp only[POp.foot,h]
 |nilc x=>simp only[POp.args,List.mem_cons,List.not_mem_nil,or_false,forall_eq]at h; simp only[POp.foot,h]
 |idxA a b x i=>simp only[POp.args,List.mem_cons,List.not_mem_nil,or_false,forall_eq_or_imp,forall_eq]at h; simp only[POp.foot,h]
 |_=>
  simp only[POp.foot]
  rw[List.map_congr_left h]
theorem away_spec{a b:List Nat}(h:away a b=true):∀ k∈a,k∉b:=by
 simp only[away,List.all_eq_true,Bool.not_eq_true']at h
 intro k hk hb
 have:=h k hk
 simp[hb]at this
theorem awayM_spec{m:Option Nat}{b:List Nat}(h:awayM m b=true):∀ n,m=some n→∀ k∈b,k<n:=by
 rintro n rfl k hk
 simp only[awayM,List.all_eq_true,decide_eq_true_eq]at h
 exact h k hk
theorem ok_spec{f g:Foot}(h:f.ok g=true):(∀ k∈g.wr,k∉f.rd)∧(∀ k∈g.wr,k∉f.wr)∧(∀ k∈f.wr,k∉g.rd)∧(∀ n,f.nu=some n→∀ k∈g.rd,k<n)∧(∀ n,f.nu=some n→∀ k∈g.wr,k<n)∧(∀ n,g.nu=some n→∀ k∈f.rd,k<n)∧(∀ n,g.nu=some n→∀ k∈f.wr,k<n)∧(f.nu=none∨g.nu=none):=by
 simp only[Foot.ok,Bool.and_eq_true,Bool.or_eq_true,Option.isNone_iff_eq_none]at h
 obtain⟨⟨⟨⟨⟨⟨⟨h1,h2⟩,h3⟩,h4⟩,h5⟩,h6⟩,h7⟩,h8⟩:=h
 exact⟨away_spec h1,away_spec h2,away_spec h3,awayM_spec h4,awayM_spec h5,awayM_spec h6,awayM_spec h7,h8⟩
theorem lend_at:∀ (ks:List Nat) (st:St) (i:Nat),(lend ks st)[i]?=(st[i]?).map fun o=>if i∈ks then {o with lent:=true} else o
 |[],st,i=>by simp[lend]
 |k::r,st,i=>by
  rw[lend,lend_at r,modify_get]
  cases st[i]? with
  |none=>rfl
  |some o=>
   by_cases e:k=i
   ·subst e; by_cases e':k∈r <;> simp[e']
   ·have e2:¬ i=k:=fun h=>e h.symm
    by_cases e':i∈r <;> simp[e,e',e2]
theorem lend_set(ks:List Nat)(st:St)(k:Nat)(o:Obj)(h:k∉ks):lend ks (st.set k o)=(lend ks st).set k o:=by
 apply List.ext_getElem?
 intro i
 rw[lend_at,List.getElem?_set,List.getElem?_set,lend_at,lend_length]
 by_cases e:k=i
 ·subst e
  by_cases hl:k<st.length <;> simp[hl,h]
 ·simp[e]
theorem lend_app(ks:List Nat)(st:St)(os:List Obj)(h:∀ k∈ks,k<st.length):lend ks (st++os)=lend ks st++os:=by
 apply List.ext_getElem?
 intro i
 rw[lend_at]
 rcases Nat.lt_or_ge i st.length with hi | hi
 ·rw[List.getElem?_append_left hi,List.getElem?_append_left (by rw[lend_length]; exact hi),lend_at]
 ·rw[List.getElem?_append_right hi,List.getElem?_append_right (by rw[lend_length]; exact hi),lend_length]
  have:i∉ks:=fun hk=>by have:=h i hk; omega
  simp[this]
theorem set_app(st:St)(k:Nat)(o:Obj)(os:List Obj)(h:k<st.length):(st++os).set k o=st.set k o++os:=List.set_append_left _ _ h
theorem Eff.len{e:Eff}{f:Foot}{st:St}(h:e.inn f)(hm:f.nu=none):(e.app st).length=st.length:=by
 cases e with
 |lend ks=>exact lend_length ks st
 |set k o=>simp[Eff.app]
 |push os=>simp[Eff.inn,hm]at h
theorem Eff.comm{e e':Eff}{f g:Foot}{st:St}(h:e.inn f)(h':e'.inn g)(hok:f.ok g=true)(hf:∀ n,f.nu=some n→n=st.length)(hg:∀ n,g.nu=some n→n=st.length):e.app (e'.app st)=e'.app (e.app st):=by
 obtain⟨o1,o2,o3,o4,o5,o6,o7,o8⟩:=ok_spec hok
 have some_of:∀ {m:Option Nat},m.isSome=true→(∀ n,m=some n→n=st.length)→m=some st.length:=by
  intro m h1 h2
  cases m with
  |none=>cases h1
  |some n=>rw[h2 n rfl]
 cases e with
 |lend ks=>
  cases e' with
  |lend qs=>exact lend_comm ks qs st
  |set k o=>exact lend_set ks st k o fun hk=>o1 k h' (h k hk)
  |push os=>exact lend_app ks st os fun k hk=>o6 _ (some_of h' hg) k (h _ hk)
 |set k o=>
  cases e' with
  |lend qs=>exact(lend_set qs st k o fun hk=>o3 k h (h' k hk)).symm
  |set k' q=>exact List.set_comm _ _ (fun e=>o2 k' h' (e ▸ h))
  |push q=>exact set_app st k o q (o7 _ (some_of h' hg) _ h)
 |push o=>
  cases e' with
  |lend qs=>exact(lend_app qs st o fun k hk=>o4 _ (some_of h hf) k (h' _ hk)).symm
  |set k q=>exact(set_app st k q o (o5 _ (some_of h hf) _ h')).symm
  |push q=>
   have a:=some_of h hf
   have b:=some_of h' hg
   rcases o8 with c | c
   ·rw[c]at a; cases a
   ·rw[c]at b; cases b
theorem Eff.eq_at{e:Eff}{f:Foot}{st:St}(h:e.inn f)(hm:∀ n,f.nu=some n→n=st.length){k:Nat}(h1:k∉f.rd)(h2:k∉f.wr)(h3:∀ n,f.nu=some n→k<n):(e.app st)[k]?=st[k]?:=by
 cases e with
 |lend ks=>
  show(PI.lend ks st)[k]?=_
  rw[lend_at]
  have:k∉ks:=fun hk=>h1 (h k hk)
  simp[this]
 |set q o=>
  have:q≠k:=fun e=>h2 (e ▸ h)
  simp[Eff.app,this]
 |push o=>
  have hs:f.nu=some st.length:=by
   cases hk:f.nu with
   |none=>simp[Eff.inn,hk]at h
   |some n=>rw[hm n hk]
  have:=h3 _ hs
  show(st++o)[k]?=_
  rw[List.getElem?_append_left this]
theorem Eff.like_at{e:Eff}{f:Foot}{st:St}(h:e.inn f)(hm:∀ n,f.nu=some n→n=st.length){k:Nat}(h2:k∉f.wr)(h3:∀ n,f.nu=some n→k<n):Like st (e.app st) k:=by
 cases e with
 |lend ks=>
  show Like st (PI.lend ks st) k
  unfold Like
  rw[lend_at]
  cases hk:st[k]? with
  |none=>exact .inl ⟨rfl,rfl⟩
  |some o=>exact .inr ⟨o,_,rfl,rfl,by split <;> rfl,by split <;> rfl,by split <;> rfl⟩
 |set q o=>
  have:q≠k:=fun e=>h2 (e ▸ h)
  exact Like.of_eq (by simp[Eff.app,this])
 |push o=>
  have hs:f.nu=some st.length:=by
   cases hk:f.nu with
   |none=>simp[Eff.inn,hk]at h
   |some n=>rw[hm n hk]
  have:=h3 _ hs
  refine Like.of_eq ?_
  show(st++o)[k]?=_
  rw[List.getElem?_append_left this]
theorem swapOp{T:Tbl}{ρx ρy:PA→D}{x y:POp}{st st1 st2:St}{dx dy:D}{f g:Foot}(hx:x.exec T ρx st=some (dx,st1))(hfx:x.foot ρx st=some f)(hy:y.exec T ρy st1=some (dy,st2))(hgy:y.foot ρy st1=some g)(hok:f.ok g=true) :
  ∃ st1',y.exec T ρy st=some (dy,st1')∧y.foot ρy st=some g∧x.exec T ρx st1'=some (dx,st2)∧x.foot ρx st1'=some f:=by
 obtain⟨o1,o2,o3,o4,o5,o6,o7,o8⟩:=ok_spec hok
 obtain⟨e,e1,e2,e3⟩:=exec_same x hfx hx
 have hfm:=foot_mk hfx
 have hgm0:=foot_mk hgy
 have hgm:∀ n,g.nu=some n→n=st.length:=by
  intro n hn
  rw[hgm0 n hn,e2]
  rcases o8 with c | c
  ·exact Eff.len e1 c
  ·rw[c]at hn; cases hn
 have hgy':y.foot ρy st=some g:=by
  rcases o8 with c | c
  ·rw[foot_len (st:=st1) y (by rw[e2]; exact(Eff.len e1 c).symm)]; exact hgy
  ·exact foot_fresh hgy c
 obtain⟨q,q1,q2,q3⟩:=exec_same y hgy hy
 have hy':=q3 st (fun k hk=>by
   rw[e2]
   exact(Eff.like_at e1 hfm (fun hw=>o3 k hw hk) (fun n hn=>o4 n hn k hk)).symm)
  (fun k hk=>by
   rw[e2]
   exact(Eff.eq_at e1 hfm (fun hr=>o1 k hk hr) (fun hw=>o2 k hk hw) (fun n hn=>o5 n hn k hk)).symm)
  (fun hm=>by
   rw[e2]
   rcases o8 with c | c
   ·exact(Eff.len e1 c).symm
   ·rw[c]at hm; cases hm)
 refine⟨q.app st,hy',hgy',?_,?_⟩
 ·have:=e3 (q.app st) (fun k hk=>Eff.like_at q1 hgm (fun hw=>o1 k hw hk) (fun n hn=>o6 n hn k hk))
   (fun k hk=>Eff.eq_at q1 hgm (fun hr=>o3 k hk hr) (fun hw=>o2 k hw hk) (fun n hn=>o7 n hn k hk))
   (fun hm=>by
    rcases o8 with c | c
    ·rw[c]at hm; cases hm
    ·exact Eff.len q1 c)
  rw[this,q2,e2,Eff.comm e1 q1 hok hfm hgm]
 ·rcases o8 with c | c
  ·exact foot_fresh hfx c
  ·rw[foot_len (st:=st) x (Eff.len q1 c)]; exact hfx
def PI.regs(x y:PI):Bool:=
 (match x.dst with
  |some d=>!(y.reads.contains d) && y.dst != some d
  |none=>true) &&
 (match y.dst with
  |some d=>!(x.reads.contains d)
  |none=>true)
theorem regs_spec{x y:PI}(h:x.regs y=true):(∀ t,x.dst=some t→t∉y.reads)∧(∀ t,x.dst=some t→y.dst≠some t)∧(∀ t,y.dst=some t→t∉x.reads):=by
 simp only[PI.regs,Bool.and_eq_true]at h
 obtain⟨h1,h2⟩:=h
 refine⟨fun t ht=>?_,fun t ht=>?_,fun t ht=>?_⟩
 ·simp only[ht,Bool.and_eq_true,Bool.not_eq_true']at h1
  simpa using h1.1
 ·simp only[ht,Bool.and_eq_true,bne_iff_ne]at h1
  exact h1.2
 ·simp only[ht,Bool.not_eq_true']at h2
  simpa using h2
theorem regs_of_apart{x y:PI}(h:x.apart y=true):x.regs y=true:=by
 simp only[PI.apart,Bool.and_eq_true]at h
 simp only[PI.regs,Bool.and_eq_true]
 exact h.1
theorem foot_put{G:Glob}{fr:Frame}{dst:Option Nat}{d:D}{st:St}{i:PI}(h:∀ t,dst=some t→t∉i.reads):i.op.foot (rho G (fr.put dst d)) st=i.op.foot (rho G fr) st:=by
 refine foot_congr i.op fun x hx=>rho_put fun t ht hm=>h t ht ?_
 simp only[PI.reads,List.mem_append,List.mem_flatMap]
 exact .inl ⟨x,hx,hm⟩
def Pair0(x y:PI×Option Foot):Prop:=x.1.regs y.1=true∧(x.1.apart y.1=true∨∃ f g:Foot,x.2=some f∧y.2=some g∧f.ok g=true)
def Pair(x y:PI×Option Foot):Prop:=x.1.regs y.1=true∧(x.1.apart y.1=true∨∃ f g:Foot,x.2=some f∧y.2=some g∧okK x.1 y.1 f g=true)
theorem len_low{G:Glob}{T:Tbl}{x:PI}{s s1:PS}(h:x.exec G T s=some s1)(hc:x.op.cls≤2):s1.st.length=s.st.length:=by
 rw[PI.exec_eq]at h
 simp only[Option.map_eq_some_iff]at h
 obtain⟨⟨d,st⟩,h1,rfl⟩:=h
 unfold PI.step at h1
 split at h1
 ·cases h1
 ·simp only[Option.some.injEq,Prod.mk.injEq]at h1; rw[h1.2]
 ·obtain⟨ks,rfl⟩:=exec_form x.op hc h1
  exact lend_length ks s.st
theorem fr_exec{G:Glob}{T:Tbl}{x:PI}{s s1:PS}(h:x.exec G T s=some s1):∃ d,s1.fr=s.fr.put x.dst d:=by
 rw[PI.exec_eq]at h
 simp only[Option.map_eq_some_iff]at h
 obtain⟨⟨d,st⟩,h1,rfl⟩:=h
 exact⟨d,rfl⟩
theorem footPI{G:Glob}{i:PI}{s s':PS}{dst:Option Nat}{d:D}(hfr:s'.fr=s.fr.put dst d)(h:∀ t,dst=some t→t∉i.reads)(hst:i.op.foot (rho G s.fr) s'.st=i.op.foot (rho G s.fr) s.st):i.foot G s'=i.foot G s:=by
 unfold PI.foot
 rw[hfr,wanted_put' h,foot_put h,hst]
theorem swapD{G:Glob}{T:Tbl}{x y:PI}{s s1 s2:PS}(h:Pair0 (x,x.foot G s) (y,y.foot G s1))(hx:x.exec G T s=some s1)(hy:y.exec G T s1=some s2) :
  ∃ s1',y.exec G T s=some s1'∧x.exec G T s1'=some s2∧y.foot G s=y.foot G s1∧x.foot G s1'=x.foot G s:=by
 obtain⟨hreg,h⟩:=h
 dsimp only at hreg h
 obtain⟨a1,a2,a3⟩:=regs_spec hreg
 rcases h with h | ⟨f,g,hf,hg,hok⟩
 ·obtain⟨s1',h1,h2⟩:=swap h hx hy
  obtain⟨_,_,_,a4⟩:=apart_spec h
  obtain⟨dx,ex⟩:=fr_exec hx
  obtain⟨dy,ey⟩:=fr_exec h1
  refine⟨s1',h1,h2,(footPI ex a1 ?_).symm,footPI ey a3 ?_⟩
  ·rcases a4 with c | c | ⟨c,_⟩ | ⟨c,_⟩ | c
   ·exact foot_len _ (len_low hx (by omega))
   ·exact foot_low _ (by omega) _ _
   ·exact foot_len _ (len_low hx c)
   ·exact foot_len _ (len_low hx c)
   ·exact(mapPair_foot c).2
  ·rcases a4 with c | c | ⟨c,_⟩ | ⟨c,_⟩ | c
   ·exact foot_low _ (by omega) _ _
   ·exact foot_len _ (len_low h1 (by omega))
   ·exact foot_low _ c _ _
   ·exact foot_low _ c _ _
   ·exact(mapPair_foot c).1
 ·have hyw:y.wanted s1.fr=y.wanted s.fr:=by
   obtain⟨dx,ex⟩:=fr_exec hx
   rw[ex]; exact wanted_put' a1
  rw[PI.exec_eq]at hx hy
  simp only[Option.map_eq_some_iff]at hx hy
  obtain⟨⟨dx,stx⟩,hx,rfl⟩:=hx
  obtain⟨⟨dy,sty⟩,hy,rfl⟩:=hy
  simp only at hy hyw hg ⊢
  have hxw:∀ d,x.wanted (s.fr.put y.dst d)=x.wanted s.fr:=fun d=>wanted_put' a3
  have key:∀ sty',y.step G T s=some (dy,sty')→(∀ d,x.step G T {fr:=s.fr.put y.dst d,st:=sty'}=some (dx,sty))→x.op.foot (rho G s.fr) sty'=x.op.foot (rho G s.fr) s.st→y.op.foot (rho G s.fr) stx=y.op.foot (rho G s.fr) s.st→
    ∃ s1',y.exec G T s=some s1'∧x.exec G T s1'=some {fr:=(s.fr.put x.dst dx).put y.dst dy,st:=sty}∧y.foot G s=y.foot G {fr:=s.fr.put x.dst dx,st:=stx}∧x.foot G s1'=x.foot G s:=by
   intro sty' h1 h2 h3 h4
   refine⟨{fr:=s.fr.put y.dst dy,st:=sty'},by rw[PI.exec_eq,h1]; rfl,?_,(footPI (s':={fr:=s.fr.put x.dst dx,st:=stx}) rfl a1 h4).symm,footPI (s':={fr:=s.fr.put y.dst dy,st:=sty'}) rfl a3 h3⟩
   rw[PI.exec_eq,h2 dy]
   simp only[Option.map_some]
   rw[put_comm s.fr dx dy a2]
  unfold PI.step at hx hy
  simp only[hyw]at hy
  cases hwx:x.wanted s.fr with
  |none=>simp[hwx]at hx
  |some bx=>
   cases hwy:y.wanted s.fr with
   |none=>simp[hwy]at hy
   |some by'=>
    cases bx with
    |false=>
     simp only[hwx,Option.some.injEq,Prod.mk.injEq]at hx
     obtain⟨rfl,rfl⟩:=hx
     cases by' with
     |false=>
      simp only[hwy,Option.some.injEq,Prod.mk.injEq]at hy
      obtain⟨rfl,rfl⟩:=hy
      exact key s.st (by simp[PI.step,hwy]) (fun d=>by simp[PI.step,hxw,hwx]) rfl rfl
     |true=>
      simp only[hwy]at hy
      rw[exec_put a1]at hy
      refine⟨{fr:=s.fr.put y.dst dy,st:=sty},by rw[PI.exec_eq]; simp[PI.step,hwy,hy],?_,?_,?_⟩
      ·rw[PI.exec_eq]
       simp only[PI.step,hxw,hwx,Option.map_some]
       rw[put_comm s.fr _ dy a2]
      ·exact(footPI (s':={fr:=s.fr.put x.dst (.tup []),st:=s.st}) rfl a1 rfl).symm
      ·unfold PI.foot
       simp only[hxw,hwx]
    |true=>
     simp only[hwx]at hx
     simp only[PI.foot,hwx]at hf
     cases by' with
     |false=>
      simp only[hwy,Option.some.injEq,Prod.mk.injEq]at hy
      obtain⟨rfl,rfl⟩:=hy
      refine⟨{fr:=s.fr.put y.dst (.tup []),st:=s.st},by rw[PI.exec_eq]; simp[PI.step,hwy],?_,?_,?_⟩
      ·rw[PI.exec_eq]
       simp only[PI.step,hxw,hwx]
       rw[exec_put a3,hx]
       simp only[Option.map_some]
       rw[put_comm s.fr dx _ a2]
      ·unfold PI.foot
       simp only[hyw,hwy]
      ·exact footPI (s':={fr:=s.fr.put y.dst (.tup []),st:=s.st}) rfl a3 rfl
     |true=>
      simp only[hwy]at hy
      rw[exec_put a1]at hy
      simp only[PI.foot,hyw,hwy]at hg
      rw[foot_put a1]at hg
      obtain⟨st1',h1,h2,h3,h4⟩:=swapOp hx hf hy hg hok
      exact key st1' (by simp only[PI.step,hwy]; exact h1) (fun d=>by simp only[PI.step,hxw,hwx]; rw[exec_put a3]; exact h3) (by rw[h4,hf]) (by rw[hg,h2])
mutual
theorem D.beq_eq:∀ (a b:D),D.beq a b=true→a=b
 |.int k n,b,h=>by
  cases b <;> simp only[D.beq,Bool.and_eq_true,decide_eq_true_eq,Bool.false_eq_true]at h
  obtain⟨rfl,rfl⟩:=h; rfl
 |.bool a,b,h=>by
  cases b <;> simp only[D.beq,beq_iff_eq,Bool.false_eq_true]at h
  subst h; rfl
 |.str a,b,h=>by
  cases b <;> simp only[D.beq,beq_iff_eq,Bool.false_eq_true]at h
  subst h; rfl
 |.slc z l t,b,h=>by
  cases b <;> simp only[D.beq,Bool.and_eq_true,beq_iff_eq,Bool.false_eq_true]at h
  obtain⟨⟨rfl,rfl⟩,h⟩:=h
  rw[D.beqL_eq l _ h]
 |.row _ _ _ _,b,h=>by
  cases b <;> simp only[D.beq,Bool.and_eq_true,beq_iff_eq,Bool.false_eq_true]at h
  obtain⟨⟨⟨rfl,rfl⟩,rfl⟩,rfl⟩:=h; rfl
 |.bsl _ _ _ _ _,b,h=>by
  cases b <;> simp only[D.beq,Bool.and_eq_true,beq_iff_eq,Bool.false_eq_true]at h
  obtain⟨⟨⟨⟨rfl,rfl⟩,rfl⟩,rfl⟩,rfl⟩:=h; rfl
 |.ptr _ _,b,h=>by
  cases b <;> simp only[D.beq,Bool.and_eq_true,beq_iff_eq,Bool.false_eq_true]at h
  obtain⟨rfl,rfl⟩:=h; rfl
 |.rptr _ _ _ _,b,h=>by
  cases b <;> simp only[D.beq,Bool.and_eq_true,beq_iff_eq,Bool.false_eq_true]at h
  obtain⟨⟨⟨rfl,rfl⟩,rfl⟩,rfl⟩:=h; rfl
 |.eptr el o,b,h=>by
  cases b <;> simp only[D.beq,Bool.and_eq_true,beq_iff_eq,Bool.false_eq_true]at h
  obtain⟨rfl,h⟩:=h
  rw[D.beq_eq el _ h]
 |.agg l,b,h=>by
  cases b <;> simp only[D.beq,Bool.false_eq_true]at h
  rw[D.beqL_eq l _ h]
 |.tup l,b,h=>by
  cases b <;> simp only[D.beq,Bool.false_eq_true]at h
  rw[D.beqL_eq l _ h]
 |.clo f l,b,h=>by
  cases b <;> simp only[D.beq,Bool.and_eq_true,beq_iff_eq,Bool.false_eq_true]at h
  obtain⟨rfl,h⟩:=h
  rw[D.beqL_eq l _ h]
 |.nilf,b,h=>by cases b <;> simp only[D.beq,Bool.false_eq_true]at h; rfl
 |.nilp,b,h=>by cases b <;> simp only[D.beq,Bool.false_eq_true]at h; rfl
 |.mapv _,b,h=>by
  cases b <;> simp only[D.beq,beq_iff_eq,Bool.false_eq_true]at h
  subst h; rfl
 |.nilm,b,h=>by cases b <;> simp only[D.beq,Bool.false_eq_true]at h; rfl
 |.gmap _,b,h=>by cases b <;> simp only[D.beq,Bool.false_eq_true]at h
 |.junk,b,h=>by cases b <;> simp only[D.beq,Bool.false_eq_true]at h; rfl
theorem D.beqL_eq:∀ (a b:List D),D.beqL a b=true→a=b
 |[],b,h=>by cases b <;> simp only[D.beqL,Bool.false_eq_true]at h; rfl
 |a::l,b,h=>by
  cases b <;> simp only[D.beqL,Bool.and_eq_true,Bool.false_eq_true]at h
  rw[D.beq_eq a _ h.1,D.beqL_eq l _ h.2]
end
theorem sameO_eq{a b:Option Obj}(h:sameO a b=true):a=b:=by
 cases a with
 |none=>cases b with
  |none=>rfl
  |some p=>cases h
 |some o=>cases b with
  |none=>cases h
  |some p=>
   simp only[sameO,Bool.and_eq_true,beq_iff_eq]at h
   obtain⟨⟨⟨h1,h2⟩,h3⟩,h4⟩:=h
   obtain⟨a1,a2,a3,a4⟩:=o
   obtain⟨b1,b2,b3,b4⟩:=p
   simp only at h1 h2 h3 h4
   rw[h1,h2,h3,D.beqL_eq _ _ h4]
theorem callF_keeps{st st':St}{k:Nat}(h1:k∉(callF st st').wr)(h2:k<st.length):st'[k]?=st[k]?:=by
 simp only[callF,List.mem_filter,List.mem_range,h2,true_and,Bool.not_eq_true',Bool.not_eq_false]at h1
 exact(sameO_eq h1).symm
theorem light_st{T:Tbl}{ρ:PA→D}{st st':St}{d:D}(p:POp)(hl:p.light=true)(h:p.exec T ρ st=some (d,st')):st'=st:=by
 cases p with
 |load n ag x=>simp only[POp.exec,Option.map_eq_some_iff,Prod.mk.injEq]at h; obtain⟨_,_,_,rfl⟩:=h; rfl
 |slice sz x lo hi mx=>simp only[POp.exec,Option.map_eq_some_iff,Prod.mk.injEq]at h; obtain⟨_,_,_,rfl⟩:=h; rfl
 |fld off x=>simp only[POp.exec,Option.map_eq_some_iff,Prod.mk.injEq]at h; obtain⟨_,_,_,rfl⟩:=h; rfl
 |idxS sz x i=>simp only[POp.exec,Option.map_eq_some_iff,Prod.mk.injEq]at h; obtain⟨_,_,_,rfl⟩:=h; rfl
 |idxA n sz x i=>simp only[POp.exec,Option.map_eq_some_iff,Prod.mk.injEq]at h; obtain⟨_,_,_,rfl⟩:=h; rfl
 |nilc x=>
  simp only[POp.exec]at h
  split at h
  ·simp only[Option.some.injEq,Prod.mk.injEq]at h; exact h.2.symm
  ·simp only[Option.some.injEq,Prod.mk.injEq]at h; exact h.2.symm
  ·split at h
   ·simp only[Option.some.injEq,Prod.mk.injEq]at h; exact h.2.symm
   ·cases h
  ·cases h
 |len s x=>
  simp only[POp.exec]at h
  split at h
  ·simp only[Option.map_eq_some_iff,Prod.mk.injEq]at h; obtain⟨_,_,_,rfl⟩:=h; rfl
  ·cases h
 |_=>cases hl
theorem light_nocall{p:POp}(h:p.light=true):p.isCall=false:=by cases p <;> first | rfl | cases h
theorem call_foot{ρ:PA→D}{st:St}{p:POp}(h:p.isCall=true):p.foot ρ st=none:=by cases p <;> first | rfl | cases h
theorem light_nu{ρ:PA→D}{st:St}{p:POp}{f:Foot}(h:p.light=true)(hf:p.foot ρ st=some f):f.nu=none:=by
 cases p <;> first | (simp only[POp.foot,Option.some.injEq]at hf; subst hf; rfl) | cases h
theorem footT_foot{G:Glob}{T:Tbl}{i:PI}{s:PS}{f:Foot}(h:i.foot G s=some f):i.footT G T s=some f∧(i.op.isCall=true→emptyB f=true):=by
 unfold PI.foot at h
 unfold PI.footT
 split at h
 ·by_cases hc:i.op.isCall=true
  ·rw[call_foot hc]at h; cases h
  ·rw[if_neg hc]; exact⟨h,fun e=>absurd e hc⟩
 ·simp only[Option.some.injEq]at h
  subst h
  exact⟨rfl,fun _=>rfl⟩
theorem foot_of_T{G:Glob}{T:Tbl}{i:PI}{s:PS}{f:Foot}(h:i.footT G T s=some f)(hc:i.op.isCall=true→emptyB f=true):i.foot G s=some f:=by
 unfold PI.footT at h
 unfold PI.foot
 split at h
 ·split at h
  ·rename_i hk
   split at h
   ·simp only[Option.some.injEq]at h
    subst h
    have:=hc hk
    simp[emptyB,callF]at this
   ·cases h
  ·exact h
 ·exact h
theorem footT_no{G:Glob}{T:Tbl}{i:PI}{s:PS}(hc:i.op.isCall=false):i.footT G T s=i.foot G s:=by
 unfold PI.footT PI.foot
 split
 ·simp[hc]
 ·rfl
theorem step_put{G:Glob}{T:Tbl}{fr:Frame}{st:St}{dst:Option Nat}{d:D}{i:PI}(h:∀ t,dst=some t→t∉i.reads):i.step G T ⟨fr.put dst d,st⟩=i.step G T ⟨fr,st⟩:=by
 unfold PI.step
 simp only[wanted_put' h,exec_put h]
theorem exec_step{G:Glob}{T:Tbl}{i:PI}{s s1:PS}(h:i.exec G T s=some s1):∃ d,i.step G T s=some (d,s1.st)∧s1=⟨s.fr.put i.dst d,s1.st⟩:=by
 rw[PI.exec_eq]at h
 simp only[Option.map_eq_some_iff]at h
 obtain⟨⟨d,st⟩,h1,rfl⟩:=h
 exact⟨d,h1,rfl⟩
theorem step_exec{G:Glob}{T:Tbl}{i:PI}{s:PS}{d:D}{st:St}(h:i.step G T s=some (d,st)):i.exec G T s=some ⟨s.fr.put i.dst d,st⟩:=by
 rw[PI.exec_eq,h]; rfl
theorem lightStep{G:Glob}{T:Tbl}{x:PI}{s:PS}{dx:D}{stx:St}{f:Foot}(hl:x.op.light=true)(hf:x.foot G s=some f)(h:x.step G T s=some (dx,stx)) :
  stx=s.st∧∀ st2,(∀ k∈f.rd,Like s.st st2 k)→x.step G T ⟨s.fr,st2⟩=some (dx,st2)∧x.foot G ⟨s.fr,st2⟩=some f:=by
 unfold PI.step at h ⊢
 unfold PI.foot at hf ⊢
 cases hw:x.wanted s.fr with
 |none=>simp[hw]at h
 |some b=>
  cases b with
  |false=>
   simp only[hw,Option.some.injEq,Prod.mk.injEq]at h hf ⊢
   obtain⟨rfl,rfl⟩:=h
   exact⟨rfl,fun st2 _=>⟨by simp,hf⟩⟩
  |true=>
   simp only[hw]at h hf ⊢
   refine⟨light_st _ hl h,fun st2 hk=>?_⟩
   obtain⟨e,e1,e2,e3⟩:=exec_same x.op hf h
   have hn:=light_nu hl hf
   have h3:=e3 st2 hk (fun k hk=>by
    have:f.wr=[]:=by
     cases hp:x.op <;> rw[hp]at hf hl <;> first | (simp only[POp.foot,Option.some.injEq]at hf; subst hf; rfl) | cases hl
    rw[this]at hk; cases hk) (fun hm=>by rw[hn]at hm; cases hm)
   exact⟨by rw[h3,light_st _ hl h3],foot_fresh hf hn⟩
theorem wanted_foot{G:Glob}{T:Tbl}{i:PI}{s s1:PS}(hc:i.op.isCall=true)(h:i.exec G T s=some s1):i.footT G T s=some (if i.wanted s.fr=some true then callF s.st s1.st else emptyF):=by
 unfold PI.footT
 split
 ·rename_i hw; simp[hw,hc,h]
 ·rename_i hw
  have:¬ i.wanted s.fr=some true:=fun e=>hw e
  simp[this]
theorem unwanted_st{G:Glob}{T:Tbl}{i:PI}{s:PS}{d:D}{st:St}(h:i.step G T s=some (d,st))(hw:¬ i.wanted s.fr=some true):st=s.st:=by
 unfold PI.step at h
 split at h
 ·cases h
 ·simp only[Option.some.injEq,Prod.mk.injEq]at h; exact h.2.symm
 ·rename_i e; exact absurd e hw
theorem swapT{G:Glob}{T:Tbl}{x y:PI}{s s1 s2:PS}(h:Pair (x,x.footT G T s) (y,y.footT G T s1))(hx:x.exec G T s=some s1)(hy:y.exec G T s1=some s2) :
  ∃ s1',y.exec G T s=some s1'∧x.exec G T s1'=some s2∧y.footT G T s=y.footT G T s1∧x.footT G T s1'=x.footT G T s:=by
 obtain⟨hreg,h⟩:=h
 dsimp only at hreg h
 obtain⟨a1,a2,a3⟩:=regs_spec hreg
 obtain⟨dx,qx,ex⟩:=exec_step hx
 obtain⟨dy,qy,ey⟩:=exec_step hy
 have hwy:y.wanted s1.fr=y.wanted s.fr:=by rw[ex]; exact wanted_put' a1
 have yst:y.step G T ⟨s1.fr,s.st⟩=y.step G T s:=by rw[ex]; exact step_put a1
 rcases h with h | ⟨f,g,hf,hg,hok⟩
 ·
  obtain⟨s1',h1,h2,h3,h4⟩:=swapD ⟨hreg,.inl h⟩ hx hy
  refine⟨s1',h1,h2,?_,?_⟩
  ·by_cases hc:y.op.isCall=true
   ·have hx0:x.op.cls=0:=by
     obtain⟨_,_,_,a4⟩:=apart_spec h
     have hy3:y.op.cls=3∧y.op.push=false:=by cases hp:y.op <;> rw[hp]at hc <;> first | exact⟨rfl,rfl⟩ | cases hc
     rcases a4 with c | c | ⟨c1,c2⟩ | ⟨c1,c2⟩ | c
     ·exact c
     ·omega
     ·omega
     ·rw[hy3.2]at c2; cases c2
     ·rw[(mapPair_call c).2]at hc; cases hc
    have e1:s1.st=s.st:=by
     by_cases hw:x.wanted s.fr=some true
     ·unfold PI.step at qx; rw[hw]at qx; exact(exec_pure x.op hx0 qx).1
     ·exact unwanted_st qx hw
    obtain⟨dx',qx',_⟩:=exec_step h2
    have e2:s2.st=s1'.st:=by
     by_cases hw:x.wanted s1'.fr=some true
     ·unfold PI.step at qx'; rw[hw]at qx'; exact(exec_pure x.op hx0 qx').1
     ·exact unwanted_st qx' hw
    rw[wanted_foot hc h1,wanted_foot hc hy,hwy,e1,e2]
   ·rw[footT_no (by simpa using hc),footT_no (by simpa using hc)]; exact h3
  ·by_cases hc:x.op.isCall=true
   ·have hy0:y.op.cls=0:=by
     obtain⟨_,_,_,a4⟩:=apart_spec h
     have hx3:x.op.cls=3:=by cases hp:x.op <;> rw[hp]at hc <;> first | rfl | cases hc
     rcases a4 with c | c | ⟨c1,c2⟩ | ⟨c1,c2⟩ | c
     ·omega
     ·exact c
     ·omega
     ·omega
     ·rw[(mapPair_call c).1]at hc; cases hc
    obtain⟨dy',qy',ey'⟩:=exec_step h1
    have e1:s1'.st=s.st:=by
     by_cases hw:y.wanted s.fr=some true
     ·unfold PI.step at qy'; rw[hw]at qy'; exact(exec_pure y.op hy0 qy').1
     ·exact unwanted_st qy' hw
    have e2:s2.st=s1.st:=by
     by_cases hw:y.wanted s1.fr=some true
     ·unfold PI.step at qy; rw[hw]at qy; exact(exec_pure y.op hy0 qy).1
     ·exact unwanted_st qy hw
    have hwx:x.wanted s1'.fr=x.wanted s.fr:=by rw[ey']; exact wanted_put' a3
    rw[wanted_foot hc h2,wanted_foot hc hx,hwx,e1,e2]
   ·rw[footT_no (by simpa using hc),footT_no (by simpa using hc)]; exact h4
 ·unfold okK at hok
  simp only[Bool.or_eq_true,Bool.and_eq_true,Bool.not_eq_true']at hok
  rcases hok with(⟨⟨h1,h2⟩,h3⟩ | ⟨⟨⟨h1,h2⟩,h3⟩,h4⟩) | ⟨⟨⟨h1,h2⟩,h3⟩,h4⟩
  ·have hf':x.foot G s=some f:=foot_of_T hf fun e=>by rcases h2 with c | c; (rw[c]at e; cases e); exact c
   have hg':y.foot G s1=some g:=foot_of_T hg fun e=>by rcases h3 with c | c; (rw[c]at e; cases e); exact c
   obtain⟨s1',k1,k2,k3,k4⟩:=swapD (x:=x) (y:=y) ⟨hreg,.inr ⟨f,g,hf',hg',h1⟩⟩ hx hy
   exact⟨s1',k1,k2,by rw[hg]; exact(footT_foot (k3.trans hg')).1,by rw[hf]; exact(footT_foot (k4.trans hf')).1⟩
  ·
   have hcx:=light_nocall h2
   rw[footT_no hcx]at hf
   obtain⟨e1,e2⟩:=lightStep h2 hf qx
   have hq:y.step G T s=some (dy,s2.st):=by rw[← yst,← e1]; exact qy
   have hlk:∀ k∈f.rd,Like s.st s2.st k:=by
    intro k hk
    by_cases hw:y.wanted s1.fr=some true
    ·rw[wanted_foot h1 hy,if_pos hw,Option.some.injEq]at hg
     subst hg
     rw[← e1]
     exact .of_eq (callF_keeps (away_spec h3 k hk) (awayM_spec h4 _ rfl k hk))
    ·rw[unwanted_st qy hw,e1]; exact .of_eq rfl
   obtain⟨m1,m2⟩:=e2 s2.st hlk
   have m1':x.step G T ⟨s.fr.put y.dst dy,s2.st⟩=some (dx,s2.st):=by rw[step_put a3]; exact m1
   refine⟨⟨s.fr.put y.dst dy,s2.st⟩,step_exec hq,?_,?_,?_⟩
   ·rw[step_exec m1']
    congr 1
    rw[ey,ex]
    simp only
    rw[put_comm s.fr dx dy a2]
   ·rw[wanted_foot h1 (step_exec hq),wanted_foot h1 hy,hwy,e1]
   ·rw[footT_no hcx,footT_no hcx,hf]
    exact(footPI (s:=⟨s.fr,s2.st⟩) (s':=⟨s.fr.put y.dst dy,s2.st⟩) rfl a3 rfl).trans m2
  ·
   have hcy:=light_nocall h2
   rw[footT_no hcy]at hg
   obtain⟨e1,e2⟩:=lightStep h2 hg qy
   have hlk:∀ k∈g.rd,Like s1.st s.st k:=by
    intro k hk
    by_cases hw:x.wanted s.fr=some true
    ·rw[wanted_foot h1 hx,if_pos hw,Option.some.injEq]at hf
     subst hf
     exact(Like.of_eq (callF_keeps (away_spec h3 k hk) (awayM_spec h4 _ rfl k hk))).symm
    ·rw[unwanted_st qx hw]; exact .of_eq rfl
   obtain⟨m1,m2⟩:=e2 s.st hlk
   rw[yst]at m1
   have m1':x.step G T ⟨s.fr.put y.dst dy,s.st⟩=some (dx,s1.st):=by rw[step_put a3]; exact qx
   refine⟨⟨s.fr.put y.dst dy,s.st⟩,step_exec m1,?_,?_,?_⟩
   ·rw[step_exec m1']
    congr 1
    rw[ey,ex,e1]
    simp only
    rw[put_comm s.fr dx dy a2]
   ·rw[footT_no hcy,footT_no hcy,hg]
    rw[← m2,ex]
    exact(footPI (s:=s) (s':=⟨s.fr.put x.dst dx,s.st⟩) rfl a1 rfl).symm
   ·have hwx:x.wanted (s.fr.put y.dst dy)=x.wanted s.fr:=wanted_put' a3
    rw[wanted_foot h1 (step_exec m1'),wanted_foot h1 hx]
    simp only[hwx]
def Run(G:Glob)(T:Tbl):List (PI×Option Foot)→PS→PS→Prop
 |[],s,s'=>s'=s
 |a::l,s,s'=>a.1.footT G T s=a.2∧∃ s1,a.1.exec G T s=some s1∧Run G T l s1 s'
theorem pullD{G:Glob}{T:Tbl}{i:PI×Option Foot}:∀ (l r:List (PI×Option Foot)) (s sf:PS),(∀ x∈l,Pair x i)→Run G T (l++i::r) s sf→∃ s',i.1.exec G T s=some s'∧i.1.footT G T s=i.2∧Run G T (l++r) s' sf
 |[],r,s,sf,_,h=>by
  obtain⟨h1,s1,h2,h3⟩:=h
  exact⟨s1,h2,h1,h3⟩
 |x::l,r,s,sf,ha,h=>by
  obtain⟨h1,s1,h2,h3⟩:=h
  obtain⟨s2,h4,h5,h6⟩:=pullD l r s1 sf (fun y hy=>ha y (by simp[hy])) h3
  have hp:=ha x (by simp)
  have hp':Pair (x.1,x.1.footT G T s) (i.1,i.1.footT G T s1):=by rw[h1,h5]; exact hp
  obtain⟨s1',k1,k2,k3,k4⟩:=swapT hp' h2 h4
  exact⟨s1',k1,by rw[k3,h5],by rw[k4,h1],s2,k2,h6⟩
theorem okK_of{x y:PI}{f g:Foot}(h:f.ok g=true)(h1:x.op.isCall=true→emptyB f=true)(h2:y.op.isCall=true→emptyB g=true):okK x y f g=true:=by
 unfold okK
 have a1:(!x.op.isCall || emptyB f)=true:=by
  cases hc:x.op.isCall
  ·rfl
  ·simp[h1 hc]
 have a2:(!y.op.isCall || emptyB g)=true:=by
  cases hc:y.op.isCall
  ·rfl
  ·simp[h2 hc]
 rw[h,a1,a2]; rfl
theorem run_of_execs{G:Glob}{T:Tbl}:∀ (l:List PI) (s sf:PS),execs G T l s=some sf→∃ F:List (Option Foot),F.length=l.length∧Run G T (l.zip F) s sf
 |[],s,sf,h=>by
  simp only[execs,Option.some.injEq]at h
  exact⟨[],rfl,h.symm⟩
 |i::l,s,sf,h=>by
  simp only[execs]at h
  split at h
  ·rename_i s1 hs
   obtain⟨F,h1,h2⟩:=run_of_execs l s1 sf h
   exact⟨i.footT G T s::F,by simp[h1],rfl,s1,hs,h2⟩
  ·cases h
theorem ckF_spec{fs:List (Option Foot)}{g:Option Foot}:∀ {cs:List Nat},ckF fs g cs=true→∀ j∈cs,∃ f g':Foot,fs[j]?=some (some f)∧g=some g'∧f.ok g'=true
 |[],_,j,hj=>by cases hj
 |c::cs,h,j,hj=>by
  simp only[ckF,Bool.and_eq_true]at h
  rcases List.mem_cons.1 hj with rfl | hj
  ·have h1:=h.1
   cases hf:fs[j]? with
   |none=>rw[hf]at h1; cases h1
   |some o=>
    rw[hf]at h1
    cases o with
    |none=>cases h1
    |some f=>
     cases g with
     |none=>cases h1
     |some g'=>exact⟨f,g',rfl,rfl,h1⟩
  ·exact ckF_spec h.2 j hj
theorem run_of_anys{G:Glob}{T:Tbl}:∀ (l:List (PI×Bool×List Nat)) (fs:List (Option Foot)) (s sf:PS),anys G T l fs s=some sf→∃ F:List (Option Foot),F.length=l.length∧Run G T ((l.map (·.1)).zip F) s sf∧
   ∀ (i:Nat) (q:PI×Bool×List Nat),l[i]?=some q→∀ j∈q.2.2,∃ f g:Foot,F[i]?=some (some g)∧f.ok g=true∧(q.1.op.isCall=true→emptyB g=true)∧(fs[j]?=some (some f)∨(fs.length≤j∧F[j - fs.length]?=some (some f)∧∀ q',l[j - fs.length]?=some q'→q'.1.op.isCall=true→emptyB f=true))
 |[],fs,s,sf,h=>by
  simp only[anys,Option.some.injEq]at h
  exact⟨[],rfl,h.symm,fun i q hq=>by simp at hq⟩
 |(i0,b,cs)::l,fs,s,sf,h=>by
  simp only[anys]at h
  split at h
  case isFalse=>cases h
  rename_i hck
  split at h
  ·rename_i s1 hs
   obtain⟨F,h1,h2,h3⟩:=run_of_anys l _ s1 sf h
   refine⟨i0.footT G T s::F,by simp[h1],⟨rfl,s1,hs,h2⟩,?_⟩
   intro i q hq j hj
   cases i with
   |zero=>
    simp only[List.getElem?_cons_zero,Option.some.injEq]at hq
    subst hq
    obtain⟨f,g',e1,e2,e3⟩:=ckF_spec hck j hj
    obtain⟨t1,t2⟩:=footT_foot (T:=T) e2
    exact⟨f,g',by simp[t1],e3,t2,.inl e1⟩
   |succ i=>
    simp only[List.getElem?_cons_succ]at hq
    obtain⟨f,g,e1,e2,e2',e3⟩:=h3 i q hq j hj
    refine⟨f,g,by simpa using e1,e2,e2',?_⟩
    rcases e3 with e3 | ⟨e3,e4,e5⟩
    ·rcases Nat.lt_trichotomy j fs.length with hjl | hjl | hjl
     ·rw[List.getElem?_append_left hjl]at e3; exact .inl e3
     ·subst hjl
      rw[List.getElem?_append_right (Nat.le_refl _)]at e3
      simp only[Nat.sub_self,List.getElem?_cons_zero,Option.some.injEq]at e3
      cases b with
      |false=>simp at e3
      |true=>
       have e3:i0.foot G s=some f:=e3
       obtain⟨t1,t2⟩:=footT_foot (T:=T) e3
       exact .inr ⟨Nat.le_refl _,by simp[t1],fun q' hq'=>by
        simp only[Nat.sub_self,List.getElem?_cons_zero,Option.some.injEq]at hq'
        subst hq'; exact t2⟩
     ·rw[List.getElem?_eq_none (by simp; omega)]at e3; cases e3
    ·simp only[List.length_append,List.length_cons,List.length_nil]at e3 e4
     refine .inr ⟨by omega,?_,?_⟩
     ·rw[show j - fs.length=(j - (fs.length+(0+1)))+1 by omega]
      simpa using e4
     ·rw[show j - fs.length=(j - (fs.length+(0+1)))+1 by omega]
      simpa using e5
  ·cases h
theorem run_of_anysK{G:Glob}{T:Tbl}:∀ (l:List (PI×Bool×List Nat)) (fs:List (PI×Option Foot)) (s sf:PS),anysK G T l fs s=some sf→∃ F:List (Option Foot),F.length=l.length∧Run G T ((l.map (·.1)).zip F) s sf∧
   ∀ (i:Nat) (q:PI×Bool×List Nat),l[i]?=some q→∀ j∈q.2.2,∃ (x:PI) (f g:Foot),F[i]?=some (some g)∧okK x q.1 f g=true∧(fs[j]?=some (x,some f)∨(fs.length≤j∧F[j - fs.length]?=some (some f)∧(l[j - fs.length]?).map (·.1)=some x))
 |[],fs,s,sf,h=>by
  simp only[anysK,Option.some.injEq]at h
  exact⟨[],rfl,h.symm,fun i q hq=>by simp at hq⟩
 |(i0,b,cs)::l,fs,s,sf,h=>by
  simp only[anysK]at h
  split at h
  case h_2=>cases h
  rename_i s1 hs
  split at h
  case isFalse=>cases h
  rename_i hck
  obtain⟨F,h1,h2,h3⟩:=run_of_anysK l _ s1 sf h
  refine⟨i0.footT G T s::F,by simp[h1],⟨rfl,s1,hs,h2⟩,?_⟩
  intro i q hq j hj
  cases i with
  |zero=>
   simp only[List.getElem?_cons_zero,Option.some.injEq]at hq
   subst hq
   have hj1:=List.all_eq_true.1 hck j hj
   unfold ckK1 at hj1
   split at hj1
   ·rename_i x f g e1 e2
    exact⟨x,f,g,by simp[e2],hj1,.inl e1⟩
   ·cases hj1
  |succ i=>
   simp only[List.getElem?_cons_succ]at hq
   obtain⟨x,f,g,e1,e2,e3⟩:=h3 i q hq j hj
   refine⟨x,f,g,by simpa using e1,e2,?_⟩
   rcases e3 with e3 | ⟨e3,e4,e5⟩
   ·rcases Nat.lt_trichotomy j fs.length with hjl | hjl | hjl
    ·rw[List.getElem?_append_left hjl]at e3; exact .inl e3
    ·subst hjl
     rw[List.getElem?_append_right (Nat.le_refl _)]at e3
     simp only[Nat.sub_self,List.getElem?_cons_zero,Option.some.injEq,Prod.mk.injEq]at e3
     exact .inr ⟨Nat.le_refl _,by simp[e3.2],by simp[e3.1]⟩
    ·rw[List.getElem?_eq_none (by simp; omega)]at e3; cases e3
   ·simp only[List.length_append,List.length_cons,List.length_nil]at e3 e4 e5
    refine .inr ⟨by omega,?_,?_⟩
    ·rw[show j - fs.length=(j - (fs.length+(0+1)))+1 by omega]
     simpa using e4
    ·rw[show j - fs.length=(j - (fs.length+(0+1)))+1 by omega]
     simpa using e5
def csOf(ms:List Nat)(l:List PI)(i:Nat)(y:PI):List Nat:=(List.range i).filter fun j=>!((ms.getD i 0).testBit j) && !((l.getD j default).apart y)
def anyOf(ms:List Nat)(l:List PI):Option (List (PI×Bool×List Nat)):=
 if l.zipIdx.all fun yi=>(csOf ms l yi.2 yi.1).all fun j=>(l.getD j default).regs yi.1 then
  some (l.zipIdx.map fun yi=>(yi.1,(l.zipIdx.map fun zj=>csOf ms l zj.2 zj.1).any (fun c=>c.contains yi.2),csOf ms l yi.2 yi.1))
 else none
theorem anyOf_spec{ms:List Nat}{l:List PI}{q:List (PI×Bool×List Nat)}(h:anyOf ms l=some q):q.length=l.length∧q.map (·.1)=l∧(∀ (i:Nat) y,l[i]?=some y→∃ b,q[i]?=some (y,b,csOf ms l i y)∧∀ j∈csOf ms l i y,(l.getD j default).regs y=true):=by
 unfold anyOf at h
 split at h
 case isFalse=>cases h
 rename_i hall
 simp only[Option.some.injEq]at h
 subst h
 refine⟨by simp,?_,?_⟩
 ·rw[List.map_map]
  apply List.ext_getElem?
  intro i
  simp only[List.getElem?_map,List.getElem?_zipIdx,Option.map_map]
  cases l[i]? <;> rfl
 ·intro i y hy
  refine⟨(l.zipIdx.map fun zj=>csOf ms l zj.2 zj.1).any (fun c=>c.contains i),?_,?_⟩
  ·simp only[List.getElem?_map,List.getElem?_zipIdx,hy,Option.map_some,Nat.zero_add]
  ·rw[List.all_eq_true]at hall
   have:=hall (y,i) (by rw[List.mk_mem_zipIdx_iff_getElem?]; exact hy)
   simpa[List.all_eq_true]using this
def csOrd(ms:List Nat)(l:List PI)(bad:Option (Nat×Nat))(ord:List Nat)(p i:Nat):List Nat:=
 (List.range p).filter fun j=>!((ms.getD i 0).testBit (ord.getD j 0)) && !((l.getD (ord.getD j 0) default).apart (l.getD i default)) && !(bad == some (ord.getD j 0,i))
def anyOrd(ms:List Nat)(l:List PI)(bad:Option (Nat×Nat))(ord:List Nat):Option (List (PI×Bool×List Nat)):=
 if ord.zipIdx.all fun ip=>(csOrd ms l bad ord ip.2 ip.1).all fun j=>(l.getD (ord.getD j 0) default).regs (l.getD ip.1 default)then
  some (ord.zipIdx.map fun ip=>(l.getD ip.1 default,(ord.zipIdx.map fun kq=>csOrd ms l bad ord kq.2 kq.1).any (fun c=>c.contains ip.2),csOrd ms l bad ord ip.2 ip.1))
 else none
theorem anyOrd_spec{ms:List Nat}{l:List PI}{bad:Option (Nat×Nat)}{ord:List Nat}{q:List (PI×Bool×List Nat)}(h:anyOrd ms l bad ord=some q) :
  q.length=ord.length∧q.map (·.1)=ord.map (fun k=>l.getD k default)∧(∀ (p i:Nat),ord[p]?=some i→∃ b,q[p]?=some (l.getD i default,b,csOrd ms l bad ord p i)∧∀ j∈csOrd ms l bad ord p i,(l.getD (ord.getD j 0) default).regs (l.getD i default)=true):=by
 unfold anyOrd at h
 split at h
 case isFalse=>cases h
 rename_i hall
 simp only[Option.some.injEq]at h
 subst h
 refine⟨by simp,?_,?_⟩
 ·rw[List.map_map]
  apply List.ext_getElem?
  intro i
  simp only[List.getElem?_map,List.getElem?_zipIdx,Option.map_map]
  cases ord[i]? <;> rfl
 ·intro p i hi
  refine⟨(ord.zipIdx.map fun kq=>csOrd ms l bad ord kq.2 kq.1).any (fun c=>c.contains p),?_,?_⟩
  ·simp only[List.getElem?_map,List.getElem?_zipIdx,hi,Option.map_some,Nat.zero_add]
  ·rw[List.all_eq_true]at hall
   have:=hall (i,p) (by rw[List.mk_mem_zipIdx_iff_getElem?]; exact hi)
   simpa[List.all_eq_true]using this
def badPair(ms:List Nat)(l:List PI):Option (Nat×Nat):=
 match(l.zipIdx.flatMap fun yi=>((l.take yi.2).zipIdx.filter fun xj=>xj.1.op.push && yi.1.op.push && !((ms.getD yi.2 0).testBit xj.2)).map fun xj=>(xj.2,yi.2))with
 |[p]=>some p
 |_=>none
def POp.push2:POp→Bool
 |.box _ | .mkslc _ _ _ _ _ | .app _ _ _ _ | .mcall _ _=>true
 |_=>false
def badPairs(ms:List Nat)(l:List PI):List (Nat×Nat):=
 l.zipIdx.flatMap fun yi=>((l.take yi.2).zipIdx.filter fun xj=>xj.1.op.push2 && yi.1.op.push2 && !((ms.getD yi.2 0).testBit xj.2)).map fun xj=>(xj.2,yi.2)
def ord2(ms:List Nat)(m x y:Nat):List Nat:=
 (List.range m).filter (fun k=>k<x || (k<y && (ms.getD y 0).testBit k) || k == y)++(List.range m).filter (fun k=>!(k<x || (k<y && (ms.getD y 0).testBit k) || k == y))
def isOrd(m:Nat)(ord:List Nat):Bool:=ord.length == m && (List.range m).all (fun k=>ord.contains k)
def altL(keep:List Nat)(ms:List Nat)(l:List PI)(m:Nat):List (Nat×Nat)→PC
 |[]=>.fail
 |(x,y)::r=>match anyOrd ms l (some (x,y)) (List.range m),anyOrd ms l (some (y,x)) (ord2 ms m x y)with
  |some q1,some q2=>if isOrd m (ord2 ms m x y) && x != y && decide (x<m) && decide (y<m)then .alt (.any2 keep q1 q2) (altL keep ms l m r)else altL keep ms l m r
  |_,_=>altL keep ms l m r
end Go.Proofs.YtfbbaceiimdejaaGreatDoor.PI
namespace Go.Proofs.YtfbbaceiimdejaaGreatDoor.PI
open Go Go.RowKit
def dstOK(n:Nat):Option Nat→Bool
 |some d=>decide (d<n)
 |none=>true
def trI(P:Program)(il:List Nat)(n:Nat)(ops:Array Oper)(o:Oper):Option PI:=
 if dstOK n o.dst then
  match o.guard with
  |none=>some {dst:=o.dst,op:=(trOp P il o.op).getD .fail}
  |some (j,want)=>match(ops[j]?).bind (·.dst)with
   |some s=>some {dst:=o.dst,op:=(trOp P il o.op).getD .fail,guard:=some (s,want)}
   |none=>none
 else none
def trIs(P:Program)(il:List Nat)(n:Nat)(ops:Array Oper):List Oper→Option (List PI)
 |[]=>some []
 |o::r=>match trI P il n ops o,trIs P il n ops r with
  |some a,some b=>some (a::b)
  |_,_=>none
def trPair(P:Program)(il:List Nat)(n:Nat)(o1 o2:Oper):Option (PI×PI):=match o1.op,o2.op,o1.dst with
 |.buildSlice t len parts,.convert s t' (.tmp d),some d1=>match P.underlying t with
  |some (.slice e)=>match P.underlying e with
   |some (.int .u8)=>if s=t∧t'=t∧d=d1∧d1<n∧dstOK n o2.dst=true∧o1.guard=none∧o2.guard=none then
     match trOp P il (.buildSlice t len parts)with
     |some p=>some ({dst:=some d1,op:=p},{dst:=o2.dst,op:=.mov (.s d1)})
     |none=>none
    else none
   |_=>none
  |_=>none
 |_,_,_=>none
def trIsU(P:Program)(il:List Nat)(n:Nat)(ops:Array Oper):List Oper→Option (List PI)
 |[]=>some []
 |[o]=>(trI P il n ops o).map fun a=>[a]
 |o1::o2::r=>match trPair P il n o1 o2 with
  |some (a,b)=>(trIsU P il n ops r).map fun l=>a::b::l
  |none=>match trI P il n ops o1,trIsU P il n ops (o2::r)with
   |some a,some l=>some (a::l)
   |_,_=>none
def isX(il:List Nat)(i:PI):Bool:=match i.op with
 |.icall f _=>il.contains (f+60000000)
 |.callv _ _=>il.contains 60000000
 |_=>false
def trPan(P:Program)(n:Nat)(l:List Oper):Option (List Oper×Nat×Nat×Operand):=match l.reverse with
 |o2::o1::rpre=>match o1.op,o2.op,o1.dst with
  |.makeInterface t xo,.panic (.tmp d),some d1=>if d=d1∧d1<n∧o1.guard=none∧o2.guard=none then
    match P.underlying t with
    |some (.interface _)=>none
    |some _=>some (rpre.reverse,d1,t,xo)
    |none=>none
   else none
  |_,_,_=>none
 |_=>none
theorem trPan_spec{P:Program}{n:Nat}{l pre:List Oper}{d1 t:Nat}{xo:Operand}(h:trPan P n l=some (pre,d1,t,xo)):∃ o1 o2,l=pre++[o1,o2]∧o1.op=.makeInterface t xo∧o1.dst=some d1∧o2.op=.panic (.tmp d1)∧d1<n∧o1.guard=none∧o2.guard=none∧
  ∃ u,P.underlying t=some u∧∀ m,u≠.interface m:=by
 unfold trPan at h
 split at h
 case h_2=>cases h
 rename_i o2 o1 rpre hl
 split at h
 case h_2=>cases h
 rename_i t' xo' d d1' h1 h2 h3
 split at h
 case isFalse=>cases h
 rename_i hc
 obtain⟨rfl,c1,c2,c3⟩:=hc
 split at h
 case h_1=>cases h
 case h_3=>cases h
 rename_i u hne hu
 simp only[Option.some.injEq,Prod.mk.injEq]at h
 obtain⟨rfl,rfl,rfl,rfl⟩:=h
 refine⟨o1,o2,?_,h1,h3,h2,c1,c2,c3,u,hu,fun m e=>hne m e⟩
 have:=congrArg List.reverse hl
 simpa using this
def depsOf(o:Oper):List Nat:=(o.after.toList.filter (Region.binds .any)).map (·.on)
def masks:List Oper→List Nat→List Nat
 |[],acc=>acc
 |o::r,acc=>masks r (acc++[(depsOf o).foldl (fun m e=>m ||| (1 <<< e) ||| acc.getD e 0) 0])
def allApart(ms:List Nat)(l:List PI):Bool:=
 l.zipIdx.all fun(y,i)=>(l.take i).zipIdx.all fun(x,j)=>(ms.getD i 0).testBit j || x.apart y
def mayX:POp→Bool
 |.icall _ _=>true
 |.callv _ _=>true
 |_=>false
def ordX(ms:List Nat)(l:List PI):Bool:=
 l.zipIdx.all fun(y,i)=>!mayX y.op || ((List.range l.length).all fun j=>(j == i) || (if j<i then(ms.getD i 0).testBit j else(ms.getD j 0).testBit i))
def firstX(il:List Nat)(l:List PI):Nat:=(l.takeWhile fun i=>!isX il i).length
def ordXi(ms:List Nat)(l:List PI)(i:Nat):Bool:=decide (i<l.length) && (List.range l.length).all fun j=>(j == i) || (if j<i then(ms.getD i 0).testBit j else(ms.getD j 0).testBit i)
def anyX(q:List (PI×Bool×List Nat))(x:PI)(i:Nat):PC:=.alt (.any q) (.seq (.seq (.any (q.take i)) (.opsX [x])) .fail)
def lexical(l:List Oper):Bool:=l.zipIdx.all fun(o,i)=>(depsOf o).all fun e=>decide (e<i)
def noRange:Code→Bool
 |.seq a b=>noRange a && noRange b
 |.cond _ a b=>noRange a && noRange b
 |.block _ c=>noRange c
 |.loop c=>noRange c
 |.scope c=>noRange c
 |.rangeFunc _ _ _ _=>false
 |_=>true
def trC(P:Program)(il:List Nat)(n:Nat):List (List Nat)→Code→Option (PC×List (List Nat))
 |h,.skip=>some (.skip,h)
 |h,.region _ ops draw=>if draw then match trIs P il n ops ops.toList with
  |some l=>
    if P.follows .mixedOrders && lexical ops.toList then
     if allApart (masks ops.toList []) l then some (if l.any (isX il) && ordX (masks ops.toList []) l then .opsX l else .ops l,h)else
      match badPair (masks ops.toList []) l with
      |some (x,y)=>match h,anyOrd (masks ops.toList []) l (some (x,y)) (List.range ops.size),anyOrd (masks ops.toList []) l (some (y,x)) (ord2 (masks ops.toList []) ops.size x y)with
       |keep::h',some q1,some q2=>if isOrd ops.size (ord2 (masks ops.toList []) ops.size x y) && x != y then some (.any2 keep q1 q2,h')else some (.fail,h)
       |_,_,_=>some (.fail,h)
      |none=>match anyOf (masks ops.toList []) l with
       |some q=>if il.contains 70000000 && decide (2≤(badPairs (masks ops.toList []) l).length)then
         match h with
         |keep::h'=>some (.alt (.any q) (altL keep (masks ops.toList []) l ops.size (badPairs (masks ops.toList []) l)),h')
         |[]=>some (.fail,h)
        else if l.any (isX il) && ordXi (masks ops.toList []) l (firstX il l)then some (anyX q (l.getD (firstX il l) default) (firstX il l),h)
        else some (if il.contains 50000007 then .anyK q else .any q,h)
       |none=>some (.fail,h)
    else some (.fail,h)
  |none=>none
  else match trPan P n ops.toList with
   |some (pre,d1,t,xo)=>match trIsU P il n ops pre,trA xo with
    |some l,some x=>some (.pan l d1 t x,h)
    |_,_=>some (.fail,h)
   |none=>(trIsU P il n ops ops.toList).map fun l=>(if l.any (isX il)then .opsX l else .ops l,h)
 |h,.seq a b=>match trC P il n h a with
  |some (x,h')=>match trC P il n h' b with
   |some (y,h'')=>some (.seq x y,h'')
   |none=>none
  |none=>none
 |h,.cond c a b=>match trA c with
  |some pa=>match trC P il n h a with
   |some (x,h')=>match trC P il n h' b with
    |some (y,h'')=>some (.cond pa x y,h'')
    |none=>none
   |none=>none
  |none=>none
 |h,.block id c=>match trC P il n h c with
  |some (x,h')=>some (.block id x,h')
  |none=>none
 |h,.loop c=>match h with
  |keep::h'=>match trC P il n h' c with
   |some (x,h'')=>some (if keep.head?=some 1000000 then .loopA keep.tail x else .loop keep x,h'')
   |none=>none
  |[]=>none
 |h,.rangeFunc g ps a b=>match trA g with
  |some pa=>match trC P il n h a with
   |some (x,h')=>match trC P il n h' b with
    |some (y,h'')=>if noRange a && noRange b && ps.toList.all (fun p=>decide (p<n))then some (.range pa ps.toList x y,h'')else some (.fail,h)
    |none=>none
   |none=>none
  |none=>none
 |h,.scope c=>trC P il n h c
 |h,.label _=>some (.skip,h)
 |h,.exit id=>some (.exit id,h)
 |h,.ret=>some (.ret,h)
 |h,_=>some (.fail,h)
def trRes(P:Program):List ResultVar→Option (List PRes)
 |[]=>some []
 |.tmp t::r=>(trRes P r).map (.tmp t::·)
 |.cell a t::r=>match szOf P t,agOf P t,trRes P r with
  |some n,some ag,some l=>some (.cell a n ag::l)
  |_,_,_=>none
def trF(P:Program)(il:List Nat)(f:Nat)(hints:List (List Nat)):Option PF:=
 match P.funcs[f]? with
 |some fn=>match fn.body with
  |some c=>match trC P il fn.ntmps hints c,trRes P fn.results.toList with
   |some (pc,_),some res=>if fn.name == "runtime.NumGoroutine" then none else some {code:=pc,res}
   |_,_=>none
  |none=>none
 |none=>none
section
variable {P:Program} {il:List Nat} {G:Glob} {T:Tbl} {base n:Nat} {w0:World} {g0:Ghost} {st0:St} {dl:List Deferred} {r:Option Nat}
def DfOK(w0 w:World):List Deferred→Prop
 |[]=>True
 |d::ds=>(∃ D,d={target:=.collected D,args:=#[]}∧w.heap[D]?=some (.deferred (some []))∧w0.heap[D]?=none∧∀ d'∈ds,d'≠d)∧DfOK w0 w ds
theorem DfOK.mem{w0 w:World}:∀ {ds:List Deferred} {d:Deferred},DfOK w0 w ds→d∈ds→∃ D,d={target:=.collected D,args:=#[]}∧w.heap[D]?=some (.deferred (some []))
 |_::_,d,⟨⟨D,h1,h2,_⟩,h5⟩,hd=>by
  rcases List.mem_cons.1 hd with rfl | hd
  ·exact⟨D,h1,h2⟩
  ·exact DfOK.mem h5 hd
theorem DfOK.mono{w0 w w':World}(h:∀ (b:Nat) (o:Go.Obj),w.heap[b]?=some o→special o=true→Kept w' b o):∀ {ds:List Deferred},DfOK w0 w ds→DfOK w0 w' ds
 |[],_=>trivial
 |_::_,⟨⟨D,h1,h2,h3,h4⟩,h5⟩=>⟨⟨D,h1,(h D _ h2 rfl).def',h3,h4⟩,DfOK.mono h h5⟩
structure Rel (G:Glob) (base n:Nat) (w0:World) (g0:Ghost) (st0:St) (dl:List Deferred) (s:PS) (a:Act) (w:World) (g:Ghost):Prop where
 go1:Go1 base w0 g0 st0 w g s.st
 fr:FR w g s.st s.fr a
 gl:GlobOK G w g
 df:∃ ds,a.defers=ds++dl∧DfOK w0 w ds
 sz:n≤a.tmps.size
theorem Rel.sr{s:PS}{a:Act}{w:World}{g:Ghost}(h:Rel G base n w0 g0 st0 dl s a w g):SR base w g s.st:=h.go1.sr
theorem Rel.go{s s':PS}{a a':Act}{w w':World}{g g':Ghost}(h:Rel G base n w0 g0 st0 dl s a w g)(hg:Go1 base w g s.st w' g' s'.st)(hf:FR w' g' s'.st s'.fr a')(hd:a'.defers=a.defers)(hs:n≤a'.tmps.size):Rel G base n w0 g0 st0 dl s' a' w' g':=
 ⟨h.go1.trans hg,hf,h.gl.mono hg.im,(let⟨ds,h1,h2⟩:=h.df; ⟨ds,hd.trans h1,h2.mono hg.kp⟩),hs⟩
def R(G:Glob)(base n:Nat)(w0:World)(g0:Ghost)(st0:St)(dl:List Deferred)(s:PS)(a:Act)(w:World):Prop:=∃ g,Rel G base n w0 g0 st0 dl s a w g
theorem put_size(a:Act)(dst:Option Tmp)(v:Value):(a.put dst v).tmps.size=a.tmps.size:=by
 cases dst <;> simp[Act.put]
theorem put_defers'(a:Act)(dst:Option Tmp)(v:Value):(a.put dst v).defers=a.defers:=by
 cases dst <;> rfl
theorem wanted_rep{ops:Array Oper}{o:Oper}{i:PI}{s:PS}{a:Act}{w:World}{g:Ghost}(hF:FR w g s.st s.fr a)(ht:trI P il n ops o=some i){b:Bool}(hw:i.wanted s.fr=some b):Region.wanted o (yielded ops a.tmps)=b:=by
 unfold trI at ht
 split at ht
 case isFalse=>cases ht
 split at ht
 ·rename_i hg
  simp only[Option.some.injEq]at ht; subst ht
  simp only[PI.wanted,Option.some.injEq]at hw; subst hw
  simp[Region.wanted,hg]
 ·rename_i j want hg
  split at ht
  case h_2=>cases ht
  rename_i sl hsl
  simp only[Option.some.injEq]at ht; subst ht
  simp only[PI.wanted]at hw
  have hr:=hF sl
  have hy:yielded ops a.tmps j=(match a.tmps[sl]? with | some (.bool b)=>some b | _=>none):=by
   unfold yielded
   rw[hsl]
   rfl
  simp only[Region.wanted,hg,hy]
  split at hw
  ·rename_i bb hb
   simp only[Option.some.injEq]at hw; subst hw
   rw[hb]at hr
   have hv:=bool_inv hr
   have hlt:sl<a.tmps.size:=by
    rcases Nat.lt_or_ge sl a.tmps.size with h | h
    ·exact h
    ·simp[Array.getElem?_eq_none h,undef]at hv
   have h2:a.tmps[sl]?=some (.bool bb):=by
    rw[Array.getElem?_eq_getElem hlt]
    simp[hlt]at hv
    rw[hv]
   simp only[h2]
   cases bb <;> cases want <;> rfl
  ·rename_i hb
   simp only[Option.some.injEq]at hw; subst hw
   rw[hb]at hr
   generalize hv:a.tmps.getD sl undef=v at hr
   cases hr with
   |tup _ vs h1 h2=>
    have h3:vs=[]:=List.eq_nil_of_length_eq_zero h1.symm
    subst h3
    have h4:(match a.tmps[sl]? with | some (.bool b)=>some b | _=>none)=(none:Option Bool):=by
     rcases Nat.lt_or_ge sl a.tmps.size with h | h
     ·simp[h]at hv
      rw[Array.getElem?_eq_getElem h,hv]
     ·rw[Array.getElem?_eq_none h]
    rw[h4]
    cases want <;> rfl
  ·cases hw
theorem trI_spec{ops:Array Oper}{o:Oper}{i:PI}(ht:trI P il n ops o=some i):(trOp P il o.op=some i.op∨i.op=.fail)∧i.dst=o.dst∧∀ t,o.dst=some t→t<n:=by
 have hop:∀ p,(trOp P il o.op).getD .fail=p→trOp P il o.op=some p∨p=.fail:=by
  intro p hp
  cases h:trOp P il o.op with
  |none=>rw[h]at hp; exact .inr hp.symm
  |some q=>rw[h]at hp; exact .inl (by rw[← hp]; rfl)
 unfold trI at ht
 split at ht
 case isFalse=>cases ht
 rename_i hd
 have hd':∀ t,o.dst=some t→t<n:=by
  intro t h; rw[h]at hd; simpa[dstOK]using hd
 split at ht
 ·simp only[Option.some.injEq]at ht; subst ht; exact⟨hop _ rfl,rfl,hd'⟩
 ·split at ht
  ·simp only[Option.some.injEq]at ht; subst ht; exact⟨hop _ rfl,rfl,hd'⟩
  ·cases ht
theorem step_simD(hT:TblOK P G T)(hY:YOK P G T.y base w0 g0 st0){ops:Array Oper}{o:Oper}{i:PI}{s s':PS}{a:Act}{w:World}{K:Act→World→Prop}{Q:Exit→Act→World→Prop}(hR:R G base n w0 g0 st0 dl s a w)(ht:trI P il n ops o=some i)(hx:i.exec G T s=some s')
  (hK:∀ a' w',R G base n w0 g0 st0 dl s' a' w'→a'.defers=a.defers→K a' w'):if Region.wanted o (yielded ops a.tmps)then o.wpIn (Wr r) 0 P a w K Q else(∀ f,o.about P w a.eval=some f→(Wr r).fn f)∧K (a.put o.dst undef) w:=by
 obtain⟨g,h⟩:=hR
 obtain⟨h1,h2,h3⟩:=trI_spec ht
 have hdst:∀ t,i.dst=some t→t<a.tmps.size:=fun t e=>Nat.lt_of_lt_of_le (h3 t (h2 ▸ e)) h.sz
 rw[PI.exec_eq]at hx
 simp only[Option.map_eq_some_iff]at hx
 obtain⟨⟨d,st'⟩,hx,rfl⟩:=hx
 unfold PI.step at hx
 split at hx
 ·cases hx
 ·rename_i hw
  rw[wanted_rep h.fr ht hw]
  simp only[Option.some.injEq,Prod.mk.injEq]at hx
  obtain⟨rfl,rfl⟩:=hx
  simp only[Bool.false_eq_true,if_false]
  refine⟨fun _ _=>trivial,hK _ _ ⟨g,h.go (Go1.refl h.sr) ?_ (put_defers' ..) (by rw[put_size]; exact h.sz)⟩ (put_defers' ..)⟩
  rw[← h2]
  exact h.fr.put hdst (.tup [] [] rfl (fun i d v hh=>by simp at hh))
 ·rename_i hw
  rw[wanted_rep h.fr ht hw]
  simp only[if_true]
  have h1:=h1.resolve_right (fun e=>by rw[e]at hx; simp[POp.exec]at hx)
  refine op_simIn hT hY h.go1 h.gl h.fr h1 hx ?_
  intro v w' g' hgo hrep
  refine hK _ _ ⟨g',h.go hgo ?_ (put_defers' ..) (by rw[put_size]; exact h.sz)⟩ (put_defers' ..)
  rw[← h2]
  exact(h.fr.mono hgo.im hgo.evo).put hdst hrep
theorem step_sim(hT:TblOK P G T)(hY:YOK P G T.y base w0 g0 st0){ops:Array Oper}{o:Oper}{i:PI}{s s':PS}{a:Act}{w:World}{K:Act→World→Prop}{Q:Exit→Act→World→Prop}(hR:R G base n w0 g0 st0 dl s a w)(ht:trI P il n ops o=some i)(hx:i.exec G T s=some s')
  (hK:∀ a' w',R G base n w0 g0 st0 dl s' a' w'→K a' w'):if Region.wanted o (yielded ops a.tmps)then o.wpIn (Wr r) 0 P a w K Q else(∀ f,o.about P w a.eval=some f→(Wr r).fn f)∧K (a.put o.dst undef) w:=
 step_simD hT hY hR ht hx fun a' w' h _=>hK a' w' h
theorem list_simD(hT:TblOK P G T)(hY:YOK P G T.y base w0 g0 st0){ops:Array Oper}{Q:Exit→Act→World→Prop}:∀ (l:List Oper) (is:List PI) (s s':PS) (a:Act) (w:World),trIs P il n ops l=some is→execs G T is s=some s'→R G base n w0 g0 st0 dl s a w→
  (∀ a' w',R G base n w0 g0 st0 dl s' a' w'→a'.defers=a.defers→Q .normal a' w')→wpListIn (Wr r) 0 P ops Q l a w
 |[],is,s,s',a,w,ht,hx,hR,hQ=>by
  simp[trIs]at ht; subst ht
  simp[execs]at hx; subst hx
  exact hQ a w hR rfl
 |o::l,is,s,s',a,w,ht,hx,hR,hQ=>by
  simp only[trIs]at ht
  split at ht
  ·rename_i i is' h1 h2
   simp only[Option.some.injEq]at ht; subst ht
   simp only[execs]at hx
   split at hx
   ·rename_i s1 hs1
    exact step_simD hT hY hR h1 hs1 fun a' w' hR' hd'=>list_simD hT hY l is' s1 s' a' w' h2 hx hR' fun a2 w2 hR2 hd2=>hQ a2 w2 hR2 (hd2.trans hd')
   ·cases hx
  ·cases ht
theorem list_simR(hT:TblOK P G T)(hY:YOK P G T.y base w0 g0 st0){ops:Array Oper}{rest:List Oper}{Q:Exit→Act→World→Prop}:∀ (l:List Oper) (is:List PI) (s s':PS) (a:Act) (w:World),trIs P il n ops l=some is→execs G T is s=some s'→R G base n w0 g0 st0 dl s a w→
  (∀ a' w',R G base n w0 g0 st0 dl s' a' w'→wpListIn (Wr r) 0 P ops Q rest a' w')→wpListIn (Wr r) 0 P ops Q (l++rest) a w
 |[],is,s,s',a,w,ht,hx,hR,hQ=>by
  simp[trIs]at ht; subst ht
  simp[execs]at hx; subst hx
  exact hQ a w hR
 |o::l,is,s,s',a,w,ht,hx,hR,hQ=>by
  unfold trIs at ht
  split at ht
  ·rename_i i is' h1 h2
   simp only[Option.some.injEq]at ht; subst ht
   simp only[execs]at hx
   split at hx
   ·rename_i s1 hs1
    exact step_sim hT hY hR h1 hs1 fun a' w' hR'=>list_simR hT hY l is' s1 s' a' w' h2 hx hR' hQ
   ·cases hx
  ·cases ht
theorem trPair_spec{o1 o2:Oper}{i1 i2:PI}(h:trPair P il n o1 o2=some (i1,i2)):∃ t e len parts d1 p,o1.op=.buildSlice t len parts∧o2.op=.convert t t (.tmp d1)∧o1.dst=some d1∧P.underlying t=some (.slice e)∧P.underlying e=some (.int .u8)∧d1<n∧(∀ x,o2.dst=some x→x<n)∧o1.guard=none∧o2.guard=none∧
  trOp P il (.buildSlice t len parts)=some p∧i1={dst:=some d1,op:=p}∧i2={dst:=o2.dst,op:=.mov (.s d1)}:=by
 unfold trPair at h
 split at h
 case h_2=>cases h
 rename_i t len parts s t' d d1 h1 h2 h3
 split at h
 case h_2=>cases h
 rename_i e hu
 split at h
 case h_2=>cases h
 rename_i hu8
 split at h
 case isFalse=>cases h
 rename_i hc
 obtain⟨rfl,rfl,rfl,c1,c2,c3,c4⟩:=hc
 split at h
 case h_2=>cases h
 rename_i p hp
 simp only[Option.some.injEq,Prod.mk.injEq]at h
 obtain⟨rfl,rfl⟩:=h
 exact⟨_,e,len,parts,_,p,h1,h2,h3,hu,hu8,c1,fun x hx=>by rw[hx]at c2; simpa[dstOK]using c2,c3,c4,hp,rfl,rfl⟩
theorem pair_sim{ops:Array Oper}{o1 o2:Oper}{i1 i2:PI}{s s1 s2:PS}{a:Act}{w:World}{K:Act→World→Prop}{Q:Exit→Act→World→Prop}(hR:R G base n w0 g0 st0 dl s a w)(ht:trPair P il n o1 o2=some (i1,i2))(hx1:i1.exec G T s=some s1)(hx2:i2.exec G T s1=some s2)
  (hK:∀ a' w',R G base n w0 g0 st0 dl s2 a' w'→K a' w'):Region.wanted o1 (yielded ops a.tmps)=true∧(∀ tm,Region.wanted o2 (yielded ops tm)=true)∧o1.wpIn (Wr r) 0 P a w (fun a' w'=>o2.wpIn (Wr r) 0 P a' w' K Q) Q:=by
 obtain⟨g,h⟩:=hR
 obtain⟨t,e,len,parts,d1,p,h1,h2,h3,hu,hu8,hd1,hd2,hg1,hg2,hp,rfl,rfl⟩:=trPair_spec ht
 refine⟨by simp[Region.wanted,hg1],fun tm=>by simp[Region.wanted,hg2],?_⟩
 rw[PI.exec_eq]at hx1 hx2
 simp only[PI.step,PI.wanted,Option.map_eq_some_iff]at hx1 hx2
 obtain⟨⟨d,st'⟩,hx1,rfl⟩:=hx1
 obtain⟨⟨d',st2⟩,hx2,rfl⟩:=hx2
 simp only[POp.exec,Option.some.injEq,Prod.mk.injEq]at hx2
 obtain⟨rfl,rfl⟩:=hx2
 obtain⟨dst1,op1,ty1,pos1,after1,guard1⟩:=o1
 obtain⟨dst2,op2,ty2,pos2,after2,guard2⟩:=o2
 simp only at h1 h2 h3 hd2
 subst h1; subst h2; subst h3
 have hlt:d1<a.tmps.size:=Nat.lt_of_lt_of_le hd1 h.sz
 have hw:=sim_litSame (Q:=Q) (next2:=K) (d1:=d1) (d2:=dst2) (ty:=ty1) (ty2:=ty2) (pos:=pos1) (pos2:=pos2) (after:=after1) (after2:=after2) (guard:=guard1) (guard2:=guard2) h.sr h.gl h.fr hp hu hu8 hlt hx1 (fun v w' g' hgo hrep=>by
  refine hK _ _ ⟨g',h.go hgo ?_ (by rw[put_defers',put_defers']) (by rw[put_size,put_size]; exact h.sz)⟩
  have hF1:=(h.fr.mono hgo.im hgo.evo).put (dst:=some d1) (a:=a) (fun t e=>by cases e; exact hlt) hrep
  have hrd:rho G (s.fr.put (some d1) d) (.s d1)=d:=by
   show(if d1=d1 then d else s.fr d1)=d
   rw[if_pos rfl]
  rw[hrd]
  exact hF1.put (fun t e=>by rw[put_size]; exact Nat.lt_of_lt_of_le (hd2 t e) h.sz) hrep)
 refine wpIn_of_wp (fun c e=>by cases e) ?_
 refine Oper.wp_mono (fun a' w' h'=>?_) hw
 exact wpIn_of_wp (fun c e=>by cases e) h'
theorem list_simUR(hT:TblOK P G T)(hY:YOK P G T.y base w0 g0 st0){ops:Array Oper}{rest:List Oper}{Q:Exit→Act→World→Prop}:∀ (l:List Oper) (is:List PI) (s s':PS) (a:Act) (w:World),trIsU P il n ops l=some is→execs G T is s=some s'→R G base n w0 g0 st0 dl s a w→
  (∀ a' w',R G base n w0 g0 st0 dl s' a' w'→wpListIn (Wr r) 0 P ops Q rest a' w')→wpListIn (Wr r) 0 P ops Q (l++rest) a w
 |[],is,s,s',a,w,ht,hx,hR,hQ=>by
  simp[trIsU]at ht; subst ht
  simp[execs]at hx; subst hx
  exact hQ a w hR
 |[o],is,s,s',a,w,ht,hx,hR,hQ=>by
  simp only[trIsU,Option.map_eq_some_iff]at ht
  obtain⟨i,h1,rfl⟩:=ht
  exact list_simR (il:=il) hT hY [o] [i] s s' a w (by simp[trIs,h1]) hx hR hQ
 |o1::o2::l,is,s,s',a,w,ht,hx,hR,hQ=>by
  unfold trIsU at ht
  split at ht
  ·rename_i i1 i2 hp
   simp only[Option.map_eq_some_iff]at ht
   obtain⟨is',h2,rfl⟩:=ht
   simp only[execs]at hx
   split at hx
   case h_2=>cases hx
   rename_i s1 hs1
   split at hx
   case h_2=>cases hx
   rename_i s2 hs2
   obtain⟨e1,e2,e3⟩:=pair_sim (r:=r) (ops:=ops) (Q:=Q) (K:=wpListIn (Wr r) 0 P ops Q (l++rest)) hR hp hs1 hs2 (fun a' w' hR'=>list_simUR hT hY l is' s2 s' a' w' h2 hx hR' hQ)
   simp only[List.cons_append,wpListIn,e1,e2,if_true]
   exact e3
  ·split at ht
   ·rename_i i is' h1 h2
    simp only[Option.some.injEq]at ht; subst ht
    simp only[execs]at hx
    split at hx
    ·rename_i s1 hs1
     exact step_sim hT hY hR h1 hs1 fun a' w' hR'=>list_simUR hT hY (o2::l) is' s1 s' a' w' h2 hx hR' hQ
    ·cases hx
   ·cases ht
theorem list_simU(hT:TblOK P G T)(hY:YOK P G T.y base w0 g0 st0){ops:Array Oper}{Q:Exit→Act→World→Prop}(l:List Oper)(is:List PI)(s s':PS)(a:Act)(w:World)(ht:trIsU P il n ops l=some is)(hx:execs G T is s=some s')(hR:R G base n w0 g0 st0 dl s a w)
  (hQ:∀ a' w',R G base n w0 g0 st0 dl s' a' w'→Q .normal a' w'):wpListIn (Wr r) 0 P ops Q l a w:=by
 have:=list_simUR (r:=r) (rest:=[]) hT hY l is s s' a w ht hx hR hQ
 rwa [List.append_nil]at this
theorem step_simX(hT:TblOK P G T){ops:Array Oper}{o:Oper}{i:PI}{s s':PS}{t:Nat}{d:D}{a:Act}{w:World}{K:Act→World→Prop}{Q:Exit→Act→World→Prop}(hR:R G base n w0 g0 st0 dl s a w)(ht:trI P il n ops o=some i)(hx:i.execX G T s=some (t,d,s'))
  (hQ:∀ w',R G base n w0 g0 st0 dl s' a w'→Q (.panic (chainOf t d)) a w'):Region.wanted o (yielded ops a.tmps)=true∧o.wpIn (Wr r) 0 P a w K Q:=by
 obtain⟨g,h⟩:=hR
 obtain⟨h1,h2,h3⟩:=trI_spec ht
 unfold PI.execX at hx
 split at hx
 case h_2=>cases hx
 rename_i hw
 refine⟨wanted_rep h.fr ht hw,?_⟩
 simp only[Option.map_eq_some_iff,Prod.mk.injEq]at hx
 obtain⟨⟨t',d',st'⟩,hx,rfl,rfl,rfl⟩:=hx
 unfold POp.execX at hx
 split at hx
 case h_2=>cases hx
 rename_i f ds hcl
 split at hx
 case h_2=>cases hx
 rename_i sp hsp
 have hinv:∃ c,o.op=.call c∧∃ vs:List Value,ds.length=vs.length∧(∀ (i:Nat) d v,ds[i]?=some d→vs[i]?=some v→RepV w g s.st d v)∧execOp a.eval o=callFunc f vs.toArray:=by
  obtain⟨dst,op,ty,pos,after,guard⟩:=o
  rcases h1 with h1 | h1
  case inr=>rw[h1]at hcl; cases hcl
  simp only at h1
  generalize i.op=p at h1 hcl
  clear ht h3 h2 hw hQ
  cases op with
  |call c=>
   refine⟨c,rfl,?_⟩
   simp only[trOp]at h1
   split at h1
   ·rename_i b hb
    unfold trBuiltin at h1
    repeat' split at h1
    all_goals first | (cases h1; done) | (cases h1; cases hcl; done) | (simp only[Option.some.injEq]at h1; subst h1; simp[POp.callee]at hcl; done) | (simp only[Option.map_eq_some_iff]at h1; obtain⟨_,_,h1⟩:=h1; subst h1; simp[POp.callee]at hcl; done) | skip
   ·rename_i f' hcal
    split at h1
    case h_2=>cases h1
    rename_i fn l hfn hl
    split at h1
    case isFalse=>
     split at h1
     ·cases h1
     ·simp only[Option.some.injEq]at h1; subst h1; simp[POp.callee]at hcl
    simp only[Option.some.injEq]at h1
    split at h1
    ·subst h1; simp[POp.callee]at hcl
    split at h1
    ·subst h1; simp[POp.callee]at hcl
    ·split at h1
     ·subst h1
      simp only[POp.callee,Option.some.injEq,Prod.mk.injEq]at hcl
      obtain⟨rfl,rfl⟩:=hcl
      obtain⟨g1,g2⟩:=trAs_spec (fun x pa h'=>trA_rep (G:=G) h.gl h.fr h') hl
      refine⟨c.args.toList.map a.eval,by simpa using g1,g2,?_⟩
      simp only[execOp,resolve,hcal]
      have:(c.args.toList.map a.eval).toArray=c.args.map a.eval:=by
       apply Array.ext'
       simp
      rw[this]
      show(do let d ← (pure {target:=Target.fn (Fn.func f') #[],args:=#[]++c.args.map a.eval}:Sem Deferred); invoke d.target d.args)=_
      simp only[Array.empty_append]
      show invoke (Target.fn (Fn.func f') #[]) (c.args.map a.eval)=_
      simp[invoke]
     ·subst h1; simp[POp.callee]at hcl
   ·rename_i x hnf hcal
    split at h1
    case h_2=>cases h1
    rename_i pa l hpa hl
    simp only[Option.some.injEq]at h1; subst h1
    exact callv_exec (fun x pa h'=>trA_rep (G:=G) h.gl h.fr h') hcal hpa hl hcl
   ·cases h1
  |_=>
   exfalso; revert h1; simp only[trOp,trBin,trConv,trSlice]
   repeat' split
   all_goals first
    |(intro h1; cases h1; done)
    |(intro h1; cases h1; cases hcl; done)
    |(intro h1; simp only[Option.some.injEq]at h1; subst h1; simp[POp.callee]at hcl; done)
    |(intro h1; simp only[Option.map_eq_some_iff]at h1; obtain⟨_,_,h1⟩:=h1; subst h1; simp[POp.callee]at hcl; done)
    |(intro _; contradiction)
 obtain⟨c,e1,vs,g1,g2,g3⟩:=hinv
 refine wpIn_of_wp (fun c' e=>by rw[e1]at e; cases e) ?_
 refine icall_simX (hT.x f sp hsp) h.sr h.gl (ds:=ds) (vs:=vs) hx g1 g2 g3 ?_
 intro w' g' hgo
 exact hQ w' ⟨g',h.go hgo (h.fr.mono hgo.im hgo.evo) rfl h.sz⟩
theorem list_simX(hT:TblOK P G T)(hY:YOK P G T.y base w0 g0 st0){ops:Array Oper}{Q:Exit→Act→World→Prop}{t:Nat}{d:D}:∀ (l:List Oper) (is:List PI) (s s':PS) (a:Act) (w:World),trIsU P il n ops l=some is→execsX G T is s=some (t,d,s')→R G base n w0 g0 st0 dl s a w→
  (∀ a' w',R G base n w0 g0 st0 dl s' a' w'→Q (.panic (chainOf t d)) a' w')→wpListIn (Wr r) 0 P ops Q l a w
 |[],is,s,s',a,w,ht,hx,hR,hQ=>by
  simp[trIsU]at ht; subst ht
  simp[execsX]at hx
 |[o],is,s,s',a,w,ht,hx,hR,hQ=>by
  simp only[trIsU,Option.map_eq_some_iff]at ht
  obtain⟨i,h1,rfl⟩:=ht
  simp only[execsX]at hx
  split at hx
  ·cases hx
  ·obtain⟨k1,k2⟩:=step_simX (r:=r) (ops:=ops) (K:=wpListIn (Wr r) 0 P ops Q []) hT hR h1 hx (fun w' hR'=>hQ a w' hR')
   simp only[wpListIn,k1,if_true]
   exact k2
 |o1::o2::l,is,s,s',a,w,ht,hx,hR,hQ=>by
  unfold trIsU at ht
  split at ht
  ·rename_i i1 i2 hp
   simp only[Option.map_eq_some_iff]at ht
   obtain⟨is',h2,rfl⟩:=ht
   simp only[execsX]at hx
   obtain⟨t',e,len,parts,d1,p,q1,q2,q3,hu,hu8,hd1,hd2,hg1,hg2,hp',rfl,rfl⟩:=trPair_spec hp
   split at hx
   case h_2=>
    exfalso
    simp only[PI.execX,PI.wanted,Option.map_eq_some_iff]at hx
    obtain⟨r,hx,_⟩:=hx
    unfold POp.execX at hx
    split at hx
    case h_2=>cases hx
    rename_i f ds hcl
    simp only[trOp]at hp'
    repeat' split at hp'
    all_goals first | (cases hp'; done) | (cases hp'; cases hcl; done) | (simp only[Option.some.injEq]at hp'; subst hp'; simp[POp.callee]at hcl; done)
   rename_i s1 hs1
   split at hx
   case h_2=>
    exfalso
    simp[PI.execX,PI.wanted,POp.execX,POp.callee]at hx
   rename_i s2 hs2
   obtain⟨e1,e2,e3⟩:=pair_sim (r:=r) (ops:=ops) (Q:=Q) (K:=wpListIn (Wr r) 0 P ops Q l) hR hp hs1 hs2 (fun a' w' hR'=>list_simX hT hY l is' s2 s' a' w' h2 hx hR' hQ)
   simp only[wpListIn,e1,e2,if_true]
   exact e3
  ·split at ht
   ·rename_i i is' h1 h2
    simp only[Option.some.injEq]at ht; subst ht
    simp only[execsX]at hx
    split at hx
    ·rename_i s1 hs1
     exact step_sim hT hY hR h1 hs1 fun a' w' hR'=>list_simX hT hY (o2::l) is' s1 s' a' w' h2 hx hR' hQ
    ·obtain⟨k1,k2⟩:=step_simX (r:=r) (ops:=ops) (K:=wpListIn (Wr r) 0 P ops Q (o2::l)) hT hR h1 hx (fun w' hR'=>hQ a w' hR')
     simp only[wpListIn,k1,if_true]
     exact k2
   ·cases ht
theorem pan_sim{ops:Array Oper}{o1 o2:Oper}{t d1:Nat}{xo:Operand}{x:PA}{s:PS}{a:Act}{w:World}{Q:Exit→Act→World→Prop}(hR:R G base n w0 g0 st0 dl s a w)(h1:o1.op=.makeInterface t xo)(h3:o1.dst=some d1)(h2:o2.op=.panic (.tmp d1))(hd1:d1<n)
  (hg1:o1.guard=none) (hg2:o2.guard=none) {u:TypeDesc} (hu:P.underlying t=some u) (hne:∀ m,u≠.interface m) (hx:trA xo=some x) (hi:intsD (rho G s.fr x)=true)
  (hQ:∀ a',R G base n w0 g0 st0 dl ⟨s.fr.set d1 .junk,s.st⟩ a' w→Q (.panic (chainOf t (rho G s.fr x))) a' w):wpListIn (Wr r) 0 P ops Q [o1,o2] a w:=by
 obtain⟨g,h⟩:=hR
 have hv:=valOf_rep (trA_rep (G:=G) h.gl h.fr hx) hi
 have hlt:d1<a.tmps.size:=Nat.lt_of_lt_of_le hd1 h.sz
 obtain⟨dst1,op1,ty1,pos1,after1,guard1⟩:=o1
 obtain⟨dst2,op2,ty2,pos2,after2,guard2⟩:=o2
 simp only at h1 h2 h3 hg1 hg2
 subst h1; subst h2; subst h3; subst hg1; subst hg2
 have w1:∀ tm,Region.wanted ({dst:=some d1,op:=.makeInterface t xo,type:=ty1,pos:=pos1,after:=after1,guard:=none}:Oper) (yielded ops tm)=true:=fun tm=>by simp[Region.wanted]
 have w2:∀ tm,Region.wanted ({dst:=dst2,op:=.panic (.tmp d1),type:=ty2,pos:=pos2,after:=after2,guard:=none}:Oper) (yielded ops tm)=true:=fun tm=>by simp[Region.wanted]
 simp only[wpListIn,w1,w2,if_true]
 refine wpIn_of_wp (fun c e=>by cases e) ?_
 unfold Oper.wp
 have hrun1:(execOp a.eval {dst:=some d1,op:=.makeInterface t xo,type:=ty1,pos:=pos1,after:=after1,guard:=none}).run P w=.ok (.value (.iface t (valOf (rho G s.fr x)))) w:=by
  simp only[execOp,hv,Sem.run_bind,Instr.makeInterface,run_underlying hu,Result.andThen_ok]
  cases u <;> first | rfl | exact absurd rfl (hne _)
 rw[hrun1,Oper.upon_value]
 refine wpIn_of_wp (fun c e=>by cases e) ?_
 unfold Oper.wp
 have hev:(a.put (some d1) (.iface t (valOf (rho G s.fr x)))).eval (.tmp d1)=.iface t (valOf (rho G s.fr x)):=by
  simp[Act.eval,Act.put,hlt]
 have hrun2:(execOp (a.put (some d1) (.iface t (valOf (rho G s.fr x)))).eval {dst:=dst2,op:=.panic (.tmp d1),type:=ty2,pos:=pos2,after:=after2,guard:=none}).run P w=.halt (.panic (.iface t (valOf (rho G s.fr x)))) w:=by
  simp only[execOp,hev,Sem.run_bind,Instr.panic]
  rfl
 rw[hrun2,Oper.upon_panic]
 refine hQ _ ⟨g,h.go (Go1.refl h.sr) ?_ (put_defers' ..) (by rw[put_size]; exact h.sz)⟩
 exact h.fr.put (dst:=some d1) (fun t e=>by cases e; exact hlt) (.junk _)
theorem trIs_get{ops:Array Oper}:∀ {l:List Oper} {is:List PI},trIs P il n ops l=some is→is.length=l.length∧∀ (k:Nat) o,l[k]?=some o→∃ i,is[k]?=some i∧trI P il n ops o=some i
 |[],is,h=>by simp[trIs]at h; subst h; exact⟨rfl,fun k o h=>by simp at h⟩
 |o::l,is,h=>by
  unfold trIs at h
  split at h
  ·rename_i i is' h1 h2
   simp only[Option.some.injEq]at h; subst h
   obtain⟨e1,e2⟩:=trIs_get h2
   refine⟨by simp[e1],fun k o' hk=>?_⟩
   cases k with
   |zero=>simp at hk; subst hk; exact⟨i,rfl,h1⟩
   |succ k=>simp at hk; simpa using e2 k o' hk
  ·cases h
theorem masks_prefix:∀ (l:List Oper) (acc:List Nat),∃ r,masks l acc=acc++r
 |[],acc=>⟨[],by simp[masks]⟩
 |o::l,acc=>by
  obtain⟨r,h⟩:=masks_prefix l (acc++[(depsOf o).foldl (fun m e=>m ||| (1 <<< e) ||| acc.getD e 0) 0])
  exact⟨_,by rw[masks,h,List.append_assoc]⟩
theorem foldl_mask(acc:List Nat)(j:Nat):∀ (l:List Nat) (m:Nat),(l.foldl (fun m e=>m ||| (1 <<< e) ||| acc.getD e 0) m).testBit j=true→m.testBit j=true∨∃ e∈l,j=e∨(acc.getD e 0).testBit j=true
 |[],m,h=>.inl h
 |e::l,m,h=>by
  rcases foldl_mask acc j l _ h with h1 | ⟨e',h1,h2⟩
  ·simp only[Nat.testBit_or,Bool.or_eq_true]at h1
   rcases h1 with(h1 | h1) | h1
   ·exact .inl h1
   ·refine .inr ⟨e,by simp,.inl ?_⟩
    rw[Nat.one_shiftLeft,Nat.testBit_two_pow]at h1
    exact(by simpa using h1:e=j).symm
   ·exact .inr ⟨e,by simp,.inr h1⟩
  ·exact .inr ⟨e',by simp[h1],h2⟩
theorem masks_spec:∀ (l:List Oper) (acc:List Nat) (i j:Nat) (o:Oper),l[i]?=some o→((masks l acc).getD (acc.length+i) 0).testBit j=true→
  ∃ e∈depsOf o,j=e∨(e<acc.length+i∧((masks l acc).getD e 0).testBit j=true)
 |[],acc,i,j,o,h,_=>by simp at h
 |o'::l,acc,i,j,o,h,hb=>by
  cases i with
  |zero=>
   simp only[List.getElem?_cons_zero,Option.some.injEq]at h
   subst h
   obtain⟨r,hr⟩:=masks_prefix l (acc++[(depsOf o').foldl (fun m e=>m ||| (1 <<< e) ||| acc.getD e 0) 0])
   rw[masks,hr]at hb ⊢
   rw[Nat.add_zero,List.append_assoc]at hb
   simp only[List.getD_eq_getElem?_getD,List.singleton_append,List.getElem?_append_right (Nat.le_refl _),Nat.sub_self,List.getElem?_cons_zero,Option.getD_some]at hb
   rcases foldl_mask acc j _ 0 (by simpa[List.getD_eq_getElem?_getD]using hb)with h1 | ⟨e,h1,h2⟩
   ·simp at h1
   ·refine⟨e,h1,?_⟩
    rcases h2 with h2 | h2
    ·exact .inl h2
    ·have hlt:e<acc.length:=by
      rcases Nat.lt_or_ge e acc.length with h3 | h3
      ·exact h3
      ·simp[List.getD_eq_getElem?_getD,List.getElem?_eq_none h3]at h2
     refine .inr ⟨by omega,?_⟩
     rw[List.append_assoc,List.getD_eq_getElem?_getD,List.getElem?_append_left hlt,← List.getD_eq_getElem?_getD]
     exact h2
  |succ i=>
   simp only[List.getElem?_cons_succ]at h
   have:=masks_spec l (acc++[(depsOf o').foldl (fun m e=>m ||| (1 <<< e) ||| acc.getD e 0) 0]) i j o h
   simp only[List.length_append,List.length_singleton]at this
   rw[show acc.length+1+i=acc.length+(i+1) by omega]at this
   exact this hb
def Closed(ops:List Oper)(listed:Array Bool):Prop:=∀ (i:Nat) o,ops[i]?=some o→listed.getD i false=true→∀ e∈depsOf o,listed.getD e false=true
theorem mask_listed{ops:List Oper}{listed:Array Bool}(hc:Closed ops listed):∀ (i:Nat) o,ops[i]?=some o→(∀ e∈depsOf o,listed.getD e false=true)→∀ j,((masks ops []).getD i 0).testBit j=true→listed.getD j false=true:=by
 intro i
 induction i using Nat.strongRecOn with
 |_ i ih=>
  intro o ho hd j hj
  obtain⟨e,he,h1⟩:=masks_spec ops [] i j o ho (by simpa using hj)
  rcases h1 with rfl | ⟨h1,h2⟩
  ·exact hd _ he
  ·simp only[List.length_nil,Nat.zero_add]at h1
   have hel:=hd e he
   cases hoe:ops[e]? with
   |none=>
    have:ops.length≤e:=List.getElem?_eq_none_iff.1 hoe
    have:i<ops.length:=(List.getElem?_eq_some_iff.1 ho).1
    omega
   |some oe=>exact ih e h1 oe hoe (hc e oe hoe hel) j h2
def unlisted(m:Nat)(listed:Array Bool):List Nat:=(List.range m).filter fun i=>!listed.getD i true
theorem allApart_spec{ms:List Nat}{l:List PI}(h:allApart ms l=true){i j:Nat}{x y:PI}(hx:l[j]?=some x)(hy:l[i]?=some y)(hij:j<i)(hm:(ms.getD i 0).testBit j=false):x.apart y=true:=by
 simp only[allApart,List.all_eq_true]at h
 have h1:=h (y,i) (by rw[List.mk_mem_zipIdx_iff_getElem?]; exact hy)
 have h2:=h1 (x,j) (by rw[List.mk_mem_zipIdx_iff_getElem?,List.getElem?_take,if_pos hij]; exact hx)
 simp only[hm,Bool.false_or]at h2
 exact h2
theorem filter_split{p:Nat→Bool}:∀ (m i:Nat),i<m→p i=true→∃ l r,(List.range m).filter p=l++i::r∧(∀ j∈l,j<i∧p j=true)∧(List.range m).filter (fun j=>p j && j != i)=l++r:=by
 intro m i hi hp
 refine⟨(List.range i).filter p,((List.range' (i+1) (m - (i+1))).filter p),?_,?_,?_⟩
 ·have:List.range m=List.range i++(i::List.range' (i+1) (m - (i+1))):=by
   rw[List.range_eq_range',List.range_eq_range',← List.range'_succ,show m - (i+1)+1=m - i by omega]
   have:=List.range'_append_1 (s:=0) (m:=i) (n:=m - i)
   simp only[Nat.zero_add]at this
   rw[this]; congr 1; omega
  rw[this,List.filter_append,List.filter_cons,if_pos hp]
 ·intro j hj
  simp only[List.mem_filter,List.mem_range]at hj
  exact hj
 ·have:List.range m=List.range i++(i::List.range' (i+1) (m - (i+1))):=by
   rw[List.range_eq_range',List.range_eq_range',← List.range'_succ,show m - (i+1)+1=m - i by omega]
   have:=List.range'_append_1 (s:=0) (m:=i) (n:=m - i)
   simp only[Nat.zero_add]at this
   rw[this]; congr 1; omega
  rw[this,List.filter_append,List.filter_cons]
  simp only[bne_self_eq_false,Bool.and_false,Bool.false_eq_true,if_false]
  congr 1
  ·apply List.filter_congr
   intro j hj
   simp only[List.mem_range]at hj
   have:j≠i:=by omega
   simp[this]
  ·apply List.filter_congr
   intro j hj
   simp only[List.mem_range'_1]at hj
   have:j≠i:=by omega
   simp[this]
theorem any_invX(hT:TblOK P G T)(hY:YOK P G T.y base w0 g0 st0){ops:Array Oper}{Q:Exit→Act→World→Prop}{is:List PI}(ht:trIs P il n ops ops.toList=some is)(hlex:lexical ops.toList=true)(Inv:Array Bool→PS→Prop)
  (hstep:∀ (listed:Array Bool) (s:PS) (i:Nat) (o:Oper),listed.size=ops.size→Closed ops.toList listed→Inv listed s→ops.toList[i]?=some o→i<ops.size→listed.getD i true=false→(∀ e∈depsOf o,listed.getD e false=true)→
   (∃ s1,(is.getD i default).exec G T s=some s1∧Inv (listed.setIfInBounds i true) s1)∨∃ t d s1,(is.getD i default).execX G T s=some (t,d,s1)∧∀ a' w',R G base n w0 g0 st0 dl s1 a' w'→Q (.panic (chainOf t d)) a' w')
  (hfin:∀ (listed:Array Bool) (s:PS),unlisted ops.size listed=[]→Inv listed s→∀ a' w',R G base n w0 g0 st0 dl s a' w'→Q .normal a' w') :
  ∀ (fuel:Nat) (listed:Array Bool) (s:PS) (a:Act) (w:World),listed.size=ops.size→(unlisted ops.size listed).length≤fuel→Closed ops.toList listed→Inv listed s→R G base n w0 g0 st0 dl s a w→
  wpAnyIn (Wr r) 0 P .any ops Q fuel listed a w:=by
 obtain⟨hlen,hget⟩:=trIs_get ht
 have hlen':is.length=ops.size:=by simpa using hlen
 have hready:∀ (listed:Array Bool) (i:Nat),i∈Region.ready .any ops listed↔i∈unlisted ops.size listed∧∀ o,ops.toList[i]?=some o→∀ e∈depsOf o,listed.getD e false=true:=by
  intro listed i
  simp only[Region.ready,unlisted,List.mem_filter,List.mem_range,Bool.and_eq_true]
  constructor
  ·rintro⟨h1,h2,h3⟩
   refine⟨⟨h1,h2⟩,fun o ho e he=>?_⟩
   rw[Array.getElem?_toList]at ho
   simp only[ho,Option.map_some,Option.getD_some]at h3
   simp only[depsOf,List.mem_map,List.mem_filter,Array.mem_toList_iff]at he
   obtain⟨ed,⟨h4,h5⟩,rfl⟩:=he
   have:=Array.all_eq_true'.1 h3 ed h4
   simpa[h5]using this
  ·rintro⟨⟨h1,h2⟩,h3⟩
   refine⟨h1,h2,?_⟩
   have ho:ops.toList[i]?=some ops[i]:=by rw[Array.getElem?_toList,Array.getElem?_eq_getElem h1]
   rw[Array.getElem?_eq_getElem h1]
   simp only[Option.map_some,Option.getD_some]
   refine Array.all_eq_true'.2 fun ed hed=>?_
   by_cases hb:Region.binds .any ed=true
   ·have:=h3 _ ho ed.on (by simp only[depsOf,List.mem_map,List.mem_filter,Array.mem_toList_iff]; exact⟨ed,⟨hed,hb⟩,rfl⟩)
    simp[this]
   ·simp[hb]
 have hsome:∀ (listed:Array Bool),unlisted ops.size listed≠[]→Region.ready .any ops listed≠[]:=by
  intro listed hne hr
  obtain⟨i,r,hir⟩:=List.exists_cons_of_ne_nil hne
  have hi:i∈unlisted ops.size listed:=by rw[hir]; simp
  have hi':i<ops.size∧listed.getD i true=false:=by
   simp only[unlisted,List.mem_filter,List.mem_range,Bool.not_eq_true']at hi; exact hi
  have hmin:∀ e,e<i→listed.getD e true=true:=by
   intro e he
   by_cases h:listed.getD e true=true
   ·exact h
   ·exfalso
    obtain⟨l,r',h1,h2,_⟩:=filter_split (p:=fun i=>!listed.getD i true) ops.size e (by omega) (by simpa using h)
    have h3:l++e::r'=i::r:=by rw[← h1]; exact hir
    cases l with
    |nil=>simp at h3; omega
    |cons x l=>
     simp at h3
     have:=(h2 x (by simp)).1
     omega
  have:i∈Region.ready .any ops listed:=by
   rw[hready]
   refine⟨hi,fun o ho e he=>?_⟩
   have hlt:e<i:=by
    simp only[lexical,List.all_eq_true]at hlex
    have h1:=hlex (o,i) (by rw[List.mk_mem_zipIdx_iff_getElem?]; exact ho)
    simpa using h1 e he
   have h1:=hmin e hlt
   rcases Nat.lt_or_ge e listed.size with h2 | h2
   ·simpa[Array.getD,h2]using h1
   ·exfalso
    have:listed.getD i true=true:=by
     have:¬ i<listed.size:=by omega
     simp[Array.getD,this]
    rw[this]at hi'; cases hi'.2
  rw[hr]at this
  cases this
 intro fuel
 induction fuel with
 |zero=>
  intro listed s a w hsz hl hc hx hR
  have h0:unlisted ops.size listed=[]:=List.eq_nil_of_length_eq_zero (by omega)
  refine⟨?_,hfin listed s h0 hx a w hR⟩
  apply List.eq_nil_iff_forall_not_mem.2
  intro i hi
  have:=((hready listed i).1 hi).1
  rw[h0]at this; cases this
 |succ fuel ih=>
  intro listed s a w hsz hl hc hx hR
  refine⟨fun hr=>?_,fun i hi=>?_⟩
  ·have h0:unlisted ops.size listed=[]:=by
    by_cases h:unlisted ops.size listed=[]
    ·exact h
    ·exact absurd hr (hsome listed h)
   exact hfin listed s h0 hx a w hR
  ·obtain⟨hi1,hi2⟩:=(hready listed i).1 hi
   have hi':i<ops.size∧listed.getD i true=false:=by
    simp only[unlisted,List.mem_filter,List.mem_range,Bool.not_eq_true']at hi1; exact hi1
   have ho:ops.toList[i]?=some ops[i]:=by rw[Array.getElem?_toList,Array.getElem?_eq_getElem hi'.1]
   obtain⟨pi,hpi,htr⟩:=hget i _ ho
   have hpi':is.getD i default=pi:=by simp[List.getD_eq_getElem?_getD,hpi]
   rcases hstep listed s i _ hsz hc hx ho hi'.1 hi'.2 (hi2 _ ho)with⟨s1,hs1,hs2⟩ | ⟨t,d,s1,hs1,hs2⟩
   rotate_left
   ·rw[hpi']at hs1
    obtain⟨k1,k2⟩:=step_simX (r:=r) (Q:=Q) (ops:=ops) (K:=wpAnyIn (Wr r) 0 P .any ops Q fuel (listed.setIfInBounds i true)) hT hR htr hs1 (fun w' hR'=>hs2 a w' hR')
    unfold wpOpIn
    rw[Array.getElem?_eq_getElem hi'.1]
    simp only[k1,if_true]
    exact k2
   rw[hpi']at hs1
   have hset:∀ q,(listed.setIfInBounds i true).getD q false=true↔q=i∨listed.getD q false=true:=by
    intro q
    by_cases hqi:q=i
    ·subst hqi
     have:q<listed.size:=by omega
     simp[Array.getD,this]
    ·rcases Nat.lt_or_ge q listed.size with h5 | h5
     ·simp[Array.getD,h5,hqi,show ¬ i=q by omega]
     ·simp[Array.getD,Nat.not_lt.2 h5,hqi]
   have hstep2:=step_sim (r:=r) (Q:=Q) (ops:=ops) (K:=wpAnyIn (Wr r) 0 P .any ops Q fuel (listed.setIfInBounds i true)) hT hY hR htr hs1 (fun a' w' hR'=>by
    refine ih (listed.setIfInBounds i true) s1 a' w' (by simp[hsz]) ?_ ?_ hs2 hR'
    ·obtain⟨l,r,h1,h2,h3⟩:=filter_split (p:=fun i=>!listed.getD i true) ops.size i hi'.1 (by simpa using hi'.2)
     have hnext:unlisted ops.size (listed.setIfInBounds i true)=l++r:=by
      rw[← h3]
      simp only[unlisted]
      apply List.filter_congr
      intro j hj
      by_cases hji:j=i
      ·subst hji
       have:j<listed.size:=by omega
       simp[Array.getD,this]
      ·rcases Nat.lt_or_ge j listed.size with h5 | h5
       ·simp[Array.getD,h5,hji,show ¬ i=j by omega]
       ·simp[Array.getD,Nat.not_lt.2 h5]
     have h1':unlisted ops.size listed=l++i::r:=h1
     rw[hnext]
     rw[h1']at hl
     simp at hl ⊢
     omega
    ·intro k o' hk hkl e he
     rw[hset]at hkl ⊢
     refine .inr ?_
     rcases hkl with rfl | hkl
     ·exact hi2 o' hk e he
     ·exact hc k o' hk hkl e he)
   unfold wpOpIn
   rw[Array.getElem?_eq_getElem hi'.1]
   exact hstep2
theorem any_inv(hT:TblOK P G T)(hY:YOK P G T.y base w0 g0 st0){ops:Array Oper}{Q:Exit→Act→World→Prop}{is:List PI}(ht:trIs P il n ops ops.toList=some is)(hlex:lexical ops.toList=true)(Inv:Array Bool→PS→Prop)
  (hstep:∀ (listed:Array Bool) (s:PS) (i:Nat) (o:Oper),listed.size=ops.size→Closed ops.toList listed→Inv listed s→ops.toList[i]?=some o→i<ops.size→listed.getD i true=false→(∀ e∈depsOf o,listed.getD e false=true)→
   ∃ s1,(is.getD i default).exec G T s=some s1∧Inv (listed.setIfInBounds i true) s1)
  (hfin:∀ (listed:Array Bool) (s:PS),unlisted ops.size listed=[]→Inv listed s→∀ a' w',R G base n w0 g0 st0 dl s a' w'→Q .normal a' w') :
  ∀ (fuel:Nat) (listed:Array Bool) (s:PS) (a:Act) (w:World),listed.size=ops.size→(unlisted ops.size listed).length≤fuel→Closed ops.toList listed→Inv listed s→R G base n w0 g0 st0 dl s a w→
  wpAnyIn (Wr r) 0 P .any ops Q fuel listed a w:=
 any_invX hT hY ht hlex Inv (fun listed s i o h1 h2 h3 h4 h5 h6 h7=>.inl (hstep listed s i o h1 h2 h3 h4 h5 h6 h7)) hfin
theorem permSub:∀ (l m:List Nat),l.Nodup→(∀ x∈l,x∈m)→m.length≤l.length→l.Perm m
 |[],m,_,_,h=>by
  have:m=[]:=List.length_eq_zero_iff.1 (by simpa using h)
  rw[this]
 |a::l,m,hn,hs,h=>by
  have ha:a∈m:=hs a (by simp)
  have hp:=List.perm_cons_erase ha
  have hn2:=List.nodup_cons.1 hn
  have ih:=permSub l (m.erase a) hn2.2 (fun x hx=>by
   have hxm:x∈a::m.erase a:=hp.mem_iff.1 (hs x (by simp[hx]))
   rcases List.mem_cons.1 hxm with e | e
   ·exact absurd (e ▸ hx) hn2.1
   ·exact e) (by
   have:=hp.length_eq
   simp at this h
   omega)
  exact(List.Perm.cons a ih).trans hp.symm
def Zof(is:List PI)(Z:List (Nat×Option Foot)):List (PI×Option Foot):=Z.map fun z=>(is.getD z.1 default,z.2)
def restOf(listed:Array Bool)(Z:List (Nat×Option Foot)):List (Nat×Option Foot):=Z.filter fun z=>!listed.getD z.1 true
def ZOK(ms:List Nat)(is:List PI)(m:Nat)(bad:Option (Nat×Nat))(Z:List (Nat×Option Foot)):Prop:=
 (Z.map (·.1)).Nodup∧(∀ k,k<m→∃ f,(k,f)∈Z)∧
  Z.Pairwise fun x y=>(ms.getD y.1 0).testBit x.1=false→bad≠some (x.1,y.1)→Pair (is.getD x.1 default,x.2) (is.getD y.1 default,y.2)
theorem alt_stepM{ops:Array Oper}{is:List PI}{bad:Option (Nat×Nat)}{Z:List (Nat×Option Foot)}{m:Nat}(hZ:ZOK (masks ops.toList []) is m bad Z){listed:Array Bool}{s sf:PS}{i:Nat}{o:Oper}
  (hsz:listed.size=ops.size) (hc:Closed ops.toList listed) (hr:Run G T (Zof is (restOf listed Z)) s sf) (ho:ops.toList[i]?=some o) (hi:i<ops.size) (him:i<m) (hil:listed.getD i true=false) (hd:∀ e∈depsOf o,listed.getD e false=true)
  (hb:∀ j,listed.getD j true=false→bad≠some (j,i)):∃ s1,(is.getD i default).exec G T s=some s1∧Run G T (Zof is (restOf (listed.setIfInBounds i true) Z)) s1 sf:=by
 obtain⟨z1,z2,z3⟩:=hZ
 obtain⟨f,hf⟩:=z2 i him
 have hmem:(i,f)∈restOf listed Z:=by
  simp only[restOf,List.mem_filter]
  exact⟨hf,by simp[hil]⟩
 obtain⟨l,r,hlr⟩:=List.append_of_mem hmem
 have hpw:(restOf listed Z).Pairwise fun x y=>((masks ops.toList []).getD y.1 0).testBit x.1=false→bad≠some (x.1,y.1)→Pair (is.getD x.1 default,x.2) (is.getD y.1 default,y.2):=z3.filter _
 rw[hlr]at hpw
 have hlist:∀ x∈l,listed.getD x.1 true=false:=by
  intro x hx
  have:x∈restOf listed Z:=by rw[hlr]; simp[hx]
  simp only[restOf,List.mem_filter,Bool.not_eq_true']at this
  exact this.2
 have hpair:∀ x∈Zof is l,Pair x (is.getD i default,f):=by
  intro x hx
  simp only[Zof,List.mem_map]at hx
  obtain⟨z,hz,rfl⟩:=hx
  have h1:=(List.pairwise_append.1 hpw).2.2 z hz (i,f) (by simp)
  have h2:=hlist z hz
  refine h1 ?_ (hb _ h2)
  cases hbt:((masks ops.toList []).getD i 0).testBit z.1 with
  |false=>rfl
  |true=>
   have h4:=mask_listed hc i _ ho hd z.1 hbt
   rcases Nat.lt_or_ge z.1 listed.size with h5 | h5
   ·simp[Array.getD,h5]at h4 h2
    rw[h4]at h2; cases h2
   ·simp[Array.getD,Nat.not_lt.2 h5]at h4
 have hZl:Zof is (restOf listed Z)=Zof is l++(is.getD i default,f)::Zof is r:=by rw[hlr]; simp[Zof]
 rw[hZl]at hr
 obtain⟨s1,h1,_,h2⟩:=pullD _ _ s sf hpair hr
 refine⟨s1,h1,?_⟩
 have hnd:((restOf listed Z).map (·.1)).Nodup:=List.Nodup.sublist (List.Sublist.map _ (List.filter_sublist ..)) z1
 rw[hlr,List.map_append,List.map_cons]at hnd
 have hne:∀ z∈l++r,z.1≠i:=by
  intro z hz he
  have h3:=List.nodup_append.1 hnd
  rcases List.mem_append.1 hz with hz | hz
  ·exact h3.2.2 z.1 (List.mem_map_of_mem hz) i (by simp) he
  ·have:=(List.nodup_cons.1 h3.2.1).1
   have hzm:z.1∈r.map (·.1):=List.mem_map_of_mem hz
   rw[he]at hzm
   exact this hzm
 have hrest:restOf (listed.setIfInBounds i true) Z=l++r:=by
  have e1:restOf (listed.setIfInBounds i true) Z=(restOf listed Z).filter fun z=>z.1 != i:=by
   simp only[restOf,List.filter_filter]
   apply List.filter_congr
   intro z _
   by_cases hzi:z.1=i
   ·have:i<listed.size:=by omega
    simp[hzi,Array.getD,this]
   ·rcases Nat.lt_or_ge z.1 listed.size with h5 | h5
    ·simp[Array.getD,h5,hzi,show ¬ i=z.1 from fun e=>hzi e.symm]
    ·simp[Array.getD,Nat.not_lt.2 h5]
  rw[e1,hlr,List.filter_append,List.filter_cons]
  simp only[bne_self_eq_false,Bool.false_eq_true,if_false]
  rw[List.filter_eq_self.2 (fun z hz=>by simpa using hne z (List.mem_append_left _ hz)),List.filter_eq_self.2 (fun z hz=>by simpa using hne z (List.mem_append_right _ hz))]
 rw[hrest]
 simpa[Zof]using h2
theorem alt_step{ops:Array Oper}{is:List PI}{bad:Option (Nat×Nat)}{Z:List (Nat×Option Foot)}(hZ:ZOK (masks ops.toList []) is ops.size bad Z){listed:Array Bool}{s sf:PS}{i:Nat}{o:Oper}
  (hsz:listed.size=ops.size) (hc:Closed ops.toList listed) (hr:Run G T (Zof is (restOf listed Z)) s sf) (ho:ops.toList[i]?=some o) (hi:i<ops.size) (hil:listed.getD i true=false) (hd:∀ e∈depsOf o,listed.getD e false=true)
  (hb:∀ j,listed.getD j true=false→bad≠some (j,i)):∃ s1,(is.getD i default).exec G T s=some s1∧Run G T (Zof is (restOf (listed.setIfInBounds i true) Z)) s1 sf:=
 alt_stepM hZ hsz hc hr ho hi hi hil hd hb
theorem rest_nil{ops:Array Oper}{is:List PI}{Z:List (Nat×Option Foot)}{listed:Array Bool}(hZ:∀ z∈Z,z.1<ops.size)(h0:unlisted ops.size listed=[]):Zof is (restOf listed Z)=[]:=by
 have:restOf listed Z=[]:=by
  simp only[restOf,List.filter_eq_nil_iff,Bool.not_eq_true']
  intro z hz hl
  have h1:z.1∈unlisted ops.size listed:=by
   simp only[unlisted,List.mem_filter,List.mem_range]
   exact⟨hZ z hz,by simpa using hl⟩
  rw[h0]at h1; cases h1
 rw[this]; rfl
theorem any_sim1(hT:TblOK P G T)(hY:YOK P G T.y base w0 g0 st0){ops:Array Oper}{Q:Exit→Act→World→Prop}{is:List PI}(ht:trIs P il n ops ops.toList=some is)(hlex:lexical ops.toList=true){Z:List (Nat×Option Foot)}(hZ:ZOK (masks ops.toList []) is ops.size none Z)(hZ2:∀ z∈Z,z.1<ops.size)
  {sf:PS} (hQ:∀ a' w',R G base n w0 g0 st0 dl sf a' w'→Q .normal a' w') (fuel:Nat) (listed:Array Bool) (s:PS) (a:Act) (w:World) (hsz:listed.size=ops.size) (hl:(unlisted ops.size listed).length≤fuel) (hc:Closed ops.toList listed) (hr:Run G T (Zof is (restOf listed Z)) s sf) (hR:R G base n w0 g0 st0 dl s a w) :
  wpAnyIn (Wr r) 0 P .any ops Q fuel listed a w:=by
 refine any_inv hT hY ht hlex (fun listed s=>Run G T (Zof is (restOf listed Z)) s sf) ?_ ?_ fuel listed s a w hsz hl hc hr hR
 ·intro listed s i o h1 h2 h3 h4 h5 h6 h7
  exact alt_step hZ h1 h2 h3 h4 h5 h6 h7 (fun j _ h=>by cases h)
 ·intro listed s h0 h1
  rw[rest_nil hZ2 h0]at h1
  simp only[Run]at h1
  subst h1
  exact hQ
theorem execsX_inv:∀ (l:List PI) (s:PS) {t:Nat} {d:D} {s':PS},execsX G T l s=some (t,d,s')→∃ i s1,i<l.length∧execs G T (l.take i) s=some s1∧(l.getD i default).execX G T s1=some (t,d,s')
 |[],s,t,d,s',h=>by simp[execsX]at h
 |i::l,s,t,d,s',h=>by
  simp only[execsX]at h
  split at h
  ·rename_i s1 hs1
   obtain⟨k,s2,h1,h2,h3⟩:=execsX_inv l s1 h
   refine⟨k+1,s2,by simp; omega,?_,by simpa using h3⟩
   simp only[List.take_succ_cons,execs,hs1]
   exact h2
  ·exact⟨0,s,by simp,rfl,by simpa using h⟩
theorem execX_may{i:PI}{s:PS}{r:Nat×D×PS}(h:i.execX G T s=some r):mayX i.op=true:=by
 unfold PI.execX at h
 split at h
 case h_2=>cases h
 simp only[Option.map_eq_some_iff]at h
 obtain⟨x,h,_⟩:=h
 unfold POp.execX at h
 split at h
 case h_2=>cases h
 rename_i f ds hc
 unfold POp.callee at hc
 split at hc
 ·rename_i e; rw[e]; rfl
 ·rename_i e; rw[e]; rfl
 ·cases hc
theorem ordX_spec{ms:List Nat}{l:List PI}(h:ordX ms l=true){i:Nat}(hi:i<l.length)(hm:mayX (l.getD i default).op=true):(∀ j,j<i→(ms.getD i 0).testBit j=true)∧∀ j,i<j→j<l.length→(ms.getD j 0).testBit i=true:=by
 simp only[ordX,List.all_eq_true]at h
 have hg:l[i]?=some (l.getD i default):=by simp[List.getD_eq_getElem?_getD,hi]
 have h1:=h (l.getD i default,i) (by rw[List.mk_mem_zipIdx_iff_getElem?]; exact hg)
 simp only[hm,Bool.not_true,Bool.false_or,List.all_eq_true,List.mem_range,Bool.or_eq_true,beq_iff_eq]at h1
 refine⟨fun j hj=>?_,fun j hj hl=>?_⟩
 ·rcases h1 j (by omega)with e | e
  ·omega
  ·rwa [if_pos hj]at e
 ·rcases h1 j hl with e | e
  ·omega
  ·rwa [if_neg (by omega)]at e
theorem any_simXi(hT:TblOK P G T)(hY:YOK P G T.y base w0 g0 st0){ops:Array Oper}{Q:Exit→Act→World→Prop}{is:List PI}(ht:trIs P il n ops ops.toList=some is)(hlex:lexical ops.toList=true){i0:Nat}(hi0:i0<is.length)(o1:∀ j,j<i0→((masks ops.toList []).getD i0 0).testBit j=true)(o2:∀ j,i0<j→j<is.length→((masks ops.toList []).getD j 0).testBit i0=true)
  {F:List (Option Foot)} (hFl:F.length=i0) (hpw:∀ (i j:Nat),j<i→i<i0→((masks ops.toList []).getD i 0).testBit j=false→Pair (is.getD j default,F.getD j none) (is.getD i default,F.getD i none))
  {t:Nat} {d:D} {s s1 s':PS} (hr:Run G T ((is.take i0).zip F) s s1) (hp:(is.getD i0 default).execX G T s1=some (t,d,s')) (hQ:∀ a' w',R G base n w0 g0 st0 dl s' a' w'→Q (.panic (chainOf t d)) a' w') (listed:Array Bool) (a:Act) (w:World) (hsz:listed.size=ops.size) (hu:∀ i,i<ops.size→listed.getD i true=false) (hR:R G base n w0 g0 st0 dl s a w) :
  wpAnyIn (Wr r) 0 P .any ops Q ops.size listed a w:=by
 have hlen:=(trIs_get ht).1
 have hlen':is.length=ops.size:=by simpa using hlen
 let Z:List (Nat×Option Foot):=(List.range i0).zip F
 have hmap:Z.map (·.1)=List.range i0:=by
  show((List.range i0).zip F).map (·.1)=_
  rw[List.map_fst_zip (by simp; omega)]
 have hZlt:∀ z∈Z,z.1<i0:=fun z hz=>by
  have:z.1∈Z.map (·.1):=List.mem_map_of_mem hz
  rw[hmap]at this
  exact List.mem_range.1 this
 have hZ:ZOK (masks ops.toList []) is i0 none Z:=by
  refine⟨by rw[hmap]; exact List.nodup_range,fun k hk=>?_,?_⟩
  ·have:k∈Z.map (·.1):=by rw[hmap]; exact List.mem_range.2 hk
   obtain⟨z,hz,rfl⟩:=List.mem_map.1 this
   exact⟨z.2,hz⟩
  ·show List.Pairwise _ ((List.range i0).zip F)
   rw[List.pairwise_iff_getElem]
   intro q p hq hp' hqp hm _
   have hq1:q<i0:=by simp at hq; omega
   have hp1:p<i0:=by simp at hp'; omega
   simp only[List.getElem_zip,List.getElem_range]at hm ⊢
   have:=hpw p q hqp hp1 hm
   have e1:F.getD q none=F[q]:=by simp[List.getD_eq_getElem?_getD,show q<F.length by omega]
   have e2:F.getD p none=F[p]:=by simp[List.getD_eq_getElem?_getD,show p<F.length by omega]
   rw[e1,e2]at this
   exact this
 have hrest:Zof is (restOf listed Z)=(is.take i0).zip F:=by
  have e:restOf listed Z=Z:=by
   simp only[restOf,List.filter_eq_self]
   intro z hz
   rw[hu z.1 (by have:=hZlt z hz; omega)]
   rfl
  rw[e]
  show Zof is ((List.range i0).zip F)=_
  unfold Zof
  apply List.ext_getElem?
  intro i
  rcases Nat.lt_or_ge i i0 with h3 | h3
  ·rw[List.getElem?_eq_getElem (by simp; omega),List.getElem?_eq_getElem (by simp; omega)]
   simp only[List.getElem_map,List.getElem_zip,List.getElem_range,List.getElem_take]
   congr 2
   simp[List.getD_eq_getElem?_getD,show i<is.length by omega]
  ·rw[List.getElem?_eq_none (by simp; omega),List.getElem?_eq_none (by simp; omega)]
 refine any_invX hT hY ht hlex (fun listed s=>(∀ j,i0≤j→j<ops.size→listed.getD j true=false)∧Run G T (Zof is (restOf listed Z)) s s1) ?_ ?_ ops.size listed s a w hsz ?_ ?_ ⟨fun j _ hj=>hu j hj,by rw[hrest]; exact hr⟩ hR
 ·rintro listed s i o h1 h2 ⟨h3,h3'⟩ h4 h5 h6 h7
  rcases Nat.lt_trichotomy i i0 with hi | hi | hi
  ·left
   obtain⟨s2,g1,g2⟩:=alt_stepM hZ h1 h2 h3' h4 h5 hi h6 h7 (fun j _ h=>by cases h)
   refine⟨s2,g1,fun j hj hjl=>?_,g2⟩
   have:=h3 j hj hjl
   have hji:¬ i=j:=by omega
   rw[← this]
   rcases Nat.lt_or_ge j listed.size with h5 | h5
   ·simp[Array.getD,h5,hji]
   ·simp[Array.getD,Nat.not_lt.2 h5]
  ·right
   subst hi
   have hall:∀ j,j<i→listed.getD j false=true:=fun j hj=>mask_listed h2 i o h4 h7 j (o1 j hj)
   have hnil:restOf listed Z=[]:=by
    simp only[restOf,List.filter_eq_nil_iff,Bool.not_eq_true']
    intro z hz hl
    have h8:=hall z.1 (hZlt z hz)
    have h9:z.1<listed.size:=by have:=hZlt z hz; omega
    simp[Array.getD,h9]at h8 hl
    rw[h8]at hl; cases hl
   rw[hnil]at h3'
   simp only[Zof,List.map_nil,Run]at h3'
   subst h3'
   exact⟨t,d,s',hp,hQ⟩
  ·exfalso
   have h8:=mask_listed h2 i o h4 h7 i0 (o2 i hi (by omega))
   have h9:=h3 i0 (Nat.le_refl _) (by omega)
   have h10:i0<listed.size:=by omega
   simp[Array.getD,h10]at h8 h9
   rw[h8]at h9; cases h9
 ·rintro listed s h0 ⟨h1,_⟩
  exfalso
  have h2:=h1 i0 (Nat.le_refl _) (by omega)
  have:i0∈unlisted ops.size listed:=by
   simp only[unlisted,List.mem_filter,List.mem_range]
   exact⟨by omega,by simpa using h2⟩
  rw[h0]at this; cases this
 ·unfold unlisted
  exact Nat.le_trans (List.length_filter_le ..) (by simp)
 ·intro i o ho hi
  have h1:=(List.getElem?_eq_some_iff.1 ho).1
  have h2:=hu i (by simpa using h1)
  have h3:i<listed.size:=by rw[hsz]; simpa using h1
  simp[Array.getD,h3]at hi h2
  rw[hi]at h2; cases h2
theorem any_simX(hT:TblOK P G T)(hY:YOK P G T.y base w0 g0 st0){ops:Array Oper}{Q:Exit→Act→World→Prop}{is:List PI}(ht:trIs P il n ops ops.toList=some is)(hlex:lexical ops.toList=true)(hap:allApart (masks ops.toList []) is=true)(hox:ordX (masks ops.toList []) is=true)
  {t:Nat} {d:D} {s s':PS} (hx:execsX G T is s=some (t,d,s')) (hQ:∀ a' w',R G base n w0 g0 st0 dl s' a' w'→Q (.panic (chainOf t d)) a' w') (listed:Array Bool) (a:Act) (w:World) (hsz:listed.size=ops.size) (hu:∀ i,i<ops.size→listed.getD i true=false) (hR:R G base n w0 g0 st0 dl s a w) :
  wpAnyIn (Wr r) 0 P .any ops Q ops.size listed a w:=by
 obtain⟨i0,s1,hi0,he,hp⟩:=execsX_inv _ _ hx
 have hlen':is.length=ops.size:=by simpa using (trIs_get ht).1
 obtain⟨o1,o2⟩:=ordX_spec hox hi0 (execX_may hp)
 obtain⟨F,hF,hr⟩:=run_of_execs _ _ _ he
 have hFl:F.length=i0:=by rw[hF,List.length_take]; omega
 refine any_simXi hT hY ht hlex hi0 o1 o2 hFl (fun i j hji hi hm=>?_) hr hp hQ listed a w hsz hu hR
 have h1:is[j]?=some (is.getD j default):=by simp[List.getD_eq_getElem?_getD,show j<is.length by omega]
 have h2:is[i]?=some (is.getD i default):=by simp[List.getD_eq_getElem?_getD,show i<is.length by omega]
 have h3:=allApart_spec hap h1 h2 hji hm
 exact⟨regs_of_apart h3,.inl h3⟩
theorem ordXi_spec{ms:List Nat}{l:List PI}{i:Nat}(h:ordXi ms l i=true):i<l.length∧(∀ j,j<i→(ms.getD i 0).testBit j=true)∧∀ j,i<j→j<l.length→(ms.getD j 0).testBit i=true:=by
 simp only[ordXi,Bool.and_eq_true,decide_eq_true_eq,List.all_eq_true,List.mem_range,Bool.or_eq_true,beq_iff_eq]at h
 obtain⟨hi,h1⟩:=h
 refine⟨hi,fun j hj=>?_,fun j hj hl=>?_⟩
 ·rcases h1 j (by omega)with e | e
  ·omega
  ·rwa [if_pos hj]at e
 ·rcases h1 j hl with e | e
  ·omega
  ·rwa [if_neg (by omega)]at e
theorem any_sim2(hT:TblOK P G T)(hY:YOK P G T.y base w0 g0 st0){ops:Array Oper}{Q:Exit→Act→World→Prop}{is:List PI}(ht:trIs P il n ops ops.toList=some is)(hlex:lexical ops.toList=true){x y:Nat}(hxy:x≠y)(hx:x<ops.size){Z1 Z2:List (Nat×Option Foot)}(hZ1:ZOK (masks ops.toList []) is ops.size (some (x,y)) Z1)(hZ2:ZOK (masks ops.toList []) is ops.size (some (y,x)) Z2)
  (hZ1':∀ z∈Z1,z.1<ops.size) (hZ2':∀ z∈Z2,z.1<ops.size)
  {sf1 sf2:PS} (hQ1:∀ a' w',R G base n w0 g0 st0 dl sf1 a' w'→Q .normal a' w') (hQ2:∀ a' w',R G base n w0 g0 st0 dl sf2 a' w'→Q .normal a' w') (fuel:Nat) (listed:Array Bool) (s:PS) (a:Act) (w:World) (hsz:listed.size=ops.size) (hl:(unlisted ops.size listed).length≤fuel) (hc:Closed ops.toList listed)
  (hux:listed.getD x true=false) (huy:listed.getD y true=false) (hr1:Run G T (Zof is (restOf listed Z1)) s sf1) (hr2:Run G T (Zof is (restOf listed Z2)) s sf2) (hR:R G base n w0 g0 st0 dl s a w) :
  wpAnyIn (Wr r) 0 P .any ops Q fuel listed a w:=by
 refine any_inv hT hY ht hlex (fun listed s=>(listed.getD x true=false∧listed.getD y true=false∧Run G T (Zof is (restOf listed Z1)) s sf1∧Run G T (Zof is (restOf listed Z2)) s sf2)∨
  ((listed.getD x true=true∨listed.getD y true=true)∧Run G T (Zof is (restOf listed Z1)) s sf1)∨((listed.getD x true=true∨listed.getD y true=true)∧Run G T (Zof is (restOf listed Z2)) s sf2)) ?_ ?_ fuel listed s a w hsz hl hc (.inl ⟨hux,huy,hr1,hr2⟩) hR
 ·intro listed s i o h1 h2 h3 h4 h5 h6 h7
  have hset:∀ q,q≠i→(listed.setIfInBounds i true).getD q true=listed.getD q true:=by
   intro q hq
   rcases Nat.lt_or_ge q listed.size with h | h
   ·simp[Array.getD,h,show ¬ i=q from fun e=>hq e.symm]
   ·simp[Array.getD,Nat.not_lt.2 h]
  have hself:(listed.setIfInBounds i true).getD i true=true:=by
   have:i<listed.size:=by omega
   simp[Array.getD,this]
  have hkeep:∀ q,listed.getD q true=true→(listed.setIfInBounds i true).getD q true=true:=by
   intro q hq
   by_cases e:q=i
   ·rw[e]; exact hself
   ·rw[hset q e]; exact hq
  rcases h3 with⟨a1,a2,a3,a4⟩ | ⟨a1,a2⟩ | ⟨a1,a2⟩
  ·by_cases ey:i=y
   ·obtain⟨s1,k1,k2⟩:=alt_step hZ2 h1 h2 a4 h4 h5 h6 h7 (fun j _ h=>by
     simp only[Option.some.injEq,Prod.mk.injEq]at h
     exact hxy (h.2.trans ey))
    exact⟨s1,k1,.inr (.inr ⟨.inr (ey ▸ hself),k2⟩)⟩
   ·by_cases ex:i=x
    ·obtain⟨s1,k1,k2⟩:=alt_step hZ1 h1 h2 a3 h4 h5 h6 h7 (fun j _ h=>by
      simp only[Option.some.injEq,Prod.mk.injEq]at h
      exact ey h.2.symm)
     exact⟨s1,k1,.inr (.inl ⟨.inl (ex ▸ hself),k2⟩)⟩
    ·obtain⟨s1,k1,k2⟩:=alt_step hZ1 h1 h2 a3 h4 h5 h6 h7 (fun j _ h=>by
      simp only[Option.some.injEq,Prod.mk.injEq]at h
      exact ey h.2.symm)
     obtain⟨s1',k3,k4⟩:=alt_step hZ2 h1 h2 a4 h4 h5 h6 h7 (fun j _ h=>by
      simp only[Option.some.injEq,Prod.mk.injEq]at h
      exact ex h.2.symm)
     obtain rfl:s1'=s1:=Option.some.inj (k3.symm.trans k1)
     exact⟨s1',k1,.inl ⟨by rw[hset x (fun e=>ex e.symm)]; exact a1,by rw[hset y (fun e=>ey e.symm)]; exact a2,k2,k4⟩⟩
  ·obtain⟨s1,k1,k2⟩:=alt_step hZ1 h1 h2 a2 h4 h5 h6 h7 (fun j hj h=>by
    simp only[Option.some.injEq,Prod.mk.injEq]at h
    rcases a1 with a1 | a1
    ·rw[h.1,hj]at a1; cases a1
    ·rw[h.2,h6]at a1; cases a1)
   exact⟨s1,k1,.inr (.inl ⟨a1.imp (hkeep _) (hkeep _),k2⟩)⟩
  ·obtain⟨s1,k1,k2⟩:=alt_step hZ2 h1 h2 a2 h4 h5 h6 h7 (fun j hj h=>by
    simp only[Option.some.injEq,Prod.mk.injEq]at h
    rcases a1 with a1 | a1
    ·rw[h.2,h6]at a1; cases a1
    ·rw[h.1,hj]at a1; cases a1)
   exact⟨s1,k1,.inr (.inr ⟨a1.imp (hkeep _) (hkeep _),k2⟩)⟩
 ·intro listed s h0 h1
  have hxl:listed.getD x true=true:=by
   cases h:listed.getD x true with
   |true=>rfl
   |false=>
    have h1:x∈unlisted ops.size listed:=by
     simp only[unlisted,List.mem_filter,List.mem_range]
     exact⟨hx,by simp[h]⟩
    rw[h0]at h1; cases h1
  rcases h1 with⟨a1,_⟩ | ⟨_,a2⟩ | ⟨_,a2⟩
  ·rw[hxl]at a1; cases a1
  ·rw[rest_nil hZ1' h0]at a2
   simp only[Run]at a2
   subst a2; exact hQ1
  ·rw[rest_nil hZ2' h0]at a2
   simp only[Run]at a2
   subst a2; exact hQ2
structure GoX (l:Nat) (base:Nat) (w:World) (g:Ghost) (st:St) (w':World) (g':Ghost) (st':St):Prop where
 sr:SR base w' g' st'
 evo:Evo g st g' st'
 im:ImLe w g w' g'
 new:∀ b o,g'.Im b o→g.Im b o∨base≤b
 below:Below base w w'
 kp:∀ (b:Nat) (o:Go.Obj),b≠l→w.heap[b]?=some o→special o=true→Kept w' b o
theorem Go1.x{w w':World}{g g':Ghost}{st st':St}(h:Go1 base w g st w' g' st')(l:Nat):GoX l base w g st w' g' st':=⟨h.sr,h.evo,h.im,h.new,h.below,fun b o _=>h.kp b o⟩
theorem GoX.trans{l:Nat}{w w1 w2:World}{g g1 g2:Ghost}{st st1 st2:St}(h:GoX l base w g st w1 g1 st1)(h':GoX l base w1 g1 st1 w2 g2 st2):GoX l base w g st w2 g2 st2:=
 ⟨h'.sr,h.evo.trans h'.evo,h.im.trans h'.im,fun b o hb=>by
  rcases h'.new b o hb with x | x
  ·exact h.new b o x
  ·exact .inr x,h.below.trans h'.below,fun b o hl hb hs=>(let⟨_,h1,h2⟩:=h.kp b o hl hb hs; let⟨o2,h3,h4⟩:=h'.kp b _ hl h1 (h2.special hs); ⟨o2,h3,h2.trans h4⟩)⟩
theorem GoX.fin{l:Nat}{w w':World}{g g':Ghost}{st st':St}(h:GoX l base w g st w' g' st')(hl:∀ (o:Go.Obj),w.heap[l]?=some o→special o=true→Kept w' l o):Go1 base w g st w' g' st':=
 ⟨h.sr,h.evo,h.im,h.new,h.below,fun b o hb hs=>by
  by_cases e:b=l
  ·subst e; exact hl o hb hs
  ·exact h.kp b o e hb hs⟩
theorem GoX.put{l:Nat}{w:World}{g:Ghost}{st:St}{o o':Go.Obj}(hS:SR base w g st)(ho:w.heap[l]?=some o)(hs:special o=true)(hnl:∃ ds,o=.deferred ds)(hl:base≤l):GoX l base w g st (w.putObj l o') g st:=by
 have hcell:∀ b x,g.Im b x→(w.putObj l o').cell? ⟨b,x,none⟩=w.cell? ⟨b,x,none⟩:=by
  intro b x hb
  have hne:b≠l:=by
   rintro rfl
   have:=hS.im b x hb
   unfold World.cell? at this
   rw[ho]at this
   cases o <;> simp[special]at hs this
  simp only[World.cell?,World.putObj_heap_other hne]
 have hI:ImLe w g (w.putObj l o') g:=⟨fun b x hb=>⟨hb,hcell b x hb⟩,fun b x hb hx=>by
  have hne:b≠l:=by
   rintro rfl
   rw[ho]at hb
   obtain rfl:=Option.some.inj hb
   cases o <;> first | (simp[spM]at hx; done) | (simp[special]at hs; done)
  rw[World.putObj_heap_other hne]; exact hb⟩
 refine⟨⟨?_,?_,hS.inj,?_,hS.dis,by rw[World.putObj_size]; exact hS.size⟩,Evo.refl _ _,hI,fun _ _ h=>.inl h,⟨rfl,rfl,rfl,by rw[World.putObj_size]; exact Nat.le_refl _,fun k hk=>World.putObj_heap_other (by omega)⟩,fun b o1 hb h1 _=>.same (by rw[World.putObj_heap_other hb]; exact h1)⟩
 ·intro k ob hk hm
  have hm:=hS.mp k ob hk hm
  refine hm.mono hI (Evo.refl _ _) rfl (World.putObj_heap_other ?_)
  rintro rfl
  obtain⟨x,hb,_,_,_,h5,_⟩:=hm.at
  obtain⟨ds,rfl⟩:=hnl
  exact h5 ds (Option.some.inj (hb.symm.trans ho))
 ·intro k ob hk hm
  obtain⟨C,e,hb,hbase,hszp,hx,hC,hrep⟩:=hS.blk k ob hk hm
  have hne:g.β k≠l:=by
   rintro rfl
   rw[ho]at hb
   obtain rfl:=Option.some.inj hb
   simp[special]at hs
  refine⟨C,e,by rw[World.putObj_heap_other hne]; exact hb,hbase,hszp,hx,hC,fun i j d hd=>?_⟩
  obtain⟨h1,v,h2,h3⟩:=hrep i j d hd
  exact⟨h1,v,h2,h3.mono hI (Evo.refl _ _)⟩
 ·intro b x hb
  rw[hcell b x hb]; exact hS.im b x hb
theorem YOK.mono{y:Nat→List D→St→Option (D×St)}{w1:World}{g1:Ghost}{st1:St}(h:YOK P G y base w0 g0 st0)(hg:Go1 base w0 g0 st0 w1 g1 st1):YOK P G y base w1 g1 st1:=
 fun l w g st st' ds vs d hgo=>h l w g st st' ds vs d (hg.trans hgo)
theorem setP_fr{x:List Deferred}{w:World}{g:Ghost}{st:St}:∀ (ps:List Nat) (ds:List D) (vs:List Value) (fr:Frame) (tmps:Array Value),ds.length=ps.length→ds.length=vs.length→(∀ p∈ps,p<tmps.size)→FR w g st fr {tmps:=tmps,defers:=x}→
  (∀ (i:Nat) d v,ds[i]?=some d→vs[i]?=some v→RepV w g st d v)→
  FR w g st (setP fr ps ds) {tmps:=(ps.zip vs).foldl (fun tmps p=>tmps.setIfInBounds p.1 p.2) tmps,defers:=x}
 |[],ds,vs,fr,tmps,h1,h2,_,hF,_=>by
  simp only[List.zip_nil_left,List.foldl_nil]
  cases ds with
  |nil=>exact hF
  |cons d ds=>simp at h1
 |p::ps,ds,vs,fr,tmps,h1,h2,hp,hF,hr=>by
  cases ds with
  |nil=>simp at h1
  |cons d ds=>
   cases vs with
   |nil=>simp at h2
   |cons v vs=>
    simp only[List.zip_cons_cons,List.foldl_cons,setP]
    refine setP_fr ps ds vs _ _ (by simpa using h1) (by simpa using h2) (fun q hq=>?_) ?_ (fun i d v hd hv=>hr (i+1) d v (by simpa using hd) (by simpa using hv))
    ·simp only[Array.size_setIfInBounds]; exact hp q (by simp[hq])
    ·exact FR.put (dst:=some p) (a:={tmps:=tmps,defers:=x}) hF (fun t ht=>by cases ht; exact hp p (by simp)) (hr 0 d v rfl rfl)
theorem foldl_set_size:∀ (l:List (Nat×Value)) (tmps:Array Value),(l.foldl (fun tmps p=>tmps.setIfInBounds p.1 p.2) tmps).size=tmps.size
 |[],_=>rfl
 |p::l,tmps=>by rw[List.foldl_cons,foldl_set_size l]; simp
theorem R.drew{s:PS}{a:Act}{w:World}(h:R G base n w0 g0 st0 dl s a w):R G base n w0 g0 st0 dl s a {w with drawn:=w.drawn+1}:=by
 obtain⟨g,h⟩:=h
 have hg:=h.sr.drew (w.drawn+1)
 exact⟨g,h.go hg (h.fr.mono hg.im hg.evo) rfl h.sz⟩
end
end Go.Proofs.YtfbbaceiimdejaaGreatDoor.PI
