/-
  Code and functions: a function whose translation comes to a value meets its contract.
  Conditions: none; these are lemmas.
-/
import Derived.Test.YtijnglngaogdjaaGreatDoorEngP
import Derived.OrdersIn
import Derived.TacticsIn
import Derived.Sort.LoopGhostIn
import Derived.RangeFuncLeaves
import Derived.RangeFuncRecord
open Bool renaming false→f_,true→t_
open Option renaming some→s_
open Array renaming replicate→C9
open List renaming range→C3
set_option maxHeartbeats 8000000
set_option maxRecDepth 20000
set_option linter.unusedSimpArgs false
set_option linter.unusedVariables false
namespace Go.Proofs.YtijnglngaogdjaaGreatDoor.PI
open Go Go.RowKit
def Like(st st2:St)(k:Nat):Prop:=(st[k]?=none∧st2[k]?=none)∨∃ o o2,st[k]?=s_ o∧st2[k]?=s_ o2∧o2.row=o.row∧o2.sz=o.sz∧o2.els=o.els
variable {k:Nat}{st st2:St}
theorem Like.symm(h:Like st st2 k):Like st2 st k:=by
 rcases h with⟨a,b⟩|⟨o,o2,a,b,c,d,e⟩
 ·exact .inl ⟨b,a⟩
 ·exact .inr ⟨o2,o,b,a,c.symm,d.symm,e.symm⟩
theorem Like.of_eq(h:st2[k]?=st[k]?):Like st st2 k:=by
 cases hk:st[k]? with
 |none=>exact .inl ⟨hk,by rw[h,hk]⟩
 |some o=>exact .inr ⟨o,o,hk,by rw[h,hk],rfl,rfl,rfl⟩
variable {key:Nat}
theorem oD(h:Like st st2 key)(tot off len:Nat):HO st2 key tot off len=HO st key tot off len:=by
 unfold HO;rcases h with⟨a,b⟩|⟨o,o2,a,b,c,d,e⟩
 ·rw[a,b]
 ·grind
theorem xH(h:Like st st2 key)(off n sz:Nat)(ag:Bool):KG st2 key off n sz ag=KG st key off n sz ag:=by
 unfold KG;rcases h with⟨a,b⟩|⟨o,o2,a,b,c,d,e⟩
 ·rw[a,b]
 ·grind
theorem nw(h:Like st st2 key)(tot:Nat):Fo st2 key tot=Fo st key tot:=by
 unfold Fo;rcases h with⟨a,b⟩|⟨o,o2,a,b,c,d,e⟩
 ·rw[a,b]
 ·grind
variable {d:D}
theorem uR(h:∀ k∈DR d,Like st st2 k):D2 st2 d=D2 st d:=by
 cases d with
 |row key tot off len=>simp only[D2,oD (h key (by simp[DR,GZ]))]
 |bsl key off n sz ag=>simp only[D2,It,xH (h key (by simp[DR,GZ]))]
 |_=>simp only[D2]
theorem uV{st st2:St}:∀ {l:List D},(∀ k∈l.flatMap DR,Like st st2 k)→Es st2 l=Es st l
 |[],_=>rfl
 |d::l,h=>by
  simp only[Es];rw[uR (fun k hk=>h k (by simp[hk])),uV (fun k hk=>h k (by rw[Au,AM]; exact .inr hk))]
theorem Ycj(h:∀ k∈hk d,Like st st2 k):Ej st2 d=Ej st d:=by
 cases d with
 |agg l=>simp only[Ej]; rw[uV h]
 |tup l=>rfl
 |_=>simp only[Ej]; exact uR h
theorem fp{st st2:St}:∀ {l:List D},(∀ k∈l.flatMap hk,Like st st2 k)→EG st2 l=EG st l
 |[],_=>rfl
 |d::l,h=>by
  simp only[EG];rw[Ycj (fun k hk=>h k (by rw[Au,AM]; exact .inl hk)),fp (fun k hk=>h k (by rw[Au,AM]; exact .inr hk))]
theorem Ygv(h:∀ k∈hk d,Like st st2 k):Hx st2 d=Hx st d:=by
 cases d with
 |row key tot off len=>simp only[Hx,oD (h key (by simp[hk,DR,GZ]))]
 |bsl key off n sz ag=>simp only[Hx,xH (h key (by simp[hk,DR,GZ]))]
 |_=>rfl
theorem Yjj(h:∀ k∈hk d,Like st st2 k):E7 st2 d=E7 st d:=by
 cases d with
 |row key tot off len=>simp only[E7,nw (h key (by simp[hk,DR,GZ]))]
 |_=>rfl
theorem Yfi{c:PConv}(h:∀ k∈hk d,Like st st2 k):FZ st2 c d=FZ st c d:=by
 cases d with
 |row key tot off len=>cases c <;> simp only[FZ,oD (h key (by simp[hk,DR,GZ]))]
 |_=>cases c <;> simp only[FZ]
variable {sz:Nat}
theorem yX8{x:D}{lo hi E:Option D}(h:∀ k∈hk x,Like st st2 k):G5 st2 sz x lo hi E=G5 st sz x lo hi E:=by
 cases x with
 |row key tot off len=>
  simp only[G5];rcases h key (by simp[hk,DR,GZ])with⟨a,b⟩|⟨o,o2,a,b,c,d,e⟩
  ·rw[a,b]
  ·grind
 |_=>simp only[G5]
theorem Yfa{x i:D}(h:∀ k∈hk x,Like st st2 k):GK st2 sz x i=GK st sz x i:=by
 unfold GK
 cases Gk i with
 |none=>rfl
 |some j=>
  cases x with
  |row key tot off len=>
   simp only;rcases h key (by simp[hk,DR,GZ])with⟨a,b⟩|⟨o,o2,a,b,c,d,e⟩
   ·rw[a,b]
   ·grind
  |_=>rfl
theorem vA{off:Nat}{x:D}(h:∀ k∈ME x,Like st st2 k):FE st2 off x=FE st off x:=by
 cases x with
 |rptr key tot i o=>simp only[FE,nw (h key (by simp[ME]))]
 |_=>rfl
variable {n:Nat}
theorem Yfc{x i:D}(h:∀ k∈ME x,Like st st2 k):Jg st2 n sz x i=Jg st n sz x i:=by simp only[Jg,vA h]
theorem Ye5{ag:Bool}{p:D}(h:∀ k∈hk p,Like st st2 k):FL st2 n ag p=FL st n ag p:=by
 cases p with
 |ptr key off=>
  simp only[FL];rcases h key (by simp[hk,DR,GZ])with⟨a,b⟩|⟨o,o2,a,b,c,d,e⟩
  ·rw[a,b]
  ·grind
 |rptr key tot i off=>
  simp only[FL];rcases h key (by simp[hk,DR,GZ])with⟨a,b⟩|⟨o,o2,a,b,c,d,e⟩
  ·rw[a,b]
  ·grind
 |_=>simp only[FL]
theorem yS9{ks:List Nat}{ok:Bool}{E m k:D}(h:∀ k∈hk m,Like st st2 k):JU st2 sz ks ok E m k=JU st sz ks ok E m k:=by
 cases m with
 |mapv key=>
  simp only[JU];rcases h key (by simp[hk,DR,GZ])with⟨a,b⟩|⟨o,o2,a,b,c,d,e⟩
  ·rw[a,b]
  ·simp only[a,b,Obj.isMap,c,d,e];rfl
 |_=>simp only[JU]
theorem Yk8{p:D}(h:∀ k∈ME p,Like st st2 k):∀ key tot i off,p=.rptr key tot i off→Fo st2 key tot=Fo st key tot:=by rintro key tot i off rfl;exact nw (h key (by simp[ME])) tot
theorem Yu5(h:k∈FQ d):k∈DR d:=by cases d <;> simp_all [FQ,DR,GZ]
theorem YC4(h:k∈keys d):k∈hk d:=by
 cases d with
 |agg l=>
  simp only[keys,hk,Bp]at h ⊢;obtain⟨x,E,M⟩:=h;exact⟨x,E,Yu5 M⟩
 |row a b c e=>exact h
 |bsl key off n sz ag=>simp only[keys,FQ,AP]at h; subst h; simp[hk,DR,GZ]
 |_=>simp[keys,FQ]at h
theorem Ycg{l:List D}(h:k∈l.flatMap keys):k∈l.flatMap hk:=by simp only[Bp]at h ⊢;obtain⟨x,E,M⟩:=h;exact⟨x,E,YC4 M⟩
inductive Eff where
 |lend (ks:List Nat)
 |set (k:Nat) (o:Obj)
 |push (os:List Obj)
theorem YF7{E:Nat}{xs:List D}(h:Hx st d=s_ (E,xs))(M:xs≠[])(n:Nat):GI d n=s_ n:=by
 unfold GI
 split
 ·simp only[Hx,Dp,DO]at h;grind
 ·rfl
theorem Yrf{m:Nat}(h:GI d m=s_ n):n=m:=by unfold GI at h;grind
theorem ue(h:GI d n=none)(m:Nat):GI d m=none:=by unfold GI at h ⊢;grind
def Eff.app:Eff→St→St
 |.lend ks,st=>PI.lend ks st
 |.set k o,st=>st.set k o
 |.push os,st=>st++os
def Eff.inn(f:Foot):Eff→Prop
 |.lend ks=>∀ k∈ks,k∈f.rd
 |.set k _=>k∈f.wr
 |.push _=>f.nu.isSome=t_
theorem vK{st st2:St}:∀ {l:List Nat},(∀ k∈l,Like st st2 k)→HF st2 l=HF st l
 |[],_=>rfl
 |a::l,h=>by
  have e:(st2[a]?).map Obj.see=(st[a]?).map Obj.see:=by
   rcases h a (by simp)with⟨x,y⟩|⟨o,o2,x,y,c,d,e⟩
   ·rw[x,y]
   ·simp only[x,y,Ae,Obj.see,c,d,e]
  have E:=vK (st:=st) (st2:=st2) (l:=l) fun k hk=>h k (by simp[hk]);simp only[HF,e,E]
theorem yX6{sp:List D→List (Option (Bool×Nat×List D))→Option D}{ds:List D}(h:∀ k∈ds.flatMap hk,Like st st2 k):Jk sp ds st2=Jk sp ds st:=by
 have e:(ds.flatMap hk).all (fun k=>(st2[k]?).isSome)=(ds.flatMap hk).all (fun k=>(st[k]?).isSome):=by
  rw[B8,Ah,Ah];refine forall_congr' fun k=>imp_congr_right fun hk=>?_;rcases h k hk with⟨x,y⟩|⟨o,o2,x,y,_⟩
  ·rw[x,y]
  ·grind
 unfold Jk;rw[e,vK h]
variable {f:Foot}{ρ:PA→D}{T:Tbl}
theorem uI(p:POp){st':St}(E:p.foot ρ st=s_ f)(h:p.exec T ρ st=s_ (d,st')) :
  ∃ e:Eff,e.inn f∧st'=e.app st∧∀ st2:St,(∀ k∈f.rd,Like st st2 k)→(∀ k∈f.wr,st2[k]?=st[k]?)→(f.nu.isSome=t_→st2.length=st.length)→p.exec T ρ st2=s_ (d,e.app st2):=by
 by_cases hc:p.cls=0
 ·obtain⟨h1,h2⟩:=m7 p hc h;exact⟨.lend [],(fun k hk=>by cases hk),h1,fun st2 _ _ _=>h2 st2⟩
 have rd:∀ {α:Type} (F:St→Option α) (g:α→D),((F st).map fun x=>(g x,st))=s_ (d,st')→(∀ st2,(∀ k∈f.rd,Like st st2 k)→F st2=F st)→(∀ st2,p.exec T ρ st2=(F st2).map fun x=>(g x,st2))→
   ∃ e:Eff,e.inn f∧st'=e.app st∧∀ st2:St,(∀ k∈f.rd,Like st st2 k)→(∀ k∈f.wr,st2[k]?=st[k]?)→(f.nu.isSome=t_→st2.length=st.length)→p.exec T ρ st2=s_ (d,e.app st2):=by
  intro α F g h1 h2 h3;simp only[D0,DO]at h1;obtain⟨x,hx,h4,h5⟩:=h1;refine⟨.lend [],(fun k hk=>by cases hk),h5.symm,fun st2 hl _ _=>?_⟩;rw[h3,h2 st2 hl,hx,← h4]; rfl
 cases p with
 |load n ag x=>
  simp only[POp.foot,POp.args,Dp]at E; subst E;exact rd (fun st=>FL st n ag (ρ x)) id h (fun st2 hl=>Ye5 fun k hk=>hl k (by simpa using hk)) (fun _=>rfl)
 |fld off x=>
  simp only[POp.foot,Dp]at E; subst E;exact rd (fun st=>FE st off (ρ x)) id h (fun st2 hl=>vA hl) (fun _=>rfl)
 |conv c x=>
  simp only[POp.foot,POp.args,Dp]at E; subst E;exact rd (fun st=>FZ st c (ρ x)) id h (fun st2 hl=>Yfi fun k hk=>hl k (by simpa using hk)) (fun _=>rfl)
 |slice sz x lo hi mx=>
  simp only[POp.foot,POp.args,Dp]at E; subst E;exact rd (fun st=>G5 st sz (ρ x) (lo.map ρ) (hi.map ρ) (mx.map ρ)) id h (fun st2 hl=>yX8 fun k hk=>hl k (by rw[Aw,Au,AM]; exact .inl hk)) (fun _=>rfl)
 |idxS sz x i=>
  simp only[POp.foot,POp.args,Dp]at E; subst E;exact rd (fun st=>GK st sz (ρ x) (ρ i)) id h (fun st2 hl=>Yfa fun k hk=>hl k (by rw[Aw,Au,AM]; exact .inl hk)) (fun _=>rfl)
 |idxA n sz x i=>
  simp only[POp.foot,Dp]at E; subst E;exact rd (fun st=>Jg st n sz (ρ x) (ρ i)) id h (fun st2 hl=>Yfc hl) (fun _=>rfl)
 |len str x=>
  simp only[POp.foot,POp.args,Dp]at E; subst E;simp only[POp.exec]at h
  split at h
  ·rename_i hs;exact rd (fun st=>E7 st (ρ x)) (fun n:Nat=>D.int .i64 (n:Int)) h (fun st2 hl=>Yjj fun k hk=>hl k (by simpa using hk)) (fun st2=>by simp only[POp.exec]; rw[if_pos hs])
  ·cases h
 |nilc x=>
  simp only[POp.foot,Dp]at E; subst E;have hn:=fun st2 (hl:∀ k∈ME (ρ x),Like st st2 k)=>Yk8 (p:=ρ x) hl;simp only[POp.exec]at h ⊢
  cases hx:ρ x with
  |ptr key off=>
   simp only[hx,Dp,DO]at h;refine⟨.lend [],(fun k hk=>by cases hk),h.2.symm,fun st2 hl _ _=>by rw[← h.1]; rfl⟩
  |eptr el off=>
   simp only[hx,Dp,DO]at h;refine⟨.lend [],(fun k hk=>by cases hk),h.2.symm,fun st2 hl _ _=>by rw[← h.1]; rfl⟩
  |rptr key tot i off=>
   simp only[hx]at h ⊢
   split at h
   ·rename_i a4;simp only[Dp,DO]at h;refine⟨.lend [],(fun k hk=>by cases hk),h.2.symm,fun st2 hl _ _=>?_⟩;rw[hn st2 (by rw[hx]; exact hl) key tot i off hx,if_pos a4,← h.1]; rfl
   ·cases h
  |_=>simp[hx]at h
 |bslc sz parts=>
  simp only[POp.foot,POp.args,Dp]at E; subst E;simp only[POp.exec]at h ⊢
  split at h
  ·rename_i els he
   split at h
   ·rename_i M;simp only[Dp,DO]at h;refine⟨.lend ((parts.map ρ).flatMap keys),fun k hk=>Ycg hk,h.2.symm,fun st2 hl _ _=>?_⟩;rw[fp hl,he];simp only[M,if_true,← h.1];rfl
   ·cases h
  ·cases h
 |call fn args=>
  simp only[POp.foot,POp.args,Dp]at E; subst E;simp only[POp.exec]at h ⊢
  split at h
  ·rename_i sp vs ad ah
   split at h
   ·rename_i r hr;simp only[Dp,DO]at h
    by_cases hn:r.noRef=t_
    ·refine⟨.lend [],(fun k hk=>by cases hk),?_,fun st2 hl _ _=>?_⟩
     ·rw[← h.2,if_pos hn]; rfl
     ·simp only[ad,fp hl,ah,hr,hn,if_true,← h.1]; rfl
    ·refine⟨.lend ((args.map ρ).flatMap keys),fun k hk=>Ycg hk,?_,fun st2 hl _ _=>?_⟩
     ·rw[← h.2,if_neg hn]; rfl
     ·simp only[ad,fp hl,ah,hr,hn,← h.1]; rfl
   ·cases h
  ·cases h
 |box x=>
  simp only[POp.foot,Dp]at E; subst E;simp only[POp.exec]at h ⊢
  split at h
  ·rename_i M;simp only[Dp,DO]at h;refine⟨.push _,rfl,h.2.symm,fun st2 _ _ hm=>?_⟩;rw[if_pos M,hm rfl,← h.1]; rfl
  ·cases h
 |mkslc sz bytes zero l c=>
  simp only[POp.foot,Dp]at E; subst E;simp only[POp.exec]at h ⊢
  split at h
  ·split at h
   ·rename_i M;simp only[Dp,DO]at h;refine⟨.push _,rfl,h.2.symm,fun st2 _ _ hm=>?_⟩;rw[if_pos M,hm rfl,← h.1]; rfl
   ·cases h
  ·cases h
 |mcall fn args=>
  simp only[POp.foot,Dp]at E; subst E;simp only[POp.exec]at h ⊢
  split at h
  ·split at h
   ·simp only[Dp,DO]at h;refine⟨.push _,rfl,h.2.symm,fun st2 _ _ hm=>?_⟩;rw[hm rfl,← h.1]; rfl
   ·cases h
  ·cases h
 |stor n p x=>
  simp only[POp.foot,Dp]at E; subst E;simp only[POp.exec]at h ⊢
  cases hp:ρ p with
  |ptr key off=>
   rw[hp]at h;simp only[Nb]at h ⊢
   cases hk:st[key]? with
   |none=>simp[hk]at h
   |some o=>
    simp only[hk]at h
    split at h
    ·rename_i M;simp only[Ae,Dp,DO]at h;refine⟨.set key _,by simp[Eff.inn,PI.hk,DR,GZ],h.2.symm,fun st2 _ hw _=>?_⟩;have e:=hw key (by simp[PI.hk,DR,GZ]);rw[e,hk];simp only[M,if_true,Ae,← h.1];rfl
    ·simp at h
  |rptr key tot i off=>
   rw[hp]at h;simp only[Nb]at h ⊢
   cases hk:st[key]? with
   |none=>simp[hk]at h
   |some o=>
    cases hy:Ej st (ρ x)with
    |none=>simp[hk,hy]at h
    |some y=>
     simp only[hk,hy]at h
     split at h
     case isFalse=>simp at h
     rename_i M
     split at h
     case h_2=>simp at h
     rename_i el a6
     split at h
     case h_2=>simp at h
     rename_i bc a3
     split at h
     case isFalse=>simp at h
     rename_i hlen;simp only[Ae,Dp,DO]at h;refine⟨.set key _,by simp[Eff.inn,PI.hk,DR,GZ],h.2.symm,fun st2 hl hw _=>?_⟩;have e:=hw key (by simp[PI.hk,DR,GZ]);rw[e,hk,Ycj hl,hy];simp only[M,if_true,a6,a3,hlen,Ae,← h.1];rfl
  |_=>simp[hp,Nb]at h
 |app sz bytes s x=>
  simp only[POp.foot]at E;simp only[POp.exec]at h ⊢;unfold Eg at h ⊢;have ac:∀ st2,(∀ k∈hk (ρ x),Like st st2 k)→Hx st2 (ρ x)=Hx st (ρ x):=fun st2 hl=>Ygv hl
  cases he:Hx st (ρ x)with
  |none=>simp[he]at h
  |some r=>
   obtain⟨bd,xs⟩:=r;simp only[he]at h
   split at h
   ·cases h
   rename_i ae
   cases hs:ρ s with
   |row key tot off len=>
    simp only[hs,Dp]at E; subst E;simp only[hs]at h ⊢
    cases hk:st[key]? with
    |none=>simp[hk]at h
    |some o=>
     simp only[hk]at h
     split at h
     case isFalse=>cases h
     rename_i M;simp only[Dp,DO]at h;refine⟨.set key _,by simp[Eff.inn],h.2.symm,fun st2 hl hw _=>?_⟩;have e:=hw key (by simp);rw[ac st2 hl,he,e,hk];simp only[ae,if_false,Ao,M,if_true,← h.1];rfl
   |slc be els t=>
    simp only[hs,Dp]at E; subst E
    cases t with
    |false=>simp[hs]at h
    |true=>
     simp only[hs]at h ⊢
     split at h
     ·rename_i N;simp only[Dp,DO]at h;refine⟨.lend [],(fun k hk=>by cases hk),h.2.symm,fun st2 hl _ _=>?_⟩;rw[ac st2 hl,he];dsimp only;rw[if_neg ae,if_pos N,← h.1];rfl
     ·rename_i N
      split at h
      case isFalse=>cases h
      rename_i M;simp only[Dp,DO]at h;have hN:GI (ρ x) st.length=s_ st.length:=YF7 he (by simpa using N) _;refine⟨.push _,(by show(GI (ρ x) st.length).isSome=t_; rw[hN]; rfl),h.2.symm,fun st2 hl _ hm=>?_⟩;rw[ac st2 hl,he,hm (by show(GI (ρ x) st.length).isSome=t_; rw[hN]; rfl)];dsimp only;rw[if_neg ae,if_neg N,if_pos M,← h.1];rfl
   |_=>simp[hs]at h
 |rcall fn args=>
  simp only[POp.foot,POp.args,Dp]at E; subst E;simp only[POp.exec]at h
  split at h
  ·rename_i sp ad;exact rd (fun st=>Jk sp (args.map ρ) st) id h (fun st2 hl=>yX6 hl) (fun st2=>by simp only[POp.exec,ad]; rfl)
  ·cases h
 |icall fn args=>simp[POp.foot]at E
 |callv x args=>simp[POp.foot]at E
 |fail=>simp[POp.foot]at E
 |mkmap sz=>simp[POp.foot]at E
 |mapup sz ks m k v=>simp[POp.foot]at E
 |cpy sz d s=>simp[POp.foot]at E
 |mapget sz ks ok zero m k=>
  simp only[POp.foot,POp.args,Dp]at E; subst E;exact rd (fun st=>JU st sz ks ok zero (ρ m) (ρ k)) id h (fun st2 hl=>yS9 fun k hk=>hl k (by rw[Aw,Au,AM]; exact .inl hk)) (fun _=>rfl)
 |_=>simp[POp.cls]at hc
theorem Yng{p:POp}(h:p.foot ρ st=s_ f):∀ n,f.nu=s_ n→n=st.length:=by
 intro n hn
 cases p with
 |app sz bytes s x=>
  simp only[POp.foot]at h;cases E:ρ s <;> simp only[E,Dp]at h <;> subst h <;> first|exact Yrf hn|(simp at hn; done)|exact(by simpa using hn.symm)
 |_=>
  simp only[POp.foot,Dp,reduceCtorEq]at h
  try subst h
  try simp at hn
  try exact hn.symm
theorem Sq(p:POp)(h:st2.length=st.length):p.foot ρ st2=p.foot ρ st:=by cases p <;> simp only[POp.foot,h]
theorem fc(p:POp)(hc:p.cls≤2)(st st2:St):p.foot ρ st2=p.foot ρ st:=by cases p <;> first|rfl|(simp[POp.cls]at hc; done)
theorem wE{p:POp}(h:p.foot ρ st=s_ f)(E:f.nu=none):p.foot ρ st2=s_ f:=by
 cases p with
 |app sz bytes s x=>
  simp only[POp.foot]at h ⊢;cases M:ρ s <;> simp only[M,Dp]at h ⊢ <;> subst h <;> first|rfl|(simp only[ue E _]; done)|(simp at E; done)|(rw[ue E st2.length,E])
 |box x=>simp only[POp.foot,Dp]at h; subst h; cases E
 |mkslc a b c d e=>simp only[POp.foot,Dp]at h; subst h; cases E
 |mcall fn args=>simp only[POp.foot,Dp]at h; subst h; cases E
 |_=>exact h
theorem Ygq{E:PA→D}(p:POp)(h:∀ x∈p.args,ρ x=E x):p.foot ρ st=p.foot E st:=by
 cases p with
 |stor n p x=>simp only[POp.args,Ay,AD,or_false,forall_eq_or_imp,forall_eq]at h; simp only[POp.foot,h]
 |app a b s x=>simp only[POp.args,Ay,AD,or_false,forall_eq_or_imp,forall_eq]at h; simp only[POp.foot,h]
 |box x=>rfl
 |mkslc a b c d e=>rfl
 |mcall f args=>rfl
 |icall f args=>rfl
 |callv x args=>rfl
 |fail=>rfl
 |mkmap sz=>rfl
 |mapup sz ks m k v=>rfl
 |cpy sz d s=>rfl
 |fld n x=>simp only[POp.args,Ay,AD,or_false,forall_eq]at h; simp only[POp.foot,h]
 |nilc x=>simp only[POp.args,Ay,AD,or_false,forall_eq]at h; simp only[POp.foot,h]
 |idxA a b x i=>simp only[POp.args,Ay,AD,or_false,forall_eq_or_imp,forall_eq]at h; simp only[POp.foot,h]
 |_=>
  simp only[POp.foot];rw[BA h]
variable {b:List Nat}
theorem mS{a:List Nat}(h:Iu a b=t_):∀ k∈a,k∉b:=by simp only[Iu,Ah,AU]at h;grind
theorem YW{m:Option Nat}(h:LX m b=t_):∀ n,m=s_ n→∀ k∈b,k<n:=by rintro n rfl k hk;simp only[LX,Ah,decide_eq_true_eq]at h;exact h k hk
variable {g:Foot}
theorem Yk2(h:f.ok g=t_):(∀ k∈g.wr,k∉f.rd)∧(∀ k∈g.wr,k∉f.wr)∧(∀ k∈f.wr,k∉g.rd)∧(∀ n,f.nu=s_ n→∀ k∈g.rd,k<n)∧(∀ n,f.nu=s_ n→∀ k∈g.wr,k<n)∧(∀ n,g.nu=s_ n→∀ k∈f.rd,k<n)∧(∀ n,g.nu=s_ n→∀ k∈f.wr,k<n)∧(f.nu=none∨g.nu=none):=by simp only[Foot.ok,Ad,Bh,Option.isNone_iff_eq_none]at h;obtain⟨⟨⟨⟨⟨⟨⟨E,M⟩,N⟩,h4⟩,h5⟩,h6⟩,h7⟩,h8⟩:=h;exact⟨mS E,mS M,mS N,YW h4,YW h5,YW h6,YW h7,h8⟩
theorem RQ:∀ (ks:List Nat) (st:St) (i:Nat),(lend ks st)[i]?=(st[i]?).map fun o=>if i∈ks then {o with lent:=t_} else o
 |[],st,i=>by simp[lend]
 |k::r,st,i=>by
  rw[lend,RQ r,SQ];grind
theorem Ybz(ks:List Nat)(st:St)(k:Nat)(o:Obj)(h:k∉ks):lend ks (st.set k o)=(lend ks st).set k o:=by apply Bj;intro i;rw[RQ,List.getElem?_set,List.getElem?_set,RQ,Qn];grind
theorem Yb1(ks:List Nat)(st:St)(os:List Obj)(h:∀ k∈ks,k<st.length):lend ks (st++os)=lend ks st++os:=by
 apply Bj;intro i;rw[RQ];rcases A5 i st.length with hi|hi
 ·rw[Av hi,Av (by rw[Qn]; exact hi),RQ]
 ·rw[AJ hi,AJ (by rw[Qn]; exact hi),Qn];grind
theorem Yje(st:St)(k:Nat)(o:Obj)(os:List Obj)(h:k<st.length):(st++os).set k o=st.set k o++os:=BZ _ _ h
variable {e:Eff}
theorem Eff.len(h:e.inn f)(E:f.nu=none):(e.app st).length=st.length:=by
 cases e with
 |lend ks=>exact Qn ks st
 |set k o=>simp[Eff.app]
 |push os=>simp[Eff.inn,E]at h
theorem Eff.comm{N:Eff}(h:e.inn f)(M:N.inn g)(ac:f.ok g=t_)(hf:∀ n,f.nu=s_ n→n=st.length)(hg:∀ n,g.nu=s_ n→n=st.length):e.app (N.app st)=N.app (e.app st):=by
 obtain⟨o1,o2,o3,o4,o5,o6,o7,o8⟩:=Yk2 ac
 have E:∀ {m:Option Nat},m.isSome=t_→(∀ n,m=s_ n→n=st.length)→m=s_ st.length:=by
  intro m h1 h2
  cases m with
  |none=>cases h1
  |some n=>rw[h2 n rfl]
 cases e with
 |lend ks=>
  cases N with
  |lend qs=>exact np ks qs st
  |set k o=>exact Ybz ks st k o fun hk=>o1 k M (h k hk)
  |push os=>exact Yb1 ks st os fun k hk=>o6 _ (E M hg) k (h _ hk)
 |set k o=>
  cases N with
  |lend qs=>exact(Ybz qs st k o fun hk=>o3 k h (M k hk)).symm
  |set k' q=>exact List.set_comm _ _ (fun e=>o2 k' M (e ▸ h))
  |push q=>exact Yje st k o q (o7 _ (E M hg) _ h)
 |push o=>
  cases N with
  |lend qs=>exact(Yb1 qs st o fun k hk=>o4 _ (E h hf) k (M _ hk)).symm
  |set k q=>exact(Yje st k q o (o5 _ (E h hf) _ M)).symm
  |push q=>
   have a:=E h hf;have b:=E M hg;grind
theorem Eff.eq_at(h:e.inn f)(E:∀ n,f.nu=s_ n→n=st.length)(M:k∉f.rd)(N:k∉f.wr)(h3:∀ n,f.nu=s_ n→k<n):(e.app st)[k]?=st[k]?:=by
 cases e with
 |lend ks=>
  show(PI.lend ks st)[k]?=_
  rw[RQ];have:k∉ks:=fun hk=>M (h k hk);simp[this]
 |set q o=>
  have:q≠k:=fun e=>N (e ▸ h);simp[Eff.app,this]
 |push o=>
  have hs:f.nu=s_ st.length:=by
   cases hk:f.nu with
   |none=>simp[Eff.inn,hk]at h
   |some n=>rw[E n hk]
  have:=h3 _ hs
  show(st++o)[k]?=_
  grind
theorem Eff.like_at(h:e.inn f)(E:∀ n,f.nu=s_ n→n=st.length)(M:k∉f.wr)(N:∀ n,f.nu=s_ n→k<n):Like st (e.app st) k:=by
 cases e with
 |lend ks=>
  show Like st (PI.lend ks st) k
  unfold Like;rw[RQ];grind
 |set q o=>
  have:q≠k:=fun e=>M (e ▸ h);exact Like.of_eq (by simp[Eff.app,this])
 |push o=>
  have hs:f.nu=s_ st.length:=by
   cases hk:f.nu with
   |none=>simp[Eff.inn,hk]at h
   |some n=>rw[E n hk]
  have:=N _ hs;refine Like.of_eq ?_
  show(st++o)[k]?=_
  grind
theorem YI1{ρx ρy:PA→D}{x y:POp}{st1:St}{dx dy:D}(hx:x.exec T ρx st=s_ (dx,st1))(M:x.foot ρx st=s_ f)(hy:y.exec T ρy st1=s_ (dy,st2))(N:y.foot ρy st1=s_ g)(a1:f.ok g=t_) :
  ∃ E,y.exec T ρy st=s_ (dy,E)∧y.foot ρy st=s_ g∧x.exec T ρx E=s_ (dx,st2)∧x.foot ρx E=s_ f:=by
 obtain⟨o1,o2,o3,o4,o5,o6,o7,o8⟩:=Yk2 a1;obtain⟨e,e1,e2,e3⟩:=uI x M hx;have ae:=Yng M;have a2:=Yng N
 have af:∀ n,g.nu=s_ n→n=st.length:=by
  intro n hn;rw[a2 n hn,e2];rcases o8 with c|c
  ·exact Eff.len e1 c
  ·grind
 have a3:y.foot ρy st=s_ g:=by
  rcases o8 with c|c
  ·rw[Sq (st:=st1) y (by rw[e2]; exact(Eff.len e1 c).symm)]; exact N
  ·exact wE N c
 obtain⟨q,q1,q2,q3⟩:=uI y N hy
 have a8:=q3 st (fun k hk=>by
   rw[e2];exact(Eff.like_at e1 ae (fun hw=>o3 k hw hk) (fun n hn=>o4 n hn k hk)).symm)
  (fun k hk=>by
   rw[e2];exact(Eff.eq_at e1 ae (fun hr=>o1 k hk hr) (fun hw=>o2 k hk hw) (fun n hn=>o5 n hn k hk)).symm)
  (fun hm=>by
   rw[e2];rcases o8 with c|c
   ·exact(Eff.len e1 c).symm
   ·grind)
 refine⟨q.app st,a8,a3,?_,?_⟩
 ·have:=e3 (q.app st) (fun k hk=>Eff.like_at q1 af (fun hw=>o1 k hw hk) (fun n hn=>o6 n hn k hk))
   (fun k hk=>Eff.eq_at q1 af (fun hr=>o3 k hk hr) (fun hw=>o2 k hw hk) (fun n hn=>o7 n hn k hk))
   (fun hm=>by
    rcases o8 with c|c
    ·grind
    ·exact Eff.len q1 c)
  rw[this,q2,e2,Eff.comm e1 q1 a1 ae af]
 ·rcases o8 with c|c
  ·exact wE M c
  ·rw[Sq (st:=st) x (Eff.len q1 c)]; exact M
def PI.regs(x y:PI):Bool:=
 (match x.dst with
  |some d=>!(y.reads.contains d) && y.dst != s_ d
  |none=>t_) &&
 (match y.dst with
  |some d=>!(x.reads.contains d)
  |none=>t_)
variable {y:PI}
theorem Yj4{x:PI}(h:x.regs y=t_):(∀ t,x.dst=s_ t→t∉y.reads)∧(∀ t,x.dst=s_ t→y.dst≠s_ t)∧(∀ t,y.dst=s_ t→t∉x.reads):=by simp only[PI.regs,Ad]at h;grind
theorem S1{x:PI}(h:x.apart y=t_):x.regs y=t_:=by simp only[PI.apart,Ad]at h;simp only[PI.regs,Ad];exact h.1
variable {dst:Option Nat}{G:DB}
theorem Ycw{fr:Frame}{i:PI}(h:∀ t,dst=s_ t→t∉i.reads):i.op.foot (DL G (fr.put dst d)) st=i.op.foot (DL G fr) st:=by refine Ygq i.op fun x M=>Yjp fun t E hm=>h t E ?_;simp only[PI.reads,AM,Bp];grind
def Kg(x y:PI×Option Foot):Prop:=x.1.regs y.1=t_∧(x.1.apart y.1=t_∨∃ f g:Foot,x.2=s_ f∧y.2=s_ g∧f.ok g=t_)
variable {s s1:PS}
theorem cV{x:PI}(h:x.exec G T s=s_ s1)(hc:x.op.cls≤2):s1.st.length=s.st.length:=by
 rw[PI.exec_eq]at h;simp only[D0]at h;obtain⟨⟨d,st⟩,E,rfl⟩:=h;unfold PI.step at E
 split at E
 ·cases E
 ·grind
 ·obtain⟨ks,rfl⟩:=fo x.op hc E;exact Qn ks s.st
theorem jd{x:PI}(h:x.exec G T s=s_ s1):∃ d,s1.fr=s.fr.put x.dst d:=by rw[PI.exec_eq]at h;simp only[D0]at h;grind
theorem S3{i:PI}{s':PS}(E:s'.fr=s.fr.put dst d)(h:∀ t,dst=s_ t→t∉i.reads)(M:i.op.foot (DL G s.fr) s'.st=i.op.foot (DL G s.fr) s.st):i.foot G s'=i.foot G s:=by unfold PI.foot;rw[E,Uz h,Ycw h,M]
theorem Wh{x:PI}{s2:PS}(h:Kg (x,x.foot G s) (y,y.foot G s1))(M:x.exec G T s=s_ s1)(E:y.exec G T s1=s_ s2) :
  ∃ aa,y.exec G T s=s_ aa∧x.exec G T aa=s_ s2∧y.foot G s=y.foot G s1∧x.foot G aa=x.foot G s:=by
 obtain⟨a5,h⟩:=h;dsimp only at a5 h;obtain⟨a1,a2,a3⟩:=Yj4 a5;rcases h with h|⟨f,g,hf,hg,bg⟩
 ·obtain⟨aa,h1,h2⟩:=oU h M E;obtain⟨_,_,_,a4⟩:=wa h;obtain⟨dx,ex⟩:=jd M;obtain⟨dy,ey⟩:=jd h1;refine⟨aa,h1,h2,(S3 ex a1 ?_).symm,S3 ey a3 ?_⟩
  ·rcases a4 with c|c|⟨c,_⟩|⟨c,_⟩
   ·exact Sq _ (cV M (by omega))
   ·exact fc _ (by omega) _ _
   ·exact Sq _ (cV M c)
   ·exact Sq _ (cV M c)
  ·rcases a4 with c|c|⟨c,_⟩|⟨c,_⟩
   ·exact fc _ (by omega) _ _
   ·exact Sq _ (cV h1 (by omega))
   ·exact fc _ c _ _
   ·exact fc _ c _ _
 ·have a8:y.wanted s1.fr=y.wanted s.fr:=by
   obtain⟨dx,ex⟩:=jd M;rw[ex]; exact Uz a1
  rw[PI.exec_eq]at M E;simp only[D0]at M E;obtain⟨⟨dx,stx⟩,M,rfl⟩:=M;obtain⟨⟨dy,a9⟩,E,rfl⟩:=E;simp only at E a8 hg ⊢;have ah:∀ d,x.wanted (s.fr.put y.dst d)=x.wanted s.fr:=fun d=>Uz a3
  have key:∀ ab,y.step G T s=s_ (dy,ab)→(∀ d,x.step G T {fr:=s.fr.put y.dst d,st:=ab}=s_ (dx,a9))→x.op.foot (DL G s.fr) ab=x.op.foot (DL G s.fr) s.st→y.op.foot (DL G s.fr) stx=y.op.foot (DL G s.fr) s.st→
    ∃ aa,y.exec G T s=s_ aa∧x.exec G T aa=s_ {fr:=(s.fr.put x.dst dx).put y.dst dy,st:=a9}∧y.foot G s=y.foot G {fr:=s.fr.put x.dst dx,st:=stx}∧x.foot G aa=x.foot G s:=by
   intro ab h1 h2 h3 h4;refine⟨{fr:=s.fr.put y.dst dy,st:=ab},by rw[PI.exec_eq,h1]; rfl,?_,(S3 (s':={fr:=s.fr.put x.dst dx,st:=stx}) rfl a1 h4).symm,S3 (s':={fr:=s.fr.put y.dst dy,st:=ab}) rfl a3 h3⟩;rw[PI.exec_eq,h2 dy];simp only[Ae];rw[eE s.fr dx dy a2]
  unfold PI.step at M E;simp only[a8]at E
  cases ac:x.wanted s.fr with
  |none=>simp[ac]at M
  |some bx=>
   cases N:y.wanted s.fr with
   |none=>simp[N]at E
   |some ba=>
    cases bx with
    |false=>
     simp only[ac,Dp,DO]at M;obtain⟨rfl,rfl⟩:=M
     cases ba with
     |false=>
      simp only[N,Dp,DO]at E;obtain⟨rfl,rfl⟩:=E;exact key s.st (by simp[PI.step,N]) (fun d=>by simp[PI.step,ah,ac]) rfl rfl
     |true=>
      simp only[N]at E;rw[Nr a1]at E;refine⟨{fr:=s.fr.put y.dst dy,st:=a9},by rw[PI.exec_eq]; simp[PI.step,N,E],?_,?_,?_⟩
      ·rw[PI.exec_eq];simp only[PI.step,ah,ac,Ae];rw[eE s.fr _ dy a2]
      ·exact(S3 (s':={fr:=s.fr.put x.dst (.tup []),st:=s.st}) rfl a1 rfl).symm
      ·unfold PI.foot;grind
    |true=>
     simp only[ac]at M;simp only[PI.foot,ac]at hf
     cases ba with
     |false=>
      simp only[N,Dp,DO]at E;obtain⟨rfl,rfl⟩:=E;refine⟨{fr:=s.fr.put y.dst (.tup []),st:=s.st},by rw[PI.exec_eq]; simp[PI.step,N],?_,?_,?_⟩
      ·rw[PI.exec_eq];simp only[PI.step,ah,ac];rw[Nr a3,M];simp only[Ae];rw[eE s.fr dx _ a2]
      ·unfold PI.foot;grind
      ·exact S3 (s':={fr:=s.fr.put y.dst (.tup []),st:=s.st}) rfl a3 rfl
     |true=>
      simp only[N]at E;rw[Nr a1]at E;simp only[PI.foot,a8,N]at hg;rw[Ycw a1]at hg;obtain⟨be,h1,h2,h3,h4⟩:=YI1 M hf E hg bg;exact key be (by simp only[PI.step,N]; exact h1) (fun d=>by simp only[PI.step,ah,ac]; rw[Nr a3]; exact h3) (by rw[h4,hf]) (by rw[hg,h2])
def Iw(G:DB)(T:Tbl):List (PI×Option Foot)→PS→PS→Prop
 |[],s,s'=>s'=s
 |a::l,s,s'=>a.1.foot G s=a.2∧∃ s1,a.1.exec G T s=s_ s1∧Iw G T l s1 s'
theorem YJw{G:DB}{T:Tbl}{i:PI×Option Foot}:∀ (l r:List (PI×Option Foot)) (s sf:PS),(∀ x∈l,Kg x i)→Iw G T (l++i::r) s sf→∃ s',i.1.exec G T s=s_ s'∧i.1.foot G s=i.2∧Iw G T (l++r) s' sf
 |[],r,s,sf,_,h=>by
  obtain⟨E,s1,M,N⟩:=h;grind
 |x::l,r,s,sf,ha,h=>by
  obtain⟨E,s1,M,N⟩:=h;obtain⟨s2,h4,h5,h6⟩:=YJw l r s1 sf (fun y hy=>ha y (by simp[hy])) N;have hp:=ha x (by simp);have ab:Kg (x.1,x.1.foot G s) (i.1,i.1.foot G s1):=by rw[E,h5]; exact hp
  obtain⟨ac,k1,k2,k3,k4⟩:=Wh ab M h4;exact⟨ac,k1,by rw[k3,h5],by rw[k4,E],s2,k2,h6⟩
theorem Zv{G:DB}{T:Tbl}:∀ (l:List PI) (s sf:PS),Ft G T l s=s_ sf→∃ F:List (Option Foot),F.length=l.length∧Iw G T (l.zip F) s sf
 |[],s,sf,h=>by
  simp only[Ft,Dp]at h;exact⟨[],rfl,h.symm⟩
 |i::l,s,sf,h=>by
  simp only[Ft]at h
  split at h
  ·rename_i s1 E;obtain⟨F,M,N⟩:=Zv l s1 sf h;exact⟨i.foot G s::F,by simp[M],rfl,s1,E,N⟩
  ·cases h
theorem Ydf{fs:List (Option Foot)}{g:Option Foot}:∀ {cs:List Nat},OJ fs g cs=t_→∀ j∈cs,∃ f g':Foot,fs[j]?=s_ (s_ f)∧g=s_ g'∧f.ok g'=t_
 |[],_,j,hj=>by cases hj
 |c::cs,h,j,hj=>by
  simp only[OJ,Ad]at h;rcases Ay.1 hj with rfl|hj
  ·have E:=h.1
   cases hf:fs[j]? with
   |none=>rw[hf]at E; cases E
   |some o=>
    rw[hf]at E
    cases o with
    |none=>cases E
    |some f=>
     cases g with
     |none=>cases E
     |some g'=>exact⟨f,g',rfl,rfl,E⟩
  ·exact Ydf h.2 j hj
theorem Zf{G:DB}{T:Tbl}:∀ (l:List (PI×Bool×List Nat)) (fs:List (Option Foot)) (s sf:PS),HK G T l fs s=s_ sf→∃ F:List (Option Foot),F.length=l.length∧Iw G T ((l.map (·.1)).zip F) s sf∧
   ∀ (i:Nat) (q:PI×Bool×List Nat),l[i]?=s_ q→∀ j∈q.2.2,∃ f g:Foot,F[i]?=s_ (s_ g)∧f.ok g=t_∧(fs[j]?=s_ (s_ f)∨(fs.length≤j∧F[j - fs.length]?=s_ (s_ f)))
 |[],fs,s,sf,h=>by
  simp only[HK,Dp]at h;exact⟨[],rfl,h.symm,fun i q E=>by simp at E⟩
 |(i0,b,cs)::l,fs,s,sf,h=>by
  simp only[HK]at h
  split at h
  case isFalse=>cases h
  rename_i M
  split at h
  ·rename_i s1 N;obtain⟨F,h1,h2,h3⟩:=Zf l _ s1 sf h;refine⟨i0.foot G s::F,by simp[h1],⟨rfl,s1,N,h2⟩,?_⟩;intro i q E j hj
   cases i with
   |zero=>
    simp only[AG,Dp]at E;subst E;obtain⟨f,g',e1,e2,e3⟩:=Ydf M j hj;grind
   |succ i=>
    grind
  ·cases h
def I9(ms:List Nat)(l:List PI)(i:Nat)(y:PI):List Nat:=(C3 i).filter fun j=>!((ms.getD i 0).testBit j) && !((l.getD j default).apart y)
def re(ms:List Nat)(l:List PI):Option (List (PI×Bool×List Nat)):=
 if l.zipIdx.all fun yi=>(I9 ms l yi.2 yi.1).all fun j=>(l.getD j default).regs yi.1 then
  s_ (l.zipIdx.map fun yi=>(yi.1,(l.zipIdx.map fun zj=>I9 ms l zj.2 zj.1).any (fun c=>c.contains yi.2),I9 ms l yi.2 yi.1))
 else none
variable {q:List (PI×Bool×List Nat)}{l:List PI}{ms:List Nat}
theorem v9(h:re ms l=s_ q):q.length=l.length∧q.map (·.1)=l∧(∀ (i:Nat) y,l[i]?=s_ y→∃ b,q[i]?=s_ (y,b,I9 ms l i y)∧∀ j∈I9 ms l i y,(l.getD j default).regs y=t_):=by
 unfold re at h
 split at h
 case isFalse=>cases h
 rename_i E;simp only[Dp]at h;subst h;refine⟨by simp,?_,?_⟩
 ·rw[CG];apply Bj;grind
 ·intro i y N;refine⟨(l.zipIdx.map fun M=>I9 ms l M.2 M.1).any (fun c=>c.contains i),?_,?_⟩
  ·grind
  ·rw[Ah]at E;have:=E (y,i) (by rw[A8]; exact N);grind
def Qr(ms:List Nat)(l:List PI)(bad:Option (Nat×Nat))(ord:List Nat)(p i:Nat):List Nat:=
 (C3 p).filter fun j=>!((ms.getD i 0).testBit (ord.getD j 0)) && !((l.getD (ord.getD j 0) default).apart (l.getD i default)) && !(bad == s_ (ord.getD j 0,i))
def Pl(ms:List Nat)(l:List PI)(bad:Option (Nat×Nat))(ord:List Nat):Option (List (PI×Bool×List Nat)):=
 if ord.zipIdx.all fun ip=>(Qr ms l bad ord ip.2 ip.1).all fun j=>(l.getD (ord.getD j 0) default).regs (l.getD ip.1 default)then
  s_ (ord.zipIdx.map fun ip=>(l.getD ip.1 default,(ord.zipIdx.map fun kq=>Qr ms l bad ord kq.2 kq.1).any (fun c=>c.contains ip.2),Qr ms l bad ord ip.2 ip.1))
 else none
theorem Yah{bad:Option (Nat×Nat)}{E:List Nat}(h:Pl ms l bad E=s_ q) :
  q.length=E.length∧q.map (·.1)=E.map (fun k=>l.getD k default)∧(∀ (p i:Nat),E[p]?=s_ i→∃ b,q[p]?=s_ (l.getD i default,b,Qr ms l bad E p i)∧∀ j∈Qr ms l bad E p i,(l.getD (E.getD j 0) default).regs (l.getD i default)=t_):=by
 unfold Pl at h
 split at h
 case isFalse=>cases h
 rename_i M;simp only[Dp]at h;subst h;refine⟨by simp,?_,?_⟩
 ·rw[CG];apply Bj;grind
 ·intro p i hi;refine⟨(E.zipIdx.map fun N=>Qr ms l bad E N.2 N.1).any (fun c=>c.contains p),?_,?_⟩
  ·grind
  ·rw[Ah]at M;have:=M (i,p) (by rw[A8]; exact hi);grind
def Yq8(ms:List Nat)(l:List PI):Option (Nat×Nat):=
 match(l.zipIdx.flatMap fun yi=>((l.take yi.2).zipIdx.filter fun xj=>xj.1.op.push && yi.1.op.push && !((ms.getD yi.2 0).testBit xj.2)).map fun xj=>(xj.2,yi.2))with
 |[p]=>s_ p
 |_=>none
def POp.push2:POp→Bool
 |.box _ | .mkslc _ _ _ _ _ | .app _ _ _ _ | .mcall _ _=>t_
 |_=>f_
def Yd1(ms:List Nat)(l:List PI):List (Nat×Nat):=
 l.zipIdx.flatMap fun yi=>((l.take yi.2).zipIdx.filter fun xj=>xj.1.op.push2 && yi.1.op.push2 && !((ms.getD yi.2 0).testBit xj.2)).map fun xj=>(xj.2,yi.2)
def MH(ms:List Nat)(m x y:Nat):List Nat:=
 (C3 m).filter (fun k=>k<x || (k<y && (ms.getD y 0).testBit k) || k == y)++(C3 m).filter (fun k=>!(k<x || (k<y && (ms.getD y 0).testBit k) || k == y))
def Qs(m:Nat)(ord:List Nat):Bool:=ord.length == m && (C3 m).all (fun k=>ord.contains k)
def LJ(keep:List Nat)(ms:List Nat)(l:List PI)(m:Nat):List (Nat×Nat)→PC
 |[]=>.fail
 |(x,y)::r=>match Pl ms l (s_ (x,y)) (C3 m),Pl ms l (s_ (y,x)) (MH ms m x y)with
  |some q1,s_ q2=>if Qs m (MH ms m x y) && x != y && decide (x<m) && decide (y<m)then .alt (.any2 keep q1 q2) (LJ keep ms l m r)else LJ keep ms l m r
  |_,_=>LJ keep ms l m r
end Go.Proofs.YtijnglngaogdjaaGreatDoor.PI
namespace Go.Proofs.YtijnglngaogdjaaGreatDoor.PI
open Go Go.RowKit
def fX(n:Nat):Option Nat→Bool
 |some d=>decide (d<n)
 |none=>t_
def Nd(P:Program)(il:List Nat)(n:Nat)(ops:Array Oper)(o:Oper):Option PI:=
 if fX n o.dst then
  match o.guard with
  |none=>s_ {dst:=o.dst,op:=(DP P il o.op).getD .fail}
  |some (j,want)=>match(ops[j]?).bind (·.dst)with
   |some s=>s_ {dst:=o.dst,op:=(DP P il o.op).getD .fail,guard:=s_ (s,want)}
   |none=>none
 else none
def Gd(P:Program)(il:List Nat)(n:Nat)(ops:Array Oper):List Oper→Option (List PI)
 |[]=>s_ []
 |o::r=>match Nd P il n ops o,Gd P il n ops r with
  |some a,s_ b=>s_ (a::b)
  |_,_=>none
def iy(P:Program)(il:List Nat)(n:Nat)(o1 o2:Oper):Option (PI×PI):=match o1.op,o2.op,o1.dst with
 |.buildSlice t len parts,.convert s t' (.tmp d),s_ d1=>match P.underlying t with
  |some (.slice e)=>match P.underlying e with
   |some (.int .u8)=>if s=t∧t'=t∧d=d1∧d1<n∧fX n o2.dst=t_∧o1.guard=none∧o2.guard=none then
     match DP P il (.buildSlice t len parts)with
     |some p=>s_ ({dst:=s_ d1,op:=p},{dst:=o2.dst,op:=.mov (.s d1)})
     |none=>none
    else none
   |_=>none
  |_=>none
 |_,_,_=>none
def Lp(P:Program)(il:List Nat)(n:Nat)(ops:Array Oper):List Oper→Option (List PI)
 |[]=>s_ []
 |[o]=>(Nd P il n ops o).map fun a=>[a]
 |o1::o2::r=>match iy P il n o1 o2 with
  |some (a,b)=>(Lp P il n ops r).map fun l=>a::b::l
  |none=>match Nd P il n ops o1,Lp P il n ops (o2::r)with
   |some a,s_ l=>s_ (a::l)
   |_,_=>none
def TN(il:List Nat)(i:PI):Bool:=match i.op with
 |.icall f _=>il.contains (f+60000000)
 |.callv _ _=>il.contains 60000000
 |_=>f_
def rB(P:Program)(n:Nat)(l:List Oper):Option (List Oper×Nat×Nat×Operand):=match l.reverse with
 |o2::o1::rpre=>match o1.op,o2.op,o1.dst with
  |.makeInterface t xo,.panic (.tmp d),s_ d1=>if d=d1∧d1<n∧o1.guard=none∧o2.guard=none then
    match P.underlying t with
    |some (.interface _)=>none
    |some _=>s_ (rpre.reverse,d1,t,xo)
    |none=>none
   else none
  |_,_,_=>none
 |_=>none
variable {xo:Operand}{d1 t:Nat}
theorem Yef{P:Program}{n:Nat}{l pre:List Oper}(h:rB P n l=s_ (pre,d1,t,xo)):∃ o1 o2,l=pre++[o1,o2]∧o1.op=.makeInterface t xo∧o1.dst=s_ d1∧o2.op=.panic (.tmp d1)∧d1<n∧o1.guard=none∧o2.guard=none∧
  ∃ u,P.underlying t=s_ u∧∀ m,u≠.interface m:=by
 unfold rB at h
 split at h
 case h_2=>cases h
 rename_i o2 o1 M hl
 split at h
 case h_2=>cases h
 rename_i t' ae d af N h2 h3
 split at h
 case isFalse=>cases h
 rename_i hc;obtain⟨rfl,c1,c2,c3⟩:=hc
 split at h
 case h_1=>cases h
 case h_3=>cases h
 rename_i u E hu;simp only[Dp,DO]at h;obtain⟨rfl,rfl,rfl,rfl⟩:=h;refine⟨o1,o2,?_,N,h3,h2,c1,c2,c3,u,hu,fun m e=>E m e⟩;simp_all
def Ls(o:Oper):List Nat:=(o.after.toList.filter (Region.binds .any)).map (·.on)
def FB:List Oper→List Nat→List Nat
 |[],acc=>acc
 |o::r,acc=>FB r (acc++[(Ls o).foldl (fun m e=>m ||| (1 <<< e) ||| acc.getD e 0) 0])
def dW(ms:List Nat)(l:List PI):Bool:=
 l.zipIdx.all fun(y,i)=>(l.take i).zipIdx.all fun(x,j)=>(ms.getD i 0).testBit j || x.apart y
def R1:POp→Bool
 |.icall _ _=>t_
 |.callv _ _=>t_
 |_=>f_
def NY(ms:List Nat)(l:List PI):Bool:=
 l.zipIdx.all fun(y,i)=>!R1 y.op || ((C3 l.length).all fun j=>(j == i) || (if j<i then(ms.getD i 0).testBit j else(ms.getD j 0).testBit i))
def gT(il:List Nat)(l:List PI):Nat:=(l.takeWhile fun i=>!TN il i).length
def rm(ms:List Nat)(l:List PI)(i:Nat):Bool:=decide (i<l.length) && (C3 l.length).all fun j=>(j == i) || (if j<i then(ms.getD i 0).testBit j else(ms.getD j 0).testBit i)
def X9(q:List (PI×Bool×List Nat))(x:PI)(i:Nat):PC:=.alt (.any q) (.seq (.seq (.any (q.take i)) (.opsX [x])) .fail)
def OP(l:List Oper):Bool:=l.zipIdx.all fun(o,i)=>(Ls o).all fun e=>decide (e<i)
def J5:Code→Bool
 |.seq a b=>J5 a && J5 b
 |.cond _ a b=>J5 a && J5 b
 |.block _ c=>J5 c
 |.loop c=>J5 c
 |.rangeFunc _ _ _ _=>f_
 |_=>t_
def Ik(P:Program)(il:List Nat)(n:Nat):List (List Nat)→Code→Option (PC×List (List Nat))
 |h,.skip=>s_ (.skip,h)
 |h,.region _ ops draw=>if draw then match Gd P il n ops ops.toList with
  |some l=>
    if P.follows .mixedOrders && OP ops.toList then
     if dW (FB ops.toList []) l then s_ (if l.any (TN il) && NY (FB ops.toList []) l then .opsX l else .ops l,h)else
      match Yq8 (FB ops.toList []) l with
      |some (x,y)=>match h,Pl (FB ops.toList []) l (s_ (x,y)) (C3 ops.size),Pl (FB ops.toList []) l (s_ (y,x)) (MH (FB ops.toList []) ops.size x y)with
       |keep::h',s_ q1,s_ q2=>if Qs ops.size (MH (FB ops.toList []) ops.size x y) && x != y then s_ (.any2 keep q1 q2,h')else s_ (.fail,h)
       |_,_,_=>s_ (.fail,h)
      |none=>match re (FB ops.toList []) l with
       |some q=>if il.contains 70000000 && decide (2≤(Yd1 (FB ops.toList []) l).length)then
         match h with
         |keep::h'=>s_ (.alt (.any q) (LJ keep (FB ops.toList []) l ops.size (Yd1 (FB ops.toList []) l)),h')
         |[]=>s_ (.fail,h)
        else if l.any (TN il) && rm (FB ops.toList []) l (gT il l)then s_ (X9 q (l.getD (gT il l) default) (gT il l),h)
        else s_ (.any q,h)
       |none=>s_ (.fail,h)
    else s_ (.fail,h)
  |none=>none
  else match rB P n ops.toList with
   |some (pre,d1,t,xo)=>match Lp P il n ops pre,Ee xo with
    |some l,s_ x=>s_ (.pan l d1 t x,h)
    |_,_=>s_ (.fail,h)
   |none=>(Lp P il n ops ops.toList).map fun l=>(if l.any (TN il)then .opsX l else .ops l,h)
 |h,.seq a b=>match Ik P il n h a with
  |some (x,h')=>match Ik P il n h' b with
   |some (y,h'')=>s_ (.seq x y,h'')
   |none=>none
  |none=>none
 |h,.cond c a b=>match Ee c with
  |some pa=>match Ik P il n h a with
   |some (x,h')=>match Ik P il n h' b with
    |some (y,h'')=>s_ (.cond pa x y,h'')
    |none=>none
   |none=>none
  |none=>none
 |h,.block id c=>match Ik P il n h c with
  |some (x,h')=>s_ (.block id x,h')
  |none=>none
 |h,.loop c=>match h with
  |keep::h'=>match Ik P il n h' c with
   |some (x,h'')=>s_ (if keep.head?=s_ 1000000 then .loopA keep.tail x else .loop keep x,h'')
   |none=>none
  |[]=>none
 |h,.rangeFunc g ps a b=>match Ee g with
  |some pa=>match Ik P il n h a with
   |some (x,h')=>match Ik P il n h' b with
    |some (y,h'')=>if J5 a && J5 b && ps.toList.all (fun p=>decide (p<n))then s_ (.range pa ps.toList x y,h'')else s_ (.fail,h)
    |none=>none
   |none=>none
  |none=>none
 |h,.exit id=>s_ (.exit id,h)
 |h,.ret=>s_ (.ret,h)
 |h,_=>s_ (.fail,h)
def Ph(P:Program):List ResultVar→Option (List PRes)
 |[]=>s_ []
 |.tmp t::r=>(Ph P r).map (.tmp t::·)
 |.cell a t::r=>match EL P t,ES P t,Ph P r with
  |some n,s_ ag,s_ l=>s_ (.cell a n ag::l)
  |_,_,_=>none
def DA(P:Program)(il:List Nat)(f:Nat)(hints:List (List Nat)):Option PF:=
 match P.funcs[f]? with
 |some fn=>match fn.body with
  |some c=>match Ik P il fn.ntmps hints c,Ph P fn.results.toList with
   |some (pc,_),s_ res=>if fn.name == "runtime.NumGoroutine" then none else s_ {code:=pc,res}
   |_,_=>none
  |none=>none
 |none=>none
variable {w w' w1:World}{g g' g1:Ghost}{a:Act}{s s' sf:PS}{i:PI}{o o1 o2:Oper}{ops:Array Oper}{Q:Exit→Act→World→Prop}{d:D}{listed:Array Bool}{is l:List PI}{ms:List Nat}{Z:List (Nat×Option Foot)}{bad:Option (Nat×Nat)}{st st' st1:St}
section
variable {P:Program} {il:List Nat} {G:DB} {T:Tbl} {base n:Nat} {w0:World} {g0:Ghost} {st0:St} {dl:List Deferred} {r:Option Nat}
def DfOK(w0 w:World):List Deferred→Prop
 |[]=>True
 |d::ds=>(∃ D,d={target:=.collected D,args:=#[]}∧w.heap[D]?=s_ (.deferred (s_ []))∧w0.heap[D]?=none∧∀ d'∈ds,d'≠d)∧DfOK w0 w ds
theorem DfOK.mem{w0:World}:∀ {ds:List Deferred} {d:Deferred},DfOK w0 w ds→d∈ds→∃ D,d={target:=.collected D,args:=#[]}∧w.heap[D]?=s_ (.deferred (s_ []))
 |_::_,d,⟨⟨D,N,h2,_⟩,M⟩,E=>by
  rcases Ay.1 E with rfl|E
  ·grind
  ·exact DfOK.mem M E
theorem DfOK.mono{w0:World}(h:∀ (b:Nat) (o:Go.Obj),w.heap[b]?=s_ o→special o=t_→Kept w' b o):∀ {ds:List Deferred},DfOK w0 w ds→DfOK w0 w' ds
 |[],_=>trivial
 |_::_,⟨⟨D,E,M,N,h4⟩,h5⟩=>⟨⟨D,E,(h D _ M rfl).def',N,h4⟩,DfOK.mono h h5⟩
structure Rel (G:DB) (base n:Nat) (w0:World) (g0:Ghost) (st0:St) (dl:List Deferred) (s:PS) (a:Act) (w:World) (g:Ghost):Prop where
 go1:Go1 base w0 g0 st0 w g s.st
 fr:FR w g s.st s.fr a
 gl:GlobOK G w g
 df:∃ ds,a.defers=ds++dl∧DfOK w0 w ds
 sz:n≤a.tmps.size
theorem Rel.sr(h:Rel G base n w0 g0 st0 dl s a w g):SR base w g s.st:=h.go1.sr
theorem Rel.go{E:Act}(h:Rel G base n w0 g0 st0 dl s a w g)(M:Go1 base w g s.st w' g' s'.st)(N:FR w' g' s'.st s'.fr E)(hd:E.defers=a.defers)(hs:n≤E.tmps.size):Rel G base n w0 g0 st0 dl s' E w' g':=
 ⟨h.go1.trans M,N,h.gl.mono M.im,(let⟨ds,h1,h2⟩:=h.df; ⟨ds,hd.trans h1,h2.mono M.kp⟩),hs⟩
def R(G:DB)(base n:Nat)(w0:World)(g0:Ghost)(st0:St)(dl:List Deferred)(s:PS)(a:Act)(w:World):Prop:=∃ g,Rel G base n w0 g0 st0 dl s a w g
theorem Q9(a:Act)(dst:Option Tmp)(v:Value):(a.put dst v).tmps.size=a.tmps.size:=by cases dst <;> simp[Act.put]
theorem Qp(a:Act)(dst:Option Tmp)(v:Value):(a.put dst v).defers=a.defers:=by cases dst <;> rfl
theorem n6(hF:FR w g s.st s.fr a)(E:Nd P il n ops o=s_ i){b:Bool}(M:i.wanted s.fr=s_ b):Region.wanted o (yielded ops a.tmps)=b:=by
 unfold Nd at E
 split at E
 case isFalse=>cases E
 split at E
 ·rename_i hg;simp only[Dp]at E; subst E;simp only[PI.wanted,Dp]at M; subst M;simp[Region.wanted,hg]
 ·rename_i j want hg
  split at E
  case h_2=>cases E
  rename_i sl af;simp only[Dp]at E; subst E;simp only[PI.wanted]at M;have N:=hF sl
  have hy:yielded ops a.tmps j=(match a.tmps[sl]? with|some (.bool b)=>s_ b|_=>none):=by
   unfold yielded;grind
  simp only[Region.wanted,hg,hy]
  split at M
  ·rename_i bb hb;simp only[Dp]at M; subst M;rw[hb]at N;have hv:=Mm N
   have ah:sl<a.tmps.size:=by
    rcases A5 sl a.tmps.size with h|h
    ·exact h
    ·simp[Array.getElem?_eq_none h,undef]at hv
   simp_all
  ·rename_i hb;simp only[Dp]at M; subst M;rw[hb]at N;generalize hv:a.tmps.getD sl undef=v at N
   cases N with
   |tup _ vs h1 h2=>
    have h3:vs=[]:=AQ h1.symm;subst h3
    have h4:(match a.tmps[sl]? with|some (.bool b)=>s_ b|_=>none)=(none:Option Bool):=by
     rcases A5 sl a.tmps.size with h|h
     ·simp_all
     ·grind
    grind
  ·cases M
theorem Yap(M:Nd P il n ops o=s_ i):(DP P il o.op=s_ i.op∨i.op=.fail)∧i.dst=o.dst∧∀ t,o.dst=s_ t→t<n:=by
 have aa:∀ p,(DP P il o.op).getD .fail=p→DP P il o.op=s_ p∨p=.fail:=by
  intro p E
  cases h:DP P il o.op with
  |none=>rw[h]at E; exact .inr E.symm
  |some q=>rw[h]at E; exact .inl (by rw[← E]; rfl)
 unfold Nd at M
 split at M
 case isFalse=>cases M
 rename_i N
 have ab:∀ t,o.dst=s_ t→t<n:=by
  intro t h; rw[h]at N; simpa[fX]using N
 grind
theorem vO(hT:TblOK P G T)(hY:YOK P G T.y base w0 g0 st0){K:Act→World→Prop}(hR:R G base n w0 g0 st0 dl s a w)(ht:Nd P il n ops o=s_ i)(E:i.exec G T s=s_ s')
  (hK:∀ a' w',R G base n w0 g0 st0 dl s' a' w'→a'.defers=a.defers→K a' w'):if Region.wanted o (yielded ops a.tmps)then o.wpIn (Wr r) 0 P a w K Q else(∀ f,o.about P w a.eval=s_ f→(Wr r).fn f)∧K (a.put o.dst undef) w:=by
 obtain⟨g,h⟩:=hR;obtain⟨h1,h2,h3⟩:=Yap ht;have M:∀ t,i.dst=s_ t→t<a.tmps.size:=fun t e=>A3 (h3 t (h2 ▸ e)) h.sz;rw[PI.exec_eq]at E;simp only[D0]at E;obtain⟨⟨d,st'⟩,E,rfl⟩:=E;unfold PI.step at E
 split at E
 ·cases E
 ·rename_i hw;rw[n6 h.fr ht hw];simp only[Dp,DO]at E;obtain⟨rfl,rfl⟩:=E;simp only[Ao,if_false];refine⟨fun _ _=>trivial,hK _ _ ⟨g,h.go (Go1.refl h.sr) ?_ (Qp ..) (by rw[Q9]; exact h.sz)⟩ (Qp ..)⟩;rw[← h2];exact h.fr.put M (.tup [] [] rfl (fun i d v hh=>by simp at hh))
 ·rename_i hw;rw[n6 h.fr ht hw];simp only[if_true];have h1:=h1.resolve_right (fun e=>by rw[e]at E; simp[POp.exec]at E);refine Yuc hT hY h.go1 h.gl h.fr h1 E ?_;intro v w' g' N ae;refine hK _ _ ⟨g',h.go N ?_ (Qp ..) (by rw[Q9]; exact h.sz)⟩ (Qp ..);rw[← h2];exact(h.fr.mono N.im N.evo).put M ae
theorem VF(M:TblOK P G T)(N:YOK P G T.y base w0 g0 st0){K:Act→World→Prop}(hR:R G base n w0 g0 st0 dl s a w)(ht:Nd P il n ops o=s_ i)(hx:i.exec G T s=s_ s')
  (hK:∀ E w',R G base n w0 g0 st0 dl s' E w'→K E w'):if Region.wanted o (yielded ops a.tmps)then o.wpIn (Wr r) 0 P a w K Q else(∀ f,o.about P w a.eval=s_ f→(Wr r).fn f)∧K (a.put o.dst undef) w:=
 vO M N hR ht hx fun E w' h _=>hK E w' h
theorem vj(hT:TblOK P G T)(hY:YOK P G T.y base w0 g0 st0){ops:Array Oper}{Q:Exit→Act→World→Prop}:∀ (l:List Oper) (is:List PI) (s s':PS) (a:Act) (w:World),Gd P il n ops l=s_ is→Ft G T is s=s_ s'→R G base n w0 g0 st0 dl s a w→
  (∀ N w',R G base n w0 g0 st0 dl s' N w'→N.defers=a.defers→Q .normal N w')→wpListIn (Wr r) 0 P ops Q l a w
 |[],is,s,s',a,w,E,M,hR,hQ=>by
  simp[Gd]at E; subst E;simp[Ft]at M; subst M;exact hQ a w hR rfl
 |o::l,is,s,s',a,w,E,M,hR,hQ=>by
  simp only[Gd]at E
  split at E
  ·rename_i i ae h1 h2;simp only[Dp]at E; subst E;simp only[Ft]at M
   split at M
   ·rename_i s1 af;exact vO hT hY hR h1 af fun N w' ah a0=>vj hT hY l ae s1 s' N w' h2 M ah fun a2 w2 a1 a3=>hQ a2 w2 a1 (a3.trans a0)
   ·cases M
  ·cases E
theorem nr(hT:TblOK P G T)(hY:YOK P G T.y base w0 g0 st0){ops:Array Oper}{rest:List Oper}{Q:Exit→Act→World→Prop}:∀ (l:List Oper) (is:List PI) (s s':PS) (a:Act) (w:World),Gd P il n ops l=s_ is→Ft G T is s=s_ s'→R G base n w0 g0 st0 dl s a w→
  (∀ N w',R G base n w0 g0 st0 dl s' N w'→wpListIn (Wr r) 0 P ops Q rest N w')→wpListIn (Wr r) 0 P ops Q (l++rest) a w
 |[],is,s,s',a,w,E,M,hR,hQ=>by
  simp[Gd]at E; subst E;simp[Ft]at M; subst M;grind
 |o::l,is,s,s',a,w,E,M,hR,hQ=>by
  unfold Gd at E
  split at E
  ·rename_i i ae h1 h2;simp only[Dp]at E; subst E;simp only[Ft]at M
   split at M
   ·rename_i s1 af;exact VF hT hY hR h1 af fun N w' ah=>nr hT hY l ae s1 s' N w' h2 M ah hQ
   ·cases M
  ·cases E
theorem YO7(M:TblOK P G T)(N:YOK P G T.y base w0 g0 st0)(l:List Oper)(is:List PI)(s s':PS)(a:Act)(w:World)(ht:Gd P il n ops l=s_ is)(hx:Ft G T is s=s_ s')(hR:R G base n w0 g0 st0 dl s a w)
  (hQ:∀ E w',R G base n w0 g0 st0 dl s' E w'→Q .normal E w'):wpListIn (Wr r) 0 P ops Q l a w:=by have:=nr (r:=r) (rest:=[]) M N l is s s' a w ht hx hR hQ;grind
theorem yd{E M:PI}(h:iy P il n o1 o2=s_ (E,M)):∃ t e len parts d1 p,o1.op=.buildSlice t len parts∧o2.op=.convert t t (.tmp d1)∧o1.dst=s_ d1∧P.underlying t=s_ (.slice e)∧P.underlying e=s_ (.int .u8)∧d1<n∧(∀ x,o2.dst=s_ x→x<n)∧o1.guard=none∧o2.guard=none∧
  DP P il (.buildSlice t len parts)=s_ p∧E={dst:=s_ d1,op:=p}∧M={dst:=o2.dst,op:=.mov (.s d1)}:=by
 unfold iy at h
 split at h
 case h_2=>cases h
 rename_i t len parts s t' d d1 h1 h2 h3
 split at h
 case h_2=>cases h
 rename_i e hu
 split at h
 case h_2=>cases h
 rename_i N
 split at h
 case isFalse=>cases h
 rename_i hc;obtain⟨rfl,rfl,rfl,c1,c2,c3,c4⟩:=hc
 split at h
 case h_2=>cases h
 rename_i p hp;simp only[Dp,DO]at h;obtain⟨rfl,rfl⟩:=h;exact⟨_,e,len,parts,_,p,h1,h2,h3,hu,N,c1,fun x hx=>by rw[hx]at c2; simpa[fX]using c2,c3,c4,hp,rfl,rfl⟩
theorem Ybm{i1 i2:PI}{s1 s2:PS}{K:Act→World→Prop}(hR:R G base n w0 g0 st0 dl s a w)(ht:iy P il n o1 o2=s_ (i1,i2))(M:i1.exec G T s=s_ s1)(E:i2.exec G T s1=s_ s2)
  (hK:∀ N w',R G base n w0 g0 st0 dl s2 N w'→K N w'):Region.wanted o1 (yielded ops a.tmps)=t_∧(∀ tm,Region.wanted o2 (yielded ops tm)=t_)∧o1.wpIn (Wr r) 0 P a w (fun N w'=>o2.wpIn (Wr r) 0 P N w' K Q) Q:=by
 obtain⟨g,h⟩:=hR;obtain⟨t,e,len,parts,d1,p,h1,h2,h3,hu,a8,a9,ae,ba,bb,hp,rfl,rfl⟩:=yd ht;refine⟨by simp[Region.wanted,ba],fun tm=>by simp[Region.wanted,bb],?_⟩;rw[PI.exec_eq]at M E;simp only[PI.step,PI.wanted,D0]at M E;obtain⟨⟨d,st'⟩,M,rfl⟩:=M;obtain⟨⟨d',st2⟩,E,rfl⟩:=E;simp only[POp.exec,Dp,DO]at E;obtain⟨rfl,rfl⟩:=E;obtain⟨b2,b4,bc,ah,aa,ab⟩:=o1;obtain⟨a0,b5,ty2,pos2,after2,guard2⟩:=o2;simp only at h1 h2 h3 ae;subst h1; subst h2; subst h3;have af:d1<a.tmps.size:=A3 a9 h.sz
 have hw:=yXt (Q:=Q) (next2:=K) (d1:=d1) (d2:=a0) (ty:=bc) (ty2:=ty2) (pos:=ah) (pos2:=pos2) (after:=aa) (after2:=after2) (guard:=ab) (guard2:=guard2) h.sr h.gl h.fr hp hu a8 af M (fun v w' g' ac ad=>by
  refine hK _ _ ⟨g',h.go ac ?_ (by rw[Qp,Qp]) (by rw[Q9,Q9]; exact h.sz)⟩;have bd:=(h.fr.mono ac.im ac.evo).put (dst:=s_ d1) (a:=a) (fun t e=>by cases e; exact af) ad
  have be:DL G (s.fr.put (s_ d1) d) (.s d1)=d:=by
   show(if d1=d1 then d else s.fr d1)=d
   grind
  rw[be];exact bd.put (fun t e=>by rw[Q9]; exact A3 (ae t e) h.sz) ad)
 refine Rs (fun c e=>by cases e) ?_;refine Oper.wp_mono (fun N w' h'=>?_) hw;exact Rs (fun c e=>by cases e) h'
theorem Ul(hT:TblOK P G T)(hY:YOK P G T.y base w0 g0 st0){ops:Array Oper}{rest:List Oper}{Q:Exit→Act→World→Prop}:∀ (l:List Oper) (is:List PI) (s s':PS) (a:Act) (w:World),Lp P il n ops l=s_ is→Ft G T is s=s_ s'→R G base n w0 g0 st0 dl s a w→
  (∀ N w',R G base n w0 g0 st0 dl s' N w'→wpListIn (Wr r) 0 P ops Q rest N w')→wpListIn (Wr r) 0 P ops Q (l++rest) a w
 |[],is,s,s',a,w,M,E,hR,hQ=>by
  simp[Lp]at M; subst M;simp[Ft]at E; subst E;grind
 |[o],is,s,s',a,w,M,E,hR,hQ=>by
  simp only[Lp,D0]at M;obtain⟨i,h1,rfl⟩:=M;exact nr (il:=il) hT hY [o] [i] s s' a w (by simp[Gd,h1]) E hR hQ
 |o1::o2::l,is,s,s',a,w,M,E,hR,hQ=>by
  unfold Lp at M
  split at M
  ·rename_i i1 i2 hp;simp only[D0]at M;obtain⟨ac,h2,rfl⟩:=M;simp only[Ft]at E
   split at E
   case h_2=>cases E
   rename_i s1 ad
   split at E
   case h_2=>cases E
   rename_i s2 a2;obtain⟨e1,e2,e3⟩:=Ybm (r:=r) (ops:=ops) (Q:=Q) (K:=wpListIn (Wr r) 0 P ops Q (l++rest)) hR hp ad a2 (fun N w' ae=>Ul hT hY l ac s2 s' N w' h2 E ae hQ);simp only[Ag,wpListIn,e1,e2,if_true];exact e3
  ·split at M
   ·rename_i i ac h1 h2;simp only[Dp]at M; subst M;simp only[Ft]at E
    split at E
    ·rename_i s1 ad;exact VF hT hY hR h1 ad fun N w' ae=>Ul hT hY (o2::l) ac s1 s' N w' h2 E ae hQ
    ·cases E
   ·cases M
theorem nt(M:TblOK P G T)(N:YOK P G T.y base w0 g0 st0)(l:List Oper)(is:List PI)(s s':PS)(a:Act)(w:World)(ht:Lp P il n ops l=s_ is)(hx:Ft G T is s=s_ s')(hR:R G base n w0 g0 st0 dl s a w)
  (hQ:∀ E w',R G base n w0 g0 st0 dl s' E w'→Q .normal E w'):wpListIn (Wr r) 0 P ops Q l a w:=by have:=Ul (r:=r) (rest:=[]) M N l is s s' a w ht hx hR hQ;grind
theorem nH(hT:TblOK P G T){K:Act→World→Prop}(hR:R G base n w0 g0 st0 dl s a w)(ht:Nd P il n ops o=s_ i)(N:i.execX G T s=s_ (t,d,s'))
  (hQ:∀ w',R G base n w0 g0 st0 dl s' a w'→Q (.panic (Md t d)) a w'):Region.wanted o (yielded ops a.tmps)=t_∧o.wpIn (Wr r) 0 P a w K Q:=by
 obtain⟨g,h⟩:=hR;obtain⟨E,h2,h3⟩:=Yap ht;unfold PI.execX at N
 split at N
 case h_2=>cases N
 rename_i hw;refine⟨n6 h.fr ht hw,?_⟩;simp only[D0,DO]at N;obtain⟨⟨t',d',st'⟩,N,rfl,rfl,rfl⟩:=N;unfold POp.execX at N
 split at N
 case h_2=>cases N
 rename_i f ds M
 split at N
 case h_2=>cases N
 rename_i sp af
 have hinv:∃ c,o.op=.call c∧∃ vs:List Value,ds.length=vs.length∧(∀ (i:Nat) d v,ds[i]?=s_ d→vs[i]?=s_ v→RepV w g s.st d v)∧execOp a.eval o=callFunc f vs.toArray:=by
  obtain⟨dst,op,ty,pos,after,guard⟩:=o;rcases E with E|E
  case inr=>rw[E]at M; cases M
  simp only at E;generalize i.op=p at E M;clear ht h3 h2 hw hQ
  cases op with
  |call c=>
   refine⟨c,rfl,?_⟩;simp only[DP]at E
   split at E
   ·rename_i b hb;unfold fM at E
    repeat' split at E
    all_goals first|(cases E; done)|(cases E; cases M; done)|(simp only[Dp]at E; subst E; simp[POp.callee]at M; done)|(simp only[D0]at E; obtain⟨_,_,E⟩:=E; subst E; simp[POp.callee]at M; done)|skip
   ·rename_i f' aa
    split at E
    case h_2=>cases E
    rename_i fn l a7 hl
    split at E
    case isFalse=>
     split at E
     ·cases E
     ·simp only[Dp]at E; subst E; simp[POp.callee]at M
    simp only[Dp]at E
    split at E
    ·subst E; simp[POp.callee]at M
    split at E
    ·subst E; simp[POp.callee]at M
    ·split at E
     ·subst E;simp only[POp.callee,Dp,DO]at M;obtain⟨rfl,rfl⟩:=M;obtain⟨g1,g2⟩:=Qi (fun x pa h'=>G7 (G:=G) h.gl h.fr h') hl;refine⟨c.args.toList.map a.eval,by simpa using g1,g2,?_⟩;simp only[execOp,resolve,aa]
      have:(c.args.toList.map a.eval).toArray=c.args.map a.eval:=by
       grind
      rw[this]
      show(do let d ← (pure {target:=Target.fn (Fn.func f') #[],args:=#[]++c.args.map a.eval}:Sem Deferred); invoke d.target d.args)=_
      simp only[BU];rfl
     ·subst E; simp[POp.callee]at M
   ·rename_i x a8 aa
    split at E
    case h_2=>cases E
    rename_i pa l a0 hl;simp only[Dp]at E; subst E;exact nL (fun x pa h'=>G7 (G:=G) h.gl h.fr h') aa a0 hl M
   ·cases E
  |_=>
   exfalso; revert E; simp only[DP,gu,iw,dM]
   repeat' split
   all_goals first
    |(intro E; cases E; done)
    |(intro E; cases E; cases M; done)
    |(intro E; simp only[Dp]at E; subst E; simp[POp.callee]at M; done)
    |(intro E; simp only[D0]at E; obtain⟨_,_,E⟩:=E; subst E; simp[POp.callee]at M; done)
    |(intro _; contradiction)
 obtain⟨c,e1,vs,g1,g2,g3⟩:=hinv;refine Rs (fun c' e=>by rw[e1]at e; cases e) ?_;refine Ygg (hT.x f sp af) h.sr h.gl (ds:=ds) (vs:=vs) N g1 g2 g3 ?_;intro w' g' ab;exact hQ w' ⟨g',h.go ab (h.fr.mono ab.im ab.evo) rfl h.sz⟩
theorem nv(hT:TblOK P G T)(hY:YOK P G T.y base w0 g0 st0){ops:Array Oper}{Q:Exit→Act→World→Prop}{t:Nat}{d:D}:∀ (l:List Oper) (is:List PI) (s s':PS) (a:Act) (w:World),Lp P il n ops l=s_ is→Ko G T is s=s_ (t,d,s')→R G base n w0 g0 st0 dl s a w→
  (∀ a' w',R G base n w0 g0 st0 dl s' a' w'→Q (.panic (Md t d)) a' w')→wpListIn (Wr r) 0 P ops Q l a w
 |[],is,s,s',a,w,M,E,hR,hQ=>by
  simp[Lp]at M; subst M;simp[Ko]at E
 |[o],is,s,s',a,w,M,E,hR,hQ=>by
  simp only[Lp,D0]at M;obtain⟨i,h1,rfl⟩:=M;simp only[Ko]at E
  split at E
  ·cases E
  ·obtain⟨k1,k2⟩:=nH (r:=r) (ops:=ops) (K:=wpListIn (Wr r) 0 P ops Q []) hT hR h1 E (fun w' N=>hQ a w' N);simp only[wpListIn,k1,if_true];exact k2
 |o1::o2::l,is,s,s',a,w,M,E,hR,hQ=>by
  unfold Lp at M
  split at M
  ·rename_i i1 i2 hp;simp only[D0]at M;obtain⟨af,h2,rfl⟩:=M;simp only[Ko]at E;obtain⟨t',e,len,parts,d1,p,q1,q2,q3,hu,bb,bc,bd,be,bf,aa,rfl,rfl⟩:=yd hp
   split at E
   case h_2=>
    exfalso;simp only[PI.execX,PI.wanted,D0]at E;obtain⟨r,E,_⟩:=E;unfold POp.execX at E
    split at E
    case h_2=>cases E
    rename_i f ds a1;simp only[DP]at aa
    repeat' split at aa
    all_goals first|(cases aa; done)|(cases aa; cases a1; done)|(simp only[Dp]at aa; subst aa; simp[POp.callee]at a1; done)
   rename_i s1 ah
   split at E
   case h_2=>
    exfalso;simp[PI.execX,PI.wanted,POp.execX,POp.callee]at E
   rename_i s2 a7;obtain⟨e1,e2,e3⟩:=Ybm (r:=r) (ops:=ops) (Q:=Q) (K:=wpListIn (Wr r) 0 P ops Q l) hR hp ah a7 (fun a' w' N=>nv hT hY l af s2 s' a' w' h2 E N hQ);simp only[wpListIn,e1,e2,if_true];exact e3
  ·split at M
   ·rename_i i af h1 h2;simp only[Dp]at M; subst M;simp only[Ko]at E
    split at E
    ·rename_i s1 ah;exact VF hT hY hR h1 ah fun a' w' N=>nv hT hY (o2::l) af s1 s' a' w' h2 E N hQ
    ·obtain⟨k1,k2⟩:=nH (r:=r) (ops:=ops) (K:=wpListIn (Wr r) 0 P ops Q (o2::l)) hT hR h1 E (fun w' N=>hQ a w' N);simp only[wpListIn,k1,if_true];exact k2
   ·cases M
theorem YB8{x:PA}(hR:R G base n w0 g0 st0 dl s a w)(h1:o1.op=.makeInterface t xo)(h3:o1.dst=s_ d1)(h2:o2.op=.panic (.tmp d1))(a3:d1<n)
  (ad:o1.guard=none) (ae:o2.guard=none) {u:TypeDesc} (hu:P.underlying t=s_ u) (bc:∀ m,u≠.interface m) (hx:Ee xo=s_ x) (hi:Mt (DL G s.fr x)=t_)
  (hQ:∀ a',R G base n w0 g0 st0 dl ⟨s.fr.set d1 .junk,s.st⟩ a' w→Q (.panic (Md t (DL G s.fr x))) a' w):wpListIn (Wr r) 0 P ops Q [o1,o2] a w:=by
 obtain⟨g,h⟩:=hR;have hv:=Yia (G7 (G:=G) h.gl h.fr hx) hi;have af:d1<a.tmps.size:=A3 a3 h.sz;obtain⟨bb,bd,ah,M,E,a5⟩:=o1;obtain⟨N,be,ty2,pos2,after2,guard2⟩:=o2;simp only at h1 h2 h3 ad ae;subst h1; subst h2; subst h3; subst ad; subst ae;have w1:∀ tm,Region.wanted ({dst:=s_ d1,op:=.makeInterface t xo,type:=ah,pos:=M,after:=E,guard:=none}:Oper) (yielded ops tm)=t_:=fun tm=>by simp[Region.wanted]
 have w2:∀ tm,Region.wanted ({dst:=N,op:=.panic (.tmp d1),type:=ty2,pos:=pos2,after:=after2,guard:=none}:Oper) (yielded ops tm)=t_:=fun tm=>by simp[Region.wanted]
 simp only[wpListIn,w1,w2,if_true];refine Rs (fun c e=>by cases e) ?_;unfold Oper.wp
 have ab:(execOp a.eval {dst:=s_ d1,op:=.makeInterface t xo,type:=ah,pos:=M,after:=E,guard:=none}).run P w=.ok (.value (.iface t (Hj (DL G s.fr x)))) w:=by
  simp only[execOp,hv,Sem.run_bind,Instr.makeInterface,run_underlying hu,Result.andThen_ok];rfl
 rw[ab,Oper.upon_value];refine Rs (fun c e=>by cases e) ?_;unfold Oper.wp
 have a6:(a.put (s_ d1) (.iface t (Hj (DL G s.fr x)))).eval (.tmp d1)=.iface t (Hj (DL G s.fr x)):=by
  simp[Act.eval,Act.put,af]
 have ac:(execOp (a.put (s_ d1) (.iface t (Hj (DL G s.fr x)))).eval {dst:=N,op:=.panic (.tmp d1),type:=ty2,pos:=pos2,after:=after2,guard:=none}).run P w=.halt (.panic (.iface t (Hj (DL G s.fr x)))) w:=by
  simp only[execOp,a6,Sem.run_bind,Instr.panic];rfl
 rw[ac,Oper.upon_panic];refine hQ _ ⟨g,h.go (Go1.refl h.sr) ?_ (Qp ..) (by rw[Q9]; exact h.sz)⟩;exact h.fr.put (dst:=s_ d1) (fun t e=>by cases e; exact af) (.junk _)
theorem VG{ops:Array Oper}:∀ {l:List Oper} {is:List PI},Gd P il n ops l=s_ is→is.length=l.length∧∀ (k:Nat) o,l[k]?=s_ o→∃ i,is[k]?=s_ i∧Nd P il n ops o=s_ i
 |[],is,h=>by simp[Gd]at h; subst h; exact⟨rfl,fun k o h=>by simp at h⟩
 |o::l,is,h=>by
  unfold Gd at h
  split at h
  ·rename_i i M N E;simp only[Dp]at h; subst h;obtain⟨e1,e2⟩:=VG E;grind
  ·cases h
theorem yy:∀ (l:List Oper) (acc:List Nat),∃ r,FB l acc=acc++r
 |[],acc=>⟨[],by simp[FB]⟩
 |o::l,acc=>by
  obtain⟨r,h⟩:=yy l (acc++[(Ls o).foldl (fun m e=>m ||| (1 <<< e) ||| acc.getD e 0) 0]);exact⟨_,by rw[FB,h,Am]⟩
theorem wC(M:List Nat)(j:Nat):∀ (l:List Nat) (m:Nat),(l.foldl (fun m e=>m ||| (1 <<< e) ||| M.getD e 0) m).testBit j=t_→m.testBit j=t_∨∃ e∈l,j=e∨(M.getD e 0).testBit j=t_
 |[],m,h=>.inl h
 |e::l,m,h=>by
  rcases wC M j l _ h with E|⟨N,E,h2⟩
  ·simp only[Nat.testBit_or,Bh]at E;rcases E with(E|E)|E
   ·grind
   ·refine .inr ⟨e,by simp,.inl ?_⟩;rw[Nat.one_shiftLeft,Nat.testBit_two_pow]at E;grind
   ·grind
  ·grind
theorem wM:∀ (l:List Oper) (acc:List Nat) (i j:Nat) (o:Oper),l[i]?=s_ o→((FB l acc).getD (acc.length+i) 0).testBit j=t_→
  ∃ e∈Ls o,j=e∨(e<acc.length+i∧((FB l acc).getD e 0).testBit j=t_)
 |[],acc,i,j,o,h,_=>by simp at h
 |o'::l,acc,i,j,o,h,hb=>by
  cases i with
  |zero=>
   simp only[AG,Dp]at h;subst h;obtain⟨r,M⟩:=yy l (acc++[(Ls o').foldl (fun m e=>m ||| (1 <<< e) ||| acc.getD e 0) 0]);rw[FB,M]at hb ⊢;rw[B3,Am]at hb;simp only[Ai,List.singleton_append,AJ (AF _),BF,AG,Cr]at hb;rcases wC acc j _ 0 (by simpa[Ai]using hb)with E|⟨e,E,N⟩
   ·simp at E
   ·grind
  |succ i=>
   simp only[Bl]at h;have:=wM l (acc++[(Ls o').foldl (fun m e=>m ||| (1 <<< e) ||| acc.getD e 0) 0]) i j o h;simp only[Ac,List.length_singleton]at this;rw[show acc.length+1+i=acc.length+(i+1) by omega]at this;exact this hb
def N8(ops:List Oper)(listed:Array Bool):Prop:=∀ (i:Nat) o,ops[i]?=s_ o→listed.getD i f_=t_→∀ e∈Ls o,listed.getD e f_=t_
theorem oy{ops:List Oper}(hc:N8 ops listed):∀ (i:Nat) o,ops[i]?=s_ o→(∀ e∈Ls o,listed.getD e f_=t_)→∀ j,((FB ops []).getD i 0).testBit j=t_→listed.getD j f_=t_:=by
 intro i
 induction i using Nat.strongRecOn with
 |_ i ih=>
  intro o ho hd j hj;obtain⟨e,he,M⟩:=wM ops [] i j o ho (by simpa using hj);rcases M with rfl|⟨M,h2⟩
  ·grind
  ·simp only[Ar,Aq]at M;have N:=hd e he
   cases E:ops[e]? with
   |none=>
    have:ops.length≤e:=B0.1 E;grind
   |some oe=>exact ih e M oe E (hc e oe E N) j h2
def Ih(m:Nat)(listed:Array Bool):List Nat:=(C3 m).filter fun i=>!listed.getD i t_
theorem iM(h:dW ms l=t_){i j:Nat}{x y:PI}(M:l[j]?=s_ x)(N:l[i]?=s_ y)(E:j<i)(hm:(ms.getD i 0).testBit j=f_):x.apart y=t_:=by simp only[dW,Ah]at h;have h1:=h (y,i) (by rw[A8]; exact N);have h2:=h1 (x,j) (by rw[A8,BS,if_pos E]; exact M);grind
theorem yu{p:Nat→Bool}:∀ (m i:Nat),i<m→p i=t_→∃ l r,(C3 m).filter p=l++i::r∧(∀ j∈l,j<i∧p j=t_)∧(C3 m).filter (fun j=>p j && j != i)=l++r:=by
 intro m i hi E;refine⟨(C3 i).filter p,((List.range' (i+1) (m - (i+1))).filter p),?_,?_,?_⟩
 ·have:C3 m=C3 i++(i::List.range' (i+1) (m - (i+1))):=by
   rw[Bo,Bo,← B1,show m - (i+1)+1=m - i by omega];have:=List.range'_append_1 (s:=0) (m:=i) (n:=m - i);grind
  grind
 ·grind
 ·have:C3 m=C3 i++(i::List.range' (i+1) (m - (i+1))):=by
   rw[Bo,Bo,← B1,show m - (i+1)+1=m - i by omega];have:=List.range'_append_1 (s:=0) (m:=i) (n:=m - i);grind
  rw[this,List.filter_append,List.filter_cons];simp only[bne_self_eq_false,Cg,Ao,if_false]
  congr 1
  ·apply CM;intro j hj;simp only[AV]at hj;have:j≠i:=by omega
   simp[this]
  ·apply CM;intro j hj;simp only[List.mem_range'_1]at hj;have:j≠i:=by omega
   simp[this]
theorem Yd5(hT:TblOK P G T)(hY:YOK P G T.y base w0 g0 st0)(ht:Gd P il n ops ops.toList=s_ is)(ah:OP ops.toList=t_)(ae:Array Bool→PS→Prop)
  (a6:∀ (listed:Array Bool) (s:PS) (i:Nat) (o:Oper),listed.size=ops.size→N8 ops.toList listed→ae listed s→ops.toList[i]?=s_ o→i<ops.size→listed.getD i t_=f_→(∀ e∈Ls o,listed.getD e f_=t_)→
   (∃ s1,(is.getD i default).exec G T s=s_ s1∧ae (listed.setIfInBounds i t_) s1)∨∃ t d s1,(is.getD i default).execX G T s=s_ (t,d,s1)∧∀ a' w',R G base n w0 g0 st0 dl s1 a' w'→Q (.panic (Md t d)) a' w')
  (bb:∀ (listed:Array Bool) (s:PS),Ih ops.size listed=[]→ae listed s→∀ a' w',R G base n w0 g0 st0 dl s a' w'→Q .normal a' w') :
  ∀ (fuel:Nat) (listed:Array Bool) (s:PS) (a:Act) (w:World),listed.size=ops.size→(Ih ops.size listed).length≤fuel→N8 ops.toList listed→ae listed s→R G base n w0 g0 st0 dl s a w→
  wpAnyIn (Wr r) 0 P .any ops Q fuel listed a w:=by
 obtain⟨hlen,bc⟩:=VG ht;have b6:is.length=ops.size:=by simpa using hlen
 have aa:∀ (listed:Array Bool) (i:Nat),i∈Region.ready .any ops listed↔i∈Ih ops.size listed∧∀ o,ops.toList[i]?=s_ o→∀ e∈Ls o,listed.getD e f_=t_:=by
  intro listed i;simp only[Region.ready,Ih,Be,AV,Ad];constructor
  ·rintro⟨E,h2,h3⟩;refine⟨⟨E,h2⟩,fun o M e he=>?_⟩;rw[Cl]at M;simp only[M,Ae,Cr]at h3;simp only[Ls,A1,Be,Array.mem_toList_iff]at he;obtain⟨ed,⟨h4,h5⟩,rfl⟩:=he;have:=Array.all_eq_true'.1 h3 ed h4;grind
  ·rintro⟨⟨E,h2⟩,h3⟩;refine⟨E,h2,?_⟩;have M:ops.toList[i]?=s_ ops[i]:=by rw[Cl,BI E]
   rw[BI E];simp only[Ae,Cr];refine Array.all_eq_true'.2 fun ed bh=>?_
   by_cases hb:Region.binds .any ed=t_
   ·have:=h3 _ M ed.on (by simp only[Ls,A1,Be,Array.mem_toList_iff]; exact⟨ed,⟨bh,hb⟩,rfl⟩);simp[this]
   ·simp[hb]
 have b7:∀ (listed:Array Bool),Ih ops.size listed≠[]→Region.ready .any ops listed≠[]:=by
  intro listed b1 hr;obtain⟨i,r,a8⟩:=List.exists_cons_of_ne_nil b1;have hi:i∈Ih ops.size listed:=by rw[a8]; simp
  have N:i<ops.size∧listed.getD i t_=f_:=by
   simp only[Ih,Be,AV,AU]at hi; exact hi
  have cd:∀ e,e<i→listed.getD e t_=t_:=by
   intro e he
   by_cases h:listed.getD e t_=t_
   ·exact h
   ·exfalso;obtain⟨l,r',E,h2,_⟩:=yu (p:=fun i=>!listed.getD i t_) ops.size e (by omega) (by simpa using h);have h3:l++e::r'=i::r:=by rw[← E]; exact a8
    cases l with
    |nil=>simp at h3; omega
    |cons x l=>
     grind
  have:i∈Region.ready .any ops listed:=by
   rw[aa];refine⟨hi,fun o M e he=>?_⟩
   have ch:e<i:=by
    simp only[OP,Ah]at ah;have E:=ah (o,i) (by rw[A8]; exact M);grind
   grind
  grind
 intro fuel
 induction fuel with
 |zero=>
  intro listed s a w a2 hl hc hx hR;have h0:Ih ops.size listed=[]:=AQ (by omega);refine⟨?_,bb listed s h0 hx a w hR⟩;apply List.eq_nil_iff_forall_not_mem.2;grind
 |succ fuel ih=>
  intro listed s a w a2 hl hc hx hR;refine⟨fun hr=>?_,fun i hi=>?_⟩
  ·grind
  ·obtain⟨a9,b2⟩:=(aa listed i).1 hi
   have N:i<ops.size∧listed.getD i t_=f_:=by
    simp only[Ih,Be,AV,AU]at a9; exact a9
   have M:ops.toList[i]?=s_ ops[i]:=by rw[Cl,BI N.1]
   obtain⟨pi,b3,ba⟩:=bc i _ M;have a3:is.getD i default=pi:=by simp[Ai,b3]
   rcases a6 listed s i _ a2 hc hx M N.1 N.2 (b2 _ M)with⟨s1,ac,a4⟩|⟨t,d,s1,ac,a4⟩
   rotate_left
   ·rw[a3]at ac;obtain⟨k1,k2⟩:=nH (r:=r) (Q:=Q) (ops:=ops) (K:=wpAnyIn (Wr r) 0 P .any ops Q fuel (listed.setIfInBounds i t_)) hT hR ba ac (fun w' a5=>a4 a w' a5);unfold wpOpIn;grind
   rw[a3]at ac
   have bf:∀ q,(listed.setIfInBounds i t_).getD q f_=t_↔q=i∨listed.getD q f_=t_:=by
    intro q
    by_cases b4:q=i
    ·simp_all
    ·rcases A5 q listed.size with h5|h5
     ·simp[Array.getD,h5,b4,show ¬ i=q by omega]
     ·grind
   have b5:=VF (r:=r) (Q:=Q) (ops:=ops) (K:=wpAnyIn (Wr r) 0 P .any ops Q fuel (listed.setIfInBounds i t_)) hT hY hR ba ac (fun a' w' a5=>by
    refine ih (listed.setIfInBounds i t_) s1 a' w' (by simp[a2]) ?_ ?_ a4 a5
    ·obtain⟨l,r,E,h2,h3⟩:=yu (p:=fun i=>!listed.getD i t_) ops.size i N.1 (by simpa using N.2)
     have b8:Ih ops.size (listed.setIfInBounds i t_)=l++r:=by
      rw[← h3];simp only[Ih];grind
     have c0:Ih ops.size listed=l++i::r:=E;grind
    ·intro k o' hk af e he;rw[bf]at af ⊢;refine .inr ?_;rcases af with rfl|af
     ·grind
     ·exact hc k o' hk af e he)
   unfold wpOpIn;grind
theorem Yrh(hT:TblOK P G T)(hY:YOK P G T.y base w0 g0 st0)(ht:Gd P il n ops ops.toList=s_ is)(N:OP ops.toList=t_)(E:Array Bool→PS→Prop)
  (M:∀ (listed:Array Bool) (s:PS) (i:Nat) (o:Oper),listed.size=ops.size→N8 ops.toList listed→E listed s→ops.toList[i]?=s_ o→i<ops.size→listed.getD i t_=f_→(∀ e∈Ls o,listed.getD e f_=t_)→
   ∃ s1,(is.getD i default).exec G T s=s_ s1∧E (listed.setIfInBounds i t_) s1)
  (aa:∀ (listed:Array Bool) (s:PS),Ih ops.size listed=[]→E listed s→∀ a' w',R G base n w0 g0 st0 dl s a' w'→Q .normal a' w') :
  ∀ (fuel:Nat) (listed:Array Bool) (s:PS) (a:Act) (w:World),listed.size=ops.size→(Ih ops.size listed).length≤fuel→N8 ops.toList listed→E listed s→R G base n w0 g0 st0 dl s a w→
  wpAnyIn (Wr r) 0 P .any ops Q fuel listed a w:=
 Yd5 hT hY ht N E (fun listed s i o h1 h2 h3 h4 h5 h6 h7=>.inl (M listed s i o h1 h2 h3 h4 h5 h6 h7)) aa
theorem Ykr:∀ (l m:List Nat),l.Nodup→(∀ x∈l,x∈m)→m.length≤l.length→l.Perm m
 |[],m,_,_,h=>by
  grind
 |a::l,m,hn,E,h=>by
  have ha:a∈m:=E a (by simp);have hp:=List.perm_cons_erase ha;have M:=List.nodup_cons.1 hn
  have ih:=Ykr l (m.erase a) M.2 (fun x hx=>by
   have N:x∈a::m.erase a:=hp.mem_iff.1 (E x (by simp[hx]));rcases Ay.1 N with e|e
   ·grind
   ·exact e) (by
   grind)
  grind
def HV(is:List PI)(Z:List (Nat×Option Foot)):List (PI×Option Foot):=Z.map fun z=>(is.getD z.1 default,z.2)
def GN(listed:Array Bool)(Z:List (Nat×Option Foot)):List (Nat×Option Foot):=Z.filter fun z=>!listed.getD z.1 t_
def QZ(ms:List Nat)(is:List PI)(m:Nat)(bad:Option (Nat×Nat))(Z:List (Nat×Option Foot)):Prop:=
 (Z.map (·.1)).Nodup∧(∀ k,k<m→∃ f,(k,f)∈Z)∧
  Z.Pairwise fun x y=>(ms.getD y.1 0).testBit x.1=f_→bad≠s_ (x.1,y.1)→Kg (is.getD x.1 default,x.2) (is.getD y.1 default,y.2)
theorem uC{m:Nat}(hZ:QZ (FB ops.toList []) is m bad Z){i:Nat}
  (bf:listed.size=ops.size) (hc:N8 ops.toList listed) (hr:Iw G T (HV is (GN listed Z)) s sf) (ho:ops.toList[i]?=s_ o) (hi:i<ops.size) (a3:i<m) (bg:listed.getD i t_=f_) (hd:∀ e∈Ls o,listed.getD e f_=t_)
  (hb:∀ j,listed.getD j t_=f_→bad≠s_ (j,i)):∃ s1,(is.getD i default).exec G T s=s_ s1∧Iw G T (HV is (GN (listed.setIfInBounds i t_) Z)) s1 sf:=by
 obtain⟨z1,z2,z3⟩:=hZ;obtain⟨f,hf⟩:=z2 i a3
 have ah:(i,f)∈GN listed Z:=by
  simp only[GN,Be];grind
 obtain⟨l,r,E⟩:=List.append_of_mem ah;have ad:(GN listed Z).Pairwise fun x y=>((FB ops.toList []).getD y.1 0).testBit x.1=f_→bad≠s_ (x.1,y.1)→Kg (is.getD x.1 default,x.2) (is.getD y.1 default,y.2):=z3.filter _;rw[E]at ad
 have N:∀ x∈l,listed.getD x.1 t_=f_:=by
  intro x hx;have:x∈GN listed Z:=by rw[E]; simp[hx]
  simp only[GN,Be,AU]at this;exact this.2
 have ab:∀ x∈HV is l,Kg x (is.getD i default,f):=by
  intro x hx;simp only[HV,A1]at hx;obtain⟨z,M,rfl⟩:=hx;have h1:=(List.pairwise_append.1 ad).2.2 z M (i,f) (by simp);have h2:=N z M;refine h1 ?_ (hb _ h2)
  cases a4:((FB ops.toList []).getD i 0).testBit z.1 with
  |false=>rfl
  |true=>
   have h4:=oy hc i _ ho hd z.1 a4;grind
 have a5:HV is (GN listed Z)=HV is l++(is.getD i default,f)::HV is r:=by rw[E]; simp[HV]
 rw[a5]at hr;obtain⟨s1,h1,_,h2⟩:=YJw _ _ s sf ab hr;refine⟨s1,h1,?_⟩;have a6:((GN listed Z).map (·.1)).Nodup:=List.Nodup.sublist (List.Sublist.map _ (List.filter_sublist ..)) z1;rw[E,Bm,Aw]at a6
 have ae:∀ z∈l++r,z.1≠i:=by
  grind
 have ac:GN (listed.setIfInBounds i t_) Z=l++r:=by
  have e1:GN (listed.setIfInBounds i t_) Z=(GN listed Z).filter fun z=>z.1 != i:=by
   simp only[GN,List.filter_filter];apply CM;intro z _
   by_cases af:z.1=i
   ·simp_all
   ·rcases A5 z.1 listed.size with h5|h5
    ·simp[Array.getD,h5,af,show ¬ i=z.1 from fun e=>af e.symm]
    ·grind
  rw[e1,E,List.filter_append,List.filter_cons];simp only[bne_self_eq_false,Ao,if_false];rw[B2.2 (fun z M=>by simpa using ae z (List.mem_append_left _ M)),B2.2 (fun z M=>by simpa using ae z (List.mem_append_right _ M))]
 rw[ac];simpa[HV]using h2
theorem Q2(N:QZ (FB ops.toList []) is ops.size bad Z){i:Nat}
  (E:listed.size=ops.size) (hc:N8 ops.toList listed) (hr:Iw G T (HV is (GN listed Z)) s sf) (ho:ops.toList[i]?=s_ o) (hi:i<ops.size) (M:listed.getD i t_=f_) (hd:∀ e∈Ls o,listed.getD e f_=t_)
  (hb:∀ j,listed.getD j t_=f_→bad≠s_ (j,i)):∃ s1,(is.getD i default).exec G T s=s_ s1∧Iw G T (HV is (GN (listed.setIfInBounds i t_) Z)) s1 sf:=
 uC N E hc hr ho hi hi M hd hb
theorem lQ(E:∀ z∈Z,z.1<ops.size)(M:Ih ops.size listed=[]):HV is (GN listed Z)=[]:=by
 have:GN listed Z=[]:=by
  simp only[GN,List.filter_eq_nil_iff,AU];intro z N hl
  have h1:z.1∈Ih ops.size listed:=by
   simp only[Ih,Be,AV];grind
  grind
 rw[this]; rfl
theorem Yxw(hT:TblOK P G T)(hY:YOK P G T.y base w0 g0 st0)(ht:Gd P il n ops ops.toList=s_ is)(M:OP ops.toList=t_)(hZ:QZ (FB ops.toList []) is ops.size none Z)(N:∀ z∈Z,z.1<ops.size)
   (hQ:∀ a' w',R G base n w0 g0 st0 dl sf a' w'→Q .normal a' w') (fuel:Nat) (listed:Array Bool) (s:PS) (a:Act) (w:World) (ab:listed.size=ops.size) (hl:(Ih ops.size listed).length≤fuel) (hc:N8 ops.toList listed) (hr:Iw G T (HV is (GN listed Z)) s sf) (hR:R G base n w0 g0 st0 dl s a w) :
  wpAnyIn (Wr r) 0 P .any ops Q fuel listed a w:=by
 refine Yrh hT hY ht M (fun listed s=>Iw G T (HV is (GN listed Z)) s sf) ?_ ?_ fuel listed s a w ab hl hc hr hR
 ·intro listed s i o E h2 h3 h4 h5 h6 h7;exact Q2 hZ E h2 h3 h4 h5 h6 h7 (fun j _ h=>by cases h)
 ·intro listed s h0 E;rw[lQ N h0]at E;simp only[Iw]at E;grind
theorem w6:∀ (l:List PI) (s:PS) {t:Nat} {d:D} {s':PS},Ko G T l s=s_ (t,d,s')→∃ i s1,i<l.length∧Ft G T (l.take i) s=s_ s1∧(l.getD i default).execX G T s1=s_ (t,d,s')
 |[],s,t,d,s',h=>by simp[Ko]at h
 |i::l,s,t,d,s',h=>by
  simp only[Ko]at h
  split at h
  ·rename_i s1 E;obtain⟨k,s2,h1,M,N⟩:=w6 l s1 h;refine⟨k+1,s2,by simp; omega,?_,by simpa using N⟩;simp only[List.take_succ_cons,Ft,E];exact M
  ·exact⟨0,s,by simp,rfl,by simpa using h⟩
theorem Ynw{r:Nat×D×PS}(h:i.execX G T s=s_ r):R1 i.op=t_:=by
 unfold PI.execX at h
 split at h
 case h_2=>cases h
 simp only[D0]at h;obtain⟨x,h,_⟩:=h;unfold POp.execX at h
 split at h
 case h_2=>cases h
 rename_i f ds hc;unfold POp.callee at hc
 split at hc
 ·rename_i e; rw[e]; rfl
 ·rename_i e; rw[e]; rfl
 ·cases hc
theorem Ykv(h:NY ms l=t_){i:Nat}(hi:i<l.length)(M:R1 (l.getD i default).op=t_):(∀ j,j<i→(ms.getD i 0).testBit j=t_)∧∀ j,i<j→j<l.length→(ms.getD j 0).testBit i=t_:=by
 simp only[NY,Ah]at h;have E:l[i]?=s_ (l.getD i default):=by simp[Ai,hi]
 have N:=h (l.getD i default,i) (by rw[A8]; exact E);grind
theorem uD(hT:TblOK P G T)(hY:YOK P G T.y base w0 g0 st0)(ht:Gd P il n ops ops.toList=s_ is)(ad:OP ops.toList=t_){E:Nat}(b1:E<is.length)(o1:∀ j,j<E→((FB ops.toList []).getD E 0).testBit j=t_)(o2:∀ j,E<j→j<is.length→((FB ops.toList []).getD j 0).testBit E=t_)
  {F:List (Option Foot)} (b2:F.length=E) (b3:∀ (i j:Nat),j<i→i<E→((FB ops.toList []).getD i 0).testBit j=f_→Kg (is.getD j default,F.getD j none) (is.getD i default,F.getD i none))
    {s1:PS} (hr:Iw G T ((is.take E).zip F) s s1) (hp:(is.getD E default).execX G T s1=s_ (t,d,s')) (hQ:∀ a' w',R G base n w0 g0 st0 dl s' a' w'→Q (.panic (Md t d)) a' w') (listed:Array Bool) (a:Act) (w:World) (a2:listed.size=ops.size) (hu:∀ i,i<ops.size→listed.getD i t_=f_) (hR:R G base n w0 g0 st0 dl s a w) :
  wpAnyIn (Wr r) 0 P .any ops Q ops.size listed a w:=by
 have hlen:=(VG ht).1;have a6:is.length=ops.size:=by simpa using hlen
 let Z:List (Nat×Option Foot):=(C3 E).zip F
 have M:Z.map (·.1)=C3 E:=by
  show((C3 E).zip F).map (·.1)=_
  rw[List.map_fst_zip (by simp; omega)]
 have bb:∀ z∈Z,z.1<E:=fun z hz=>by
  have:z.1∈Z.map (·.1):=List.mem_map_of_mem hz;grind
 have hZ:QZ (FB ops.toList []) is E none Z:=by
  refine⟨by rw[M]; exact CQ,fun k hk=>?_,?_⟩
  ·have:k∈Z.map (·.1):=by rw[M]; exact AV.2 hk
   grind
  ·show List.Pairwise _ ((C3 E).zip F)
   rw[List.pairwise_iff_getElem];grind
 have ac:HV is (GN listed Z)=(is.take E).zip F:=by
  have e:GN listed Z=Z:=by
   simp only[GN,B2];grind
  rw[e]
  show HV is ((C3 E).zip F)=_
  unfold HV;apply Bj;grind
 refine Yd5 hT hY ht ad (fun listed s=>(∀ j,E≤j→j<ops.size→listed.getD j t_=f_)∧Iw G T (HV is (GN listed Z)) s s1) ?_ ?_ ops.size listed s a w a2 ?_ ?_ ⟨fun j _ hj=>hu j hj,by rw[ac]; exact hr⟩ hR
 ·rintro listed s i o N h2 ⟨h3,ab⟩ h4 h5 h6 h7;rcases Nat.lt_trichotomy i E with hi|hi|hi
  ·left
   obtain⟨s2,g1,g2⟩:=uC hZ N h2 ab h4 h5 hi h6 h7 (fun j _ h=>by cases h);refine⟨s2,g1,fun j hj a5=>?_,g2⟩;have:=h3 j hj a5;have b4:¬ i=j:=by omega
   simp_all
  ·right
   subst hi;have bg:∀ j,j<i→listed.getD j f_=t_:=fun j hj=>oy h2 i o h4 h7 j (o1 j hj)
   have ah:GN listed Z=[]:=by
    simp only[GN,List.filter_eq_nil_iff,AU];grind
   rw[ah]at ab;simp only[HV,Ba,Iw]at ab;grind
  ·exfalso;have h8:=oy h2 i o h4 h7 E (o2 i hi (by omega));have h9:=h3 E (AF _) (by omega);grind
 ·rintro listed s h0 ⟨N,_⟩;exfalso;have h2:=N E (AF _) (by omega)
  have:E∈Ih ops.size listed:=by
   simp only[Ih,Be,AV];grind
  grind
 ·unfold Ih;grind
 ·intro i o ho hi;have N:=(Ab.1 ho).1;have h2:=hu i (by simpa using N);grind
theorem Yxu(hT:TblOK P G T)(hY:YOK P G T.y base w0 g0 st0)(N:Gd P il n ops ops.toList=s_ is)(M:OP ops.toList=t_)(aa:dW (FB ops.toList []) is=t_)(ab:NY (FB ops.toList []) is=t_)
     (hx:Ko G T is s=s_ (t,d,s')) (hQ:∀ a' w',R G base n w0 g0 st0 dl s' a' w'→Q (.panic (Md t d)) a' w') (listed:Array Bool) (a:Act) (w:World) (ad:listed.size=ops.size) (hu:∀ i,i<ops.size→listed.getD i t_=f_) (hR:R G base n w0 g0 st0 dl s a w) :
  wpAnyIn (Wr r) 0 P .any ops Q ops.size listed a w:=by
 obtain⟨i0,s1,E,he,hp⟩:=w6 _ _ hx;have a1:is.length=ops.size:=by simpa using (VG N).1
 obtain⟨o1,o2⟩:=Ykv ab E (Ynw hp);obtain⟨F,hF,hr⟩:=Zv _ _ _ he;have af:F.length=i0:=by rw[hF,AA]; omega
 refine uD hT hY N M E o1 o2 af (fun i j ah hi hm=>?_) hr hp hQ listed a w ad hu hR;have h1:is[j]?=s_ (is.getD j default):=by simp[Ai,show j<is.length by omega]
 have h2:is[i]?=s_ (is.getD i default):=by simp[Ai,show i<is.length by omega]
 have h3:=iM aa h1 h2 ah hm;exact⟨S1 h3,.inl h3⟩
theorem Yfj{i:Nat}(h:rm ms l i=t_):i<l.length∧(∀ j,j<i→(ms.getD i 0).testBit j=t_)∧∀ j,i<j→j<l.length→(ms.getD j 0).testBit i=t_:=by simp only[rm,Ad,decide_eq_true_eq,Ah,AV,Bh,beq_iff_eq]at h;grind
theorem Yxv(hT:TblOK P G T)(hY:YOK P G T.y base w0 g0 st0)(ht:Gd P il n ops ops.toList=s_ is)(a8:OP ops.toList=t_){x y:Nat}(cb:x≠y)(hx:x<ops.size){Z1 Z2:List (Nat×Option Foot)}(ah:QZ (FB ops.toList []) is ops.size (s_ (x,y)) Z1)(a0:QZ (FB ops.toList []) is ops.size (s_ (y,x)) Z2)
  (a9:∀ z∈Z1,z.1<ops.size) (ba:∀ z∈Z2,z.1<ops.size)
  {sf1 sf2:PS} (cc:∀ a' w',R G base n w0 g0 st0 dl sf1 a' w'→Q .normal a' w') (cd:∀ a' w',R G base n w0 g0 st0 dl sf2 a' w'→Q .normal a' w') (fuel:Nat) (listed:Array Bool) (s:PS) (a:Act) (w:World) (bb:listed.size=ops.size) (hl:(Ih ops.size listed).length≤fuel) (hc:N8 ops.toList listed)
  (bc:listed.getD x t_=f_) (bd:listed.getD y t_=f_) (be:Iw G T (HV is (GN listed Z1)) s sf1) (bf:Iw G T (HV is (GN listed Z2)) s sf2) (hR:R G base n w0 g0 st0 dl s a w) :
  wpAnyIn (Wr r) 0 P .any ops Q fuel listed a w:=by
 refine Yrh hT hY ht a8 (fun listed s=>(listed.getD x t_=f_∧listed.getD y t_=f_∧Iw G T (HV is (GN listed Z1)) s sf1∧Iw G T (HV is (GN listed Z2)) s sf2)∨
  ((listed.getD x t_=t_∨listed.getD y t_=t_)∧Iw G T (HV is (GN listed Z1)) s sf1)∨((listed.getD x t_=t_∨listed.getD y t_=t_)∧Iw G T (HV is (GN listed Z2)) s sf2)) ?_ ?_ fuel listed s a w bb hl hc (.inl ⟨bc,bd,be,bf⟩) hR
 ·intro listed s i o M N h3 h4 h5 h6 h7
  have b9:∀ q,q≠i→(listed.setIfInBounds i t_).getD q t_=listed.getD q t_:=by
   intro q hq;rcases A5 q listed.size with h|h
   ·simp[Array.getD,h,show ¬ i=q from fun e=>hq e.symm]
   ·grind
  have b2:(listed.setIfInBounds i t_).getD i t_=t_:=by
   simp_all
  have b3:∀ q,listed.getD q t_=t_→(listed.setIfInBounds i t_).getD q t_=t_:=by
   grind
  rcases h3 with⟨a1,E,a3,a4⟩|⟨a1,E⟩|⟨a1,E⟩
  ·by_cases ey:i=y
   ·obtain⟨s1,k1,k2⟩:=Q2 a0 M N a4 h4 h5 h6 h7 (fun j _ h=>by
     grind)
    grind
   ·by_cases ex:i=x
    ·obtain⟨s1,k1,k2⟩:=Q2 ah M N a3 h4 h5 h6 h7 (fun j _ h=>by
      grind)
     grind
    ·obtain⟨s1,k1,k2⟩:=Q2 ah M N a3 h4 h5 h6 h7 (fun j _ h=>by
      grind)
     obtain⟨ce,k3,k4⟩:=Q2 a0 M N a4 h4 h5 h6 h7 (fun j _ h=>by
      grind)
     grind
  ·obtain⟨s1,k1,k2⟩:=Q2 ah M N E h4 h5 h6 h7 (fun j hj h=>by
    grind)
   grind
  ·obtain⟨s1,k1,k2⟩:=Q2 a0 M N E h4 h5 h6 h7 (fun j hj h=>by
    grind)
   grind
 ·intro listed s h0 M
  have cf:listed.getD x t_=t_:=by
   cases h:listed.getD x t_ with
   |true=>rfl
   |false=>
    have M:x∈Ih ops.size listed:=by
     simp only[Ih,Be,AV];grind
    grind
  rcases M with⟨a1,_⟩|⟨_,E⟩|⟨_,E⟩
  ·grind
  ·rw[lQ a9 h0]at E;simp only[Iw]at E;grind
  ·rw[lQ ba h0]at E;simp only[Iw]at E;grind
structure GoX (l:Nat) (base:Nat) (w:World) (g:Ghost) (st:St) (w':World) (g':Ghost) (st':St):Prop where
 sr:SR base w' g' st'
 evo:Evo g st g' st'
 im:ImLe w g w' g'
 new:∀ b o,g'.Im b o→g.Im b o∨base≤b
 below:Below base w w'
 kp:∀ (b:Nat) (o:Go.Obj),b≠l→w.heap[b]?=s_ o→special o=t_→Kept w' b o
theorem Go1.x(h:Go1 base w g st w' g' st')(l:Nat):GoX l base w g st w' g' st':=⟨h.sr,h.evo,h.im,h.new,h.below,fun b o _=>h.kp b o⟩
theorem GoX.trans{l:Nat}{w2:World}{g2:Ghost}{st2:St}(h:GoX l base w g st w1 g1 st1)(E:GoX l base w1 g1 st1 w2 g2 st2):GoX l base w g st w2 g2 st2:=
 ⟨E.sr,h.evo.trans E.evo,h.im.trans E.im,fun b o hb=>by
  rcases E.new b o hb with x|x
  ·exact h.new b o x
  ·exact .inr x,h.below.trans E.below,fun b o hl hb M=>(let⟨_,h1,N⟩:=h.kp b o hl hb M; let⟨o2,h3,h4⟩:=E.kp b _ hl h1 (N.special M); ⟨o2,h3,N.trans h4⟩)⟩
theorem GoX.fin{l:Nat}(h:GoX l base w g st w' g' st')(hl:∀ (o:Go.Obj),w.heap[l]?=s_ o→special o=t_→Kept w' l o):Go1 base w g st w' g' st':=
 ⟨h.sr,h.evo,h.im,h.new,h.below,fun b o hb E=>by
  by_cases e:b=l
  ·grind
  ·exact h.kp b o e hb E⟩
theorem GoX.put{l:Nat}{o o':Go.Obj}(M:SR base w g st)(ho:w.heap[l]?=s_ o)(hs:special o=t_)(a6:∃ ds,o=.deferred ds)(hl:base≤l):GoX l base w g st (w.putObj l o') g st:=by
 have N:∀ b x,g.Im b x→(w.putObj l o').cell? ⟨b,x,none⟩=w.cell? ⟨b,x,none⟩:=by
  intro b x hb
  have E:b≠l:=by
   rintro rfl;have:=M.im b x hb;unfold World.cell? at this;grind
  simp only[World.cell?,World.putObj_heap_other E]
 have hI:ImLe w g (w.putObj l o') g:=⟨fun b x hb=>⟨hb,N b x hb⟩,fun b x hb hx=>by
  have E:b≠l:=by
   rintro rfl;rw[ho]at hb;obtain rfl:=AE hb;cases o <;> first|(simp[NT]at hx; done)|(simp[special]at hs; done)
  rw[World.putObj_heap_other E]; exact hb⟩
 refine⟨⟨?_,?_,M.inj,?_,M.dis,by rw[World.putObj_size]; exact M.size⟩,Evo.refl _ _,hI,fun _ _ h=>.inl h,⟨rfl,rfl,rfl,by rw[World.putObj_size]; exact AF _,fun k hk=>World.putObj_heap_other (by omega)⟩,fun b o1 hb h1 _=>.same (by rw[World.putObj_heap_other hb]; exact h1)⟩
 ·intro k ob hk hm;have hm:=M.mp k ob hk hm;refine hm.mono hI (Evo.refl _ _) rfl (World.putObj_heap_other ?_);rintro rfl;obtain⟨x,hb,_,_,_,h5,_⟩:=hm.at;grind
 ·intro k ob hk hm;obtain⟨C,e,hb,aa,af,hx,hC,ah⟩:=M.blk k ob hk hm
  have E:g.β k≠l:=by
   grind
  refine⟨C,e,by rw[World.putObj_heap_other E]; exact hb,aa,af,hx,hC,fun i j d hd=>?_⟩;obtain⟨h1,v,h2,h3⟩:=ah i j d hd;exact⟨h1,v,h2,h3.mono hI (Evo.refl _ _)⟩
 ·intro b x hb;rw[N b x hb]; exact M.im b x hb
theorem YOK.mono{y:Nat→List D→St→Option (D×St)}(h:YOK P G y base w0 g0 st0)(M:Go1 base w0 g0 st0 w1 g1 st1):YOK P G y base w1 g1 st1:=
 fun l w g st st' ds vs d E=>h l w g st st' ds vs d (M.trans E)
theorem Yjf{x:List Deferred}{w:World}{g:Ghost}{st:St}:∀ (E:List Nat) (ds:List D) (vs:List Value) (fr:Frame) (tmps:Array Value),ds.length=E.length→ds.length=vs.length→(∀ p∈E,p<tmps.size)→FR w g st fr {tmps:=tmps,defers:=x}→
  (∀ (i:Nat) d v,ds[i]?=s_ d→vs[i]?=s_ v→RepV w g st d v)→
  FR w g st (PE fr E ds) {tmps:=(E.zip vs).foldl (fun tmps p=>tmps.setIfInBounds p.1 p.2) tmps,defers:=x}
 |[],ds,vs,fr,tmps,M,N,_,hF,_=>by
  simp only[List.zip_nil_left,List.foldl_nil]
  cases ds with
  |nil=>exact hF
  |cons d ds=>simp at M
 |p::E,ds,vs,fr,tmps,M,N,hp,hF,hr=>by
  cases ds with
  |nil=>simp at M
  |cons d ds=>
   cases vs with
   |nil=>simp at N
   |cons v vs=>
    simp only[List.zip_cons_cons,List.foldl_cons,PE];refine Yjf E ds vs _ _ (by simpa using M) (by simpa using N) (fun q hq=>?_) ?_ (fun i d v hd hv=>hr (i+1) d v (by simpa using hd) (by simpa using hv))
    ·grind
    ·exact FR.put (dst:=s_ p) (a:={tmps:=tmps,defers:=x}) hF (fun t ht=>by cases ht; exact hp p (by simp)) (hr 0 d v rfl rfl)
theorem rR:∀ (l:List (Nat×Value)) (tmps:Array Value),(l.foldl (fun tmps p=>tmps.setIfInBounds p.1 p.2) tmps).size=tmps.size
 |[],_=>rfl
 |p::l,tmps=>by rw[List.foldl_cons,rR l]; simp
theorem R.drew(h:R G base n w0 g0 st0 dl s a w):R G base n w0 g0 st0 dl s a {w with drawn:=w.drawn+1}:=by obtain⟨g,h⟩:=h;have E:=h.sr.drew (w.drawn+1);exact⟨g,h.go E (h.fr.mono E.im E.evo) rfl h.sz⟩
end
end Go.Proofs.YtijnglngaogdjaaGreatDoor.PI
namespace Go.Proofs.YtijnglngaogdjaaGreatDoor.PI
open Go Go.RowKit
variable {o o':Obj}{st st':St}{f j k key:Nat}{v:Value}{d:D}{g g':Ghost}{w w':World}{σ:List Nat}{ops:Array Oper}{vs:List Value}{fn:Func}{ds:List D}{F:PF}{hints:List (List Nat)}
section
variable {P:Program} {il:List Nat} {G:DB} {T:Tbl} {base n:Nat} {w0:World} {g0:Ghost} {st0:St} {dl:List Deferred} {ro:Option Nat}
theorem Ts{i:Nat}(h:st[i]?=s_ o)(hi:i<k):(cut k st)[i]?=s_ {o with els:=if o.row then o.els else o.els.map (H6 k)}:=by simp[cut,hi,h]
theorem U7{i:Nat}(h:(cut k st)[i]?=s_ o'):i<k∧∃ o,st[i]?=s_ o∧o'={o with els:=if o.row then o.els else o.els.map (H6 k)}:=by simp only[cut,AK,D0,BS]at h;grind
theorem U8(k:Nat)(o:Obj):(if o.row then o.els else o.els.map (H6 k)).length=o.els.length:=by grind
theorem Ybw(h:RepV w g st d v):RepV w g (cut k st) (H5 k d) v:=by
 cases h with
 |int k n=>exact .int k n
 |bool b=>exact .bool b
 |str s=>exact .str s
 |nilp=>exact .nilp
 |nilm=>exact .nilm
 |gmap es b ac clock E M N=>exact .gmap es b ac clock E M N
 |nilf=>exact .nilf
 |slcE sz t a cap h=>exact .slcE sz t a cap h
 |slc els t b off cap sz val E M N ad h4 h5 h6 h7=>exact RepV.pure (ImLe.refl _ _) (.slc els t b off cap sz val E M N ad h4 h5 h6 h7) rfl
 |clo f ds vs E M=>exact .junk _
 |row key tot off len o v h0 E M N h4=>
  simp only[H5]
  split
  ·rename_i hk;refine .row key tot off len _ v h0 (Ts E hk) M (by simpa[U8]using N) fun e=>?_;grind
  ·exact .junk _
 |bsl key off n sz ag o cap E M N h4=>
  simp only[H5]
  split
  ·rename_i hk; exact .bsl key off n sz ag _ cap (Ts E hk) M N h4
  ·exact .junk _
 |mapv key o E M=>
  simp only[H5]
  split
  ·rename_i hk; exact .mapv key _ (Ts E hk) M
  ·exact .junk _
 |ptr key off o E M N=>
  simp only[H5]
  split
  ·rename_i hk; exact .ptr key off _ (Ts E hk) M N
  ·exact .junk _
 |rptr key tot i off o v h0 E M N h4=>
  simp only[H5]
  split
  ·rename_i hk;refine .rptr key tot i off _ v h0 (Ts E hk) M (by simpa[U8]using N) fun e=>?_;grind
  ·exact .junk _
 |eptr el off b o val h0 E M=>exact RepV.eptr_any (ImLe.refl _ _) (.eptr el off b o val h0 E M)
 |agg ds vs E M=>exact .junk _
 |tup ds vs E M=>exact .junk _
 |junk v=>exact .junk v
theorem lX(h:RepV w g st d v):RepV w g (cut k st) (Hh k d) v:=by
 cases d with
 |clo f l=>
  cases h with
  |clo _ _ vs M N=>
   refine .clo f _ vs (by simpa using M) fun i d v E hv=>?_;simp only[AK,D0]at E;obtain⟨d0,h3,rfl⟩:=E;exact Ybw (N i d0 v h3 hv)
 |_=>exact Ybw h
theorem jm(h:RepV w g st d v):RepV w g (cut k st) (H6 k d) v:=by
 cases d with
 |agg l=>
  cases h with
  |agg _ vs M N=>
   refine .agg _ vs (by simpa using M) fun i d v E hv=>?_;simp only[AK,D0]at E;obtain⟨d0,h3,rfl⟩:=E;exact lX (N i d0 v h3 hv)
 |tup l=>exact .junk _
 |_=>exact lX h
theorem Yfu(k:Nat)(d:D):(Hh k d).cells=[Hh k d]:=by cases d <;> simp only[Hh,H5] <;> first|rfl|(split <;> rfl)
theorem xT{x:D}(h:x.cells=[x])(l:List D):x≠.agg l:=by rintro rfl;have h:l=[.agg l]:=h;have:=congrArg (fun l:List D=>SizeOf.sizeOf l) h;grind
theorem YKh(k:Nat)(h:d.cells=[d]):H6 k d=Hh k d:=by
 cases d with
 |agg l=>exact absurd rfl (xT h l)
 |_=>rfl
theorem nA(k:Nat)(h:d.cells=[d]):(H6 k d).cells=[H6 k d]:=by rw[YKh k h]; exact Yfu k d
theorem Ynz{E:D→D}(h1:∀ d v,RepV w g st d v→RepV w' g' st' (E d) v){l:List D}{sz:Nat}(hl:l.length=sz)(hs:1<sz){M N:Value}
  (hk:RepV w g st (Gs sz (.agg l)) M) (hv:RepV w g st (H8 sz (.agg l)) N):RepV w' g' st' (Gs sz (.agg (l.map E))) M∧RepV w' g' st' (H8 sz (.agg (l.map E))) N:=by
 constructor
 ·by_cases h2:sz=2
  ·subst h2
   match l,hl with
   |[a,b],_=>exact h1 _ _ hk
  ·have e:∀ l,Gs sz (.agg l)=.agg (l.take (sz - 1)):=fun l=>by simp[Gs,D.mk,h2]
   rw[e]at hk ⊢
   cases hk with
   |agg _ vs q1 q2=>
    rw[← B9];refine .agg _ vs (by simpa using q1) fun i d v hd hv=>?_;grind
 ·have hd:∃ x,l.drop (sz - 1)=[x]:=by
   have:(l.drop (sz - 1)).length=1:=by rw[AW]; omega
   match l.drop (sz - 1),this with
   |[x],_=>exact⟨x,rfl⟩
  obtain⟨x,hx⟩:=hd;simp only[H8,← Cx,hx]at hv ⊢;grind
theorem MapAt.mkRec{base:Nat}{b:Nat}(E:o.sz=1000003)(h:fV base w b o):MapAt base w g st b o:=by unfold MapAt; rwa [if_pos E]
theorem MapAt.mkOld{base:Nat}{b:Nat}(E:o.sz≠1000003)(h:MapAt0 base w g st b o):MapAt base w g st b o:=by unfold MapAt; rwa [if_neg E]
theorem YMo{base:Nat}(h:SR base w g st)(k:Nat):SR base w g (cut k st):=by
 refine⟨?_,?_,?_,h.im,?_,h.size⟩
 ·intro i o' hi hm;obtain⟨be,o,ho,rfl⟩:=U7 hi;have hm:o.isMap=t_:=hm;have E:o.row=f_:=mZ hm;have a8:=h.mp i o ho hm
  by_cases hs:o.sz=1000003
  ·obtain⟨r,n,a1,a2,a3,a4⟩:=a8.rec' hs;refine MapAt.mkRec hs ⟨r,n,a1,a2,by simp[E,a3,H6,Hh,H5],a4⟩
  obtain⟨es,clock,N,h2,h3,h4,h5,bg⟩:=a8.old hs;refine MapAt.mkOld hs ?_;refine⟨es,clock,N,h2,by rw[h3,U8],?_,?_,bg⟩
  ·intro x hx;simp only[E,Ao,if_false,A1]at hx;obtain⟨y,hy,rfl⟩:=hx;obtain⟨l,rfl,hl⟩:=h4 y hy;exact⟨_,rfl,by simpa using hl⟩
  ·intro j e el he a9;simp only[E,Ao,if_false,AK,D0]at a9;obtain⟨bh,ae,rfl⟩:=a9;obtain⟨l,rfl,hl⟩:=h4 bh (An ae);have h6:=h5 j e _ he ae;exact Ynz (fun d v h=>lX h) hl (lj hm) h6.1 h6.2
 ·intro i o' hi hm;obtain⟨be,o,ho,rfl⟩:=U7 hi;have hm:o.isMap=f_:=hm;obtain⟨C,e,hb,a5,bc,hx,M,af⟩:=h.blk i o ho hm;refine⟨C,e,hb,a5,bc,?_,?_,?_⟩
  ·intro x aa
   by_cases E:o.row=t_
   ·grind
   ·simp only[E,Ao,if_false,A1]at aa;simp only[E,Ao,if_false]at M;obtain⟨y,hy,rfl⟩:=aa;rw[nA k (M.2.2 y hy),M.2.1]; rfl
  ·by_cases E:o.row=t_
   ·grind
   ·simp only[E,Ao,if_false]at M ⊢;refine⟨by simpa using M.1,M.2.1,fun x aa=>?_⟩;simp only[A1]at aa;obtain⟨y,hy,rfl⟩:=aa;exact nA k (M.2.2 y hy)
  ·intro i' j d hd
   by_cases E:o.row=t_
   ·simp only[E,if_true]at hd;obtain⟨N,v,h2,h3⟩:=af i' j d hd;exact⟨N,v,h2,h3.pure (ImLe.refl _ _) (N E)⟩
   ·simp only[E,Ao,if_false]at hd M;obtain⟨e',he,hj⟩:=IF hd;simp only[AK,D0]at he;obtain⟨e0,ah,rfl⟩:=he;rw[nA k (M.2.2 e0 (An ah))]at hj
    have b3:j=0∧d=H6 k e0:=by
     grind
    obtain⟨rfl,rfl⟩:=b3;obtain⟨_,v,h2,h3⟩:=af i' 0 e0 (Ig ah (by rw[M.2.2 e0 (An ah)]; rfl));exact⟨fun e=>absurd e E,v,h2,jm h3⟩
 ·intro k1 k2 o1 o2 N h2 he;obtain⟨_,p1,q1,_⟩:=U7 N;obtain⟨_,p2,q2,_⟩:=U7 h2;exact h.inj _ _ _ _ q1 q2 he
 ·intro k1 o1 x N hi;obtain⟨_,p1,q1,rfl⟩:=U7 N;have:=h.dis _ _ _ q1 hi;grind
def Hg(n:Nat)(σ:List Nat)(j:Nat):Nat:=if j<n then j else σ.getD (j - n) 0
def Gi(n:Nat)(σ:List Nat)(g:Ghost):Ghost:={β:=fun j=>g.β (Hg n σ j),γ:=fun j=>g.γ (Hg n σ j),Im:=g.Im}
theorem xm:∀ (σ:List Nat) (b key j:Nat),QD σ b key=s_ j→b≤j∧σ[j - b]?=s_ key
 |[],_,_,_,h=>by cases h
 |k::r,b,key,j,h=>by
  simp only[QD]at h
  split at h
  ·grind
  ·obtain⟨E,M⟩:=xm r (b+1) key j h;grind
theorem SG{n:Nat}(h:Fi n σ key=s_ j):Hg n σ j=key∧(j<n∨(n≤j∧σ[j - n]?=s_ key)):=by
 unfold Fi at h
 split at h
 ·rename_i hk;simp only[Dp]at h;subst h;exact⟨by simp[Hg,hk],.inl hk⟩
 ·obtain⟨E,M⟩:=xm σ n key j h;exact⟨by simp[Hg,Nat.not_lt.2 E,Ai,M],.inr ⟨E,M⟩⟩
theorem Qb(n:Nat)(σ:List Nat)(o:Obj):(FD n σ o).els.length=o.els.length:=by simp only[FD]; split <;> simp
theorem SS{n:Nat}(hn:n≤st.length)(h:Fi n σ key=s_ j)(N:st[key]?=s_ o):(picked n σ st)[j]?=s_ (FD n σ o):=by
 obtain⟨M,E⟩:=SG h;have hl:((st.take n).map (FD n σ)).length=n:=by simp; omega
 rcases E with E|⟨E,h3⟩
 ·have:j=key:=by rw[← M]; simp[Hg,E]
  subst this;rw[picked,Av (by omega)];grind
 ·rw[picked,AJ (by omega),hl];grind
theorem Yfd{n:Nat}(hn:n≤st.length)(N:∀ k∈σ,k<st.length)(h:(picked n σ st)[j]?=s_ o') :
  ∃ o,st[Hg n σ j]?=s_ o∧o'=FD n σ o∧(j<n∨(n≤j∧σ[j - n]?=s_ (Hg n σ j))):=by
 have hl:((st.take n).map (FD n σ)).length=n:=by simp; omega
 rcases A5 j n with hj|hj
 ·rw[picked,Av (by omega)]at h;simp only[AK,BS,hj,if_true,D0]at h;obtain⟨o,E,M⟩:=h;exact⟨o,by simpa[Hg,hj]using E,M.symm,.inl hj⟩
 ·rw[picked,AJ (by omega),hl]at h;simp only[AK,D0]at h;obtain⟨k,E,M⟩:=h;have hk:=N k (An E);have hp:Hg n σ j=k:=by simp[Hg,Nat.not_lt.2 hj,Ai,E]
  grind
theorem Um{f:Nat→D}{o:Option Nat}(h:∀ j,o=s_ j→RepV w g st (f j) v):RepV w g st (JS f o) v:=by
 cases o with
 |none=>exact .junk _
 |some j=>exact h j rfl
theorem Ybb{n:Nat}(hn:n≤st.length)(h:RepV w g st d v):RepV w (Gi n σ g) (picked n σ st) (Hf n σ d) v:=by
 have hI:ImLe w g w (Gi n σ g):=⟨fun b o h=>⟨h,rfl⟩,fun _ _ h _=>h⟩
 cases h with
 |int k n=>exact .int k n
 |bool b=>exact .bool b
 |str s=>exact .str s
 |nilp=>exact .nilp
 |nilm=>exact .nilm
 |gmap es b ac clock E M N=>exact .gmap es b ac clock E M N
 |nilf=>exact .nilf
 |slcE sz t a cap h=>exact .slcE sz t a cap h
 |slc els t b off cap sz val E M N ae h4 h5 h6 h7=>exact RepV.pure hI (.slc els t b off cap sz val E M N ae h4 h5 h6 h7) rfl
 |clo f ds vs E M=>exact .junk _
 |row key tot off len o v h0 E M N h4=>
  refine Um fun j hj=>?_;refine .row j tot off len _ v h0 (SS hn hj E) M (by rw[Qb]; exact N) fun e=>?_;have:=h4 (by rw[Qb]at e; exact e);simp only[Gi,(SG hj).1];exact this
 |bsl key off m sz ag o cap E M N h4=>
  refine Um fun j hj=>?_;have:=RepV.bsl (w:=w) (g:=Gi n σ g) j off m sz ag _ cap (SS (σ:=σ) hn hj E) M N h4;simp only[Gi,(SG hj).1]at this;exact this
 |mapv key o E M=>
  refine Um fun j hj=>?_;have:=RepV.mapv (w:=w) (g:=Gi n σ g) j _ (SS (σ:=σ) hn hj E) M;simp only[Gi,(SG hj).1]at this;exact this
 |ptr key off o E M N=>
  refine Um fun j hj=>?_;have:=RepV.ptr (w:=w) (g:=Gi n σ g) j off _ (SS (σ:=σ) hn hj E) M N;simp only[Gi,(SG hj).1]at this;exact this
 |rptr key tot i off o v h0 E M N h4=>
  refine Um fun j hj=>?_;refine .rptr j tot i off _ v h0 (SS hn hj E) M (by rw[Qb]; exact N) fun e=>?_;have:=h4 (by rw[Qb]at e; exact e);simp only[Gi,(SG hj).1];exact this
 |eptr el off b o val h0 E M=>exact RepV.eptr_any hI (.eptr el off b o val h0 E M)
 |agg ds vs E M=>exact .junk _
 |tup ds vs E M=>exact .junk _
 |junk v=>exact .junk v
theorem lP{n:Nat}(hn:n≤st.length)(h:RepV w g st d v):RepV w (Gi n σ g) (picked n σ st) (EW n σ d) v:=by
 cases d with
 |clo f l=>
  cases h with
  |clo _ _ vs M N=>
   refine .clo f _ vs (by simpa using M) fun i d v E hv=>?_;simp only[AK,D0]at E;obtain⟨d0,h3,rfl⟩:=E;exact Ybb hn (N i d0 v h3 hv)
 |_=>exact Ybb hn h
theorem Yjv{n:Nat}(hn:n≤st.length)(h:RepV w g st d v):RepV w (Gi n σ g) (picked n σ st) (EO n σ d) v:=by
 cases d with
 |agg l=>
  cases h with
  |agg _ vs M N=>
   refine .agg _ vs (by simpa using M) fun i d v E hv=>?_;simp only[AK,D0]at E;obtain⟨d0,h3,rfl⟩:=E;exact lP hn (N i d0 v h3 hv)
 |tup l=>exact .junk _
 |_=>exact lP hn h
theorem Ye0(n:Nat)(σ:List Nat)(d:D):(EW n σ d).cells=[EW n σ d]:=by cases d <;> simp only[EW,Hf,JS] <;> first|rfl|(split <;> rfl)
theorem YJv(n:Nat)(σ:List Nat)(h:d.cells=[d]):EO n σ d=EW n σ d:=by
 cases d with
 |agg l=>exact absurd rfl (xT h l)
 |_=>rfl
theorem nd(n:Nat)(σ:List Nat)(h:d.cells=[d]):(EO n σ d).cells=[EO n σ d]:=by rw[YJv n σ h]; exact Ye0 n σ d
theorem vV(lo hi:Nat):∀ (l acc:List Nat),(acc.Nodup∧∀ k∈acc,lo≤k∧k<hi)→(Fc lo hi l acc).Nodup∧∀ k∈Fc lo hi l acc,lo≤k∧k<hi
 |[],_,h=>h
 |k::r,acc,h=>by
  simp only[Fc];refine vV lo hi r _ ?_;grind
theorem Yki{base:Nat}(h:SR base w g st){n:Nat}(hn:n≤st.length)(hd:σ.Nodup)(hσ:∀ k∈σ,n≤k∧k<st.length):SR base w (Gi n σ g) (picked n σ st):=by
 have inv:=fun {j:Nat} {o':Obj} (h:(picked n σ st)[j]?=s_ o')=>Yfd hn (fun k hk=>(hσ k hk).2) h;refine⟨?_,?_,?_,h.im,?_,h.size⟩
 ·intro i o' hi hm;obtain⟨o,ho,rfl,bd⟩:=inv hi;have hm:o.isMap=t_:=hm;have E:o.row=f_:=mZ hm;have a9:=h.mp _ o ho hm
  by_cases hs:o.sz=1000003
  ·obtain⟨r,n,a1,a2,a3,a4⟩:=a9.rec' hs;refine MapAt.mkRec hs ⟨r,n,a1,a2,by simp[FD,E,a3,EO,EW,Hf],a4⟩
  obtain⟨es,clock,h1,h2,h3,h4,h5,b1⟩:=a9.old hs;refine MapAt.mkOld hs ?_;refine⟨es,clock,h1,h2,by rw[h3,Qb],?_,?_,b1⟩
  ·intro x hx;simp only[FD,E,Ao,if_false,A1]at hx;obtain⟨y,hy,rfl⟩:=hx;obtain⟨l,rfl,hl⟩:=h4 y hy;exact⟨_,rfl,by rw[A7]; exact hl⟩
  ·intro j e el he ba;simp only[FD,E,Ao,if_false,AK,D0]at ba;obtain⟨b2,af,rfl⟩:=ba;obtain⟨l,rfl,hl⟩:=h4 b2 (An af);have h6:=h5 j e _ he af;exact Ynz (fun d v h=>lP hn h) hl (lj hm) h6.1 h6.2
 ·intro i o' hi hm;obtain⟨o,ho,rfl,bd⟩:=inv hi;have hm:o.isMap=f_:=hm;obtain⟨C,e,hb,a7,bf,hx,M,ah⟩:=h.blk _ o ho hm;refine⟨C,e,hb,a7,bf,?_,?_,?_⟩
  ·intro x N;simp only[FD]at N ⊢
   by_cases E:o.row=t_
   ·grind
   ·simp only[E,Ao,if_false,A1]at N;simp only[E,Ao,if_false]at M;obtain⟨y,hy,rfl⟩:=N;rw[nd n σ (M.2.2 y hy),M.2.1]; rfl
  ·simp only[FD]
   by_cases E:o.row=t_
   ·simp only[E,if_true]at M ⊢; exact M
   ·simp only[E,Ao,if_false]at M ⊢;refine⟨by simpa using M.1,M.2.1,fun x N=>?_⟩;simp only[A1]at N;obtain⟨y,hy,rfl⟩:=N;exact nd n σ (M.2.2 y hy)
  ·intro i' j d ab;simp only[FD]at ab ⊢
   by_cases E:o.row=t_
   ·simp only[E,if_true]at ab;obtain⟨h1,v,h2,h3⟩:=ah i' j d ab;exact⟨h1,v,h2,RepV.pure (g:=g) (g':=Gi n σ g) ⟨fun b o h=>⟨h,rfl⟩,fun _ _ h _=>h⟩ h3 (h1 E)⟩
   ·simp only[E,Ao,if_false]at ab M;obtain⟨e',he,hj⟩:=IF ab;simp only[AK,D0]at he;obtain⟨e0,a0,rfl⟩:=he;rw[nd n σ (M.2.2 e0 (An a0))]at hj
    have b5:j=0∧d=EO n σ e0:=by
     grind
    obtain⟨rfl,rfl⟩:=b5;obtain⟨_,v,h2,h3⟩:=ah i' 0 e0 (Ig a0 (by rw[M.2.2 e0 (An a0)]; rfl));exact⟨fun e=>absurd e E,v,h2,Yjv hn h3⟩
 ·intro k1 k2 o1 o2 h1 h2 he;obtain⟨p1,q1,_,r1⟩:=inv h1;obtain⟨p2,q2,_,r2⟩:=inv h2;have e:=h.inj _ _ _ _ q1 q2 he;rcases r1 with r1|⟨r1,s1⟩ <;> rcases r2 with r2|⟨r2,s2⟩
  ·simpa[Hg,r1,r2]using e
  ·have:=(hσ _ (An s2)).1;rw[← e]at this;simp only[Hg,r1,if_true]at this;omega
  ·have:=(hσ _ (An s1)).1;rw[e]at this;simp only[Hg,r2,if_true]at this;omega
  ·rw[e]at s1;have h3:=(List.getElem?_inj (Ab.1 s1).1 hd).1 (s1.trans s2.symm);omega
 ·intro k1 o1 x h1 hi;obtain⟨o,q1,rfl,_⟩:=inv h1;have:=h.dis _ _ _ q1 hi;exact⟨this.1,by rw[Qb]; exact this.2⟩
theorem jo{w:World}{g:Ghost}{st:St}{n:Nat}{σ:List Nat}(hn:n≤st.length){fr:Frame}{a:Act}(h:FR w g st fr a):∀ (keep:List Nat),FR w (Gi n σ g) (picked n σ st) (HC (keep.map fun q=>(q,EO n σ (fr q)))) a
 |[],_=>.junk _
 |q::r,s=>by
  simp only[Aw,HC]
  split
  ·rename_i e; subst e; exact Yjv hn (h s)
  ·exact jo hn h r s
theorem Evo.len(h:Evo g st g' st'):st.length≤st'.length:=by
 rcases A5 st'.length st.length with E|E
 ·obtain⟨o',M,_⟩:=h st'.length st[st'.length] (Aj E);grind
 ·exact E
theorem Evo.cut(h:Evo g st g' st')(hk:st.length≤k):Evo g st g' (PI.cut k st'):=by intro i o hi;obtain⟨o',E,M,N,h4,h5,h6⟩:=h i o hi;have:i<st.length:=(Ab.1 hi).1;exact⟨_,Ts E (by omega),M,N,by simpa[U8]using h4,fun e=>h5 (by simpa[U8]using e),h6⟩
theorem Go1.cut(h:Go1 base w g st w' g' st')(hk:st.length≤k):Go1 base w g st w' g' (PI.cut k st'):=
 ⟨YMo h.sr k,h.evo.cut hk,h.im,h.new,h.below,h.kp⟩
theorem Go1.picked(h:Go1 base w g st w' g' st'){n:Nat}(hk:st.length≤n)(hn:n≤st'.length)(M:σ.Nodup)(N:∀ k∈σ,n≤k∧k<st'.length):Go1 base w g st w' (Gi n σ g') (PI.picked n σ st'):=by
 refine⟨Yki h.sr hn M N,?_,⟨h.im.im,h.im.kp⟩,h.new,h.below,h.kp⟩;intro i o hi;obtain⟨o',h1,h2,h3,h4,h5,h6⟩:=h.evo i o hi;have ah:i<st.length:=(Ab.1 hi).1;have E:Hg n σ i=i:=by simp[Hg,show i<n by omega]
 refine⟨_,SS (key:=i) (j:=i) hn (by simp[Fi,show i<n by omega]) h1,h2,h3,by rw[Qb]; exact h4,fun e=>?_,fun e=>?_⟩
 ·simp only[Gi,E]; exact h5 (by rw[Qb]at e; exact e)
 ·simp only[Gi,E]; exact h6 e
theorem R.restrict{s:PS}{a:Act}{w:World}(h:R G base n w0 g0 st0 dl s a w)(keep:List Nat)(k:Nat)(hk:st0.length≤k):R G base n w0 g0 st0 dl (restrict keep k s) a w:=by
 obtain⟨g,h⟩:=h;unfold PI.restrict;generalize hm:(if k≤s.st.length then k else s.st.length)=m;have E:m≤s.st.length:=by rw[← hm]; split <;> omega
 have N:st0.length≤m:=by
  have:=h.go1.evo.len;grind
 generalize hl:Fc m s.st.length (UO keep m s) []=σ;have M:=vV m s.st.length (UO keep m s) [] ⟨List.nodup_nil,fun _ h=>by cases h⟩;rw[hl]at M;exact⟨Gi m σ g,h.go1.picked N E M.1 M.2,jo E h.fr keep,h.gl.mono ⟨fun b o h=>⟨h,rfl⟩,fun _ _ h _=>h⟩,h.df,h.sz⟩
theorem vI{w:World}{g:Ghost}{st:St}{fr:Frame}{a:Act}(h:FR w g st fr a):∀ (keep:List Nat),FR w g st (HC (keep.map fun q=>(q,fr q))) a
 |[],_=>.junk _
 |q::r,s=>by
  simp only[Aw,HC]
  split
  ·rename_i e; subst e; exact h s
  ·exact vI h r s
theorem R.keepAll{s:PS}{a:Act}(h:R G base n w0 g0 st0 dl s a w)(keep:List Nat):R G base n w0 g0 st0 dl (PI.keepAll keep s) a w:=by obtain⟨g,h⟩:=h;exact⟨g,h.go1,vI h.fr keep,h.gl,h.df,h.sz⟩
theorem R.restrictAt{s:PS}{a:Act}{w:World}(h:R G base n w0 g0 st0 dl s a w)(keep:List Nat)(m:Nat)(σ:List Nat)(E:m≤s.st.length)(M:st0.length≤m)(N:σ.Nodup)(hσ:∀ k∈σ,m≤k∧k<s.st.length):R G base n w0 g0 st0 dl (restrictAt keep m σ s) a w:=by obtain⟨g,h⟩:=h;exact⟨Gi m σ g,h.go1.picked M E N hσ,jo E h.fr keep,h.gl.mono ⟨fun b o h=>⟨h,rfl⟩,fun _ _ h _=>h⟩,h.df,h.sz⟩
theorem Yx0{l:List PI}{bad:Option (Nat×Nat)}{E:List Nat}(N:Qs ops.size E=t_){F:List (Option Foot)}(hF:F.length=E.length)
  (hp:∀ (p q i j:Nat),q<p→E[p]?=s_ i→E[q]?=s_ j→((FB ops.toList []).getD i 0).testBit j=f_→bad≠s_ (j,i)→Kg (l.getD j default,F.getD q none) (l.getD i default,F.getD p none)) :
  QZ (FB ops.toList []) l ops.size bad (E.zip F)∧(∀ z∈E.zip F,z.1<ops.size)∧(∀ (listed:Array Bool),(∀ i,i<ops.size→listed.getD i t_=f_)→HV l (GN listed (E.zip F))=(E.map fun k=>l.getD k default).zip F):=by
 simp only[Qs,Ad,beq_iff_eq,Ah,AV]at N;obtain⟨h1,h2⟩:=N;have ab:∀ x∈C3 ops.size,x∈E:=fun x hx=>by simpa using h2 x (AV.1 hx)
 have M:E.Perm (C3 ops.size):=(Ykr _ _ CQ ab (by rw[List.length_range]; omega)).symm;have ac:E.Nodup:=M.nodup_iff.2 CQ;have ad:∀ k∈E,k<ops.size:=fun k hk=>AV.1 (M.mem_iff.1 hk)
 have aa:(E.zip F).map (·.1)=E:=by
  rw[List.map_fst_zip (by omega)]
 refine⟨⟨by rw[aa]; exact ac,?_,?_⟩,?_,?_⟩
 ·grind
 ·rw[List.pairwise_iff_getElem];grind
 ·intro z hz;exact ad z.1 (by rw[← aa]; exact List.mem_map_of_mem hz)
 ·intro listed hu
  have:GN listed (E.zip F)=E.zip F:=by
   simp only[GN,B2];grind
  rw[this,HV];apply Bj;grind
def MM:Ex→Exit
 |.next=>.normal
 |.exit id=>.exit id
 |.ret=>.ret
 |.panic t d=>.panic (Md t d)
theorem Ylq(hT:TblOK P G T)(hY:YOK P G T.y base w0 g0 st0){id:Nat}{bf:Bool}{h:List (List Nat)}{r:PC×List (List Nat)}(M:Ik P il n h (.region id ops bf)=s_ r){fuel:Nat}{s s':PS}{e:Ex}(E:r.1.exec G T fuel s=s_ (e,s'))
  {a:Act}  (hR:R G base n w0 g0 st0 dl s a w) {Q:Exit→Act→World→Prop} (hQ:∀ a' w',R G base n w0 g0 st0 dl s' a' w'→Q (MM e) a' w'):(Code.region id ops bf).wpIn (Wr ro) 0 P Q a w:=by
 have b5:∀ l',r.1=.ops l'→e=.next∧Ft G T l' s=s_ s':=by
  intro l' h1;rw[h1]at E;simp only[PC.exec]at E;grind
 unfold Ik at M
 cases bf with
 |false=>
  simp only[Ao,if_false]at M
  split at M
  ·rename_i pre d1 t xo hp;obtain⟨o1,o2,hl,h1,h3,h2,de,df,dg,u,hu,dh⟩:=Yef hp
   split at M
   case h_2=>
    simp only[Dp]at M;subst M;simp[PC.exec]at E
   rename_i l x b7 d0;simp only[Dp]at M;subst M;simp only[PC.exec]at E
   split at E
   case h_2=>cases E
   rename_i s1 N
   split at E
   case isFalse=>cases E
   rename_i hi;simp only[Dp,DO]at E;obtain⟨rfl,rfl⟩:=E;refine wpIn_region_list ?_;rw[hl];exact Ul hT hY _ _ _ _ _ _ b7 N hR fun a' w' bb=>YB8 bb h1 h3 h2 de df dg hu dh d0 hi (fun d2 c9=>hQ d2 w' c9)
  ·simp only[D0]at M;obtain⟨l,hl,rfl⟩:=M
   by_cases ae:l.any (TN il)=t_
   ·simp only[ae,if_true,PC.exec]at E
    split at E
    ·rename_i s1 N;simp only[Dp,DO]at E;obtain⟨rfl,rfl⟩:=E;exact wpIn_region_list (nt hT hY _ _ _ _ _ _ hl N hR hQ)
    ·simp only[D0,DO]at E;obtain⟨⟨t,d,s2⟩,E,rfl,rfl⟩:=E;exact wpIn_region_list (nv hT hY _ _ _ _ _ _ hl E hR hQ)
   ·obtain⟨rfl,hs⟩:=b5 l (by simp only[ae,if_false,Ao]);exact wpIn_region_list (nt hT hY _ _ _ _ _ _ hl hs hR hQ)
 |true=>
  simp only[if_true]at M
  split at M
  case h_2=>cases M
  rename_i l hl;have hlen:=(VG hl).1;have b7:l.length=ops.size:=by simpa using hlen
  have hu:∀ i,i<ops.size→(C9 ops.size f_).getD i t_=f_:=by
   simp_all
  have h0:(Ih ops.size (C9 ops.size f_)).length≤ops.size:=by
   unfold Ih;grind
  have c4:N8 ops.toList (C9 ops.size f_):=by
   intro i o _ hi;grind
  have bc:Qs ops.size (C3 ops.size)=t_:=by simp[Qs]
  have k7:(C3 ops.size).map (fun k=>l.getD k default)=l:=by
   apply Bj;grind
  have bh:∀ (F:List (Option Foot)),F.length=l.length→Iw G T (l.zip F) s s'→e=.next→P.follows .mixedOrders=t_→OP ops.toList=t_→
    (∀ (i j:Nat) (x y:PI),l[j]?=s_ x→l[i]?=s_ y→j<i→((FB ops.toList []).getD i 0).testBit j=f_→Kg (x,F.getD j none) (y,F.getD i none))→(Code.region id ops t_).wpIn (Wr ro) 0 P Q a w:=by
   intro F hF hs he da db hp;subst he
   obtain⟨k1,k2,k3⟩:=Yx0 (l:=l) (bad:=none) bc (F:=F) (by simp[hF,b7]) (fun p q i j k8 hi hj hm _=>by
    have k9:=(Ab.1 hi).1;grind)
   refine wpIn_region_any da (Yxw hT hY hl db k1 k2 hQ ops.size _ s a _ (by simp) h0 c4 ?_ hR.drew);grind
  split at M
  case isFalse=>
   simp only[Dp]at M;subst M;simp[PC.exec]at E
  rename_i hc;simp only[Ad]at hc
  have d6:∀ (x y:Nat) (keep:List Nat) (q1 q2:List (PI×Bool×List Nat)),Pl (FB ops.toList []) l (s_ (x,y)) (C3 ops.size)=s_ q1→Pl (FB ops.toList []) l (s_ (y,x)) (MH (FB ops.toList []) ops.size x y)=s_ q2→
    Qs ops.size (MH (FB ops.toList []) ops.size x y)=t_→x≠y→(∀ k,k=x∨k=y→k<ops.size)→PC.exec G T fuel (.any2 keep q1 q2) s=s_ (e,s')→(Code.region id ops t_).wpIn (Wr ro) 0 P Q a w:=by
   intro x y keep q1 q2 b8 b9 ac ca b2 hz;simp only[PC.exec]at hz
   split at hz
   case h_2=>cases hz
   rename_i s1 s2 N b3;simp only[D0,DO]at hz;obtain⟨s3,hz,rfl,rfl⟩:=hz;unfold gv at hz
   split at hz
   case isFalse=>cases hz
   rename_i cg;obtain⟨ma,mb,heq⟩:=cg;simp only[Dp]at hz;subst hz
   have hk:st0.length≤s.st.length:=by
    obtain⟨g,hg⟩:=hR;exact hg.go1.evo.len
   have alt:∀ (bad:Nat×Nat) (ord:List Nat) (q:List (PI×Bool×List Nat)) (sq:PS),Qs ops.size ord=t_→Pl (FB ops.toList []) l (s_ bad) ord=s_ q→HK G T q [] s=s_ sq→
     ∃ Z,QZ (FB ops.toList []) l ops.size (s_ bad) Z∧(∀ z∈Z,z.1<ops.size)∧Iw G T (HV l (GN (C9 ops.size f_) Z)) s sq:=by
    intro bad ord q sq ho hq d7;obtain⟨p1,p2,p3⟩:=Yah hq;obtain⟨F,hF,hr,bd⟩:=Zf q [] s sq d7
    obtain⟨k1,k2,k3⟩:=Yx0 (l:=l) (bad:=s_ bad) ho (F:=F) (by rw[hF,p1]) (fun p r i j mc hi hj hm hb=>by
     obtain⟨b,e1,e2⟩:=p3 p i hi;have c5:ord.getD r 0=j:=by simp[Ai,hj]
     by_cases aa:(l.getD j default).apart (l.getD i default)=t_
     ·exact⟨S1 aa,.inl aa⟩
     ·have b1:r∈Qr (FB ops.toList []) l (s_ bad) ord p i:=by
       simp only[Qr,Be,AV,c5,hm,Ax,Bb,Ad,AU,beq_eq_false_iff_ne];grind
      obtain⟨f,g,a1,a2,a3⟩:=bd p _ e1 r b1
      have a4:F[r]?=s_ (s_ f):=by
       grind
      have bc:=e2 r b1;rw[c5]at bc;refine⟨bc,.inr ⟨f,g,?_,?_,a2⟩⟩
      ·grind
      ·grind)
    grind
   obtain⟨Z1,z1,d8,r1⟩:=alt (x,y) _ q1 s1 bc b8 N;obtain⟨Z2,z2,d9,r2⟩:=alt (y,x) _ q2 s2 ac b9 b3;refine wpIn_region_any hc.1 (Yxv hT hY hl hc.2 ca (b2 x (.inl rfl)) z1 z2 d8 d9 (sf1:=s1) (sf2:=s2) ?_ ?_ ops.size _ s a _ (by simp) h0 c4 (hu x (b2 x (.inl rfl))) (hu y (b2 y (.inr rfl))) r1 r2 hR.drew)
   ·intro a' w' bb;exact hQ a' w' (bb.restrictAt keep s.st.length [s.st.length,s.st.length+1] (by omega) hk (by simp) (by simp; omega))
   ·intro a' w' bb;rw[← heq]at hQ;exact hQ a' w' (bb.restrictAt keep s.st.length [s.st.length+1,s.st.length] (by omega) hk (by simp) (by simp; omega))
  split at M
  ·rename_i aa;simp only[Dp]at M;subst M
   by_cases ae:(l.any (TN il) && NY (FB ops.toList []) l)=t_
   ·simp only[ae,if_true,PC.exec]at E;simp only[Ad]at ae
    split at E
    ·rename_i s1 N;simp only[Dp,DO]at E;obtain⟨rfl,rfl⟩:=E;obtain⟨F,hF,hr⟩:=Zv l s s1 N;refine bh F hF hr rfl hc.1 hc.2 fun i j x y E hy be hm=>?_;have h1:=iM aa E hy be hm;exact⟨S1 h1,.inl h1⟩
    ·simp only[D0,DO]at E;obtain⟨⟨t,d,s2⟩,E,rfl,rfl⟩:=E;exact wpIn_region_any hc.1 (Yxu hT hY hl hc.2 aa ae.2 E hQ _ a _ (by simp) hu hR.drew)
   obtain⟨rfl,hs⟩:=b5 l (by simp only[ae,if_false,Ao]);obtain⟨F,hF,hr⟩:=Zv l s s' hs;refine bh F hF hr rfl hc.1 hc.2 fun i j x y E hy be hm=>?_;have h1:=iM aa E hy be hm;exact⟨S1 h1,.inl h1⟩
  ·split at M
   ·rename_i x y ah
    split at M
    case h_2=>
     simp only[Dp]at M;subst M;simp[PC.exec]at E
    rename_i keep h' q1 q2 b8 b9
    split at M
    case isFalse=>
     simp only[Dp]at M;subst M;simp[PC.exec]at E
    rename_i ac;simp only[Ad,bne_iff_ne,ne_eq]at ac;obtain⟨ac,ca⟩:=ac;simp only[Dp]at M;subst M
    have b2:∀ k,k=x∨k=y→k<ops.size:=by
     intro k hk;simp only[Yq8]at ah
     split at ah
     ·rename_i p hp;simp only[Dp]at ah;subst ah;have b1:(x,y)∈l.zipIdx.flatMap fun yi=>((l.take yi.2).zipIdx.filter fun xj=>xj.1.op.push && yi.1.op.push && !(((FB ops.toList []).getD yi.2 0).testBit xj.2)).map fun xj=>(xj.2,yi.2):=by rw[hp]; simp
      grind
     ·cases ah
    grind
   split at M
   case h_2=>
    simp only[Dp]at M;subst M;simp[PC.exec]at E
   rename_i q hq
   have h6:PC.exec G T fuel (.any q) s=s_ (e,s')→(Code.region id ops t_).wpIn (Wr ro) 0 P Q a w:=by
    intro hz;simp only[PC.exec]at hz
    split at hz
    case h_2=>cases hz
    rename_i s1 N;simp only[Dp,DO]at hz;obtain⟨rfl,rfl⟩:=hz;obtain⟨q1,q2,q3⟩:=v9 hq;obtain⟨F,hF,hr,bd⟩:=Zf q [] s s1 N;rw[q2]at hr;refine bh F (by rw[hF,q1]) hr rfl hc.1 hc.2 fun i j x y E hy be hm=>?_;obtain⟨b,h1,h2⟩:=q3 i y hy;have c6:l.getD j default=x:=by simp[Ai,E]
    by_cases aa:x.apart y=t_
    ·exact⟨S1 aa,.inl aa⟩
    ·have hj:j∈I9 (FB ops.toList []) l i y:=by
      simp only[I9,Be,AV,hm,c6,Ax,Bb];grind
     obtain⟨f,g,e1,e2,e3⟩:=bd i _ h1 j hj
     have e4:F[j]?=s_ (s_ f):=by
      simp_all
     refine⟨by rw[← c6]; exact h2 j hj,.inr ⟨f,g,?_,?_,e2⟩⟩
     ·grind
     ·grind
   split at M
   ·rename_i md
    split at M
    case h_2=>
     simp only[Dp]at M;subst M;simp[PC.exec]at E
    rename_i keep h';simp only[Dp]at M;subst M
    have h7:∀ (ps:List (Nat×Nat)),PC.exec G T fuel (LJ keep (FB ops.toList []) l ops.size ps) s=s_ (e,s')→(Code.region id ops t_).wpIn (Wr ro) 0 P Q a w:=by
     intro ps
     induction ps with
     |nil=>intro E; simp[LJ,PC.exec]at E
     |cons p ps ih=>
      obtain⟨x,y⟩:=p;intro E;unfold LJ at E
      split at E
      ·rename_i q1 q2 b8 b9
       split at E
       ·rename_i ac;simp only[Ad,bne_iff_ne,ne_eq,decide_eq_true_eq]at ac;obtain⟨⟨⟨ac,ca⟩,me⟩,mf⟩:=ac;rw[PC.exec]at E;grind
       ·exact ih E
      ·exact ih E
    rw[PC.exec]at E;grind
   split at M
   ·rename_i c7;simp only[Ad]at c7;simp only[Dp]at M;subst M;obtain⟨hd,o1,o2⟩:=Yfj c7.2;generalize gT il l=i0 at*;unfold X9 at E;rw[PC.exec]at E
    split at E
    ·grind
    ·simp only[PC.exec]at E
     cases N:HK G T (q.take i0) [] s with
     |none=>simp[N]at E
     |some s1=>
      simp only[N,Ft,Ko]at E
      cases b3:(l.getD i0 default).exec G T s1 with
      |some s2=>simp only[b3,reduceCtorEq]at E
      |none=>
       simp only[b3]at E
       cases cd:(l.getD i0 default).execX G T s1 with
       |none=>simp only[cd,Option.map_none,reduceCtorEq]at E
       |some r3=>
        obtain⟨t,d,s3⟩:=r3;simp only[cd,Ae,Dp,DO]at E;obtain⟨rfl,rfl⟩:=E;obtain⟨q1,q2,q3⟩:=v9 hq;obtain⟨F,hF,hr,bd⟩:=Zf _ [] s s1 N;have hf:F.length=i0:=by rw[hF,AA]; omega
        have hh:(q.take i0).map (·.1)=l.take i0:=by rw[B9,q2]
        rw[hh]at hr;refine wpIn_region_any hc.1 (uD hT hY hl hc.2 hd o1 o2 hf (fun i j be hi hm=>?_) hr cd hQ _ a _ (by simp) hu hR.drew);have h4:l[i]?=s_ (l.getD i default):=by simp[Ai,show i<l.length by omega]
        obtain⟨b,h1,h2⟩:=q3 i _ h4
        by_cases aa:(l.getD j default).apart (l.getD i default)=t_
        ·exact⟨S1 aa,.inl aa⟩
        ·have hj:j∈I9 (FB ops.toList []) l i (l.getD i default):=by
          simp only[I9,Be,AV,hm,Ax,Bb];grind
         have h5:(q.take i0)[i]?=s_ (l.getD i default,b,I9 (FB ops.toList []) l i (l.getD i default)):=by
          grind
         obtain⟨f,g,e1,e2,e3⟩:=bd i _ h5 j hj
         have e4:F[j]?=s_ (s_ f):=by
          grind
         refine⟨h2 j hj,.inr ⟨f,g,?_,?_,e2⟩⟩
         ·grind
         ·grind
   ·grind
theorem vQ{n:Int}(h:recAt st k=s_ n):∃ o,st[k]?=s_ o∧o.row=f_∧o.sz=1000003∧o.els=[.int .i64 n]:=by unfold recAt at h;grind
theorem SR.recAt{base:Nat}(h:SR base w g st)(M:st[k]?=s_ o)(N:o.row=f_)(E:o.sz=1000003):fV base w (g.β k) o:=
 (h.mp k o M (by simp[Obj.isMap,N,E])).rec' E
theorem Go1.recO{base:Nat}(h:Go1 base w g st w' g' st')(E:st[k]?=s_ o)(M:o.row=f_)(N:o.sz=1000003) :
  g'.β k=g.β k∧∃ o',st'[k]?=s_ o'∧o'.row=f_∧o'.sz=1000003:=by obtain⟨o',e1,e2,e3,_,_,e6⟩:=h.evo k o E;grind
theorem Yho{l:Nat}{x:Go.Obj}:Beside w (w.putObj l x):=⟨rfl,rfl,rfl,by rw[World.putObj_size]; exact AF _⟩
theorem Go1.putRec{base:Nat}(h:SR base w g st){l:Nat}{r:Loop}{n:Int}{s:_}{p:Option Code}(hk:st[k]?=s_ o)(E:o.row=f_)(M:o.sz=1000003)
  (hl:g.β k=l) (N:w.heap[l]?=s_ (.loop r)) (h0:n=0→s=.ready∧p=none) (h1:n=1→s=.done∧p=s_ .ret) :
  Go1 base w g st (w.putObj l (.loop {r with state:=s,pending:=p})) g (st.set k (PI.recO n)):=by subst hl;exact h.updRec (s:=s) (p:=p) hk E M Yho (fun b hb=>World.putObj_heap_other hb) N (World.putObj_heap_same (AH.1 N).1) h0 h1
theorem OZ(hT:TblOK P G T):∀ (c:Code) (ro:Option Nat) (_:ro=none∨J5 c=t_) (w0:World) (g0:Ghost) (st0:St) (dl:List Deferred) (_:YOK P G T.y base w0 g0 st0) (_:base≤w0.heap.size) (h:List (List Nat)) (r:PC×List (List Nat)),Ik P il n h c=s_ r→∀ (fuel:Nat) (s s':PS) (e:Ex),r.1.exec G T fuel s=s_ (e,s')→
  ∀ (a:Act) (w:World) (Q:Exit→Act→World→Prop),R G base n w0 g0 st0 dl s a w→(∀ a' w',R G base n w0 g0 st0 dl s' a' w'→Q (MM e) a' w')→c.wpIn (Wr ro) 0 P Q a w:=by
 intro c
 induction c with
 |skip=>
  intro ro hro w0 g0 st0 dl hY hb0 h r ht fuel s s' e hx a w Q hR hQ;simp only[Ik,Dp]at ht; subst ht;simp only[PC.exec,Dp,DO]at hx;obtain⟨rfl,rfl⟩:=hx;exact wpIn_skip (hQ a w hR)
 |exit id=>
  intro ro hro w0 g0 st0 dl hY hb0 h r ht fuel s s' e hx a w Q hR hQ;simp only[Ik,Dp]at ht; subst ht;simp only[PC.exec,Dp,DO]at hx;obtain⟨rfl,rfl⟩:=hx;exact wpIn_exit (hQ a w hR)
 |ret=>
  intro ro hro w0 g0 st0 dl hY hb0 h r ht fuel s s' e hx a w Q hR hQ;simp only[Ik,Dp]at ht; subst ht;simp only[PC.exec,Dp,DO]at hx;obtain⟨rfl,rfl⟩:=hx;exact wpIn_ret (hQ a w hR)
 |region id ops draw=>
  intro ro hro w0 g0 st0 dl hY hb0 h r ht fuel s s' e hx a w Q hR hQ;exact Ylq hT hY ht hx hR hQ
 |seq x y ihx ihy=>
  intro ro hro w0 g0 st0 dl hY hb0 h r ht fuel s s' e hx a w Q hR hQ;unfold Ik at ht
  split at ht
  case h_2=>cases ht
  rename_i px h1 hx1
  split at ht
  case h_2=>cases ht
  rename_i py h2 hy1;simp only[Dp]at ht; subst ht;simp only[PC.exec]at hx;refine wpIn_seq ?_
  split at hx
  ·rename_i s1 hs1;exact ihx ro (hro.imp (fun h=>h) fun h=>by simp only[J5,Ad]at h; exact h.1) w0 g0 st0 dl hY hb0 _ _ hx1 fuel s s1 .next hs1 a w _ hR fun a' w' hR'=>ihy ro (hro.imp (fun h=>h) fun h=>by simp only[J5,Ad]at h; exact h.2) w0 g0 st0 dl hY hb0 _ _ hy1 fuel s1 s' e hx a' w' Q hR' hQ
  ·rename_i e1 s1 hne hs1;simp only[Dp,DO]at hx;obtain⟨rfl,rfl⟩:=hx;refine ihx ro (hro.imp (fun h=>h) fun h=>by simp only[J5,Ad]at h; exact h.1) w0 g0 st0 dl hY hb0 _ _ hx1 fuel s _ _ hs1 a w _ hR fun a' w' hR'=>?_
   cases e1 with
   |next=>exact(hne rfl).elim
   |exit id=>exact hQ a' w' hR'
   |ret=>exact hQ a' w' hR'
   |panic t d=>exact hQ a' w' hR'
  ·cases hx
 |cond c x y ihx ihy=>
  intro ro hro w0 g0 st0 dl hY hb0 h r ht fuel s s' e hx a w Q hR hQ;unfold Ik at ht
  split at ht
  case h_2=>cases ht
  rename_i pa hpa
  split at ht
  case h_2=>cases ht
  rename_i px h1 hx1
  split at ht
  case h_2=>cases ht
  rename_i py h2 hy1;simp only[Dp]at ht; subst ht;simp only[PC.exec]at hx;obtain⟨g,hg⟩:=id hR;have hc:=G7 (G:=G) hg.gl hg.fr hpa
  split at hx
  ·rename_i hb;rw[hb]at hc;exact wpIn_cond_true (Mm hc) (ihx ro (hro.imp (fun h=>h) fun h=>by simp only[J5,Ad]at h; exact h.1) w0 g0 st0 dl hY hb0 _ _ hx1 fuel s s' e hx a w Q hR hQ)
  ·rename_i hb;rw[hb]at hc;exact wpIn_cond_false (Mm hc) (ihy ro (hro.imp (fun h=>h) fun h=>by simp only[J5,Ad]at h; exact h.2) w0 g0 st0 dl hY hb0 _ _ hy1 fuel s s' e hx a w Q hR hQ)
  ·cases hx
 |block id c ih=>
  intro ro hro w0 g0 st0 dl hY hb0 h r ht fuel s s' e hx a w Q hR hQ;unfold Ik at ht
  split at ht
  case h_2=>cases ht
  rename_i px h1 hx1;simp only[Dp]at ht; subst ht;simp only[PC.exec]at hx;refine wpIn_block ?_
  split at hx
  ·rename_i id' s1 hs1;refine ih ro (hro.imp (fun h=>h) fun h=>by simpa only[J5]using h) w0 g0 st0 dl hY hb0 _ _ hx1 fuel s s1 _ hs1 a w _ hR fun a' w' hR'=>?_
   split at hx
   ·rename_i he;simp only[Dp,DO]at hx;obtain⟨rfl,rfl⟩:=hx;simpa[MM,Exit.inBlock,he]using hQ a' w' hR'
   ·rename_i he;simp only[Dp,DO]at hx;obtain⟨rfl,rfl⟩:=hx;simpa[MM,Exit.inBlock,he]using hQ a' w' hR'
  ·rename_i e1 s1 hne hs1;simp only[Dp,DO]at hx;obtain⟨rfl,rfl⟩:=hx;refine ih ro (hro.imp (fun h=>h) fun h=>by simpa only[J5]using h) w0 g0 st0 dl hY hb0 _ _ hx1 fuel s _ _ hs1 a w _ hR fun a' w' hR'=>?_
   cases e1 with
   |next=>exact hQ a' w' hR'
   |exit id=>exact(hne _ rfl).elim
   |ret=>exact hQ a' w' hR'
   |panic t d=>exact hQ a' w' hR'
  ·cases hx
 |loop c ih=>
  intro ro hro w0 g0 st0 dl hY hb0 h r ht fuel s s' e hx a w Q hR hQ;unfold Ik at ht
  split at ht
  case h_2=>cases ht
  rename_i keep h'
  split at ht
  case h_2=>cases ht
  rename_i px h1 hx1;simp only[Dp]at ht; subst ht
  have hk:st0.length≤s.st.length:=by
   obtain⟨g,hg⟩:=hR;exact hg.go1.evo.len
  obtain⟨cut,hcut,hx⟩:∃ cut:PS→PS,(∀ s a w,R G base n w0 g0 st0 dl s a w→R G base n w0 g0 st0 dl (cut s) a w)∧KD (px.exec G T fuel) cut fuel s=s_ (e,s'):=by
   split at hx
   ·exact⟨keepAll keep.tail,fun _ _ _ h=>h.keepAll _,by simpa only[PC.exec]using hx⟩
   ·exact⟨PI.restrict keep s.st.length,fun _ _ _ h=>h.restrict _ _ hk,by simpa only[PC.exec]using hx⟩
  refine wpIn_loop_ghost (fun m a w=>∃ s1,KD (px.exec G T fuel) (cut) m s1=s_ (e,s')∧R G base n w0 g0 st0 dl s1 a w) fuel ⟨s,hx,hR⟩ ?_;rintro m a w ⟨s1,hl,hR1⟩
  cases m with
  |zero=>simp[KD]at hl
  |succ m=>
   simp only[KD]at hl
   split at hl
   ·rename_i s2 hs2;exact ih ro (hro.imp (fun h=>h) fun h=>by simpa only[J5]using h) w0 g0 st0 dl hY hb0 _ _ hx1 fuel _ s2 .next hs2 a w _ (hcut _ _ _ hR1) fun a' w' hR'=>⟨m,CR m,s2,hl,hR'⟩
   ·rename_i e1 s2 hne hs2;simp only[Dp,DO]at hl;obtain⟨rfl,rfl⟩:=hl;refine ih ro (hro.imp (fun h=>h) fun h=>by simpa only[J5]using h) w0 g0 st0 dl hY hb0 _ _ hx1 fuel _ _ _ hs2 a w _ (hcut _ _ _ hR1) fun a' w' hR'=>?_
    cases e1 with
    |next=>exact(hne rfl).elim
    |exit id=>exact hQ a' w' hR'
    |ret=>exact hQ a' w' hR'
    |panic t d=>exact hQ a' w' hR'
   ·cases hl
 |rangeFunc gf ps asg body iha ihb=>
  intro ro hro w0 g0 st0 dl hY hb0 h r ht fuel s s' e hx a w Q hR hQ;unfold Ik at ht
  split at ht
  case h_2=>cases ht
  rename_i pa hpa
  split at ht
  case h_2=>cases ht
  rename_i pca h1 hx1
  split at ht
  case h_2=>cases ht
  rename_i pcb h2 hy1
  split at ht
  case isFalse=>
   simp only[Dp]at ht; subst ht;simp[PC.exec]at hx
  rename_i hc;simp only[Ad]at hc;obtain⟨⟨hna,hnb⟩,hps⟩:=hc;simp only[Dp]at ht; subst ht;obtain rfl:ro=none:=hro.resolve_right (by simp[J5]);simp only[PC.exec,Az,D0,DO]at hx;obtain⟨st'',hrr,e0,hex,rfl,rfl⟩:=hx;unfold lM at hrr
  split at hrr
  case h_2=>cases hrr
  rename_i f caps hclo
  split at hrr
  case isFalse=>cases hrr
  rename_i hlt
  split at hrr
  case h_2=>cases hrr
  rename_i sp hsp;simp only[D0,Prod.exists]at hrr;obtain⟨dr,st3,hrun,rfl⟩:=hrr;obtain⟨g,hg⟩:=hR;have hrep:=G7 (G:=G) hg.gl hg.fr hpa;rw[hclo]at hrep;generalize hxv:a.eval gf=xv at hrep
  cases hrep with
  |clo _ _ us hlen hus=>
   rw[Tt hlt,YJ hlt,fC hlt]at hxv;obtain⟨⟨fn,hfn,hbody,hname⟩,hcon⟩:=hT.r f sp hsp;refine wpIn_rangeFunc fun fnid _=>?_
   -- the two new blocks
   have hlw:w.heap.size+1=(w.alloc (.deferred (s_ []))).heap.size:=by rw[World.size_alloc]
   generalize hrec:({state:=.ready,pending:=none,fn:=fnid,tmps:=a.tmps,params:=ps,assign:=asg,body:=body,defers:=w.heap.size}:Loop)=rec;generalize hw1:((w.alloc (.deferred (s_ []))).alloc (.loop rec))=w1;have hs1:w1.heap.size=w.heap.size+2:=by rw[← hw1,World.size_alloc,World.size_alloc]
   have hold:∀ b,b<w.heap.size→w1.heap[b]?=w.heap[b]?:=by
    intro b hb;rw[← hw1]
    show((w.heap.push (.deferred (s_ []))).push (.loop rec))[b]?=_
    grind
   have hD:w1.heap[w.heap.size]?=s_ (.deferred (s_ [])):=by
    rw[← hw1]
    show((w.heap.push (.deferred (s_ []))).push (.loop rec))[w.heap.size]?=_
    grind
   have hL:w1.heap[w.heap.size+1]?=s_ (.loop rec):=by
    rw[← hw1]
    show((w.heap.push (.deferred (s_ []))).push (.loop rec))[w.heap.size+1]?=_
    grind
   have hready:rec.state=.ready∧rec.pending=none:=by rw[← hrec]; exact⟨rfl,rfl⟩
   have hgo1:Go1 base w g s.st w1 {g with β:=Gc g.β s.st.length (w.heap.size+1)} (s.st++[recO 0]):=by
    have hbes:Beside w w1:=by rw[← hw1]; exact⟨rfl,rfl,rfl,by rw[World.size_alloc,World.size_alloc]; omega⟩
    exact hg.sr.pushRec (by omega) hbes hold hL hready
   generalize hg1:({g with β:=Gc g.β s.st.length (w.heap.size+1)}:Ghost)=g1 at hgo1;have hβ1:g1.β s.st.length=w.heap.size+1:=by rw[← hg1]; exact IE _ _ _
   have DR:(s.st++[recO 0])[s.st.length]?=s_ (recO 0):=by simp
   have henter:(Instr.enterLoop fnid a.tmps ps asg body (Wr none).round).run P w=.ok (w.heap.size+1,[{target:=.collected w.heap.size,args:=#[]}]) w1:=by
    rw[← hw1,← hrec];exact run_enterLoop_outer fnid a.tmps ps asg body
   refine⟨w.heap.size+1,[{target:=.collected w.heap.size,args:=#[]}],w1,{target:=.fn (.func f) us.toArray,args:=#[.func (.yield (w.heap.size+1)) #[] #[]]},w1,f,(Value.func (.yield (w.heap.size+1)) #[] #[]::us).toArray,w1,henter,?_,fun _ _=>trivial,?_,(fun e=>by cases e),?_⟩
   ·have hk:∀ v,a.eval (.const v)=v:=fun _=>rfl;simp[resolve,hxv,Deferred.ofValue,hk]
   ·have hbn:¬ fn.body=none:=by
     grind
    have hn':¬ fn.name= "runtime.NumGoroutine":=by simpa using hname
    simp[invoke,callFunc,hfn,hn',hbn]
   ·refine CallsIn.mono (callsIn_wide.2 (hcon base w1 g1 (s.st++[recO 0]) st3 caps us dr (w.heap.size+1) _ ?_ hrun hgo1.sr (hg.gl.mono hgo1.im) hlen (fun i d v hd hv=>hgo1.rep (hus i d v hd hv)))) ?_
    ·
     intro l' w2 g2 st2 st2' ds vs d2 hgo2 hG2 hy hl2 hr2
     replace hy:(if l'=w.heap.size+1 then iz (PC.exec G T fuel pca) (PC.exec G T fuel pcb) s.fr ps.toList s.st.length ds st2 else none)=s_ (d2,st2'):=hy
     split at hy
     case isFalse=>cases hy
     rename_i hll;subst hll;unfold iz at hy
     split at hy
     case isFalse=>cases hy
     rename_i hdl
     split at hy
     case h_2=>cases hy
     rename_i sa hsa
     split at hy
     case isFalse=>cases hy
     rename_i hrec0;obtain⟨s2,p2,hL2⟩:=(hgo2.kp _ _ hL rfl).loop;have hpsz:ps.size=vs.length:=by rw[← hl2,hdl]; simp
     refine⟨fnid,_,asg,body,by rw[run_yield hL2 (by rw[← hrec]; simp[hpsz]),← hrec],?_⟩;have hYw2:YOK P G T.y base w2 g2 st2:=hY.mono (hg.go1.trans (hgo1.trans hgo2));have hbl:base≤w.heap.size:=hg.sr.size
     have hfold:(ps.zip vs.toArray).foldl (fun tmps x=>tmps.setIfInBounds x.1 x.2) a.tmps=(ps.toList.zip vs).foldl (fun tmps p=>tmps.setIfInBounds p.1 p.2) a.tmps:=by
      rw[← CF]; simp
     refine roundIn_of_wpIn trivial ?_
     show asg.wpIn (Wr (s_ (w.heap.size+1))) 0 P _ _ w2
     refine iha (s_ (w.heap.size+1)) (.inr hna) w2 g2 st2 [] hYw2 (AZ hbl (AZ (by omega) (hgo1.trans hgo2).below.size)) _ _ hx1 fuel _ sa .next hsa _ w2 _ ⟨g2,Go1.refl hgo2.sr,?_,hG2,⟨[],rfl,trivial⟩,?_⟩ ?_
     ·have hF2:FR w2 g2 st2 s.fr a:=hg.fr.mono (hgo1.trans hgo2).im (hgo1.trans hgo2).evo
      have:=Yjf (x:=[]) ps.toList ds vs s.fr a.tmps (by simpa using hdl) hl2 (fun p hp=>by
       have:=Ah.1 hps p hp;have:=of_decide_eq_true this;exact A3 this hg.sz) hF2 hr2
      grind
     ·have:=rR (ps.toList.zip vs) a.tmps;rw[← hfold]at this;exact AZ hg.sz (Nat.le_of_eq this.symm)
     ·rintro a3 w3 ⟨g3,h3⟩;have hgo13:=hgo2.trans h3.go1;obtain⟨o3,ho3,hro3,hso3,hels3⟩:=vQ hrec0;have hβ3:g3.β s.st.length=w.heap.size+1:=(hgo13.recO DR rfl rfl).1.trans hβ1;obtain⟨r3,n3,hb3,_,hn3,hz3,_⟩:=h3.go1.sr.recAt ho3 hro3 hso3;rw[hβ3]at hb3;rw[hels3]at hn3;have hn0:n3=0:=by simpa using hn3.symm
      have hready3:r3.state=.ready:=(hz3 hn0).1;refine⟨_,run_beginRound hb3 hready3,?_⟩;have hgo4:=Go1.putRec (n:=2) (s:=.busy) (p:=r3.pending) h3.go1.sr ho3 hro3 hso3 hβ3 hb3 (fun e=>by cases e) (fun e=>by cases e);have hlt3:w.heap.size+1<w3.heap.size:=(AH.1 hb3).1
      show body.wpIn (Wr (s_ (w.heap.size+1))) 0 P _ _ (w3.putObj (w.heap.size+1) (.loop {r3 with state:=.busy,pending:=r3.pending}))
      generalize hw4:w3.putObj (w.heap.size+1) (.loop {r3 with state:=.busy,pending:=r3.pending})=w4 at hgo4;have hgo04:=hg.go1.trans (hgo1.trans (hgo13.trans hgo4))
      have hk4:(sa.st.set s.st.length (recO 2))[s.st.length]?=s_ (recO 2):=by
       grind
      -- the body's end,and what is said of the record
      have fin:∀ (sb:PS) (a5:Act) (w5:World) (nn:Int) (jump:Option Code) (b:Bool),R G base n w4 g3 (sa.st.set s.st.length (recO 2)) a3.defers sb a5 w5→b=jump.isNone→(nn=0→jump=none)→(nn=1→jump=s_ .ret)→
        ∃ v w',(Instr.endRound (w.heap.size+1) jump).run P w5=.ok v w'∧∃ v' g',(Ending.returned v:Ending)=.returned v'∧Go1 base w2 g2 st2 w' g' (sb.st.set s.st.length (recO nn))∧RepV w' g' (sb.st.set s.st.length (recO nn)) (.bool b) v':=by
       rintro sb a5 w5 nn jump b ⟨g5,h5⟩ hb hj0 hj1;obtain⟨hβ5,o5,ho5,hro5,hso5⟩:=h5.go1.recO hk4 rfl rfl;obtain⟨r5,n5,hb5,_⟩:=h5.go1.sr.recAt ho5 hro5 hso5;rw[hβ5,hβ3]at hb5
       have hgo6:=Go1.putRec (n:=nn) (s:=if jump.isNone then .ready else .done) (p:=jump) h5.go1.sr ho5 hro5 hso5 (hβ5.trans hβ3) hb5
        (fun e=>by rw[hj0 e]; exact⟨rfl,rfl⟩) (fun e=>by rw[hj1 e]; exact⟨rfl,rfl⟩)
       refine⟨_,_,run_endRound jump hb5,.bool jump.isNone,g5,rfl,h3.go1.trans (hgo4.trans (h5.go1.trans hgo6)),?_⟩;rw[hb]; exact .bool _
      split at hy
      ·rename_i sb hsb;simp only[Dp,DO]at hy;obtain⟨rfl,rfl⟩:=hy;refine ihb (s_ (w.heap.size+1)) (.inr hnb) w4 g3 _ a3.defers (hY.mono hgo04) (AZ hb0 hgo04.below.size) _ _ hy1 fuel _ sb .next hsb _ w4 _ ⟨g3,Go1.refl hgo4.sr,h3.fr.mono hgo4.im hgo4.evo,h3.gl.mono hgo4.im,⟨[],rfl,trivial⟩,h3.sz⟩ ?_
       exact fun a5 w5 h5=>fin sb a5 w5 0 none t_ h5 rfl (fun _=>rfl) (fun e=>by cases e)
      ·rename_i sb hsb;simp only[Dp,DO]at hy;obtain⟨rfl,rfl⟩:=hy;refine ihb (s_ (w.heap.size+1)) (.inr hnb) w4 g3 _ a3.defers (hY.mono hgo04) (AZ hb0 hgo04.below.size) _ _ hy1 fuel _ sb .ret hsb _ w4 _ ⟨g3,Go1.refl hgo4.sr,h3.fr.mono hgo4.im hgo4.evo,h3.gl.mono hgo4.im,⟨[],rfl,trivial⟩,h3.sz⟩ ?_;exact fun a5 w5 h5=>fin sb a5 w5 1 (s_ .ret) f_ h5 rfl (fun e=>by cases e) (fun _=>rfl)
      ·cases hy
    ·rintro e w3 ⟨v,g3,rfl,hgo3,_⟩;obtain⟨hβ3,_⟩:=hgo3.recO DR rfl rfl;rw[hβ1]at hβ3;have hD3:w3.heap[w.heap.size]?=s_ (.deferred (s_ [])):=(hgo3.kp _ _ hD rfl).def';have hbl:base≤w.heap.size:=hg.sr.size;unfold ru at hex
     split at hex
     case h_2=>cases hex
     rename_i n3 hrec3;obtain⟨o3,ho3,hro3,hso3,hels3⟩:=vQ hrec3;obtain⟨r3,n3',hb3,_,hn3,hz3,ho1⟩:=hgo3.sr.recAt ho3 hro3 hso3;rw[hβ3]at hb3;rw[hels3]at hn3;have hn0:n3'=n3:=by simpa using hn3.symm
     subst hn0
     have hnb3:r3.state≠.busy:=by
      grind
     have hgo4':=Go1.putRec (n:=2) (s:=.exhausted) (p:=r3.pending) hgo3.sr ho3 hro3 hso3 hβ3 hb3 (fun e=>by cases e) (fun e=>by cases e);have hgo4:=hgo1.trans (hgo3.trans hgo4')
     have hRn:R G base n w0 g0 st0 dl ⟨s.fr,st3.set s.st.length (recO 2)⟩ {a with defers:=[{target:=.collected w.heap.size,args:=#[]}]++a.defers} (w3.putObj (w.heap.size+1) (.loop {r3 with state:=.exhausted,pending:=r3.pending})):=by
      refine⟨g3,hg.go1.trans hgo4,hg.fr.mono hgo4.im hgo4.evo,hg.gl.mono hgo4.im,?_,hg.sz⟩;obtain⟨dd,hd1,hd2⟩:=hg.df;refine⟨{target:=.collected w.heap.size,args:=#[]}::dd,by simp[hd1],⟨w.heap.size,rfl,?_,?_,?_⟩,hd2.mono hgo4.kp⟩
      ·rw[World.putObj_heap_other (by omega)]; exact hD3
      ·have:=hg.go1.below.size;grind
      ·intro d' hd' e;obtain⟨D',h1,h2⟩:=hd2.mem hd';grind
     refine⟨r3.pending,_,run_endLoop hb3 hnb3,?_⟩
     split at hex
     ·rename_i e;obtain rfl:=AE hex;have hp:=(hz3 e).2;rw[hp];have:=hQ _ _ hRn;rw[hp]at this;simpa[MM]using this
     ·split at hex
      ·rename_i e;obtain rfl:=AE hex;have hp:=(ho1 e).2;rw[hp];have:=hQ _ _ hRn;rw[hp]at this;exact wpIn_ret (by simpa[MM]using this)
      ·cases hex
 |_=>
  intro ro hro w0 g0 st0 dl hY hb0 h r ht fuel s s' e hx;simp only[Ik,Dp]at ht; subst ht;simp[PC.exec]at hx
theorem Yfz{t:TypeId}{u:Value}(h:(Instr.loadAt t v).run P w=.ok u w):(do loadVar t (← asAddr v):Sem Value).run P w=.ok u w:=by
 cases v with
 |pointer a=>
  cases a with
  |none=>simp[Instr.loadAt,Instr.sureAddr]at h
  |some a=>simpa[Instr.loadAt,Instr.sureAddr,asAddr]using h
 |_=>simp[Instr.loadAt,Instr.sureAddr]at h
def U2(tmps:Array Value):ResultVar→Sem Value
 |.tmp t=>pure (tmps.getD t undef)
 |.cell a t=>do loadVar t (← asAddr (tmps.getD a undef))
theorem mU{s:PS}:∀ {l:List PRes} {ys:List D},Gh s l=s_ ys→∃ ds,Eo s l=s_ ds∧EG s.st ds=s_ ys
 |[],ys,h=>by simp[Gh]at h; subst h; exact⟨[],rfl,rfl⟩
 |r::l,ys,h=>by
  unfold Gh at h
  split at h
  case h_2=>cases h
  rename_i x y E hy;simp only[Dp]at h; subst h;obtain⟨ds,M,N⟩:=mU hy
  cases r with
  |tmp t=>
   exact⟨s.fr t::ds,by simp[Eo,M],by simp only[PRes.get]at E; simp[EG,E,N]⟩
  |cell t n ag=>
   simp only[PRes.get]at E
   split at E
   ·rename_i d hd;exact⟨d::ds,by simp[Eo,hd,M],by simp[EG,E,N]⟩
   ·cases E
theorem Su{s:PS}{a:Act}{w:World}{g:Ghost}(hS:SR base w g s.st)(N:FR w g s.st s.fr a):∀ {rs:List ResultVar} {l:List PRes} {ds:List D},Ph P rs=s_ l→Eo s l=s_ ds→
  ∃ vs:List Value,ds.length=vs.length∧(∀ (i:Nat) d v,ds[i]?=s_ d→vs[i]?=s_ v→RepV w g s.st d v)∧
   (rs.mapM (U2 a.tmps)).run P w=.ok vs w
 |[],l,ds,E,M=>by
  simp[Ph]at E; subst E;simp[Eo]at M; subst M;simp_all
 |.tmp t::rs,l,ds,E,M=>by
  simp only[Ph,D0]at E;obtain⟨l',h1,rfl⟩:=E;simp only[Eo,D0]at M;obtain⟨a3,h2,rfl⟩:=M;obtain⟨vs,e1,e2,e3⟩:=Su hS N h1 h2;refine⟨a.tmps.getD t undef::vs,by simp[e1],?_,?_⟩
  ·intro i d v hd hv
   cases i with
   |zero=>simp only[AG,Dp]at hd hv; subst hd; subst hv; exact N t
   |succ i=>simp only[Bl]at hd hv; exact e2 i d v hd hv
  ·simp only[By,U2,Sem.run_bind,Sem.run_pure,Result.andThen_ok,e3]
 |.cell b t::rs,l,ds,E,M=>by
  unfold Ph at E
  split at E
  case h_2=>cases E
  rename_i n ag l' hn ha h1;simp only[Dp]at E; subst E;unfold Eo at M
  split at M
  case h_2=>cases M
  rename_i x y hx hy;simp only[Dp]at M; subst M;obtain⟨vs,e1,e2,e3⟩:=Su hS N h1 hy;obtain⟨u,u1,u2⟩:=vG hS ha hn hx (N b);refine⟨u::vs,by simp[e1],?_,?_⟩
  ·grind
  ·have u3:=Yfz u1;simp only[By];rw[Sem.run_bind,show(U2 a.tmps (.cell b t)).run P w=.ok u w from u3];simp_all
def gh:List Value→Value
 |[v]=>v
 |vs=>.tuple vs.toArray
theorem Ze{tmps:Array Value}
  (h:(fn.results.toList.mapM (U2 tmps)).run P w=.ok vs w) :
  (results fn tmps).run P w=.ok (gh vs) w:=by
 have E:results fn tmps=(do let vs ← fn.results.mapM (U2 tmps); pure (if h:vs.size=1 then vs[0]else .tuple vs)):=rfl;rw[E,Sem.run_bind,Array.mapM_eq_mapM_toList];rw[Sem.run_map,h];simp only[Result.andThen_ok,Sem.run_pure]
 match vs with
 |[]=>rfl
 |[v]=>rfl
 |_::_::_=>simp[gh]
theorem Vs(hl:ds.length=vs.length)(h:∀ (i:Nat) d v,ds[i]?=s_ d→vs[i]?=s_ v→RepV w g st d v) :
  RepV w g st (Ec ds) (gh vs):=by
 match ds,vs,hl with
 |[],[],_=>exact .tup [] [] rfl h
 |[d],[v],_=>exact h 0 d v rfl rfl
 |_::_::_,_::_::_,hl=>exact .tup _ _ hl h
theorem ew(h:∀ d∈ds,purA d=t_):purR (Ec ds)=t_:=by
 match ds with
 |[]=>rfl
 |[d]=>
  have:=h d (by simp);simp only[Ec]
  cases d with
  |tup l=>simp[purA,D.pure1]at this
  |_=>exact this
 |x::y::l=>
  simp only[Ec,purR,Ah];exact h
theorem T9{fn:Func}{R:Ending→World→Prop}(M:base≤w0.heap.size){s:PS}{a:Act}{g:Ghost}:∀ (ds:List Deferred) (w:World),Go1 base w0 g0 st0 w g s.st→FR w g s.st s.fr a→DfOK w0 w ds→
  (∀ w',Go1 base w0 g0 st0 w' g s.st→FR w' g s.st s.fr a→∃ v,(results fn a.tmps).run P w'=.ok v w'∧R (.returned v) w')→LeavesInM Fence.wide 0 P fn a.tmps R ds .returning w
 |[],w,E,N,_,h=>h w E N
 |d::ds,w,E,N,⟨⟨D,h1,h2,h3,h4⟩,h5⟩,h=>by
  subst h1;refine⟨by simp,.inl ⟨D,_,rfl,run_takeDeferred h2,?_⟩⟩
  have ad:w0.heap.size≤D:=by
   grind
  have hX:=GoX.put (o':=.deferred none) E.sr h2 rfl ⟨_,rfl⟩ (AZ M ad);refine T9 M ds _ (((E.x D).trans hX).fin (fun o ho=>by rw[h3]at ho; cases ho)) (N.mono hX.im hX.evo) ?_ h
  have:∀ (l:List Deferred),(∀ d'∈l,d'≠{target:=.collected D,args:=#[]})→DfOK w0 w l→DfOK w0 (w.putObj D (.deferred none)) l:=by
   intro l
   induction l with
   |nil=>exact fun _ _=>trivial
   |cons d l ih=>
    rintro af ⟨⟨D',e1,e2,e3,e4⟩,e5⟩;refine⟨⟨D',e1,?_,e3,e4⟩,ih (fun d' ah=>af d' (by simp[ah])) e5⟩;rw[World.putObj_heap_other]
    ·exact e2
    ·grind
  grind
theorem kY(hT:TblOK P G T)(ht:DA P il f hints=s_ F)(fuel:Nat):(∃ fn,P.funcs[f]?=s_ fn∧fn.body.isSome=t_∧(fn.name == "runtime.NumGoroutine")=f_)∧
  ∀ (base:Nat) (w:World) (g:Ghost) (st st':St) (ds:List D) (vs:List Value) (d:D),YOK P G T.y base w g st→F.runI G T fuel ds st=s_ (d,st')→SR base w g st→GlobOK G w g→ds.length=vs.length→
   (∀ (i:Nat) d v,ds[i]?=s_ d→vs[i]?=s_ v→RepV w g st d v)→Calls P f vs.toArray w fun e w'=>∃ v g',e=.returned v∧Go1 base w g st w' g' st'∧RepV w' g' st' d v:=by
 unfold DA at ht
 split at ht
 case h_2=>cases ht
 rename_i fn hfn
 split at ht
 case h_2=>cases ht
 rename_i c hc
 split at ht
 case h_2=>cases ht
 rename_i pc hrest res htc htr
 split at ht
 ·cases ht
 rename_i hname;simp only[Dp]at ht; subst ht;refine⟨⟨fn,hfn,by rw[hc]; rfl,by simpa using hname⟩,?_⟩;intro base w g st st' ds vs d hY hsp hS hG hlen hrep
 have key:∀ (e:Ex) (s':PS),pc.exec G T fuel {fr:=Dm ds,st}=s_ (e,s')→((Eo s' res).map fun l=>(Ec l,s'.st))=s_ (d,st')→(e=.next∨e=.ret)→
   Calls P f vs.toArray w fun e w'=>∃ v g',e=.returned v∧Go1 base w g st w' g' st'∧RepV w' g' st' d v:=by
  intro e s' hex hget he;refine callsIn_wide.1 (callsIn_of_wp_marks (F:=Fence.wide) (n:=0) hfn hc trivial ?_)
  have hR0:R G base fn.ntmps w g st [] {fr:=Dm ds,st} {tmps:=vs.toArray++C9 (fn.ntmps - vs.toArray.size) undef,defers:=[]} w:=by
   refine⟨g,Go1.refl hS,?_,hG,⟨[],rfl,trivial⟩,?_⟩
   ·intro s;simp only[Dm];rcases A5 s ds.length with h1|h1
    ·have h2:s<vs.length:=by omega
     have h3:(vs.toArray++C9 (fn.ntmps - vs.toArray.size) undef).getD s undef=vs[s]:=by
      simp[Array.getD,h2];omega
     rw[h3];have:=hrep s ds[s] vs[s] (by simp[h1]) (by simp[h2]);grind
    ·simp[Ai,BH h1];exact .junk _
   ·simp; omega
  have fin:∀ a' w',R G base fn.ntmps w g st [] s' a' w'→LeavesInM Fence.wide 0 P fn a'.tmps (fun e w'=>∃ v g',e=.returned v∧Go1 base w g st w' g' st'∧RepV w' g' st' d v) a'.defers .returning w':=by
   rintro a' w' ⟨g1,h⟩;obtain⟨dd,hd1,hd2⟩:=h.df;rw[hd1,Af];refine T9 hS.size dd w' h.go1 h.fr hd2 fun w2 hgo hF=>?_;simp only[D0,DO]at hget;obtain⟨xs,hx1,rfl,rfl⟩:=hget;obtain⟨us,e1,e2,e3⟩:=Su hgo.sr hF htr hx1;exact⟨_,Ze e3,_,g1,rfl,hgo,Vs e1 e2⟩
  refine OZ hT c none (.inl rfl) w g st [] hY hS.size hints (pc,hrest) htc fuel _ s' e hex _ w _ hR0 ?_;intro a' w' hR';rcases he with rfl|rfl
  ·exact fin a' w' hR'
  ·exact fin a' w' hR'
 simp only[PF.runI]at hsp;grind
theorem iK{fn:Func}{R:Ending→World→Prop}{ch:List PanicEntry}(M:base≤w0.heap.size){s:PS}{a:Act}{g:Ghost}(rest:List Deferred):∀ (ds:List Deferred) (w:World),Go1 base w0 g0 st0 w g s.st→FR w g s.st s.fr a→DfOK w0 w ds→
  (∀ w',Go1 base w0 g0 st0 w' g s.st→FR w' g s.st s.fr a→LeavesInM Fence.wide 0 P fn a.tmps R rest (.panicking ch) w')→LeavesInM Fence.wide 0 P fn a.tmps R (ds++rest) (.panicking ch) w
 |[],w,E,N,_,h=>h w E N
 |d::ds,w,E,N,⟨⟨D,h1,h2,h3,h4⟩,h5⟩,h=>by
  subst h1;refine⟨by simp,.inl ⟨D,_,rfl,run_takeDeferred h2,?_⟩⟩
  have ae:w0.heap.size≤D:=by
   grind
  have hX:=GoX.put (o':=.deferred none) E.sr h2 rfl ⟨_,rfl⟩ (AZ M ae);refine iK M rest ds _ (((E.x D).trans hX).fin (fun o ho=>by rw[h3]at ho; cases ho)) (N.mono hX.im hX.evo) ?_ h
  have:∀ (l:List Deferred),(∀ d'∈l,d'≠{target:=.collected D,args:=#[]})→DfOK w0 w l→DfOK w0 (w.putObj D (.deferred none)) l:=by
   intro l
   induction l with
   |nil=>exact fun _ _=>trivial
   |cons d l ih=>
    rintro ah ⟨⟨D',e1,e2,e3,e4⟩,e5⟩;refine⟨⟨D',e1,?_,e3,e4⟩,ih (fun d' a0=>ah d' (by simp[a0])) e5⟩;rw[World.putObj_heap_other]
    ·exact e2
    ·grind
  grind
theorem wL{fn:Func}{R:Ending→World→Prop}(M:base≤w0.heap.size){s:PS}{a:Act}{g:Ghost}(rest:List Deferred):∀ (ds:List Deferred) (w:World),Go1 base w0 g0 st0 w g s.st→FR w g s.st s.fr a→DfOK w0 w ds→
  (∀ w',Go1 base w0 g0 st0 w' g s.st→FR w' g s.st s.fr a→LeavesInM Fence.wide 0 P fn a.tmps R rest .returning w')→LeavesInM Fence.wide 0 P fn a.tmps R (ds++rest) .returning w
 |[],w,E,N,_,h=>h w E N
 |d::ds,w,E,N,⟨⟨D,h1,h2,h3,h4⟩,h5⟩,h=>by
  subst h1;refine⟨by simp,.inl ⟨D,_,rfl,run_takeDeferred h2,?_⟩⟩
  have ad:w0.heap.size≤D:=by
   grind
  have hX:=GoX.put (o':=.deferred none) E.sr h2 rfl ⟨_,rfl⟩ (AZ M ad);refine wL M rest ds _ (((E.x D).trans hX).fin (fun o ho=>by rw[h3]at ho; cases ho)) (N.mono hX.im hX.evo) ?_ h
  have:∀ (l:List Deferred),(∀ d'∈l,d'≠{target:=.collected D,args:=#[]})→DfOK w0 w l→DfOK w0 (w.putObj D (.deferred none)) l:=by
   intro l
   induction l with
   |nil=>exact fun _ _=>trivial
   |cons d l ih=>
    rintro af ⟨⟨D',e1,e2,e3,e4⟩,e5⟩;refine⟨⟨D',e1,?_,e3,e4⟩,ih (fun d' ah=>af d' (by simp[ah])) e5⟩;rw[World.putObj_heap_other]
    ·exact e2
    ·grind
  grind
theorem Yiq(hS:SR base w g st)(hG:GlobOK G w g)(ac:ds.length=vs.length)(E:∀ (i:Nat) d v,ds[i]?=s_ d→vs[i]?=s_ v→RepV w g st d v) :
  R G base fn.ntmps w g st [] {fr:=Dm ds,st} {tmps:=vs.toArray++C9 (fn.ntmps - vs.toArray.size) undef,defers:=[]} w:=by
 refine⟨g,Go1.refl hS,?_,hG,⟨[],rfl,trivial⟩,?_⟩
 ·intro s;simp only[Dm];rcases A5 s ds.length with M|M
  ·have N:s<vs.length:=by omega
   have h3:(vs.toArray++C9 (fn.ntmps - vs.toArray.size) undef).getD s undef=vs[s]:=by
    simp[Array.getD,N];omega
   rw[h3];have:=E s ds[s] vs[s] (by simp[M]) (by simp[N]);grind
  ·simp[Ai,BH M];exact .junk _
 ·simp; omega
theorem Ycu(hT:TblOK P G T)(hy:T.y=fun _ _ _=>none)(E:DA P il f hints=s_ F)(fuel:Nat):Rk P G f (F.runX G T fuel):=by
 refine⟨(kY hT E fuel).1,?_⟩;unfold DA at E
 split at E
 case h_2=>cases E
 rename_i fn ad
 split at E
 case h_2=>cases E
 rename_i c hc
 split at E
 case h_2=>cases E
 rename_i pc N res ae a6
 split at E
 ·cases E
 rename_i a2;simp only[Dp]at E; subst E;intro base w g st st' ds vs t d M hS hG hlen ab;simp only[PF.runX]at M
 split at M
 case h_2=>cases M
 rename_i t1 d1 s' hex;simp only[Dp,DO]at M;obtain⟨rfl,rfl,rfl⟩:=M;refine callsIn_wide.1 (callsIn_of_wp_marks (F:=Fence.wide) (n:=0) ad hc trivial ?_);refine OZ hT c none (.inl rfl) w g st [] (by rw[hy]; exact YOK.none) hS.size hints (pc,N) ae fuel _ s' _ hex _ w _ (Yiq hS hG hlen ab) ?_;rintro a' w' ⟨g1,h⟩;obtain⟨dd,ah,a0⟩:=h.df
 show LeavesInM Fence.wide 0 P fn a'.tmps _ a'.defers (.panicking (Md t1 d1)) w'
 rw[ah];refine iK hS.size [] dd w' h.go1 h.fr a0 fun w2 a1 hF=>?_;exact⟨g1,rfl,a1⟩
def Py(P:Program)(il:List Nat)(f:Nat)(hints:List (List Nat)):Option PFD:=
 match P.funcs[f]? with
 |some fn=>match fn.body with
  |some (.seq (.region _ ops0 f_) (.seq (.region _ ops1 f_) rest))=>match ops1.toList.reverse with
   |o::rpre=>match Lp P il fn.ntmps ops0 ops0.toList,Lp P il fn.ntmps ops1 rpre.reverse,Ik P il fn.ntmps hints rest,Ph P fn.results.toList with
    |some pre,s_ pre1,s_ (pc,_),s_ res=>match o.op,o.guard,o.dst with
     |.defer c,none,none=>match c.callee with
      |.value x=>match Ee x,IU c.args.toList with
       |some hf,s_ ha=>if fn.name == "runtime.NumGoroutine" then none else s_ {pre:=pre++pre1,hf,ha,code:=pc,res}
       |_,_=>none
      |_=>none
     |_,_,_=>none
    |_,_,_,_=>none
   |[]=>none
  |_=>none
 |none=>none
theorem iI{G:DB}{T:Tbl}:∀ (l E:List PI) (s:PS),Ft G T (l++E) s=(Ft G T l s).bind fun s'=>Ft G T E s'
 |[],_,_=>rfl
 |i::l,E,s=>by
  simp only[Ag,Ft]
  cases i.exec G T s with
  |none=>rfl
  |some s'=>exact iI l E s'
theorem Yvz(hT:TblOK P G T)(hy:T.y=fun _ _ _=>none){F:PFD}(ht:Py P il f hints=s_ F){H:Jc}(hH:∀ f h,H f=s_ h→Ub P G f h)(fuel:Nat):IContract P G f (F.runI G T H fuel):=by
 unfold Py at ht
 split at ht
 case h_2=>cases ht
 rename_i fn hfn
 split at ht
 case h_2=>cases ht
 rename_i id0 ops0 id1 ops1 rest hc
 split at ht
 case h_2=>cases ht
 rename_i o rpre hops1
 split at ht
 case h_2=>cases ht
 rename_i pre pre1 pc hrest res hpre hpre1 htc htr
 split at ht
 case h_2=>cases ht
 rename_i c hop hgd hds
 split at ht
 case h_2=>cases ht
 rename_i x hcal
 split at ht
 case h_2=>cases ht
 rename_i hf ha hhf hha
 split at ht
 ·cases ht
 rename_i hname;simp only[Dp]at ht; subst ht;refine⟨⟨fn,hfn,by rw[hc]; rfl,by simpa using hname⟩,?_⟩;intro base w g st st' ds vs d hsp hS hG hlen hrep;simp only[PFD.runI]at hsp
 split at hsp
 case h_2=>cases hsp
 rename_i s1 hs1
 split at hsp
 case h_2=>cases hsp
 rename_i hfn' das hput
 split at hsp
 case h_2=>cases hsp
 rename_i h hHf;rw[iI,Az]at hs1;obtain⟨s0,hs0,hs1⟩:=hs1;refine callsIn_wide.1 (callsIn_of_wp_marks (F:=Fence.wide) (n:=0) hfn hc trivial ?_);refine wpIn_seq (wpIn_region_list (nt (r:=none) hT (by rw[hy]; exact YOK.none) _ _ _ s0 _ w hpre hs0 (Yiq hS hG hlen hrep) ?_));intro a0 w0 hR0
 show Code.wpIn _ _ _ _ _ _ _
 refine wpIn_seq (wpIn_region_list ?_)
 have hl:ops1.toList=rpre.reverse++[o]:=by
  simp_all
 rw[hl];refine Ul (r:=none) hT (by rw[hy]; exact YOK.none) _ _ _ _ _ _ hpre1 hs1 hR0 ?_;rintro a1 w1 ⟨g1,h1⟩;obtain⟨dst,op,ty,pos,after,guard⟩:=o;simp only at hop hgd hds;subst hop; subst hgd; subst hds;obtain⟨dd,hd1,hd2⟩:=h1.df;rw[Af]at hd1;have hev:∀ x pa,Ee x=s_ pa→RepV w1 g1 s1.st (DL G s1.fr pa) (a1.eval x):=fun x pa h=>G7 (G:=G) h1.gl h1.fr h;have hxv:=hev _ _ hhf;obtain⟨q1,q2⟩:=Qi hev hha;have q1:(ha.map (DL G s1.fr)).length=(c.args.toList.map a1.eval).length:=by simpa using q1
 unfold Ps at hput
 split at hput
 case h_2=>cases hput
 rename_i hf' caps hclo
 split at hput
 case isFalse=>cases hput
 rename_i hlt;simp only[Dp,DO]at hput;obtain⟨rfl,rfl⟩:=hput;rw[hclo]at hxv;generalize hxe:a1.eval x=xv at hxv
 obtain⟨us,hul,hur,rfl⟩:∃ us:List Value,caps.length=us.length∧(∀ (i:Nat) d v,caps[i]?=s_ d→us[i]?=s_ v→RepV w1 g1 s1.st d v)∧xv=.func (.func hf') #[] us.toArray:=by
  cases hxv with
  |clo _ _ us e1 e2=>exact⟨us,e1,e2,by rw[Tt hlt,YJ hlt,fC hlt]⟩
 have hargs:c.args.map a1.eval=(c.args.toList.map a1.eval).toArray:=by
  grind
 generalize hav:c.args.toList.map a1.eval=av at q1 q2 hargs
 have hdef:(Oper.semAt (Wr none).round a1.eval {dst:=none,op:=.defer c,type:=ty,pos:=pos,after:=after,guard:=none}).run P w1=.ok (.defer {target:=.fn (.func hf') us.toArray,args:=av.toArray}) w1:=by
  show(execOp a1.eval {dst:=none,op:=.defer c,type:=ty,pos:=pos,after:=after,guard:=none}).run P w1=_
  simp only[execOp,resolve,hcal,hargs,hxe,Deferred.ofValue,BU];rfl
 have hw1:Region.wanted ({dst:=none,op:=.defer c,type:=ty,pos:=pos,after:=after,guard:=none}:Oper) (yielded ops1 a1.tmps)=t_:=by simp[Region.wanted]
 simp only[wpListIn,hw1,if_true];refine⟨fun _ _=>trivial,?_⟩;rw[hdef,Oper.uponIn_defer]
 show Code.wpIn _ _ _ _ _ _ _
 have hR1:R G base fn.ntmps w1 g1 s1.st ({target:=.fn (.func hf') us.toArray,args:=av.toArray}::dd) s1 ({a1 with defers:={target:=.fn (.func hf') us.toArray,args:=av.toArray}::a1.defers}.put none undef) w1:=by
  refine⟨g1,Go1.refl h1.sr,h1.fr,h1.gl,⟨[],?_,trivial⟩,h1.sz⟩;simp[Act.put,hd1]
 obtain⟨⟨hfn',hhf,hhb,hhn⟩,hcon⟩:=hH _ _ hHf
 have hinv:∀ w2,(invoke (.fn (.func hf') us.toArray) av.toArray).run P w2=.ok (.enter hf' (av++us).toArray) w2:=by
  intro w2
  have hbn:¬ hfn'.body=none:=by
   grind
  have hn':¬ hfn'.name= "runtime.NumGoroutine":=by simpa using hhn
  simp[invoke,callFunc,hhf,hn',hbn]
 have hdl:(ha.map (DL G s1.fr)++caps).length=(av++us).length:=by simp only[Ac,q1,hul]
 have hdr:=nU q1 q2 hur;have hrt:=h1.go1.sr.size
 have fin:∀ (s3:PS) (a':Act) (w3:World) (g3:Ghost),(Eo s3 res).map (fun l=>(Ec l,s3.st))=s_ (d,st')→FR w3 g3 s3.st s3.fr a'→Go1 base w g st w3 g3 s3.st→DfOK w w3 dd→
   LeavesInM Fence.wide 0 P fn a'.tmps (fun e w'=>∃ v g',e=.returned v∧Go1 base w g st w' g' st'∧RepV w' g' st' d v) dd .returning w3:=by
  intro s3 a' w3 g3 hget hF hgo hdf
  have:=T9 (P:=P) (fn:=fn) (R:=fun e w'=>∃ v g',e=.returned v∧Go1 base w g st w' g' st'∧RepV w' g' st' d v) hS.size dd w3 hgo hF hdf (fun w4 hgo4 hF4=>by
   simp only[D0,DO]at hget;obtain⟨xs,hx1,rfl,rfl⟩:=hget;obtain⟨us,e1,e2,e3⟩:=Su hgo4.sr hF4 htr hx1;exact⟨_,Ze e3,_,g3,rfl,hgo4,Vs e1 e2⟩)
  exact this
 have done:∀ (e:Ex) (s':PS),pc.exec G T fuel s1=s_ (e,s')→(e=.next∨e=.ret)→(Eo s' res).map (fun l=>(Ec l,s'.st))=s_ (d,st')→
   ∀ a' w',R G base fn.ntmps w1 g1 s1.st ({target:=.fn (.func hf') us.toArray,args:=av.toArray}::dd) s' a' w'→LeavesInM Fence.wide 0 P fn a'.tmps (fun e w'=>∃ v g',e=.returned v∧Go1 base w g st w' g' st'∧RepV w' g' st' d v) a'.defers .returning w':=by
  rintro e s' hex he hget a' w' ⟨g2,h⟩;obtain⟨d2,hd3,hd4⟩:=h.df;rw[hd3];refine wL hrt _ d2 w' h.go1 h.fr hd4 fun w2 hgo hF=>?_;refine⟨by simp,.inr ⟨(by intro e; cases e),.func hf',us.toArray,hf',(av++us).toArray,rfl,hinv w2,fun _ _=>trivial,?_⟩⟩;have hG2:GlobOK G w2 g2:=h1.gl.mono hgo.im;refine((hcon base w2 g2 s'.st _ _ hgo.sr hG2 hdl (fun i d v h1 h2=>hgo.rep (hdr i d v h1 h2))).1).mono ?_;rintro e u w3 ⟨rfl,rfl,g3,hgo3⟩;exact fin s' a' w3 g3 hget (hF.mono hgo3.im hgo3.evo) (h1.go1.trans (hgo.trans hgo3)) ((hd2.mono hgo.kp).mono hgo3.kp)
 split at hsp
 ·rename_i s' hex;refine OZ hT rest none (.inl rfl) w1 g1 s1.st _ (by rw[hy]; exact YOK.none) hrt hints (pc,_) htc fuel _ s' _ hex _ w1 _ hR1 fun a' w' hR'=>?_;exact done _ s' hex (.inl rfl) hsp a' w' hR'
 ·rename_i s' hex;refine OZ hT rest none (.inl rfl) w1 g1 s1.st _ (by rw[hy]; exact YOK.none) hrt hints (pc,_) htc fuel _ s' _ hex _ w1 _ hR1 fun a' w' hR'=>?_;exact done _ s' hex (.inr rfl) hsp a' w' hR'
 ·rename_i t d2 s' hex
  split at hsp
  case h_2=>cases hsp
  rename_i st3 hst3;refine OZ hT rest none (.inl rfl) w1 g1 s1.st _ (by rw[hy]; exact YOK.none) hrt hints (pc,_) htc fuel _ s' _ hex _ w1 _ hR1 ?_;rintro a' w' ⟨g2,h⟩;obtain⟨d3,hd3,hd4⟩:=h.df
  show LeavesInM Fence.wide 0 P fn a'.tmps _ a'.defers (.panicking (Md t d2)) w'
  rw[hd3];refine iK hrt _ d3 w' h.go1 h.fr hd4 fun w2 hgo hF=>?_;refine⟨by simp,.inr ⟨(by intro e; cases e),.func hf',us.toArray,hf',(av++us).toArray,rfl,hinv w2,fun _ _=>trivial,?_⟩⟩;have hG2:GlobOK G w2 g2:=h1.gl.mono hgo.im;refine((hcon base w2 g2 s'.st _ _ hgo.sr hG2 hdl (fun i d v h1 h2=>hgo.rep (hdr i d v h1 h2))).2 t d2 st3 hst3).mono ?_;rintro e u w3 ⟨rfl,rfl,g3,hgo3⟩;exact fin ⟨s'.fr,st3⟩ a' w3 g3 hsp (hF.mono hgo3.im hgo3.evo) (h1.go1.trans (hgo.trans hgo3)) ((hd2.mono hgo.kp).mono hgo3.kp)
 ·cases hsp
theorem fe(E:TblOK P G T)(hy:T.y=fun _ _ _=>none)(M:DA P il f hints=s_ F)(fuel:Nat):IContract P G f (F.runI G T fuel):=
 ⟨(kY E M fuel).1,fun base w g st st' ds vs d N hS hG hl hr=>(kY E M fuel).2 base w g st st' ds vs d (by rw[hy]; exact YOK.none) N hS hG hl hr⟩
theorem Yum(h:RepV w g st d v):RepV w g (PI.cut k st) (Ip k d) v:=by
 cases d with
 |tup l=>
  cases h with
  |tup _ vs M N=>
   refine .tup _ vs (by simpa using M) fun i d v E hv=>?_;simp only[AK,D0]at E;obtain⟨d0,h3,rfl⟩:=E;exact jm (N i d0 v h3 hv)
 |_=>exact jm h
theorem IContract.dropped{sp:List D→St→Option (D×St)}(h:IContract P G f sp):IContract P G f (PI.dropped sp):=by refine⟨h.1,fun base w g st st' ds vs d E M N hl hr=>?_⟩;simp only[PI.dropped,D0,DO,Prod.exists]at E;obtain⟨d0,st1,h1,rfl,rfl⟩:=E;refine(h.2 base w g st st1 ds vs d0 h1 M N hl hr).mono ?_;rintro e w' ⟨v,g',rfl,h2,h3⟩;exact⟨v,g',rfl,h2.cut (AF _),Yum h3⟩
theorem YEh(hT:TblOK P G T)(hy:T.y=fun _ _ _=>none)(E:DA P il f hints=s_ F)(fuel:Nat):Contract P G f (F.run G T fuel):=by
 intro w g ds vs d a0 hG a1 hlen af _;unfold DA at E
 split at E
 case h_2=>cases E
 rename_i fn a2
 split at E
 case h_2=>cases E
 rename_i c hc
 split at E
 case h_2=>cases E
 rename_i pc ac res a3 a4
 split at E
 ·cases E
 simp only[Dp]at E; subst E;have hS:SR w.heap.size w g []:=⟨fun k o h=>by simp at h,fun k o h=>by simp at h,fun k k' o o' h=>by simp at h,a1,fun k o x h=>by simp at h,AF _⟩
 have key:∀ (e:Ex) (s':PS),pc.exec G T fuel {fr:=Dm ds,st:=[]}=s_ (e,s')→(Gh s' res).map Ec=s_ d→(e=.next∨e=.ret)→
   Calls P f vs.toArray w fun e w'=>∃ v g',e=.returned v∧RepV w' g' [] d v∧purR d=t_∧ImLe w g w' g'∧(∀ b o,g'.Im b o→g.Im b o∨w.heap.size≤b)∧
   (∀ b o,g'.Im b o→(w'.cell? ⟨b,o,none⟩).isSome=t_)∧Below w.heap.size w w':=by
  intro e s' hex ab he;refine callsIn_wide.1 (callsIn_of_wp_marks (F:=Fence.wide) (n:=0) a2 hc trivial ?_)
  have a5:R G w.heap.size fn.ntmps w g [] [] {fr:=Dm ds,st:=[]} {tmps:=vs.toArray++C9 (fn.ntmps - vs.toArray.size) undef,defers:=[]} w:=by
   refine⟨g,Go1.refl hS,?_,hG,⟨[],rfl,trivial⟩,?_⟩
   ·intro s;simp only[Dm];rcases A5 s ds.length with h1|h1
    ·have h2:s<vs.length:=by omega
     have h3:(vs.toArray++C9 (fn.ntmps - vs.toArray.size) undef).getD s undef=vs[s]:=by
      simp[Array.getD,h2];omega
     rw[h3];have:=af s ds[s] vs[s] (by simp[h1]) (by simp[h2]);grind
    ·simp[Ai,BH h1];exact .junk _
   ·simp; omega
  have fin:∀ N w',R G w.heap.size fn.ntmps w g [] [] s' N w'→LeavesInM Fence.wide 0 P fn N.tmps (fun e w'=>∃ v g',e=.returned v∧RepV w' g' [] d v∧purR d=t_∧ImLe w g w' g'∧(∀ b o,g'.Im b o→g.Im b o∨w.heap.size≤b)∧
   (∀ b o,g'.Im b o→(w'.cell? ⟨b,o,none⟩).isSome=t_)∧Below w.heap.size w w') N.defers .returning w':=by
   rintro N w' ⟨g1,h⟩;obtain⟨dd,a7,a8⟩:=h.df;rw[a7,Af];refine T9 (AF _) dd w' h.go1 h.fr a8 fun w2 aa hF=>?_;simp only[D0]at ab;obtain⟨ys,a9,rfl⟩:=ab;obtain⟨xs,ba,bb⟩:=mU a9;obtain⟨us,e1,e2,e3⟩:=Su aa.sr hF a4 ba;obtain⟨g2,bc,_,e5,e6,e7⟩:=SD aa.sr bb;have M:=aa.trans bc;refine⟨_,Ze e3,_,g2,rfl,?_,ew e6,M.im,M.new,M.sr.im,M.below⟩;have h8:=Vs (g:=g2) (w:=w2) (ds:=ys) (vs:=us) (by omega) fun i y v hy hv=>e7 i y v hy fun x hx=>e2 i x v hx hv;exact h8.purR (ImLe.refl _ _) (ew e6)
  refine OZ hT c none (.inl rfl) w g [] [] (by rw[hy]; exact YOK.none) (AF _) hints (pc,ac) a3 fuel _ s' e hex _ w _ a5 ?_;intro N w' ad;rcases he with rfl|rfl
  ·exact fin N w' ad
  ·exact fin N w' ad
 simp only[PF.run]at a0;grind
theorem Yct(E:TblOK P G T)(M:T.y=fun _ _ _=>none)(N:DA P il f hints=s_ F){sp:List D→Option D}(h:∀ ds d,sp ds=s_ d→∃ fuel,F.run G T fuel ds=s_ d):Contract P G f sp:=by intro w g ds vs d hd;obtain⟨fuel,hf⟩:=h ds d hd;exact YEh E M N fuel w g ds vs d hf
