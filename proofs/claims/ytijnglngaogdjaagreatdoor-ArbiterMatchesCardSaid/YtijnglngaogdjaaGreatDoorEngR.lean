/-
  Code and functions: a function whose translation comes to a value meets its contract.
  Conditions: none; these are lemmas.
-/
import Derived.Test.YtijnglngaogdjaaGreatDoorEngP
import Derived.OrdersIn
import Derived.TacticsIn
import Derived.Sort.LoopGhostIn
import Derived.RangeFuncLeaves
import Derived.RangeFuncRecord
open Array renaming replicate→CY
open List renaming range→CQ
set_option linter.unusedVariables false
set_option linter.unusedSimpArgs false
namespace Go.Proofs.YtijnglngaogdjaaGreatDoor.PI
open Go Go.RowKit
def Like(st st2:St)(k:Nat):Prop:=(st[k]?=none∧st2[k]?=none)∨∃ o o2,st[k]?=some o∧st2[k]?=some o2∧o2.row=o.row∧o2.sz=o.sz∧o2.els=o.els
variable {k:Nat}{st st2:St}
theorem Like.symm(h:Like st st2 k):Like st2 st k:=by
 rcases h with⟨a,b⟩ | ⟨o,o2,a,b,c,d,e⟩
 ·exact .inl ⟨b,a⟩
 ·exact .inr ⟨o2,o,b,a,c.symm,d.symm,e.symm⟩
theorem Like.of_eq(h:st2[k]?=st[k]?):Like st st2 k:=by
 cases hk:st[k]? with
 |none=>exact .inl ⟨hk,by rw[h,hk]⟩
 |some o=>exact .inr ⟨o,o,hk,by rw[h,hk],rfl,rfl,rfl⟩
variable {key:Nat}
theorem WW(h:Like st st2 key)(tot off len:Nat):Gy st2 key tot off len=Gy st key tot off len:=by
 unfold Gy;rcases h with⟨a,b⟩ | ⟨o,o2,a,b,c,d,e⟩
 ·rw[a,b]
 ·grind
theorem aX(h:Like st st2 key)(off n sz:Nat)(ag:Bool):JI st2 key off n sz ag=JI st key off n sz ag:=by
 unfold JI;rcases h with⟨a,b⟩ | ⟨o,o2,a,b,c,d,e⟩
 ·rw[a,b]
 ·grind
theorem V6(h:Like st st2 key)(tot:Nat):Eu st2 key tot=Eu st key tot:=by
 unfold Eu;rcases h with⟨a,b⟩ | ⟨o,o2,a,b,c,d,e⟩
 ·rw[a,b]
 ·grind
variable {d:D}
theorem jM(h:∀ k∈Dt d,Like st st2 k):DD st2 d=DD st d:=by
 cases d with
 |row key tot off len=>simp only[DD,WW (h key (by simp[Dt,FU]))]
 |bsl key off n sz ag=>simp only[DD,G0,aX (h key (by simp[Dt,FU]))]
 |_=>simp only[DD]
theorem ju{st st2:St}:∀ {l:List D},(∀ k∈l.flatMap Dt,Like st st2 k)→D3 st2 l=D3 st l
 |[],_=>rfl
 |d::l,h=>by
  simp only[D3];rw[jM (fun k hk=>h k (by simp[hk])),ju (fun k hk=>h k (by rw[An,AF]; exact .inr hk))]
theorem gu(h:∀ k∈hk d,Like st st2 k):D4 st2 d=D4 st d:=by
 cases d with
 |agg l=>simp only[D4]; rw[ju h]
 |tup l=>rfl
 |_=>simp only[D4]; exact jM h
theorem Sm{st st2:St}:∀ {l:List D},(∀ k∈l.flatMap hk,Like st st2 k)→D2 st2 l=D2 st l
 |[],_=>rfl
 |d::l,h=>by
  simp only[D2];rw[gu (fun k hk=>h k (by rw[An,AF]; exact .inl hk)),Sm (fun k hk=>h k (by rw[An,AF]; exact .inr hk))]
theorem uz(h:∀ k∈hk d,Like st st2 k):Gc st2 d=Gc st d:=by
 cases d with
 |row key tot off len=>simp only[Gc,WW (h key (by simp[hk,Dt,FU]))]
 |bsl key off n sz ag=>simp only[Gc,aX (h key (by simp[hk,Dt,FU]))]
 |_=>rfl
theorem tA(h:∀ k∈hk d,Like st st2 k):Fa st2 d=Fa st d:=by
 cases d with
 |row key tot off len=>simp only[Fa,V6 (h key (by simp[hk,Dt,FU]))]
 |_=>rfl
theorem vA{c:PConv}(h:∀ k∈hk d,Like st st2 k):E0 st2 c d=E0 st c d:=by
 cases d with
 |row key tot off len=>cases c <;> simp only[E0,WW (h key (by simp[hk,Dt,FU]))]
 |_=>cases c <;> simp only[E0]
variable {sz:Nat}
theorem xc{x:D}{lo hi u:Option D}(h:∀ k∈hk x,Like st st2 k):FX st2 sz x lo hi u=FX st sz x lo hi u:=by
 cases x with
 |row key tot off len=>
  simp only[FX];rcases h key (by simp[hk,Dt,FU])with⟨a,b⟩ | ⟨o,o2,a,b,c,d,e⟩
  ·rw[a,b]
  ·grind
 |_=>simp only[FX]
theorem vK{x i:D}(h:∀ k∈hk x,Like st st2 k):Fy st2 sz x i=Fy st sz x i:=by
 unfold Fy
 cases Fj i with
 |none=>rfl
 |some j=>
  cases x with
  |row key tot off len=>
   simp only;rcases h key (by simp[hk,Dt,FU])with⟨a,b⟩ | ⟨o,o2,a,b,c,d,e⟩
   ·rw[a,b]
   ·grind
  |_=>rfl
theorem j6{off:Nat}{x:D}(h:∀ k∈Jy x,Like st st2 k):EK st2 off x=EK st off x:=by
 cases x with
 |rptr key tot i o=>simp only[EK,V6 (h key (by simp[Jy]))]
 |_=>rfl
variable {n:Nat}
theorem vI{x i:D}(h:∀ k∈Jy x,Like st st2 k):GS st2 n sz x i=GS st n sz x i:=by
 simp only[GS,j6 h]
theorem wq{ag:Bool}{p:D}(h:∀ k∈hk p,Like st st2 k):EU st2 n ag p=EU st n ag p:=by
 cases p with
 |ptr key off=>
  simp only[EU];rcases h key (by simp[hk,Dt,FU])with⟨a,b⟩ | ⟨o,o2,a,b,c,d,e⟩
  ·rw[a,b]
  ·grind
 |rptr key tot i off=>
  simp only[EU];rcases h key (by simp[hk,Dt,FU])with⟨a,b⟩ | ⟨o,o2,a,b,c,d,e⟩
  ·rw[a,b]
  ·grind
 |_=>simp only[EU]
theorem xR{ks:List Nat}{ok:Bool}{u m k:D}(h:∀ k∈hk m,Like st st2 k):Hw st2 sz ks ok u m k=Hw st sz ks ok u m k:=by
 cases m with
 |mapv key=>
  simp only[Hw];rcases h key (by simp[hk,Dt,FU])with⟨a,b⟩ | ⟨o,o2,a,b,c,d,e⟩
  ·rw[a,b]
  ·simp only[a,b,Obj.isMap,c,d,e];rfl
 |_=>simp only[Hw]
theorem sU{p:D}(h:∀ k∈Jy p,Like st st2 k):∀ key tot i off,p=.rptr key tot i off→Eu st2 key tot=Eu st key tot:=by
 rintro key tot i off rfl;exact V6 (h key (by simp[Jy])) tot
theorem Ycl(h:k∈Fp d):k∈Dt d:=by
 cases d <;> simp_all [Fp,Dt,FU]
theorem Yjc(h:k∈keys d):k∈hk d:=by
 cases d with
 |agg l=>
  simp only[keys,hk,Bk]at h ⊢;obtain⟨x,u,E⟩:=h;exact⟨x,u,Ycl E⟩
 |row a b c e=>exact h
 |bsl key off n sz ag=>simp only[keys,Fp,AP]at h; subst h; simp[hk,Dt,FU]
 |_=>simp[keys,Fp]at h
theorem gy{l:List D}(h:k∈l.flatMap keys):k∈l.flatMap hk:=by
 simp only[Bk]at h ⊢;obtain⟨x,u,E⟩:=h;exact⟨x,u,Yjc E⟩
inductive Eff where
 |lend (ks:List Nat)
 |set (k:Nat) (o:Obj)
 |push (os:List Obj)
theorem Yly{u:Nat}{xs:List D}(h:Gc st d=some (u,xs))(E:xs≠[])(n:Nat):FF d n=some n:=by
 unfold FF
 split
 ·simp only[Gc,C9,Dr]at h;grind
 ·rfl
theorem qw{m:Nat}(h:FF d m=some n):n=m:=by
 unfold FF at h;grind
theorem iL(h:FF d n=none)(m:Nat):FF d m=none:=by
 unfold FF at h ⊢;grind
def Eff.app:Eff→St→St
 |.lend ks,st=>PI.lend ks st
 |.set k o,st=>st.set k o
 |.push os,st=>st++os
def Eff.inn(f:Foot):Eff→Prop
 |.lend ks=>∀ k∈ks,k∈f.rd
 |.set k _=>k∈f.wr
 |.push _=>f.nu.isSome=true
theorem jW{st st2:St}:∀ {l:List Nat},(∀ k∈l,Like st st2 k)→Gg st2 l=Gg st l
 |[],_=>rfl
 |a::l,h=>by
  have e:(st2[a]?).map Obj.see=(st[a]?).map Obj.see:=by
   rcases h a (by simp)with⟨x,y⟩ | ⟨o,o2,x,y,c,d,e⟩
   ·rw[x,y]
   ·simp only[x,y,Ae,Obj.see,c,d,e]
  have u:=jW (st:=st) (st2:=st2) (l:=l) fun k hk=>h k (by simp[hk]);simp only[Gg,e,u]
theorem xe{sp:List D→List (Option (Bool×Nat×List D))→Option D}{ds:List D}(h:∀ k∈ds.flatMap hk,Like st st2 k):G8 sp ds st2=G8 sp ds st:=by
 have e:(ds.flatMap hk).all (fun k=>(st2[k]?).isSome)=(ds.flatMap hk).all (fun k=>(st[k]?).isSome):=by
  rw[Bool.eq_iff_iff,Ag,Ag];refine forall_congr' fun k=>imp_congr_right fun hk=>?_;rcases h k hk with⟨x,y⟩ | ⟨o,o2,x,y,_⟩
  ·rw[x,y]
  ·grind
 unfold G8;rw[e,jW h]
variable {f:Foot}{ρ:PA→D}{T:Tbl}
theorem je(p:POp){st':St}(u:p.foot ρ st=some f)(h:p.exec T ρ st=some (d,st')) :
  ∃ e:Eff,e.inn f∧st'=e.app st∧∀ st2:St,(∀ k∈f.rd,Like st st2 k)→(∀ k∈f.wr,st2[k]?=st[k]?)→(f.nu.isSome=true→st2.length=st.length)→p.exec T ρ st2=some (d,e.app st2):=by
 by_cases hc:p.cls=0
 ·obtain⟨X,h2⟩:=Wc p hc h;exact⟨.lend [],(fun k hk=>by cases hk),X,fun st2 _ _ _=>h2 st2⟩
 have rd:∀ {α:Type} (F:St→Option α) (g:α→D),((F st).map fun x=>(g x,st))=some (d,st')→(∀ st2,(∀ k∈f.rd,Like st st2 k)→F st2=F st)→(∀ st2,p.exec T ρ st2=(F st2).map fun x=>(g x,st2))→
   ∃ e:Eff,e.inn f∧st'=e.app st∧∀ st2:St,(∀ k∈f.rd,Like st st2 k)→(∀ k∈f.wr,st2[k]?=st[k]?)→(f.nu.isSome=true→st2.length=st.length)→p.exec T ρ st2=some (d,e.app st2):=by
  intro α F g X h2 h3;simp only[DA,Dr]at X;obtain⟨x,J,h4,h5⟩:=X;refine⟨.lend [],(fun k hk=>by cases hk),h5.symm,fun st2 hl _ _=>?_⟩;rw[h3,h2 st2 hl,J,← h4]; rfl
 cases p with
 |load n ag x=>
  simp only[POp.foot,POp.args,C9]at u; subst u;exact rd (fun st=>EU st n ag (ρ x)) id h (fun st2 hl=>wq fun k hk=>hl k (by simpa using hk)) (fun _=>rfl)
 |fld off x=>
  simp only[POp.foot,C9]at u; subst u;exact rd (fun st=>EK st off (ρ x)) id h (fun st2 hl=>j6 hl) (fun _=>rfl)
 |conv c x=>
  simp only[POp.foot,POp.args,C9]at u; subst u;exact rd (fun st=>E0 st c (ρ x)) id h (fun st2 hl=>vA fun k hk=>hl k (by simpa using hk)) (fun _=>rfl)
 |slice sz x lo hi mx=>
  simp only[POp.foot,POp.args,C9]at u; subst u;exact rd (fun st=>FX st sz (ρ x) (lo.map ρ) (hi.map ρ) (mx.map ρ)) id h (fun st2 hl=>xc fun k hk=>hl k (by rw[Aq,An,AF]; exact .inl hk)) (fun _=>rfl)
 |idxS sz x i=>
  simp only[POp.foot,POp.args,C9]at u; subst u;exact rd (fun st=>Fy st sz (ρ x) (ρ i)) id h (fun st2 hl=>vK fun k hk=>hl k (by rw[Aq,An,AF]; exact .inl hk)) (fun _=>rfl)
 |idxA n sz x i=>
  simp only[POp.foot,C9]at u; subst u;exact rd (fun st=>GS st n sz (ρ x) (ρ i)) id h (fun st2 hl=>vI hl) (fun _=>rfl)
 |len str x=>
  simp only[POp.foot,POp.args,C9]at u; subst u;simp only[POp.exec]at h
  split at h
  ·rename_i M;exact rd (fun st=>Fa st (ρ x)) (fun n:Nat=>D.int .i64 (n:Int)) h (fun st2 hl=>tA fun k hk=>hl k (by simpa using hk)) (fun st2=>by simp only[POp.exec]; rw[if_pos M])
  ·cases h
 |nilc x=>
  simp only[POp.foot,C9]at u; subst u;have U:=fun st2 (hl:∀ k∈Jy (ρ x),Like st st2 k)=>sU (p:=ρ x) hl;simp only[POp.exec]at h ⊢
  cases J:ρ x with
  |ptr key off=>
   simp only[J,C9,Dr]at h;refine⟨.lend [],(fun k hk=>by cases hk),h.2.symm,fun st2 hl _ _=>by rw[← h.1]; rfl⟩
  |eptr el off=>
   simp only[J,C9,Dr]at h;refine⟨.lend [],(fun k hk=>by cases hk),h.2.symm,fun st2 hl _ _=>by rw[← h.1]; rfl⟩
  |rptr key tot i off=>
   simp only[J]at h ⊢
   split at h
   ·rename_i af;simp only[C9,Dr]at h;refine⟨.lend [],(fun k hk=>by cases hk),h.2.symm,fun st2 hl _ _=>?_⟩;rw[U st2 (by rw[J]; exact hl) key tot i off J,if_pos af,← h.1]; rfl
   ·cases h
  |_=>simp[J]at h
 |bslc sz parts=>
  simp only[POp.foot,POp.args,C9]at u; subst u;simp only[POp.exec]at h ⊢
  split at h
  ·rename_i els he
   split at h
   ·rename_i E;simp only[C9,Dr]at h;refine⟨.lend ((parts.map ρ).flatMap keys),fun k hk=>gy hk,h.2.symm,fun st2 hl _ _=>?_⟩;rw[Sm hl,he];simp only[E,if_true,← h.1];rfl
   ·cases h
  ·cases h
 |call fn args=>
  simp only[POp.foot,POp.args,C9]at u; subst u;simp only[POp.exec]at h ⊢
  split at h
  ·rename_i sp vs O Y
   split at h
   ·rename_i r hr;simp only[C9,Dr]at h
    by_cases U:r.noRef=true
    ·refine⟨.lend [],(fun k hk=>by cases hk),?_,fun st2 hl _ _=>?_⟩
     ·rw[← h.2,if_pos U]; rfl
     ·simp only[O,Sm hl,Y,hr,U,if_true,← h.1]; rfl
    ·refine⟨.lend ((args.map ρ).flatMap keys),fun k hk=>gy hk,?_,fun st2 hl _ _=>?_⟩
     ·rw[← h.2,if_neg U]; rfl
     ·simp only[O,Sm hl,Y,hr,U,← h.1]; rfl
   ·cases h
  ·cases h
 |box x=>
  simp only[POp.foot,C9]at u; subst u;simp only[POp.exec]at h ⊢
  split at h
  ·rename_i E;simp only[C9,Dr]at h;refine⟨.push _,rfl,h.2.symm,fun st2 _ _ hm=>?_⟩;rw[if_pos E,hm rfl,← h.1]; rfl
  ·cases h
 |mkslc sz bytes zero l c=>
  simp only[POp.foot,C9]at u; subst u;simp only[POp.exec]at h ⊢
  split at h
  ·split at h
   ·rename_i E;simp only[C9,Dr]at h;refine⟨.push _,rfl,h.2.symm,fun st2 _ _ hm=>?_⟩;rw[if_pos E,hm rfl,← h.1]; rfl
   ·cases h
  ·cases h
 |mcall fn args=>
  simp only[POp.foot,C9]at u; subst u;simp only[POp.exec]at h ⊢
  split at h
  ·split at h
   ·simp only[C9,Dr]at h;refine⟨.push _,rfl,h.2.symm,fun st2 _ _ hm=>?_⟩;rw[hm rfl,← h.1]; rfl
   ·cases h
  ·cases h
 |stor n p x=>
  simp only[POp.foot,C9]at u; subst u;simp only[POp.exec]at h ⊢
  cases hp:ρ p with
  |ptr key off=>
   rw[hp]at h;simp only[JZ]at h ⊢
   cases hk:st[key]? with
   |none=>simp[hk]at h
   |some o=>
    simp only[hk]at h
    split at h
    ·rename_i E;simp only[Ae,C9,Dr]at h;refine⟨.set key _,by simp[Eff.inn,PI.hk,Dt,FU],h.2.symm,fun st2 _ hw _=>?_⟩;have e:=hw key (by simp[PI.hk,Dt,FU]);rw[e,hk];simp only[E,if_true,Ae,← h.1];rfl
    ·simp at h
  |rptr key tot i off=>
   rw[hp]at h;simp only[JZ]at h ⊢
   cases hk:st[key]? with
   |none=>simp[hk]at h
   |some o=>
    cases hy:D4 st (ρ x)with
    |none=>simp[hk,hy]at h
    |some y=>
     simp only[hk,hy]at h
     split at h
     case isFalse=>simp at h
     rename_i E
     split at h
     case h_2=>simp at h
     rename_i el a0
     split at h
     case h_2=>simp at h
     rename_i a6 ad
     split at h
     case isFalse=>simp at h
     rename_i hlen;simp only[Ae,C9,Dr]at h;refine⟨.set key _,by simp[Eff.inn,PI.hk,Dt,FU],h.2.symm,fun st2 hl hw _=>?_⟩;have e:=hw key (by simp[PI.hk,Dt,FU]);rw[e,hk,gu hl,hy];simp only[E,if_true,a0,ad,hlen,Ae,← h.1];rfl
  |_=>simp[hp,JZ]at h
 |app sz bytes s x=>
  simp only[POp.foot]at u;simp only[POp.exec]at h ⊢;unfold DR at h ⊢;have N:∀ st2,(∀ k∈hk (ρ x),Like st st2 k)→Gc st2 (ρ x)=Gc st (ρ x):=fun st2 hl=>uz hl
  cases he:Gc st (ρ x)with
  |none=>simp[he]at h
  |some r=>
   obtain⟨a7,xs⟩:=r;simp only[he]at h
   split at h
   ·cases h
   rename_i V
   cases M:ρ s with
   |row key tot off len=>
    simp only[M,C9]at u; subst u;simp only[M]at h ⊢
    cases hk:st[key]? with
    |none=>simp[hk]at h
    |some o=>
     simp only[hk]at h
     split at h
     case isFalse=>cases h
     rename_i E;simp only[C9,Dr]at h;refine⟨.set key _,by simp[Eff.inn],h.2.symm,fun st2 hl hw _=>?_⟩;have e:=hw key (by simp);rw[N st2 hl,he,e,hk];simp only[V,if_false,Ak,E,if_true,← h.1];rfl
   |slc a8 els t=>
    simp only[M,C9]at u; subst u
    cases t with
    |false=>simp[M]at h
    |true=>
     simp only[M]at h ⊢
     split at h
     ·rename_i I;simp only[C9,Dr]at h;refine⟨.lend [],(fun k hk=>by cases hk),h.2.symm,fun st2 hl _ _=>?_⟩;rw[N st2 hl,he];dsimp only;rw[if_neg V,if_pos I,← h.1];rfl
     ·rename_i I
      split at h
      case isFalse=>cases h
      rename_i E;simp only[C9,Dr]at h;have hN:FF (ρ x) st.length=some st.length:=Yly he (by simpa using I) _;refine⟨.push _,(by show(FF (ρ x) st.length).isSome=true; rw[hN]; rfl),h.2.symm,fun st2 hl _ hm=>?_⟩;rw[N st2 hl,he,hm (by show(FF (ρ x) st.length).isSome=true; rw[hN]; rfl)];dsimp only;rw[if_neg V,if_neg I,if_pos E,← h.1];rfl
   |_=>simp[M]at h
 |rcall fn args=>
  simp only[POp.foot,POp.args,C9]at u; subst u;simp only[POp.exec]at h
  split at h
  ·rename_i sp O;exact rd (fun st=>G8 sp (args.map ρ) st) id h (fun st2 hl=>xe hl) (fun st2=>by simp only[POp.exec,O]; rfl)
  ·cases h
 |icall fn args=>simp[POp.foot]at u
 |callv x args=>simp[POp.foot]at u
 |fail=>simp[POp.foot]at u
 |mkmap sz=>simp[POp.foot]at u
 |mapup sz ks m k v=>simp[POp.foot]at u
 |cpy sz d s=>simp[POp.foot]at u
 |mapget sz ks ok zero m k=>
  simp only[POp.foot,POp.args,C9]at u; subst u;exact rd (fun st=>Hw st sz ks ok zero (ρ m) (ρ k)) id h (fun st2 hl=>xR fun k hk=>hl k (by rw[Aq,An,AF]; exact .inl hk)) (fun _=>rfl)
 |_=>simp[POp.cls]at hc
theorem eS{p:POp}(h:p.foot ρ st=some f):∀ n,f.nu=some n→n=st.length:=by
 intro n u
 cases p with
 |app sz bytes s x=>
  simp only[POp.foot]at h;cases E:ρ s <;> simp only[E,C9]at h <;> subst h <;> first | exact qw u | (simp at u; done) | exact(by simpa using u.symm)
 |_=>
  simp only[POp.foot,C9,reduceCtorEq]at h
  try subst h
  try simp at u
  try exact u.symm
theorem NC(p:POp)(h:st2.length=st.length):p.foot ρ st2=p.foot ρ st:=by
 cases p <;> simp only[POp.foot,h]
theorem RD(p:POp)(u:p.cls≤2)(st st2:St):p.foot ρ st2=p.foot ρ st:=by
 cases p <;> first | rfl | (simp[POp.cls]at u; done)
theorem aQ{p:POp}(h:p.foot ρ st=some f)(u:f.nu=none):p.foot ρ st2=some f:=by
 cases p with
 |app sz bytes s x=>
  simp only[POp.foot]at h ⊢;cases E:ρ s <;> simp only[E,C9]at h ⊢ <;> subst h <;> first | rfl | (simp only[iL u _]; done) | (simp at u; done) | (rw[iL u st2.length,u])
 |box x=>simp only[POp.foot,C9]at h; subst h; cases u
 |mkslc a b c d e=>simp only[POp.foot,C9]at h; subst h; cases u
 |mcall fn args=>simp only[POp.foot,C9]at h; subst h; cases u
 |_=>exact h
theorem uE{u:PA→D}(p:POp)(h:∀ x∈p.args,ρ x=u x):p.foot ρ st=p.foot u st:=by
 cases p with
 |stor n p x=>simp only[POp.args,AA,AQ,or_false,forall_eq_or_imp,forall_eq]at h; simp only[POp.foot,h]
 |app a b s x=>simp only[POp.args,AA,AQ,or_false,forall_eq_or_imp,forall_eq]at h; simp only[POp.foot,h]
 |box x=>rfl
 |mkslc a b c d e=>rfl
 |mcall f args=>rfl
 |icall f args=>rfl
 |callv x args=>rfl
 |fail=>rfl
 |mkmap sz=>rfl
 |mapup sz ks m k v=>rfl
 |cpy sz d s=>rfl
 |fld n x=>simp only[POp.args,AA,AQ,or_false,forall_eq]at h; simp only[POp.foot,h]
 |nilc x=>simp only[POp.args,AA,AQ,or_false,forall_eq]at h; simp only[POp.foot,h]
 |idxA a b x i=>simp only[POp.args,AA,AQ,or_false,forall_eq_or_imp,forall_eq]at h; simp only[POp.foot,h]
 |_=>
  simp only[POp.foot];rw[Bx h]
variable {b:List Nat}
theorem VM{a:List Nat}(h:GM a b=true):∀ k∈a,k∉b:=by
 simp only[GM,Ag,AL]at h;grind
theorem Sw{m:Option Nat}(h:IY m b=true):∀ n,m=some n→∀ k∈b,k<n:=by
 rintro n rfl k hk;simp only[IY,Ag,decide_eq_true_eq]at h;exact h k hk
variable {g:Foot}
theorem fl(h:f.ok g=true):(∀ k∈g.wr,k∉f.rd)∧(∀ k∈g.wr,k∉f.wr)∧(∀ k∈f.wr,k∉g.rd)∧(∀ n,f.nu=some n→∀ k∈g.rd,k<n)∧(∀ n,f.nu=some n→∀ k∈g.wr,k<n)∧(∀ n,g.nu=some n→∀ k∈f.rd,k<n)∧(∀ n,g.nu=some n→∀ k∈f.wr,k<n)∧(f.nu=none∨g.nu=none):=by
 simp only[Foot.ok,Ac,A5,Option.isNone_iff_eq_none]at h;obtain⟨⟨⟨⟨⟨⟨⟨u,E⟩,I⟩,J⟩,M⟩,N⟩,O⟩,U⟩:=h;exact⟨VM u,VM E,VM I,Sw J,Sw M,Sw N,Sw O,U⟩
theorem Mm:∀ (ks:List Nat) (st:St) (i:Nat),(lend ks st)[i]?=(st[i]?).map fun o=>if i∈ks then {o with lent:=true} else o
 |[],st,i=>by simp[lend]
 |k::r,st,i=>by
  rw[lend,Mm r,NQ];grind
theorem gF(ks:List Nat)(st:St)(k:Nat)(o:Obj)(h:k∉ks):lend ks (st.set k o)=(lend ks st).set k o:=by
 apply A9;intro i;rw[Mm,List.getElem?_set,List.getElem?_set,Mm,LR];grind
theorem gD(ks:List Nat)(st:St)(os:List Obj)(h:∀ k∈ks,k<st.length):lend ks (st++os)=lend ks st++os:=by
 apply A9;intro i;rw[Mm];rcases Be i st.length with hi | hi
 ·rw[Ao hi,Ao (by rw[LR]; exact hi),Mm]
 ·rw[AD hi,AD (by rw[LR]; exact hi),LR];grind
theorem fq(st:St)(k:Nat)(o:Obj)(os:List Obj)(h:k<st.length):(st++os).set k o=st.set k o++os:=BR _ _ h
variable {e:Eff}
theorem Eff.len(h:e.inn f)(u:f.nu=none):(e.app st).length=st.length:=by
 cases e with
 |lend ks=>exact LR ks st
 |set k o=>simp[Eff.app]
 |push os=>simp[Eff.inn,u]at h
theorem Eff.comm{I:Eff}(h:e.inn f)(E:I.inn g)(N:f.ok g=true)(J:∀ n,f.nu=some n→n=st.length)(M:∀ n,g.nu=some n→n=st.length):e.app (I.app st)=I.app (e.app st):=by
 obtain⟨o1,o2,O,U,V,X,Y,o8⟩:=fl N
 have u:∀ {m:Option Nat},m.isSome=true→(∀ n,m=some n→n=st.length)→m=some st.length:=by
  intro m h1 h2
  cases m with
  |none=>cases h1
  |some n=>rw[h2 n rfl]
 cases e with
 |lend ks=>
  cases I with
  |lend qs=>exact V3 ks qs st
  |set k o=>exact gF ks st k o fun hk=>o1 k E (h k hk)
  |push os=>exact gD ks st os fun k hk=>X _ (u E M) k (h _ hk)
 |set k o=>
  cases I with
  |lend qs=>exact(gF qs st k o fun hk=>O k h (E k hk)).symm
  |set k' q=>exact List.set_comm _ _ (fun e=>o2 k' E (e ▸ h))
  |push q=>exact fq st k o q (Y _ (u E M) _ h)
 |push o=>
  cases I with
  |lend qs=>exact(gD qs st o fun k hk=>U _ (u h J) k (E _ hk)).symm
  |set k q=>exact(fq st k q o (V _ (u h J) _ E)).symm
  |push q=>
   have a:=u h J;have b:=u E M;grind
theorem Eff.eq_at(h:e.inn f)(u:∀ n,f.nu=some n→n=st.length)(E:k∉f.rd)(I:k∉f.wr)(J:∀ n,f.nu=some n→k<n):(e.app st)[k]?=st[k]?:=by
 cases e with
 |lend ks=>
  show(PI.lend ks st)[k]?=_
  rw[Mm];have:k∉ks:=fun hk=>E (h k hk);simp[this]
 |set q o=>
  have:q≠k:=fun e=>I (e ▸ h);simp[Eff.app,this]
 |push o=>
  have M:f.nu=some st.length:=by
   cases hk:f.nu with
   |none=>simp[Eff.inn,hk]at h
   |some n=>rw[u n hk]
  have:=J _ M
  show(st++o)[k]?=_
  grind
theorem Eff.like_at(h:e.inn f)(u:∀ n,f.nu=some n→n=st.length)(E:k∉f.wr)(I:∀ n,f.nu=some n→k<n):Like st (e.app st) k:=by
 cases e with
 |lend ks=>
  show Like st (PI.lend ks st) k
  unfold Like;rw[Mm];grind
 |set q o=>
  have:q≠k:=fun e=>E (e ▸ h);exact Like.of_eq (by simp[Eff.app,this])
 |push o=>
  have J:f.nu=some st.length:=by
   cases hk:f.nu with
   |none=>simp[Eff.inn,hk]at h
   |some n=>rw[u n hk]
  have:=I _ J;refine Like.of_eq ?_
  show(st++o)[k]?=_
  grind
theorem Yn7{ρx O:PA→D}{x y:POp}{st1:St}{dx dy:D}(hx:x.exec T ρx st=some (dx,st1))(I:x.foot ρx st=some f)(hy:y.exec T O st1=some (dy,st2))(J:y.foot O st1=some g)(ab:f.ok g=true) :
  ∃ E,y.exec T O st=some (dy,E)∧y.foot O st=some g∧x.exec T ρx E=some (dx,st2)∧x.foot ρx E=some f:=by
 obtain⟨o1,o2,o3,o4,o5,o6,o7,U⟩:=fl ab;obtain⟨e,M,N,e3⟩:=je x I hx;have V:=eS I;have ac:=eS J
 have X:∀ n,g.nu=some n→n=st.length:=by
  intro n u;rw[ac n u,N];rcases U with c | c
  ·exact Eff.len M c
  ·grind
 have ad:y.foot O st=some g:=by
  rcases U with c | c
  ·rw[NC (st:=st1) y (by rw[N]; exact(Eff.len M c).symm)]; exact J
  ·exact aQ J c
 obtain⟨q,Y,q2,q3⟩:=je y J hy
 have a1:=q3 st (fun k hk=>by
   rw[N];exact(Eff.like_at M V (fun hw=>o3 k hw hk) (fun n u=>o4 n u k hk)).symm)
  (fun k hk=>by
   rw[N];exact(Eff.eq_at M V (fun hr=>o1 k hk hr) (fun hw=>o2 k hk hw) (fun n u=>o5 n u k hk)).symm)
  (fun hm=>by
   rw[N];rcases U with c | c
   ·exact(Eff.len M c).symm
   ·grind)
 refine⟨q.app st,a1,ad,?_,?_⟩
 ·have:=e3 (q.app st) (fun k hk=>Eff.like_at Y X (fun hw=>o1 k hw hk) (fun n u=>o6 n u k hk))
   (fun k hk=>Eff.eq_at Y X (fun hr=>o3 k hk hr) (fun hw=>o2 k hw hk) (fun n u=>o7 n u k hk))
   (fun hm=>by
    rcases U with c | c
    ·grind
    ·exact Eff.len Y c)
  rw[this,q2,N,Eff.comm M Y ab V X]
 ·rcases U with c | c
  ·exact aQ I c
  ·rw[NC (st:=st) x (Eff.len Y c)]; exact I
def PI.regs(x y:PI):Bool:=
 (match x.dst with
  |some d=>!(y.reads.contains d) && y.dst != some d
  |none=>true) &&
 (match y.dst with
  |some d=>!(x.reads.contains d)
  |none=>true)
variable {y:PI}
theorem tn{x:PI}(h:x.regs y=true):(∀ t,x.dst=some t→t∉y.reads)∧(∀ t,x.dst=some t→y.dst≠some t)∧(∀ t,y.dst=some t→t∉x.reads):=by
 simp only[PI.regs,Ac]at h;grind
theorem NV{x:PI}(h:x.apart y=true):x.regs y=true:=by
 simp only[PI.apart,Ac]at h;simp only[PI.regs,Ac];exact h.1
variable {dst:Option Nat}{G:Dh}
theorem gP{fr:Frame}{i:PI}(h:∀ t,dst=some t→t∉i.reads):i.op.foot (Dn G (fr.put dst d)) st=i.op.foot (Dn G fr) st:=by
 refine uE i.op fun x E=>fy fun t u hm=>h t u ?_;simp only[PI.reads,AF,Bk];grind
def HR(x y:PI×Option Foot):Prop:=x.1.regs y.1=true∧(x.1.apart y.1=true∨∃ f g:Foot,x.2=some f∧y.2=some g∧f.ok g=true)
variable {s s1:PS}
theorem U2{x:PI}(h:x.exec G T s=some s1)(E:x.op.cls≤2):s1.st.length=s.st.length:=by
 rw[PI.exec_eq]at h;simp only[DA]at h;obtain⟨⟨d,st⟩,u,rfl⟩:=h;unfold PI.step at u
 split at u
 ·cases u
 ·grind
 ·obtain⟨ks,rfl⟩:=Se x.op E u;exact LR ks s.st
theorem XM{x:PI}(h:x.exec G T s=some s1):∃ d,s1.fr=s.fr.put x.dst d:=by
 rw[PI.exec_eq]at h;simp only[DA]at h;grind
theorem Nl{i:PI}{s':PS}(u:s'.fr=s.fr.put dst d)(h:∀ t,dst=some t→t∉i.reads)(E:i.op.foot (Dn G s.fr) s'.st=i.op.foot (Dn G s.fr) s.st):i.foot G s'=i.foot G s:=by
 unfold PI.foot;rw[u,Ph h,gP h,E]
theorem Qc{x:PI}{s2:PS}(h:HR (x,x.foot G s) (y,y.foot G s1))(E:x.exec G T s=some s1)(u:y.exec G T s1=some s2) :
  ∃ J,y.exec G T s=some J∧x.exec G T J=some s2∧y.foot G s=y.foot G s1∧x.foot G J=x.foot G s:=by
 obtain⟨aa,h⟩:=h;dsimp only at aa h;obtain⟨a1,a2,Y⟩:=tn aa;rcases h with h | ⟨f,g,hf,hg,a8⟩
 ·obtain⟨J,V,h2⟩:=ZC h E u;obtain⟨_,_,_,a4⟩:=kn h;obtain⟨U,ex⟩:=XM E;obtain⟨O,ey⟩:=XM V;refine⟨J,V,h2,(Nl ex a1 ?_).symm,Nl ey Y ?_⟩
  ·rcases a4 with c | c | ⟨c,_⟩ | ⟨c,_⟩
   ·exact NC _ (U2 E (by omega))
   ·exact RD _ (by omega) _ _
   ·exact NC _ (U2 E c)
   ·exact NC _ (U2 E c)
  ·rcases a4 with c | c | ⟨c,_⟩ | ⟨c,_⟩
   ·exact RD _ (by omega) _ _
   ·exact NC _ (U2 V (by omega))
   ·exact RD _ c _ _
   ·exact RD _ c _ _
 ·have ad:y.wanted s1.fr=y.wanted s.fr:=by
   obtain⟨U,ex⟩:=XM E;rw[ex]; exact Ph a1
  rw[PI.exec_eq]at E u;simp only[DA]at E u;obtain⟨⟨U,stx⟩,E,rfl⟩:=E;obtain⟨⟨O,ae⟩,u,rfl⟩:=u;simp only at u ad hg ⊢;have X:∀ d,x.wanted (s.fr.put y.dst d)=x.wanted s.fr:=fun d=>Ph Y
  have key:∀ M,y.step G T s=some (O,M)→(∀ d,x.step G T {fr:=s.fr.put y.dst d,st:=M}=some (U,ae))→x.op.foot (Dn G s.fr) M=x.op.foot (Dn G s.fr) s.st→y.op.foot (Dn G s.fr) stx=y.op.foot (Dn G s.fr) s.st→
    ∃ J,y.exec G T s=some J∧x.exec G T J=some {fr:=(s.fr.put x.dst U).put y.dst O,st:=ae}∧y.foot G s=y.foot G {fr:=s.fr.put x.dst U,st:=stx}∧x.foot G J=x.foot G s:=by
   intro M V h2 h3 h4;refine⟨{fr:=s.fr.put y.dst O,st:=M},by rw[PI.exec_eq,V]; rfl,?_,(Nl (s':={fr:=s.fr.put x.dst U,st:=stx}) rfl a1 h4).symm,Nl (s':={fr:=s.fr.put y.dst O,st:=M}) rfl Y h3⟩;rw[PI.exec_eq,h2 O];simp only[Ae];rw[RL s.fr U O a2]
  unfold PI.step at E u;simp only[ad]at u
  cases N:x.wanted s.fr with
  |none=>simp[N]at E
  |some bx=>
   cases I:y.wanted s.fr with
   |none=>simp[I]at u
   |some af=>
    cases bx with
    |false=>
     simp only[N,C9,Dr]at E;obtain⟨rfl,rfl⟩:=E
     cases af with
     |false=>
      simp only[I,C9,Dr]at u;obtain⟨rfl,rfl⟩:=u;exact key s.st (by simp[PI.step,I]) (fun d=>by simp[PI.step,X,N]) rfl rfl
     |true=>
      simp only[I]at u;rw[J9 a1]at u;refine⟨{fr:=s.fr.put y.dst O,st:=ae},by rw[PI.exec_eq]; simp[PI.step,I,u],?_,?_,?_⟩
      ·rw[PI.exec_eq];simp only[PI.step,X,N,Ae];rw[RL s.fr _ O a2]
      ·exact(Nl (s':={fr:=s.fr.put x.dst (.tup []),st:=s.st}) rfl a1 rfl).symm
      ·unfold PI.foot;grind
    |true=>
     simp only[N]at E;simp only[PI.foot,N]at hf
     cases af with
     |false=>
      simp only[I,C9,Dr]at u;obtain⟨rfl,rfl⟩:=u;refine⟨{fr:=s.fr.put y.dst (.tup []),st:=s.st},by rw[PI.exec_eq]; simp[PI.step,I],?_,?_,?_⟩
      ·rw[PI.exec_eq];simp only[PI.step,X,N];rw[J9 Y,E];simp only[Ae];rw[RL s.fr U _ a2]
      ·unfold PI.foot;grind
      ·exact Nl (s':={fr:=s.fr.put y.dst (.tup []),st:=s.st}) rfl Y rfl
     |true=>
      simp only[I]at u;rw[J9 a1]at u;simp only[PI.foot,ad,I]at hg;rw[gP a1]at hg;obtain⟨a6,V,h2,h3,h4⟩:=Yn7 E hf u hg a8;exact key a6 (by simp only[PI.step,I]; exact V) (fun d=>by simp only[PI.step,X,N]; rw[J9 Y]; exact h3) (by rw[h4,hf]) (by rw[hg,h2])
def GD(G:Dh)(T:Tbl):List (PI×Option Foot)→PS→PS→Prop
 |[],s,s'=>s'=s
 |a::l,s,s'=>a.1.foot G s=a.2∧∃ s1,a.1.exec G T s=some s1∧GD G T l s1 s'
theorem lN{G:Dh}{T:Tbl}{i:PI×Option Foot}:∀ (l r:List (PI×Option Foot)) (s sf:PS),(∀ x∈l,HR x i)→GD G T (l++i::r) s sf→∃ s',i.1.exec G T s=some s'∧i.1.foot G s=i.2∧GD G T (l++r) s' sf
 |[],r,s,sf,_,h=>by
  obtain⟨u,s1,E,I⟩:=h;grind
 |x::l,r,s,sf,ha,h=>by
  obtain⟨u,s1,E,I⟩:=h;obtain⟨s2,O,J,U⟩:=lN l r s1 sf (fun y V=>ha y (by simp[V])) I;have X:=ha x (by simp);have M:HR (x.1,x.1.foot G s) (i.1,i.1.foot G s1):=by rw[u,J]; exact X
  obtain⟨N,Y,k2,k3,k4⟩:=Qc M E O;exact⟨N,Y,by rw[k3,J],by rw[k4,u],s2,k2,U⟩
theorem S8{G:Dh}{T:Tbl}:∀ (l:List PI) (s sf:PS),Ft G T l s=some sf→∃ F:List (Option Foot),F.length=l.length∧GD G T (l.zip F) s sf
 |[],s,sf,h=>by
  simp only[Ft,C9]at h;exact⟨[],rfl,h.symm⟩
 |i::l,s,sf,h=>by
  simp only[Ft]at h
  split at h
  ·rename_i s1 u;obtain⟨F,E,I⟩:=S8 l s1 sf h;exact⟨i.foot G s::F,by simp[E],rfl,s1,u,I⟩
  ·cases h
theorem fO{fs:List (Option Foot)}{g:Option Foot}:∀ {cs:List Nat},KH fs g cs=true→∀ j∈cs,∃ f g':Foot,fs[j]?=some (some f)∧g=some g'∧f.ok g'=true
 |[],_,j,E=>by cases E
 |c::cs,h,j,E=>by
  simp only[KH,Ac]at h;rcases AA.1 E with rfl | E
  ·have u:=h.1
   cases hf:fs[j]? with
   |none=>rw[hf]at u; cases u
   |some o=>
    rw[hf]at u
    cases o with
    |none=>cases u
    |some f=>
     cases g with
     |none=>cases u
     |some g'=>exact⟨f,g',rfl,rfl,u⟩
  ·exact fO h.2 j E
theorem SP{G:Dh}{T:Tbl}:∀ (l:List (PI×Bool×List Nat)) (fs:List (Option Foot)) (s sf:PS),Gk G T l fs s=some sf→∃ F:List (Option Foot),F.length=l.length∧GD G T ((l.map (·.1)).zip F) s sf∧
   ∀ (i:Nat) (q:PI×Bool×List Nat),l[i]?=some q→∀ j∈q.2.2,∃ f g:Foot,F[i]?=some (some g)∧f.ok g=true∧(fs[j]?=some (some f)∨(fs.length≤j∧F[j - fs.length]?=some (some f)))
 |[],fs,s,sf,h=>by
  simp only[Gk,C9]at h;exact⟨[],rfl,h.symm,fun i q u=>by simp at u⟩
 |(i0,b,cs)::l,fs,s,sf,h=>by
  simp only[Gk]at h
  split at h
  case isFalse=>cases h
  rename_i E
  split at h
  ·rename_i s1 I;obtain⟨F,J,M,O⟩:=SP l _ s1 sf h;refine⟨i0.foot G s::F,by simp[J],⟨rfl,s1,I,M⟩,?_⟩;intro i q u j N
   cases i with
   |zero=>
    simp only[AB,C9]at u;subst u;obtain⟨f,g',U,V,X⟩:=fO E j N;grind
   |succ i=>
    grind
  ·cases h
def GZ(ms:List Nat)(l:List PI)(i:Nat)(y:PI):List Nat:=(CQ i).filter fun j=>!((ms.getD i 0).testBit j) && !((l.getD j default).apart y)
def ZW(ms:List Nat)(l:List PI):Option (List (PI×Bool×List Nat)):=
 if l.zipIdx.all fun yi=>(GZ ms l yi.2 yi.1).all fun j=>(l.getD j default).regs yi.1 then
  some (l.zipIdx.map fun yi=>(yi.1,(l.zipIdx.map fun zj=>GZ ms l zj.2 zj.1).any (fun c=>c.contains yi.2),GZ ms l yi.2 yi.1))
 else none
variable {q:List (PI×Bool×List Nat)}{l:List PI}{ms:List Nat}
theorem kY(h:ZW ms l=some q):q.length=l.length∧q.map (·.1)=l∧(∀ (i:Nat) y,l[i]?=some y→∃ b,q[i]?=some (y,b,GZ ms l i y)∧∀ j∈GZ ms l i y,(l.getD j default).regs y=true):=by
 unfold ZW at h
 split at h
 case isFalse=>cases h
 rename_i u;simp only[C9]at h;subst h;refine⟨by simp,?_,?_⟩
 ·rw[Cs];apply A9;grind
 ·intro i y I;refine⟨(l.zipIdx.map fun E=>GZ ms l E.2 E.1).any (fun c=>c.contains i),?_,?_⟩
  ·grind
  ·rw[Ag]at u;have:=u (y,i) (by rw[AY]; exact I);grind
def LV(ms:List Nat)(l:List PI)(bad:Option (Nat×Nat))(ord:List Nat)(p i:Nat):List Nat:=
 (CQ p).filter fun j=>!((ms.getD i 0).testBit (ord.getD j 0)) && !((l.getD (ord.getD j 0) default).apart (l.getD i default)) && !(bad == some (ord.getD j 0,i))
def KI(ms:List Nat)(l:List PI)(bad:Option (Nat×Nat))(ord:List Nat):Option (List (PI×Bool×List Nat)):=
 if ord.zipIdx.all fun ip=>(LV ms l bad ord ip.2 ip.1).all fun j=>(l.getD (ord.getD j 0) default).regs (l.getD ip.1 default)then
  some (ord.zipIdx.map fun ip=>(l.getD ip.1 default,(ord.zipIdx.map fun kq=>LV ms l bad ord kq.2 kq.1).any (fun c=>c.contains ip.2),LV ms l bad ord ip.2 ip.1))
 else none
theorem wV{bad:Option (Nat×Nat)}{u:List Nat}(h:KI ms l bad u=some q) :
  q.length=u.length∧q.map (·.1)=u.map (fun k=>l.getD k default)∧(∀ (p i:Nat),u[p]?=some i→∃ b,q[p]?=some (l.getD i default,b,LV ms l bad u p i)∧∀ j∈LV ms l bad u p i,(l.getD (u.getD j 0) default).regs (l.getD i default)=true):=by
 unfold KI at h
 split at h
 case isFalse=>cases h
 rename_i E;simp only[C9]at h;subst h;refine⟨by simp,?_,?_⟩
 ·rw[Cs];apply A9;grind
 ·intro p i hi;refine⟨(u.zipIdx.map fun I=>LV ms l bad u I.2 I.1).any (fun c=>c.contains p),?_,?_⟩
  ·grind
  ·rw[Ag]at E;have:=E (i,p) (by rw[AY]; exact hi);grind
def eB(ms:List Nat)(l:List PI):Option (Nat×Nat):=
 match(l.zipIdx.flatMap fun yi=>((l.take yi.2).zipIdx.filter fun xj=>xj.1.op.push && yi.1.op.push && !((ms.getD yi.2 0).testBit xj.2)).map fun xj=>(xj.2,yi.2))with
 |[p]=>some p
 |_=>none
def POp.push2:POp→Bool
 |.box _ | .mkslc _ _ _ _ _ | .app _ _ _ _ | .mcall _ _=>true
 |_=>false
def gh(ms:List Nat)(l:List PI):List (Nat×Nat):=
 l.zipIdx.flatMap fun yi=>((l.take yi.2).zipIdx.filter fun xj=>xj.1.op.push2 && yi.1.op.push2 && !((ms.getD yi.2 0).testBit xj.2)).map fun xj=>(xj.2,yi.2)
def JA(ms:List Nat)(m x y:Nat):List Nat:=
 (CQ m).filter (fun k=>k<x || (k<y && (ms.getD y 0).testBit k) || k == y)++(CQ m).filter (fun k=>!(k<x || (k<y && (ms.getD y 0).testBit k) || k == y))
def LW(m:Nat)(ord:List Nat):Bool:=ord.length == m && (CQ m).all (fun k=>ord.contains k)
def IW(keep:List Nat)(ms:List Nat)(l:List PI)(m:Nat):List (Nat×Nat)→PC
 |[]=>.fail
 |(x,y)::r=>match KI ms l (some (x,y)) (CQ m),KI ms l (some (y,x)) (JA ms m x y)with
  |some q1,some q2=>if LW m (JA ms m x y) && x != y && decide (x<m) && decide (y<m)then .alt (.any2 keep q1 q2) (IW keep ms l m r)else IW keep ms l m r
  |_,_=>IW keep ms l m r
end Go.Proofs.YtijnglngaogdjaaGreatDoor.PI
namespace Go.Proofs.YtijnglngaogdjaaGreatDoor.PI
open Go Go.RowKit
def VA(n:Nat):Option Nat→Bool
 |some d=>decide (d<n)
 |none=>true
def Ke(P:Program)(il:List Nat)(n:Nat)(ops:Array Oper)(o:Oper):Option PI:=
 if VA n o.dst then
  match o.guard with
  |none=>some {dst:=o.dst,op:=(Dp P il o.op).getD .fail}
  |some (j,want)=>match(ops[j]?).bind (·.dst)with
   |some s=>some {dst:=o.dst,op:=(Dp P il o.op).getD .fail,guard:=some (s,want)}
   |none=>none
 else none
def Ga(P:Program)(il:List Nat)(n:Nat)(ops:Array Oper):List Oper→Option (List PI)
 |[]=>some []
 |o::r=>match Ke P il n ops o,Ga P il n ops r with
  |some a,some b=>some (a::b)
  |_,_=>none
def UX(P:Program)(il:List Nat)(n:Nat)(o1 o2:Oper):Option (PI×PI):=match o1.op,o2.op,o1.dst with
 |.buildSlice t len parts,.convert s t' (.tmp d),some d1=>match P.underlying t with
  |some (.slice e)=>match P.underlying e with
   |some (.int .u8)=>if s=t∧t'=t∧d=d1∧d1<n∧VA n o2.dst=true∧o1.guard=none∧o2.guard=none then
     match Dp P il (.buildSlice t len parts)with
     |some p=>some ({dst:=some d1,op:=p},{dst:=o2.dst,op:=.mov (.s d1)})
     |none=>none
    else none
   |_=>none
  |_=>none
 |_,_,_=>none
def Jk(P:Program)(il:List Nat)(n:Nat)(ops:Array Oper):List Oper→Option (List PI)
 |[]=>some []
 |[o]=>(Ke P il n ops o).map fun a=>[a]
 |o1::o2::r=>match UX P il n o1 o2 with
  |some (a,b)=>(Jk P il n ops r).map fun l=>a::b::l
  |none=>match Ke P il n ops o1,Jk P il n ops (o2::r)with
   |some a,some l=>some (a::l)
   |_,_=>none
def Oh(il:List Nat)(i:PI):Bool:=match i.op with
 |.icall f _=>il.contains (f+60000000)
 |.callv _ _=>il.contains 60000000
 |_=>false
def ak(P:Program)(n:Nat)(l:List Oper):Option (List Oper×Nat×Nat×Operand):=match l.reverse with
 |o2::o1::rpre=>match o1.op,o2.op,o1.dst with
  |.makeInterface t xo,.panic (.tmp d),some d1=>if d=d1∧d1<n∧o1.guard=none∧o2.guard=none then
    match P.underlying t with
    |some (.interface _)=>none
    |some _=>some (rpre.reverse,d1,t,xo)
    |none=>none
   else none
  |_,_,_=>none
 |_=>none
variable {xo:Operand}{d1 t:Nat}
theorem wb{P:Program}{n:Nat}{l E:List Oper}(h:ak P n l=some (E,d1,t,xo)):∃ o1 o2,l=E++[o1,o2]∧o1.op=.makeInterface t xo∧o1.dst=some d1∧o2.op=.panic (.tmp d1)∧d1<n∧o1.guard=none∧o2.guard=none∧
  ∃ u,P.underlying t=some u∧∀ m,u≠.interface m:=by
 unfold ak at h
 split at h
 case h_2=>cases h
 rename_i o2 o1 J hl
 split at h
 case h_2=>cases h
 rename_i t' Y d aa M N O
 split at h
 case isFalse=>cases h
 rename_i U;obtain⟨rfl,c1,V,X⟩:=U
 split at h
 case h_1=>cases h
 case h_3=>cases h
 rename_i u I hu;simp only[C9,Dr]at h;obtain⟨rfl,rfl,rfl,rfl⟩:=h;refine⟨o1,o2,?_,M,O,N,c1,V,X,u,hu,fun m e=>I m e⟩;simp_all
def IK(o:Oper):List Nat:=(o.after.toList.filter (Region.binds .any)).map (·.on)
def EI:List Oper→List Nat→List Nat
 |[],acc=>acc
 |o::r,acc=>EI r (acc++[(IK o).foldl (fun m e=>m ||| (1 <<< e) ||| acc.getD e 0) 0])
def Rv(ms:List Nat)(l:List PI):Bool:=
 l.zipIdx.all fun(y,i)=>(l.take i).zipIdx.all fun(x,j)=>(ms.getD i 0).testBit j || x.apart y
def M1:POp→Bool
 |.icall _ _=>true
 |.callv _ _=>true
 |_=>false
def Kg(ms:List Nat)(l:List PI):Bool:=
 l.zipIdx.all fun(y,i)=>!M1 y.op || ((CQ l.length).all fun j=>(j == i) || (if j<i then(ms.getD i 0).testBit j else(ms.getD j 0).testBit i))
def UC(il:List Nat)(l:List PI):Nat:=(l.takeWhile fun i=>!Oh il i).length
def Z3(ms:List Nat)(l:List PI)(i:Nat):Bool:=decide (i<l.length) && (CQ l.length).all fun j=>(j == i) || (if j<i then(ms.getD i 0).testBit j else(ms.getD j 0).testBit i)
def Rk(q:List (PI×Bool×List Nat))(x:PI)(i:Nat):PC:=.alt (.any q) (.seq (.seq (.any (q.take i)) (.opsX [x])) .fail)
def KT(l:List Oper):Bool:=l.zipIdx.all fun(o,i)=>(IK o).all fun e=>decide (e<i)
def HE:Code→Bool
 |.seq a b=>HE a && HE b
 |.cond _ a b=>HE a && HE b
 |.block _ c=>HE c
 |.loop c=>HE c
 |.rangeFunc _ _ _ _=>false
 |_=>true
def Hh(P:Program)(il:List Nat)(n:Nat):List (List Nat)→Code→Option (PC×List (List Nat))
 |h,.skip=>some (.skip,h)
 |h,.region _ ops draw=>if draw then match Ga P il n ops ops.toList with
  |some l=>
    if P.follows .mixedOrders && KT ops.toList then
     if Rv (EI ops.toList []) l then some (if l.any (Oh il) && Kg (EI ops.toList []) l then .opsX l else .ops l,h)else
      match eB (EI ops.toList []) l with
      |some (x,y)=>match h,KI (EI ops.toList []) l (some (x,y)) (CQ ops.size),KI (EI ops.toList []) l (some (y,x)) (JA (EI ops.toList []) ops.size x y)with
       |keep::h',some q1,some q2=>if LW ops.size (JA (EI ops.toList []) ops.size x y) && x != y then some (.any2 keep q1 q2,h')else some (.fail,h)
       |_,_,_=>some (.fail,h)
      |none=>match ZW (EI ops.toList []) l with
       |some q=>if il.contains 70000000 && decide (2≤(gh (EI ops.toList []) l).length)then
         match h with
         |keep::h'=>some (.alt (.any q) (IW keep (EI ops.toList []) l ops.size (gh (EI ops.toList []) l)),h')
         |[]=>some (.fail,h)
        else if l.any (Oh il) && Z3 (EI ops.toList []) l (UC il l)then some (Rk q (l.getD (UC il l) default) (UC il l),h)
        else some (.any q,h)
       |none=>some (.fail,h)
    else some (.fail,h)
  |none=>none
  else match ak P n ops.toList with
   |some (pre,d1,t,xo)=>match Jk P il n ops pre,DN xo with
    |some l,some x=>some (.pan l d1 t x,h)
    |_,_=>some (.fail,h)
   |none=>(Jk P il n ops ops.toList).map fun l=>(if l.any (Oh il)then .opsX l else .ops l,h)
 |h,.seq a b=>match Hh P il n h a with
  |some (x,h')=>match Hh P il n h' b with
   |some (y,h'')=>some (.seq x y,h'')
   |none=>none
  |none=>none
 |h,.cond c a b=>match DN c with
  |some pa=>match Hh P il n h a with
   |some (x,h')=>match Hh P il n h' b with
    |some (y,h'')=>some (.cond pa x y,h'')
    |none=>none
   |none=>none
  |none=>none
 |h,.block id c=>match Hh P il n h c with
  |some (x,h')=>some (.block id x,h')
  |none=>none
 |h,.loop c=>match h with
  |keep::h'=>match Hh P il n h' c with
   |some (x,h'')=>some (if keep.head?=some 1000000 then .loopA keep.tail x else .loop keep x,h'')
   |none=>none
  |[]=>none
 |h,.rangeFunc g ps a b=>match DN g with
  |some pa=>match Hh P il n h a with
   |some (x,h')=>match Hh P il n h' b with
    |some (y,h'')=>if HE a && HE b && ps.toList.all (fun p=>decide (p<n))then some (.range pa ps.toList x y,h'')else some (.fail,h)
    |none=>none
   |none=>none
  |none=>none
 |h,.exit id=>some (.exit id,h)
 |h,.ret=>some (.ret,h)
 |h,_=>some (.fail,h)
def MT(P:Program):List ResultVar→Option (List PRes)
 |[]=>some []
 |.tmp t::r=>(MT P r).map (.tmp t::·)
 |.cell a t::r=>match DZ P t,Ee P t,MT P r with
  |some n,some ag,some l=>some (.cell a n ag::l)
  |_,_,_=>none
def Ds(P:Program)(il:List Nat)(f:Nat)(hints:List (List Nat)):Option PF:=
 match P.funcs[f]? with
 |some fn=>match fn.body with
  |some c=>match Hh P il fn.ntmps hints c,MT P fn.results.toList with
   |some (pc,_),some res=>if fn.name == "runtime.NumGoroutine" then none else some {code:=pc,res}
   |_,_=>none
  |none=>none
 |none=>none
variable {w w' w1:World}{g g' g1:Ghost}{a:Act}{s s' sf:PS}{i:PI}{o o1 o2:Oper}{ops:Array Oper}{Q:Exit→Act→World→Prop}{d:D}{listed:Array Bool}{is l:List PI}{ms:List Nat}{Z:List (Nat×Option Foot)}{bad:Option (Nat×Nat)}{st st' st1:St}
section
variable {P:Program} {il:List Nat} {G:Dh} {T:Tbl} {base n:Nat} {w0:World} {g0:Ghost} {st0:St} {dl:List Deferred} {r:Option Nat}
def DfOK(w0 w:World):List Deferred→Prop
 |[]=>True
 |d::ds=>(∃ D,d={target:=.collected D,args:=#[]}∧w.heap[D]?=some (.deferred (some []))∧w0.heap[D]?=none∧∀ d'∈ds,d'≠d)∧DfOK w0 w ds
theorem DfOK.mem{w0:World}:∀ {ds:List Deferred} {d:Deferred},DfOK w0 w ds→d∈ds→∃ D,d={target:=.collected D,args:=#[]}∧w.heap[D]?=some (.deferred (some []))
 |_::_,d,⟨⟨D,I,J,_⟩,E⟩,u=>by
  rcases AA.1 u with rfl | u
  ·grind
  ·exact DfOK.mem E u
theorem DfOK.mono{w0:World}(h:∀ (b:Nat) (o:Go.Obj),w.heap[b]?=some o→special o=true→Kept w' b o):∀ {ds:List Deferred},DfOK w0 w ds→DfOK w0 w' ds
 |[],_=>trivial
 |_::_,⟨⟨D,u,E,I,J⟩,M⟩=>⟨⟨D,u,(h D _ E rfl).def',I,J⟩,DfOK.mono h M⟩
structure Rel (G:Dh) (base n:Nat) (w0:World) (g0:Ghost) (st0:St) (dl:List Deferred) (s:PS) (a:Act) (w:World) (g:Ghost):Prop where
 go1:Go1 base w0 g0 st0 w g s.st
 fr:FR w g s.st s.fr a
 gl:GlobOK G w g
 df:∃ ds,a.defers=ds++dl∧DfOK w0 w ds
 sz:n≤a.tmps.size
theorem Rel.sr(h:Rel G base n w0 g0 st0 dl s a w g):SR base w g s.st:=h.go1.sr
theorem Rel.go{u:Act}(h:Rel G base n w0 g0 st0 dl s a w g)(E:Go1 base w g s.st w' g' s'.st)(I:FR w' g' s'.st s'.fr u)(J:u.defers=a.defers)(M:n≤u.tmps.size):Rel G base n w0 g0 st0 dl s' u w' g':=
 ⟨h.go1.trans E,I,h.gl.mono E.im,(let⟨ds,N,O⟩:=h.df; ⟨ds,J.trans N,O.mono E.kp⟩),M⟩
def R(G:Dh)(base n:Nat)(w0:World)(g0:Ghost)(st0:St)(dl:List Deferred)(s:PS)(a:Act)(w:World):Prop:=∃ g,Rel G base n w0 g0 st0 dl s a w g
theorem ND(a:Act)(dst:Option Tmp)(v:Value):(a.put dst v).tmps.size=a.tmps.size:=by
 cases dst <;> simp[Act.put]
theorem MJ(a:Act)(dst:Option Tmp)(v:Value):(a.put dst v).defers=a.defers:=by
 cases dst <;> rfl
theorem WD(M:FR w g s.st s.fr a)(u:Ke P il n ops o=some i){b:Bool}(E:i.wanted s.fr=some b):Region.wanted o (yielded ops a.tmps)=b:=by
 unfold Ke at u
 split at u
 case isFalse=>cases u
 split at u
 ·rename_i J;simp only[C9]at u; subst u;simp only[PI.wanted,C9]at E; subst E;simp[Region.wanted,J]
 ·rename_i j want J
  split at u
  case h_2=>cases u
  rename_i sl V;simp only[C9]at u; subst u;simp only[PI.wanted]at E;have I:=M sl
  have N:yielded ops a.tmps j=(match a.tmps[sl]? with | some (.bool b)=>some b | _=>none):=by
   unfold yielded;grind
  simp only[Region.wanted,J,N]
  split at E
  ·rename_i Y hb;simp only[C9]at E; subst E;rw[hb]at I;have hv:=JN I
   have X:sl<a.tmps.size:=by
    rcases Be sl a.tmps.size with h | h
    ·exact h
    ·simp[Array.getElem?_eq_none h,undef]at hv
   simp_all
  ·rename_i hb;simp only[C9]at E; subst E;rw[hb]at I;generalize hv:a.tmps.getD sl undef=v at I
   cases I with
   |tup _ vs O h2=>
    have U:vs=[]:=AO O.symm;subst U
    have h4:(match a.tmps[sl]? with | some (.bool b)=>some b | _=>none)=(none:Option Bool):=by
     rcases Be sl a.tmps.size with h | h
     ·simp_all
     ·grind
    grind
  ·cases E
theorem ib(E:Ke P il n ops o=some i):(Dp P il o.op=some i.op∨i.op=.fail)∧i.dst=o.dst∧∀ t,o.dst=some t→t<n:=by
 have J:∀ p,(Dp P il o.op).getD .fail=p→Dp P il o.op=some p∨p=.fail:=by
  intro p u
  cases h:Dp P il o.op with
  |none=>rw[h]at u; exact .inr u.symm
  |some q=>rw[h]at u; exact .inl (by rw[← u]; rfl)
 unfold Ke at E
 split at E
 case isFalse=>cases E
 rename_i I
 have M:∀ t,o.dst=some t→t<n:=by
  intro t h; rw[h]at I; simpa[VA]using I
 grind
theorem tL(X:TblOK P G T)(Y:YOK P G T.y base w0 g0 st0){K:Act→World→Prop}(hR:R G base n w0 g0 st0 dl s a w)(J:Ke P il n ops o=some i)(u:i.exec G T s=some s')
  (V:∀ M w',R G base n w0 g0 st0 dl s' M w'→M.defers=a.defers→K M w'):if Region.wanted o (yielded ops a.tmps)then o.wpIn (Wr r) 0 P a w K Q else(∀ f,o.about P w a.eval=some f→(Wr r).fn f)∧K (a.put o.dst undef) w:=by
 obtain⟨g,h⟩:=hR;obtain⟨N,O,h3⟩:=ib J;have E:∀ t,i.dst=some t→t<a.tmps.size:=fun t e=>AZ (h3 t (O ▸ e)) h.sz;rw[PI.exec_eq]at u;simp only[DA]at u;obtain⟨⟨d,st'⟩,u,rfl⟩:=u;unfold PI.step at u
 split at u
 ·cases u
 ·rename_i hw;rw[WD h.fr J hw];simp only[C9,Dr]at u;obtain⟨rfl,rfl⟩:=u;simp only[Ak,if_false];refine⟨fun _ _=>trivial,V _ _ ⟨g,h.go (Go1.refl h.sr) ?_ (MJ ..) (by rw[ND]; exact h.sz)⟩ (MJ ..)⟩;rw[← O];exact h.fr.put E (.tup [] [] rfl (fun i d v hh=>by simp at hh))
 ·rename_i hw;rw[WD h.fr J hw];simp only[if_true];have N:=N.resolve_right (fun e=>by rw[e]at u; simp[POp.exec]at u);refine Ybu X Y h.go1 h.gl h.fr N u ?_;intro v w' g' I U;refine V _ _ ⟨g',h.go I ?_ (MJ ..) (by rw[ND]; exact h.sz)⟩ (MJ ..);rw[← O];exact(h.fr.mono I.im I.evo).put E U
theorem R4(E:TblOK P G T)(I:YOK P G T.y base w0 g0 st0){K:Act→World→Prop}(J:R G base n w0 g0 st0 dl s a w)(M:Ke P il n ops o=some i)(N:i.exec G T s=some s')
  (O:∀ u w',R G base n w0 g0 st0 dl s' u w'→K u w'):if Region.wanted o (yielded ops a.tmps)then o.wpIn (Wr r) 0 P a w K Q else(∀ f,o.about P w a.eval=some f→(Wr r).fn f)∧K (a.put o.dst undef) w:=
 tL E I J M N fun u w' h _=>O u w' h
theorem jA(J:TblOK P G T)(M:YOK P G T.y base w0 g0 st0){ops:Array Oper}{rest:List Oper}{Q:Exit→Act→World→Prop}:∀ (l:List Oper) (is:List PI) (s s':PS) (a:Act) (w:World),Ga P il n ops l=some is→Ft G T is s=some s'→R G base n w0 g0 st0 dl s a w→
  (∀ I w',R G base n w0 g0 st0 dl s' I w'→wpListIn (Wr r) 0 P ops Q rest I w')→wpListIn (Wr r) 0 P ops Q (l++rest) a w
 |[],is,s,s',a,w,u,E,N,O=>by
  simp[Ga]at u; subst u;simp[Ft]at E; subst E;grind
 |o::l,is,s,s',a,w,u,E,N,O=>by
  unfold Ga at u
  split at u
  ·rename_i i U Y h2;simp only[C9]at u; subst u;simp only[Ft]at E
   split at E
   ·rename_i s1 V;exact R4 J M N Y V fun I w' X=>jA J M l U s1 s' I w' h2 E X O
   ·cases E
  ·cases u
theorem bF{u E:PI}(h:UX P il n o1 o2=some (u,E)):∃ t e len parts d1 p,o1.op=.buildSlice t len parts∧o2.op=.convert t t (.tmp d1)∧o1.dst=some d1∧P.underlying t=some (.slice e)∧P.underlying e=some (.int .u8)∧d1<n∧(∀ x,o2.dst=some x→x<n)∧o1.guard=none∧o2.guard=none∧
  Dp P il (.buildSlice t len parts)=some p∧u={dst:=some d1,op:=p}∧E={dst:=o2.dst,op:=.mov (.s d1)}:=by
 unfold UX at h
 split at h
 case h_2=>cases h
 rename_i t len parts s t' d d1 M N O
 split at h
 case h_2=>cases h
 rename_i e hu
 split at h
 case h_2=>cases h
 rename_i I
 split at h
 case isFalse=>cases h
 rename_i U;obtain⟨rfl,rfl,rfl,c1,J,V,X⟩:=U
 split at h
 case h_2=>cases h
 rename_i p Y;simp only[C9,Dr]at h;obtain⟨rfl,rfl⟩:=h;exact⟨_,e,len,parts,_,p,M,N,O,hu,I,c1,fun x hx=>by rw[hx]at J; simpa[VA]using J,V,X,Y,rfl,rfl⟩
theorem iv{i1 i2:PI}{s1 s2:PS}{K:Act→World→Prop}(hR:R G base n w0 g0 st0 dl s a w)(ht:UX P il n o1 o2=some (i1,i2))(E:i1.exec G T s=some s1)(u:i2.exec G T s1=some s2)
  (hK:∀ I w',R G base n w0 g0 st0 dl s2 I w'→K I w'):Region.wanted o1 (yielded ops a.tmps)=true∧(∀ tm,Region.wanted o2 (yielded ops tm)=true)∧o1.wpIn (Wr r) 0 P a w (fun I w'=>o2.wpIn (Wr r) 0 P I w' K Q) Q:=by
 obtain⟨g,h⟩:=hR;obtain⟨t,e,len,parts,d1,p,h1,h2,h3,hu,a0,a1,U,a2,a3,hp,rfl,rfl⟩:=bF ht;refine⟨by simp[Region.wanted,a2],fun tm=>by simp[Region.wanted,a3],?_⟩;rw[PI.exec_eq]at E u;simp only[PI.step,PI.wanted,DA]at E u;obtain⟨⟨d,st'⟩,E,rfl⟩:=E;obtain⟨⟨d',st2⟩,u,rfl⟩:=u;simp only[POp.exec,C9,Dr]at u;obtain⟨rfl,rfl⟩:=u;obtain⟨bb,bd,a4,X,J,M⟩:=o1;obtain⟨Y,be,ty2,pos2,after2,guard2⟩:=o2;simp only at h1 h2 h3 U;subst h1; subst h2; subst h3;have V:d1<a.tmps.size:=AZ a1 h.sz
 have hw:=xx (Q:=Q) (next2:=K) (d1:=d1) (d2:=Y) (ty:=a4) (ty2:=ty2) (pos:=X) (pos2:=pos2) (after:=J) (after2:=after2) (guard:=M) (guard2:=guard2) h.sr h.gl h.fr hp hu a0 V E (fun v w' g' N O=>by
  refine hK _ _ ⟨g',h.go N ?_ (by rw[MJ,MJ]) (by rw[ND,ND]; exact h.sz)⟩;have a5:=(h.fr.mono N.im N.evo).put (dst:=some d1) (a:=a) (fun t e=>by cases e; exact V) O
  have a6:Dn G (s.fr.put (some d1) d) (.s d1)=d:=by
   show(if d1=d1 then d else s.fr d1)=d
   grind
  rw[a6];exact a5.put (fun t e=>by rw[ND]; exact AZ (U t e) h.sz) O)
 refine NS (fun c e=>by cases e) ?_;refine Oper.wp_mono (fun I w' h'=>?_) hw;exact NS (fun c e=>by cases e) h'
theorem SD(V:TblOK P G T)(X:YOK P G T.y base w0 g0 st0){ops:Array Oper}{rest:List Oper}{Q:Exit→Act→World→Prop}:∀ (l:List Oper) (is:List PI) (s s':PS) (a:Act) (w:World),Jk P il n ops l=some is→Ft G T is s=some s'→R G base n w0 g0 st0 dl s a w→
  (∀ I w',R G base n w0 g0 st0 dl s' I w'→wpListIn (Wr r) 0 P ops Q rest I w')→wpListIn (Wr r) 0 P ops Q (l++rest) a w
 |[],is,s,s',a,w,E,u,J,M=>by
  simp[Jk]at E; subst E;simp[Ft]at u; subst u;grind
 |[o],is,s,s',a,w,E,u,J,M=>by
  simp only[Jk,DA]at E;obtain⟨i,Y,rfl⟩:=E;exact jA (il:=il) V X [o] [i] s s' a w (by simp[Ga,Y]) u J M
 |o1::o2::l,is,s,s',a,w,E,u,J,M=>by
  unfold Jk at E
  split at E
  ·rename_i i1 i2 hp;simp only[DA]at E;obtain⟨N,h2,rfl⟩:=E;simp only[Ft]at u
   split at u
   case h_2=>cases u
   rename_i s1 O
   split at u
   case h_2=>cases u
   rename_i s2 ab;obtain⟨e1,e2,e3⟩:=iv (r:=r) (ops:=ops) (Q:=Q) (K:=wpListIn (Wr r) 0 P ops Q (l++rest)) J hp O ab (fun I w' U=>SD V X l N s2 s' I w' h2 u U M);simp only[At,wpListIn,e1,e2,if_true];exact e3
  ·split at E
   ·rename_i i N Y h2;simp only[C9]at E; subst E;simp only[Ft]at u
    split at u
    ·rename_i s1 O;exact R4 V X J Y O fun I w' U=>SD V X (o2::l) N s1 s' I w' h2 u U M
    ·cases u
   ·cases E
theorem jB(E:TblOK P G T)(I:YOK P G T.y base w0 g0 st0)(l:List Oper)(is:List PI)(s s':PS)(a:Act)(w:World)(J:Jk P il n ops l=some is)(M:Ft G T is s=some s')(N:R G base n w0 g0 st0 dl s a w)
  (O:∀ u w',R G base n w0 g0 st0 dl s' u w'→Q .normal u w'):wpListIn (Wr r) 0 P ops Q l a w:=by
 have:=SD (r:=r) (rest:=[]) E I l is s s' a w J M N O;grind
theorem Wl(hT:TblOK P G T){K:Act→World→Prop}(hR:R G base n w0 g0 st0 dl s a w)(N:Ke P il n ops o=some i)(I:i.execX G T s=some (t,d,s'))
  (U:∀ w',R G base n w0 g0 st0 dl s' a w'→Q (.panic (KQ t d)) a w'):Region.wanted o (yielded ops a.tmps)=true∧o.wpIn (Wr r) 0 P a w K Q:=by
 obtain⟨g,h⟩:=hR;obtain⟨u,h2,h3⟩:=ib N;unfold PI.execX at I
 split at I
 case h_2=>cases I
 rename_i hw;refine⟨WD h.fr N hw,?_⟩;simp only[DA,Dr]at I;obtain⟨⟨t',d',st'⟩,I,rfl,rfl,rfl⟩:=I;unfold POp.execX at I
 split at I
 case h_2=>cases I
 rename_i f ds E
 split at I
 case h_2=>cases I
 rename_i sp V
 have hinv:∃ c,o.op=.call c∧∃ vs:List Value,ds.length=vs.length∧(∀ (i:Nat) d v,ds[i]?=some d→vs[i]?=some v→RepV w g s.st d v)∧execOp a.eval o=callFunc f vs.toArray:=by
  obtain⟨dst,op,ty,pos,after,guard⟩:=o;rcases u with u | u
  case inr=>rw[u]at E; cases E
  simp only at u;generalize i.op=p at u E;clear N h3 h2 hw U
  cases op with
  |call c=>
   refine⟨c,rfl,?_⟩;simp only[Dp]at u
   split at u
   ·rename_i b hb;unfold Sl at u
    repeat' split at u
    all_goals first | (cases u; done) | (cases u; cases E; done) | (simp only[C9]at u; subst u; simp[POp.callee]at E; done) | (simp only[DA]at u; obtain⟨_,_,u⟩:=u; subst u; simp[POp.callee]at E; done) | skip
   ·rename_i f' J
    split at u
    case h_2=>cases u
    rename_i fn l ah hl
    split at u
    case isFalse=>
     split at u
     ·cases u
     ·simp only[C9]at u; subst u; simp[POp.callee]at E
    simp only[C9]at u
    split at u
    ·subst u; simp[POp.callee]at E
    split at u
    ·subst u; simp[POp.callee]at E
    ·split at u
     ·subst u;simp only[POp.callee,C9,Dr]at E;obtain⟨rfl,rfl⟩:=E;obtain⟨g1,g2⟩:=My (fun x X O=>F3 (G:=G) h.gl h.fr O) hl;refine⟨c.args.toList.map a.eval,by simpa using g1,g2,?_⟩;simp only[execOp,resolve,J]
      have:(c.args.toList.map a.eval).toArray=c.args.map a.eval:=by
       grind
      rw[this]
      show(do let d ← (pure {target:=Target.fn (Fn.func f') #[],args:=#[]++c.args.map a.eval}:Sem Deferred); invoke d.target d.args)=_
      simp only[BZ];rfl
     ·subst u; simp[POp.callee]at E
   ·rename_i x a0 J
    split at u
    case h_2=>cases u
    rename_i X l Y hl;simp only[C9]at u; subst u;exact Ws (fun x X O=>F3 (G:=G) h.gl h.fr O) J Y hl E
   ·cases u
  |_=>
   exfalso; revert u; simp only[Dp,Ut,UW,Vj]
   repeat' split
   all_goals first
    |(intro u; cases u; done)
    |(intro u; cases u; cases E; done)
    |(intro u; simp only[C9]at u; subst u; simp[POp.callee]at E; done)
    |(intro u; simp only[DA]at u; obtain⟨_,_,u⟩:=u; subst u; simp[POp.callee]at E; done)
    |(intro _; contradiction)
 obtain⟨c,e1,vs,g1,g2,g3⟩:=hinv;refine NS (fun c' e=>by rw[e1]at e; cases e) ?_;refine uN (hT.x f sp V) h.sr h.gl (ds:=ds) (vs:=vs) I g1 g2 g3 ?_;intro w' g' M;exact U w' ⟨g',h.go M (h.fr.mono M.im M.evo) rfl h.sz⟩
theorem V5(U:TblOK P G T)(hY:YOK P G T.y base w0 g0 st0){ops:Array Oper}{Q:Exit→Act→World→Prop}{t:Nat}{d:D}:∀ (l:List Oper) (is:List PI) (s s':PS) (a:Act) (w:World),Jk P il n ops l=some is→HW G T is s=some (t,d,s')→R G base n w0 g0 st0 dl s a w→
  (∀ M w',R G base n w0 g0 st0 dl s' M w'→Q (.panic (KQ t d)) M w')→wpListIn (Wr r) 0 P ops Q l a w
 |[],is,s,s',a,w,E,u,N,O=>by
  simp[Jk]at E; subst E;simp[HW]at u
 |[o],is,s,s',a,w,E,u,N,O=>by
  simp only[Jk,DA]at E;obtain⟨i,Y,rfl⟩:=E;simp only[HW]at u
  split at u
  ·cases u
  ·obtain⟨k1,k2⟩:=Wl (r:=r) (ops:=ops) (K:=wpListIn (Wr r) 0 P ops Q []) U N Y u (fun w' I=>O a w' I);simp only[wpListIn,k1,if_true];exact k2
 |o1::o2::l,is,s,s',a,w,E,u,N,O=>by
  unfold Jk at E
  split at E
  ·rename_i i1 i2 hp;simp only[DA]at E;obtain⟨V,h2,rfl⟩:=E;simp only[HW]at u;obtain⟨t',e,len,parts,d1,p,q1,q2,q3,hu,a3,a4,a5,a6,a7,J,rfl,rfl⟩:=bF hp
   split at u
   case h_2=>
    exfalso;simp only[PI.execX,PI.wanted,DA]at u;obtain⟨r,u,_⟩:=u;unfold POp.execX at u
    split at u
    case h_2=>cases u
    rename_i f ds aa;simp only[Dp]at J
    repeat' split at J
    all_goals first | (cases J; done) | (cases J; cases aa; done) | (simp only[C9]at J; subst J; simp[POp.callee]at aa; done)
   rename_i s1 X
   split at u
   case h_2=>
    exfalso;simp[PI.execX,PI.wanted,POp.execX,POp.callee]at u
   rename_i s2 ah;obtain⟨e1,e2,e3⟩:=iv (r:=r) (ops:=ops) (Q:=Q) (K:=wpListIn (Wr r) 0 P ops Q l) N hp X ah (fun M w' I=>V5 U hY l V s2 s' M w' h2 u I O);simp only[wpListIn,e1,e2,if_true];exact e3
  ·split at E
   ·rename_i i V Y h2;simp only[C9]at E; subst E;simp only[HW]at u
    split at u
    ·rename_i s1 X;exact R4 U hY N Y X fun M w' I=>V5 U hY (o2::l) V s1 s' M w' h2 u I O
    ·obtain⟨k1,k2⟩:=Wl (r:=r) (ops:=ops) (K:=wpListIn (Wr r) 0 P ops Q (o2::l)) U N Y u (fun w' I=>O a w' I);simp only[wpListIn,k1,if_true];exact k2
   ·cases E
theorem Yih{x:PA}(hR:R G base n w0 g0 st0 dl s a w)(h1:o1.op=.makeInterface t xo)(h3:o1.dst=some d1)(h2:o2.op=.panic (.tmp d1))(ad:d1<n)
  (U:o1.guard=none) (V:o2.guard=none) {u:TypeDesc} (hu:P.underlying t=some u) (a5:∀ m,u≠.interface m) (hx:DN xo=some x) (hi:K7 (Dn G s.fr x)=true)
  (hQ:∀ a',R G base n w0 g0 st0 dl ⟨s.fr.set d1 .junk,s.st⟩ a' w→Q (.panic (KQ t (Dn G s.fr x))) a' w):wpListIn (Wr r) 0 P ops Q [o1,o2] a w:=by
 obtain⟨g,h⟩:=hR;have hv:=tR (F3 (G:=G) h.gl h.fr hx) hi;have X:d1<a.tmps.size:=AZ ad h.sz;obtain⟨a4,a6,Y,I,E,af⟩:=o1;obtain⟨J,a7,ty2,pos2,after2,guard2⟩:=o2;simp only at h1 h2 h3 U V;subst h1; subst h2; subst h3; subst U; subst V;have w1:∀ M,Region.wanted ({dst:=some d1,op:=.makeInterface t xo,type:=Y,pos:=I,after:=E,guard:=none}:Oper) (yielded ops M)=true:=fun M=>by simp[Region.wanted]
 have w2:∀ M,Region.wanted ({dst:=J,op:=.panic (.tmp d1),type:=ty2,pos:=pos2,after:=after2,guard:=none}:Oper) (yielded ops M)=true:=fun M=>by simp[Region.wanted]
 simp only[wpListIn,w1,w2,if_true];refine NS (fun c e=>by cases e) ?_;unfold Oper.wp
 have N:(execOp a.eval {dst:=some d1,op:=.makeInterface t xo,type:=Y,pos:=I,after:=E,guard:=none}).run P w=.ok (.value (.iface t (MU (Dn G s.fr x)))) w:=by
  simp only[execOp,hv,Sem.run_bind,Instr.makeInterface,run_underlying hu,Result.andThen_ok];rfl
 rw[N,Oper.upon_value];refine NS (fun c e=>by cases e) ?_;unfold Oper.wp
 have ah:(a.put (some d1) (.iface t (MU (Dn G s.fr x)))).eval (.tmp d1)=.iface t (MU (Dn G s.fr x)):=by
  simp[Act.eval,Act.put,X]
 have O:(execOp (a.put (some d1) (.iface t (MU (Dn G s.fr x)))).eval {dst:=J,op:=.panic (.tmp d1),type:=ty2,pos:=pos2,after:=after2,guard:=none}).run P w=.halt (.panic (.iface t (MU (Dn G s.fr x)))) w:=by
  simp only[execOp,ah,Sem.run_bind,Instr.panic];rfl
 rw[O,Oper.upon_panic];refine hQ _ ⟨g,h.go (Go1.refl h.sr) ?_ (MJ ..) (by rw[ND]; exact h.sz)⟩;exact h.fr.put (dst:=some d1) (fun t e=>by cases e; exact X) (.junk _)
theorem OP{ops:Array Oper}:∀ {l:List Oper} {is:List PI},Ga P il n ops l=some is→is.length=l.length∧∀ (k:Nat) o,l[k]?=some o→∃ i,is[k]?=some i∧Ke P il n ops o=some i
 |[],is,h=>by simp[Ga]at h; subst h; exact⟨rfl,fun k o h=>by simp at h⟩
 |o::l,is,h=>by
  unfold Ga at h
  split at h
  ·rename_i i E I u;simp only[C9]at h; subst h;obtain⟨J,M⟩:=OP u;grind
  ·cases h
theorem bT:∀ (l:List Oper) (acc:List Nat),∃ r,EI l acc=acc++r
 |[],acc=>⟨[],by simp[EI]⟩
 |o::l,acc=>by
  obtain⟨r,h⟩:=bT l (acc++[(IK o).foldl (fun m e=>m ||| (1 <<< e) ||| acc.getD e 0) 0]);exact⟨_,by rw[EI,h,Ar]⟩
theorem aP(E:List Nat)(j:Nat):∀ (l:List Nat) (m:Nat),(l.foldl (fun m e=>m ||| (1 <<< e) ||| E.getD e 0) m).testBit j=true→m.testBit j=true∨∃ e∈l,j=e∨(E.getD e 0).testBit j=true
 |[],m,h=>.inl h
 |e::l,m,h=>by
  rcases aP E j l _ h with u | ⟨I,u,J⟩
  ·simp only[Nat.testBit_or,A5]at u;rcases u with(u | u) | u
   ·grind
   ·refine .inr ⟨e,by simp,.inl ?_⟩;rw[Nat.one_shiftLeft,Nat.testBit_two_pow]at u;grind
   ·grind
  ·grind
theorem ax:∀ (l:List Oper) (acc:List Nat) (i j:Nat) (o:Oper),l[i]?=some o→((EI l acc).getD (acc.length+i) 0).testBit j=true→
  ∃ e∈IK o,j=e∨(e<acc.length+i∧((EI l acc).getD e 0).testBit j=true)
 |[],acc,i,j,o,h,_=>by simp at h
 |o'::l,acc,i,j,o,h,hb=>by
  cases i with
  |zero=>
   simp only[AB,C9]at h;subst h;obtain⟨r,E⟩:=bT l (acc++[(IK o').foldl (fun m e=>m ||| (1 <<< e) ||| acc.getD e 0) 0]);rw[EI,E]at hb ⊢;rw[BV,Ar]at hb;simp only[Aj,List.singleton_append,AD (Az _),BA,AB,Cc]at hb;rcases aP acc j _ 0 (by simpa[Aj]using hb)with u | ⟨e,u,I⟩
   ·simp at u
   ·grind
  |succ i=>
   simp only[Bt]at h;have:=ax l (acc++[(IK o').foldl (fun m e=>m ||| (1 <<< e) ||| acc.getD e 0) 0]) i j o h;simp only[Ad,List.length_singleton]at this;rw[show acc.length+1+i=acc.length+(i+1) by omega]at this;exact this hb
def Kq(ops:List Oper)(listed:Array Bool):Prop:=∀ (i:Nat) o,ops[i]?=some o→listed.getD i false=true→∀ e∈IK o,listed.getD e false=true
theorem WR{ops:List Oper}(M:Kq ops listed):∀ (i:Nat) o,ops[i]?=some o→(∀ e∈IK o,listed.getD e false=true)→∀ j,((EI ops []).getD i 0).testBit j=true→listed.getD j false=true:=by
 intro i
 induction i using Nat.strongRecOn with
 |_ i N=>
  intro o O U j V;obtain⟨e,he,E⟩:=ax ops [] i j o O (by simpa using V);rcases E with rfl | ⟨E,X⟩
  ·grind
  ·simp only[Ap,Bb]at E;have I:=U e he
   cases u:ops[e]? with
   |none=>
    have:ops.length≤e:=BS.1 u;grind
   |some J=>exact N e E J u (M e J u I) j X
def GC(m:Nat)(listed:Array Bool):List Nat:=(CQ m).filter fun i=>!listed.getD i true
theorem W6(h:Rv ms l=true){i j:Nat}{x y:PI}(E:l[j]?=some x)(I:l[i]?=some y)(u:j<i)(M:(ms.getD i 0).testBit j=false):x.apart y=true:=by
 simp only[Rv,Ag]at h;have J:=h (y,i) (by rw[AY]; exact I);have N:=J (x,j) (by rw[AY,BL,if_pos u]; exact E);grind
theorem bP{p:Nat→Bool}:∀ (m i:Nat),i<m→p i=true→∃ l r,(CQ m).filter p=l++i::r∧(∀ j∈l,j<i∧p j=true)∧(CQ m).filter (fun j=>p j && j != i)=l++r:=by
 intro m i hi E;refine⟨(CQ i).filter p,((List.range' (i+1) (m - (i+1))).filter p),?_,?_,?_⟩
 ·have:CQ m=CQ i++(i::List.range' (i+1) (m - (i+1))):=by
   rw[Bi,Bi,← BT,show m - (i+1)+1=m - i by omega];have:=List.range'_append_1 (s:=0) (m:=i) (n:=m - i);grind
  grind
 ·grind
 ·have:CQ m=CQ i++(i::List.range' (i+1) (m - (i+1))):=by
   rw[Bi,Bi,← BT,show m - (i+1)+1=m - i by omega];have:=List.range'_append_1 (s:=0) (m:=i) (n:=m - i);grind
  rw[this,List.filter_append,List.filter_cons];simp only[bne_self_eq_false,B4,Ak,if_false]
  congr 1
  ·apply Cv;intro j u;simp only[AN]at u;have:j≠i:=by omega
   simp[this]
  ·apply Cv;intro j u;simp only[List.mem_range'_1]at u;have:j≠i:=by omega
   simp[this]
theorem fH(hT:TblOK P G T)(hY:YOK P G T.y base w0 g0 st0)(ht:Ga P il n ops ops.toList=some is)(X:KT ops.toList=true)(U:Array Bool→PS→Prop)
  (af:∀ (listed:Array Bool) (s:PS) (i:Nat) (o:Oper),listed.size=ops.size→Kq ops.toList listed→U listed s→ops.toList[i]?=some o→i<ops.size→listed.getD i true=false→(∀ e∈IK o,listed.getD e false=true)→
   (∃ s1,(is.getD i default).exec G T s=some s1∧U (listed.setIfInBounds i true) s1)∨∃ t d s1,(is.getD i default).execX G T s=some (t,d,s1)∧∀ O w',R G base n w0 g0 st0 dl s1 O w'→Q (.panic (KQ t d)) O w')
  (a3:∀ (listed:Array Bool) (s:PS),GC ops.size listed=[]→U listed s→∀ O w',R G base n w0 g0 st0 dl s O w'→Q .normal O w') :
  ∀ (fuel:Nat) (listed:Array Bool) (s:PS) (a:Act) (w:World),listed.size=ops.size→(GC ops.size listed).length≤fuel→Kq ops.toList listed→U listed s→R G base n w0 g0 st0 dl s a w→
  wpAnyIn (Wr r) 0 P .any ops Q fuel listed a w:=by
 obtain⟨hlen,a4⟩:=OP ht;have bg:is.length=ops.size:=by simpa using hlen
 have J:∀ (listed:Array Bool) (i:Nat),i∈Region.ready .any ops listed↔i∈GC ops.size listed∧∀ o,ops.toList[i]?=some o→∀ e∈IK o,listed.getD e false=true:=by
  intro listed i;simp only[Region.ready,GC,A3,AN,Ac];constructor
  ·rintro⟨u,Y,M⟩;refine⟨⟨u,Y⟩,fun o E e he=>?_⟩;rw[B6]at E;simp only[E,Ae,Cc]at M;simp only[IK,AS,A3,Array.mem_toList_iff]at he;obtain⟨ed,⟨h4,h5⟩,rfl⟩:=he;have:=Array.all_eq_true'.1 M ed h4;grind
  ·rintro⟨⟨u,Y⟩,M⟩;refine⟨u,Y,?_⟩;have E:ops.toList[i]?=some ops[i]:=by rw[B6,BC u]
   rw[BC u];simp only[Ae,Cc];refine Array.all_eq_true'.2 fun ed ba=>?_
   by_cases hb:Region.binds .any ed=true
   ·have:=M _ E ed.on (by simp only[IK,AS,A3,Array.mem_toList_iff]; exact⟨ed,⟨ba,hb⟩,rfl⟩);simp[this]
   ·simp[hb]
 have bh:∀ (listed:Array Bool),GC ops.size listed≠[]→Region.ready .any ops listed≠[]:=by
  intro listed bb hr;obtain⟨i,r,a0⟩:=List.exists_cons_of_ne_nil bb;have hi:i∈GC ops.size listed:=by rw[a0]; simp
  have I:i<ops.size∧listed.getD i true=false:=by
   simp only[GC,A3,AN,AL]at hi; exact hi
  have b6:∀ e,e<i→listed.getD e true=true:=by
   intro e he
   by_cases h:listed.getD e true=true
   ·exact h
   ·exfalso;obtain⟨l,r',u,Y,_⟩:=bP (p:=fun i=>!listed.getD i true) ops.size e (by omega) (by simpa using h);have M:l++e::r'=i::r:=by rw[← u]; exact a0
    cases l with
    |nil=>simp at M; omega
    |cons x l=>
     grind
  have:i∈Region.ready .any ops listed:=by
   rw[J];refine⟨hi,fun o E e he=>?_⟩
   have ca:e<i:=by
    simp only[KT,Ag]at X;have u:=X (o,i) (by rw[AY]; exact E);grind
   grind
  grind
 intro fuel
 induction fuel with
 |zero=>
  intro listed s a w ab hl hc hx hR;have h0:GC ops.size listed=[]:=AO (by omega);refine⟨?_,a3 listed s h0 hx a w hR⟩;apply List.eq_nil_iff_forall_not_mem.2;grind
 |succ fuel ih=>
  intro listed s a w ab hl hc hx hR;refine⟨fun hr=>?_,fun i hi=>?_⟩
  ·grind
  ·obtain⟨a1,bc⟩:=(J listed i).1 hi
   have I:i<ops.size∧listed.getD i true=false:=by
    simp only[GC,A3,AN,AL]at a1; exact a1
   have E:ops.toList[i]?=some ops[i]:=by rw[B6,BC I.1]
   obtain⟨pi,bd,a2⟩:=a4 i _ E;have ac:is.getD i default=pi:=by simp[Aj,bd]
   rcases af listed s i _ ab hc hx E I.1 I.2 (bc _ E)with⟨s1,N,ad⟩ | ⟨t,d,s1,N,ad⟩
   rotate_left
   ·rw[ac]at N;obtain⟨k1,k2⟩:=Wl (r:=r) (Q:=Q) (ops:=ops) (K:=wpAnyIn (Wr r) 0 P .any ops Q fuel (listed.setIfInBounds i true)) hT hR a2 N (fun w' ae=>ad a w' ae);unfold wpOpIn;grind
   rw[ac]at N
   have a8:∀ q,(listed.setIfInBounds i true).getD q false=true↔q=i∨listed.getD q false=true:=by
    intro q
    by_cases be:q=i
    ·simp_all
    ·rcases Be q listed.size with h5 | h5
     ·simp[Array.getD,h5,be,show ¬ i=q by omega]
     ·grind
   have bf:=R4 (r:=r) (Q:=Q) (ops:=ops) (K:=wpAnyIn (Wr r) 0 P .any ops Q fuel (listed.setIfInBounds i true)) hT hY hR a2 N (fun O w' ae=>by
    refine ih (listed.setIfInBounds i true) s1 O w' (by simp[ab]) ?_ ?_ ad ae
    ·obtain⟨l,r,u,Y,M⟩:=bP (p:=fun i=>!listed.getD i true) ops.size i I.1 (by simpa using I.2)
     have b1:GC ops.size (listed.setIfInBounds i true)=l++r:=by
      rw[← M];simp only[GC];grind
     have cb:GC ops.size listed=l++i::r:=u;grind
    ·intro k o' hk V e he;rw[a8]at V ⊢;refine .inr ?_;rcases V with rfl | V
     ·grind
     ·exact hc k o' hk V e he)
   unfold wpOpIn;grind
theorem ef(N:TblOK P G T)(O:YOK P G T.y base w0 g0 st0)(U:Ga P il n ops ops.toList=some is)(I:KT ops.toList=true)(u:Array Bool→PS→Prop)
  (E:∀ (listed:Array Bool) (s:PS) (i:Nat) (o:Oper),listed.size=ops.size→Kq ops.toList listed→u listed s→ops.toList[i]?=some o→i<ops.size→listed.getD i true=false→(∀ e∈IK o,listed.getD e false=true)→
   ∃ s1,(is.getD i default).exec G T s=some s1∧u (listed.setIfInBounds i true) s1)
  (J:∀ (listed:Array Bool) (s:PS),GC ops.size listed=[]→u listed s→∀ M w',R G base n w0 g0 st0 dl s M w'→Q .normal M w') :
  ∀ (fuel:Nat) (listed:Array Bool) (s:PS) (a:Act) (w:World),listed.size=ops.size→(GC ops.size listed).length≤fuel→Kq ops.toList listed→u listed s→R G base n w0 g0 st0 dl s a w→
  wpAnyIn (Wr r) 0 P .any ops Q fuel listed a w:=
 fH N O U I u (fun listed s i o V X Y h4 h5 h6 h7=>.inl (E listed s i o V X Y h4 h5 h6 h7)) J
theorem fi:∀ (l m:List Nat),l.Nodup→(∀ x∈l,x∈m)→m.length≤l.length→l.Perm m
 |[],m,_,_,h=>by
  grind
 |a::l,m,J,u,h=>by
  have ha:a∈m:=u a (by simp);have M:=List.perm_cons_erase ha;have E:=List.nodup_cons.1 J
  have O:=fi l (m.erase a) E.2 (fun x N=>by
   have I:x∈a::m.erase a:=M.mem_iff.1 (u x (by simp[N]));rcases AA.1 I with e | e
   ·grind
   ·exact e) (by
   grind)
  grind
def Gp(is:List PI)(Z:List (Nat×Option Foot)):List (PI×Option Foot):=Z.map fun z=>(is.getD z.1 default,z.2)
def FG(listed:Array Bool)(Z:List (Nat×Option Foot)):List (Nat×Option Foot):=Z.filter fun z=>!listed.getD z.1 true
def Mc(ms:List Nat)(is:List PI)(m:Nat)(bad:Option (Nat×Nat))(Z:List (Nat×Option Foot)):Prop:=
 (Z.map (·.1)).Nodup∧(∀ k,k<m→∃ f,(k,f)∈Z)∧
  Z.Pairwise fun x y=>(ms.getD y.1 0).testBit x.1=false→bad≠some (x.1,y.1)→HR (is.getD x.1 default,x.2) (is.getD y.1 default,y.2)
theorem iJ{m:Nat}(hZ:Mc (EI ops.toList []) is m bad Z){i:Nat}
  (a8:listed.size=ops.size) (hc:Kq ops.toList listed) (hr:GD G T (Gp is (FG listed Z)) s sf) (ho:ops.toList[i]?=some o) (hi:i<ops.size) (ac:i<m) (a9:listed.getD i true=false) (hd:∀ e∈IK o,listed.getD e false=true)
  (hb:∀ j,listed.getD j true=false→bad≠some (j,i)):∃ s1,(is.getD i default).exec G T s=some s1∧GD G T (Gp is (FG (listed.setIfInBounds i true) Z)) s1 sf:=by
 obtain⟨z1,z2,z3⟩:=hZ;obtain⟨f,hf⟩:=z2 i ac
 have X:(i,f)∈FG listed Z:=by
  simp only[FG,A3];grind
 obtain⟨l,r,u⟩:=List.append_of_mem X;have O:(FG listed Z).Pairwise fun x y=>((EI ops.toList []).getD y.1 0).testBit x.1=false→bad≠some (x.1,y.1)→HR (is.getD x.1 default,x.2) (is.getD y.1 default,y.2):=z3.filter _;rw[u]at O
 have I:∀ x∈l,listed.getD x.1 true=false:=by
  intro x J;have:x∈FG listed Z:=by rw[u]; simp[J]
  simp only[FG,A3,AL]at this;exact this.2
 have M:∀ x∈Gp is l,HR x (is.getD i default,f):=by
  intro x J;simp only[Gp,AS]at J;obtain⟨z,E,rfl⟩:=J;have Y:=(List.pairwise_append.1 O).2.2 z E (i,f) (by simp);have h2:=I z E;refine Y ?_ (hb _ h2)
  cases ad:((EI ops.toList []).getD i 0).testBit z.1 with
  |false=>rfl
  |true=>
   have h4:=WR hc i _ ho hd z.1 ad;grind
 have ae:Gp is (FG listed Z)=Gp is l++(is.getD i default,f)::Gp is r:=by rw[u]; simp[Gp]
 rw[ae]at hr;obtain⟨s1,Y,_,h2⟩:=lN _ _ s sf M hr;refine⟨s1,Y,?_⟩;have af:((FG listed Z).map (·.1)).Nodup:=List.Nodup.sublist (List.Sublist.map _ (List.filter_sublist ..)) z1;rw[u,A4,Aq]at af
 have U:∀ z∈l++r,z.1≠i:=by
  grind
 have N:FG (listed.setIfInBounds i true) Z=l++r:=by
  have e1:FG (listed.setIfInBounds i true) Z=(FG listed Z).filter fun z=>z.1 != i:=by
   simp only[FG,List.filter_filter];apply Cv;intro z _
   by_cases V:z.1=i
   ·simp_all
   ·rcases Be z.1 listed.size with h5 | h5
    ·simp[Array.getD,h5,V,show ¬ i=z.1 from fun e=>V e.symm]
    ·grind
  rw[e1,u,List.filter_append,List.filter_cons];simp only[bne_self_eq_false,Ak,if_false];rw[BU.2 (fun z E=>by simpa using U z (List.mem_append_left _ E)),BU.2 (fun z E=>by simpa using U z (List.mem_append_right _ E))]
 rw[N];simpa[Gp]using h2
theorem Mo(I:Mc (EI ops.toList []) is ops.size bad Z){i:Nat}
  (u:listed.size=ops.size) (J:Kq ops.toList listed) (M:GD G T (Gp is (FG listed Z)) s sf) (N:ops.toList[i]?=some o) (hi:i<ops.size) (E:listed.getD i true=false) (O:∀ e∈IK o,listed.getD e false=true)
  (hb:∀ j,listed.getD j true=false→bad≠some (j,i)):∃ s1,(is.getD i default).exec G T s=some s1∧GD G T (Gp is (FG (listed.setIfInBounds i true) Z)) s1 sf:=
 iJ I u J M N hi hi E O hb
theorem Y7(u:∀ z∈Z,z.1<ops.size)(E:GC ops.size listed=[]):Gp is (FG listed Z)=[]:=by
 have:FG listed Z=[]:=by
  simp only[FG,List.filter_eq_nil_iff,AL];intro z I hl
  have J:z.1∈GC ops.size listed:=by
   simp only[GC,A3,AN];grind
  grind
 rw[this]; rfl
theorem Ye1(N:TblOK P G T)(O:YOK P G T.y base w0 g0 st0)(U:Ga P il n ops ops.toList=some is)(E:KT ops.toList=true)(V:Mc (EI ops.toList []) is ops.size none Z)(I:∀ z∈Z,z.1<ops.size)
   (hQ:∀ J w',R G base n w0 g0 st0 dl sf J w'→Q .normal J w') (fuel:Nat) (listed:Array Bool) (s:PS) (a:Act) (w:World) (M:listed.size=ops.size) (hl:(GC ops.size listed).length≤fuel) (X:Kq ops.toList listed) (Y:GD G T (Gp is (FG listed Z)) s sf) (hR:R G base n w0 g0 st0 dl s a w) :
  wpAnyIn (Wr r) 0 P .any ops Q fuel listed a w:=by
 refine ef N O U E (fun listed s=>GD G T (Gp is (FG listed Z)) s sf) ?_ ?_ fuel listed s a w M hl X Y hR
 ·intro listed s i o u h2 h3 h4 h5 h6 h7;exact Mo V u h2 h3 h4 h5 h6 h7 (fun j _ h=>by cases h)
 ·intro listed s h0 u;rw[Y7 I h0]at u;simp only[GD]at u;grind
theorem kT:∀ (l:List PI) (s:PS) {t:Nat} {d:D} {s':PS},HW G T l s=some (t,d,s')→∃ i s1,i<l.length∧Ft G T (l.take i) s=some s1∧(l.getD i default).execX G T s1=some (t,d,s')
 |[],s,t,d,s',h=>by simp[HW]at h
 |i::l,s,t,d,s',h=>by
  simp only[HW]at h
  split at h
  ·rename_i s1 u;obtain⟨k,s2,J,E,I⟩:=kT l s1 h;refine⟨k+1,s2,by simp; omega,?_,by simpa using I⟩;simp only[List.take_succ_cons,Ft,u];exact E
  ·exact⟨0,s,by simp,rfl,by simpa using h⟩
theorem su{r:Nat×D×PS}(h:i.execX G T s=some r):M1 i.op=true:=by
 unfold PI.execX at h
 split at h
 case h_2=>cases h
 simp only[DA]at h;obtain⟨x,h,_⟩:=h;unfold POp.execX at h
 split at h
 case h_2=>cases h
 rename_i f ds u;unfold POp.callee at u
 split at u
 ·rename_i e; rw[e]; rfl
 ·rename_i e; rw[e]; rfl
 ·cases u
theorem tw(h:Kg ms l=true){i:Nat}(hi:i<l.length)(E:M1 (l.getD i default).op=true):(∀ j,j<i→(ms.getD i 0).testBit j=true)∧∀ j,i<j→j<l.length→(ms.getD j 0).testBit i=true:=by
 simp only[Kg,Ag]at h;have u:l[i]?=some (l.getD i default):=by simp[Aj,hi]
 have I:=h (l.getD i default,i) (by rw[AY]; exact u);grind
theorem iK(hT:TblOK P G T)(hY:YOK P G T.y base w0 g0 st0)(ht:Ga P il n ops ops.toList=some is)(U:KT ops.toList=true){u:Nat}(bb:u<is.length)(o1:∀ j,j<u→((EI ops.toList []).getD u 0).testBit j=true)(o2:∀ j,u<j→j<is.length→((EI ops.toList []).getD j 0).testBit u=true)
  {F:List (Option Foot)} (bc:F.length=u) (bd:∀ (i j:Nat),j<i→i<u→((EI ops.toList []).getD i 0).testBit j=false→HR (is.getD j default,F.getD j none) (is.getD i default,F.getD i none))
    {s1:PS} (hr:GD G T ((is.take u).zip F) s s1) (hp:(is.getD u default).execX G T s1=some (t,d,s')) (hQ:∀ a' w',R G base n w0 g0 st0 dl s' a' w'→Q (.panic (KQ t d)) a' w') (listed:Array Bool) (a:Act) (w:World) (ac:listed.size=ops.size) (hu:∀ i,i<ops.size→listed.getD i true=false) (hR:R G base n w0 g0 st0 dl s a w) :
  wpAnyIn (Wr r) 0 P .any ops Q ops.size listed a w:=by
 have hlen:=(OP ht).1;have ah:is.length=ops.size:=by simpa using hlen
 let Z:List (Nat×Option Foot):=(CQ u).zip F
 have E:Z.map (·.1)=CQ u:=by
  show((CQ u).zip F).map (·.1)=_
  rw[List.map_fst_zip (by simp; omega)]
 have a4:∀ z∈Z,z.1<u:=fun z hz=>by
  have:z.1∈Z.map (·.1):=List.mem_map_of_mem hz;grind
 have hZ:Mc (EI ops.toList []) is u none Z:=by
  refine⟨by rw[E]; exact Cz,fun k hk=>?_,?_⟩
  ·have:k∈Z.map (·.1):=by rw[E]; exact AN.2 hk
   grind
  ·show List.Pairwise _ ((CQ u).zip F)
   rw[List.pairwise_iff_getElem];grind
 have O:Gp is (FG listed Z)=(is.take u).zip F:=by
  have e:FG listed Z=Z:=by
   simp only[FG,BU];grind
  rw[e]
  show Gp is ((CQ u).zip F)=_
  unfold Gp;apply A9;grind
 refine fH hT hY ht U (fun listed s=>(∀ j,u≤j→j<ops.size→listed.getD j true=false)∧GD G T (Gp is (FG listed Z)) s s1) ?_ ?_ ops.size listed s a w ac ?_ ?_ ⟨fun j _ I=>hu j I,by rw[O]; exact hr⟩ hR
 ·rintro listed s i o J M ⟨h3,N⟩ V h5 h6 X;rcases Nat.lt_trichotomy i u with hi | hi | hi
  ·left
   obtain⟨s2,g1,g2⟩:=iJ hZ J M N V h5 hi h6 X (fun j _ h=>by cases h);refine⟨s2,g1,fun j I af=>?_,g2⟩;have:=h3 j I af;have be:¬ i=j:=by omega
   simp_all
  ·right
   subst hi;have a9:∀ j,j<i→listed.getD j false=true:=fun j I=>WR M i o V X j (o1 j I)
   have Y:FG listed Z=[]:=by
    simp only[FG,List.filter_eq_nil_iff,AL];grind
   rw[Y]at N;simp only[Gp,A6,GD]at N;grind
  ·exfalso;have h8:=WR M i o V X u (o2 i hi (by omega));have h9:=h3 u (Az _) (by omega);grind
 ·rintro listed s h0 ⟨J,_⟩;exfalso;have M:=J u (Az _) (by omega)
  have:u∈GC ops.size listed:=by
   simp only[GC,A3,AN];grind
  grind
 ·unfold GC;grind
 ·intro i o ho hi;have J:=(Ab.1 ho).1;have M:=hu i (by simpa using J);grind
theorem Yez(hT:TblOK P G T)(hY:YOK P G T.y base w0 g0 st0)(I:Ga P il n ops ops.toList=some is)(E:KT ops.toList=true)(J:Rv (EI ops.toList []) is=true)(M:Kg (EI ops.toList []) is=true)
     (hx:HW G T is s=some (t,d,s')) (hQ:∀ N w',R G base n w0 g0 st0 dl s' N w'→Q (.panic (KQ t d)) N w') (listed:Array Bool) (a:Act) (w:World) (O:listed.size=ops.size) (hu:∀ i,i<ops.size→listed.getD i true=false) (hR:R G base n w0 g0 st0 dl s a w) :
  wpAnyIn (Wr r) 0 P .any ops Q ops.size listed a w:=by
 obtain⟨i0,s1,u,he,U⟩:=kT _ _ hx;have aa:is.length=ops.size:=by simpa using (OP I).1
 obtain⟨o1,o2⟩:=tw M u (su U);obtain⟨F,hF,hr⟩:=S8 _ _ _ he;have V:F.length=i0:=by rw[hF,As]; omega
 refine iK hT hY I E u o1 o2 V (fun i j X hi hm=>?_) hr U hQ listed a w O hu hR;have h1:is[j]?=some (is.getD j default):=by simp[Aj,show j<is.length by omega]
 have h2:is[i]?=some (is.getD i default):=by simp[Aj,show i<is.length by omega]
 have Y:=W6 J h1 h2 X hm;exact⟨NV Y,.inl Y⟩
theorem vz{i:Nat}(h:Z3 ms l i=true):i<l.length∧(∀ j,j<i→(ms.getD i 0).testBit j=true)∧∀ j,i<j→j<l.length→(ms.getD j 0).testBit i=true:=by
 simp only[Z3,Ac,decide_eq_true_eq,Ag,AN,A5,beq_iff_eq]at h;grind
theorem Ye0(hT:TblOK P G T)(hY:YOK P G T.y base w0 g0 st0)(ht:Ga P il n ops ops.toList=some is)(ad:KT ops.toList=true){x y:Nat}(b5:x≠y)(hx:x<ops.size){U V:List (Nat×Option Foot)}(X:Mc (EI ops.toList []) is ops.size (some (x,y)) U)(Y:Mc (EI ops.toList []) is ops.size (some (y,x)) V)
  (ae:∀ z∈U,z.1<ops.size) (af:∀ z∈V,z.1<ops.size)
  {sf1 sf2:PS} (b6:∀ a' w',R G base n w0 g0 st0 dl sf1 a' w'→Q .normal a' w') (b7:∀ a' w',R G base n w0 g0 st0 dl sf2 a' w'→Q .normal a' w') (fuel:Nat) (listed:Array Bool) (s:PS) (a:Act) (w:World) (ah:listed.size=ops.size) (hl:(GC ops.size listed).length≤fuel) (hc:Kq ops.toList listed)
  (a0:listed.getD x true=false) (a5:listed.getD y true=false) (a6:GD G T (Gp is (FG listed U)) s sf1) (a7:GD G T (Gp is (FG listed V)) s sf2) (hR:R G base n w0 g0 st0 dl s a w) :
  wpAnyIn (Wr r) 0 P .any ops Q fuel listed a w:=by
 refine ef hT hY ht ad (fun listed s=>(listed.getD x true=false∧listed.getD y true=false∧GD G T (Gp is (FG listed U)) s sf1∧GD G T (Gp is (FG listed V)) s sf2)∨
  ((listed.getD x true=true∨listed.getD y true=true)∧GD G T (Gp is (FG listed U)) s sf1)∨((listed.getD x true=true∨listed.getD y true=true)∧GD G T (Gp is (FG listed V)) s sf2)) ?_ ?_ fuel listed s a w ah hl hc (.inl ⟨a0,a5,a6,a7⟩) hR
 ·intro listed s i o E I h3 J M N O
  have b2:∀ q,q≠i→(listed.setIfInBounds i true).getD q true=listed.getD q true:=by
   intro q hq;rcases Be q listed.size with h | h
   ·simp[Array.getD,h,show ¬ i=q from fun e=>hq e.symm]
   ·grind
  have bb:(listed.setIfInBounds i true).getD i true=true:=by
   simp_all
  have bc:∀ q,listed.getD q true=true→(listed.setIfInBounds i true).getD q true=true:=by
   grind
  rcases h3 with⟨a1,u,a3,a4⟩ | ⟨a1,u⟩ | ⟨a1,u⟩
  ·by_cases ey:i=y
   ·obtain⟨s1,k1,k2⟩:=Mo Y E I a4 J M N O (fun j _ h=>by
     grind)
    grind
   ·by_cases ex:i=x
    ·obtain⟨s1,k1,k2⟩:=Mo X E I a3 J M N O (fun j _ h=>by
      grind)
     grind
    ·obtain⟨s1,k1,k2⟩:=Mo X E I a3 J M N O (fun j _ h=>by
      grind)
     obtain⟨b8,k3,k4⟩:=Mo Y E I a4 J M N O (fun j _ h=>by
      grind)
     grind
  ·obtain⟨s1,k1,k2⟩:=Mo X E I u J M N O (fun j hj h=>by
    grind)
   grind
  ·obtain⟨s1,k1,k2⟩:=Mo Y E I u J M N O (fun j hj h=>by
    grind)
   grind
 ·intro listed s h0 E
  have b9:listed.getD x true=true:=by
   cases h:listed.getD x true with
   |true=>rfl
   |false=>
    have E:x∈GC ops.size listed:=by
     simp only[GC,A3,AN];grind
    grind
  rcases E with⟨a1,_⟩ | ⟨_,u⟩ | ⟨_,u⟩
  ·grind
  ·rw[Y7 ae h0]at u;simp only[GD]at u;grind
  ·rw[Y7 af h0]at u;simp only[GD]at u;grind
structure GoX (l:Nat) (base:Nat) (w:World) (g:Ghost) (st:St) (w':World) (g':Ghost) (st':St):Prop where
 sr:SR base w' g' st'
 evo:Evo g st g' st'
 im:ImLe w g w' g'
 new:∀ b o,g'.Im b o→g.Im b o∨base≤b
 below:Below base w w'
 kp:∀ (b:Nat) (o:Go.Obj),b≠l→w.heap[b]?=some o→special o=true→Kept w' b o
theorem Go1.x(h:Go1 base w g st w' g' st')(l:Nat):GoX l base w g st w' g' st':=⟨h.sr,h.evo,h.im,h.new,h.below,fun b o _=>h.kp b o⟩
theorem GoX.trans{l:Nat}{w2:World}{g2:Ghost}{st2:St}(h:GoX l base w g st w1 g1 st1)(u:GoX l base w1 g1 st1 w2 g2 st2):GoX l base w g st w2 g2 st2:=
 ⟨u.sr,h.evo.trans u.evo,h.im.trans u.im,fun b o hb=>by
  rcases u.new b o hb with x | x
  ·exact h.new b o x
  ·exact .inr x,h.below.trans u.below,fun b o hl hb E=>(let⟨_,J,I⟩:=h.kp b o hl hb E; let⟨o2,M,N⟩:=u.kp b _ hl J (I.special E); ⟨o2,M,I.trans N⟩)⟩
theorem GoX.fin{l:Nat}(h:GoX l base w g st w' g' st')(hl:∀ (o:Go.Obj),w.heap[l]?=some o→special o=true→Kept w' l o):Go1 base w g st w' g' st':=
 ⟨h.sr,h.evo,h.im,h.new,h.below,fun b o hb u=>by
  by_cases e:b=l
  ·grind
  ·exact h.kp b o e hb u⟩
theorem GoX.put{l:Nat}{o o':Go.Obj}(E:SR base w g st)(Y:w.heap[l]?=some o)(hs:special o=true)(af:∃ ds,o=.deferred ds)(hl:base≤l):GoX l base w g st (w.putObj l o') g st:=by
 have I:∀ b x,g.Im b x→(w.putObj l o').cell? ⟨b,x,none⟩=w.cell? ⟨b,x,none⟩:=by
  intro b x hb
  have u:b≠l:=by
   rintro rfl;have:=E.im b x hb;unfold World.cell? at this;grind
  simp only[World.cell?,World.putObj_heap_other u]
 have M:ImLe w g (w.putObj l o') g:=⟨fun b x hb=>⟨hb,I b x hb⟩,fun b x hb N=>by
  have u:b≠l:=by
   rintro rfl;rw[Y]at hb;obtain rfl:=Au hb;cases o <;> first | (simp[Kf]at N; done) | (simp[special]at hs; done)
  rw[World.putObj_heap_other u]; exact hb⟩
 refine⟨⟨?_,?_,E.inj,?_,E.dis,by rw[World.putObj_size]; exact E.size⟩,Evo.refl _ _,M,fun _ _ h=>.inl h,⟨rfl,rfl,rfl,by rw[World.putObj_size]; exact Az _,fun k hk=>World.putObj_heap_other (by omega)⟩,fun b o1 hb O _=>.same (by rw[World.putObj_heap_other hb]; exact O)⟩
 ·intro k U hk hm;have hm:=E.mp k U hk hm;refine hm.mono M (Evo.refl _ _) rfl (World.putObj_heap_other ?_);rintro rfl;obtain⟨x,hb,_,_,_,h5,_⟩:=hm.at;grind
 ·intro k U hk hm;obtain⟨C,e,hb,J,V,N,hC,X⟩:=E.blk k U hk hm
  have u:g.β k≠l:=by
   grind
  refine⟨C,e,by rw[World.putObj_heap_other u]; exact hb,J,V,N,hC,fun i j d hd=>?_⟩;obtain⟨O,v,h2,h3⟩:=X i j d hd;exact⟨O,v,h2,h3.mono M (Evo.refl _ _)⟩
 ·intro b x hb;rw[I b x hb]; exact E.im b x hb
theorem YOK.mono{y:Nat→List D→St→Option (D×St)}(h:YOK P G y base w0 g0 st0)(E:Go1 base w0 g0 st0 w1 g1 st1):YOK P G y base w1 g1 st1:=
 fun l w g st st' ds vs d u=>h l w g st st' ds vs d (E.trans u)
theorem fp{x:List Deferred}{w:World}{g:Ghost}{st:St}:∀ (ps:List Nat) (ds:List D) (vs:List Value) (fr:Frame) (tmps:Array Value),ds.length=ps.length→ds.length=vs.length→(∀ p∈ps,p<tmps.size)→FR w g st fr {tmps:=tmps,defers:=x}→
  (∀ (i:Nat) d v,ds[i]?=some d→vs[i]?=some v→RepV w g st d v)→
  FR w g st (HG fr ps ds) {tmps:=(ps.zip vs).foldl (fun tmps p=>tmps.setIfInBounds p.1 p.2) tmps,defers:=x}
 |[],ds,vs,fr,tmps,u,E,_,I,_=>by
  simp only[List.zip_nil_left,List.foldl_nil]
  cases ds with
  |nil=>exact I
  |cons d ds=>simp at u
 |p::ps,ds,vs,fr,tmps,u,E,M,I,J=>by
  cases ds with
  |nil=>simp at u
  |cons d ds=>
   cases vs with
   |nil=>simp at E
   |cons v vs=>
    simp only[List.zip_cons_cons,List.foldl_cons,HG];refine fp ps ds vs _ _ (by simpa using u) (by simpa using E) (fun q U=>?_) ?_ (fun i d v N hv=>J (i+1) d v (by simpa using N) (by simpa using hv))
    ·grind
    ·exact FR.put (dst:=some p) (a:={tmps:=tmps,defers:=x}) I (fun t O=>by cases O; exact M p (by simp)) (J 0 d v rfl rfl)
theorem cr:∀ (l:List (Nat×Value)) (tmps:Array Value),(l.foldl (fun tmps p=>tmps.setIfInBounds p.1 p.2) tmps).size=tmps.size
 |[],_=>rfl
 |p::l,tmps=>by rw[List.foldl_cons,cr l]; simp
theorem R.drew(h:R G base n w0 g0 st0 dl s a w):R G base n w0 g0 st0 dl s a {w with drawn:=w.drawn+1}:=by
 obtain⟨g,h⟩:=h;have u:=h.sr.drew (w.drawn+1);exact⟨g,h.go u (h.fr.mono u.im u.evo) rfl h.sz⟩
end
end Go.Proofs.YtijnglngaogdjaaGreatDoor.PI
namespace Go.Proofs.YtijnglngaogdjaaGreatDoor.PI
open Go Go.RowKit
variable {o o':Obj}{st st':St}{f j k key:Nat}{v:Value}{d:D}{g g':Ghost}{w w':World}{σ:List Nat}{ops:Array Oper}{vs:List Value}{ds:List D}{F:PF}{hints:List (List Nat)}
section
variable {P:Program} {il:List Nat} {G:Dh} {T:Tbl} {base n:Nat} {w0:World} {g0:Ghost} {st0:St} {dl:List Deferred} {ro:Option Nat}
theorem Nr{i:Nat}(h:st[i]?=some o)(hi:i<k):(cut k st)[i]?=some {o with els:=if o.row then o.els else o.els.map (Gs k)}:=by
 simp[cut,hi,h]
theorem Ot{i:Nat}(h:(cut k st)[i]?=some o'):i<k∧∃ o,st[i]?=some o∧o'={o with els:=if o.row then o.els else o.els.map (Gs k)}:=by
 simp only[cut,AG,DA,BL]at h;grind
theorem Ou(k:Nat)(o:Obj):(if o.row then o.els else o.els.map (Gs k)).length=o.els.length:=by
 grind
theorem gH(h:RepV w g st d v):RepV w g (cut k st) (Gr k d) v:=by
 cases h with
 |int k n=>exact .int k n
 |bool b=>exact .bool b
 |str s=>exact .str s
 |nilp=>exact .nilp
 |nilm=>exact .nilm
 |gmap es b N clock u E I=>exact .gmap es b N clock u E I
 |nilf=>exact .nilf
 |slcE sz t a cap h=>exact .slcE sz t a cap h
 |slc els t b off cap sz val u E I O J U V X=>exact RepV.pure (ImLe.refl _ _) (.slc els t b off cap sz val u E I O J U V X) rfl
 |clo f ds vs u E=>exact .junk _
 |row key tot off len o v M u E I J=>
  simp only[Gr]
  split
  ·rename_i hk;refine .row key tot off len _ v M (Nr u hk) E (by simpa[Ou]using I) fun e=>?_;grind
  ·exact .junk _
 |bsl key off n sz ag o cap u E I J=>
  simp only[Gr]
  split
  ·rename_i hk; exact .bsl key off n sz ag _ cap (Nr u hk) E I J
  ·exact .junk _
 |mapv key o u E=>
  simp only[Gr]
  split
  ·rename_i hk; exact .mapv key _ (Nr u hk) E
  ·exact .junk _
 |ptr key off o u E I=>
  simp only[Gr]
  split
  ·rename_i hk; exact .ptr key off _ (Nr u hk) E I
  ·exact .junk _
 |rptr key tot i off o v M u E I J=>
  simp only[Gr]
  split
  ·rename_i hk;refine .rptr key tot i off _ v M (Nr u hk) E (by simpa[Ou]using I) fun e=>?_;grind
  ·exact .junk _
 |eptr el off b o val M u E=>exact RepV.eptr_any (ImLe.refl _ _) (.eptr el off b o val M u E)
 |agg ds vs u E=>exact .junk _
 |tup ds vs u E=>exact .junk _
 |junk v=>exact .junk v
theorem YY(h:RepV w g st d v):RepV w g (cut k st) (F5 k d) v:=by
 cases d with
 |clo f l=>
  cases h with
  |clo _ _ vs E I=>
   refine .clo f _ vs (by simpa using E) fun i d v u hv=>?_;simp only[AG,DA]at u;obtain⟨d0,J,rfl⟩:=u;exact gH (I i d0 v J hv)
 |_=>exact gH h
theorem X5(h:RepV w g st d v):RepV w g (cut k st) (Gs k d) v:=by
 cases d with
 |agg l=>
  cases h with
  |agg _ vs E I=>
   refine .agg _ vs (by simpa using E) fun i d v u hv=>?_;simp only[AG,DA]at u;obtain⟨d0,J,rfl⟩:=u;exact YY (I i d0 v J hv)
 |tup l=>exact .junk _
 |_=>exact YY h
theorem vn(k:Nat)(d:D):(F5 k d).cells=[F5 k d]:=by
 cases d <;> simp only[F5,Gr] <;> first | rfl | (split <;> rfl)
theorem bH{x:D}(h:x.cells=[x])(l:List D):x≠.agg l:=by
 rintro rfl;have h:l=[.agg l]:=h;have:=congrArg (fun l:List D=>SizeOf.sizeOf l) h;grind
theorem Yo7(k:Nat)(h:d.cells=[d]):Gs k d=F5 k d:=by
 cases d with
 |agg l=>exact absurd rfl (bH h l)
 |_=>rfl
theorem V8(k:Nat)(h:d.cells=[d]):(Gs k d).cells=[Gs k d]:=by rw[Yo7 k h]; exact vn k d
theorem eW{u:D→D}(O:∀ d v,RepV w g st d v→RepV w' g' st' (u d) v){l:List D}{sz:Nat}(hl:l.length=sz)(X:1<sz){I J:Value}
  (E:RepV w g st (FE sz (.agg l)) I) (hv:RepV w g st (Gu sz (.agg l)) J):RepV w' g' st' (FE sz (.agg (l.map u))) I∧RepV w' g' st' (Gu sz (.agg (l.map u))) J:=by
 constructor
 ·by_cases M:sz=2
  ·subst M
   match l,hl with
   |[a,b],_=>exact O _ _ E
  ·have e:∀ l,FE sz (.agg l)=.agg (l.take (sz - 1)):=fun l=>by simp[FE,D.mk,M]
   rw[e]at E ⊢
   cases E with
   |agg _ vs U Y=>
    rw[← B0];refine .agg _ vs (by simpa using U) fun i d v N hv=>?_;grind
 ·have N:∃ x,l.drop (sz - 1)=[x]:=by
   have:(l.drop (sz - 1)).length=1:=by rw[AE]; omega
   match l.drop (sz - 1),this with
   |[x],_=>exact⟨x,rfl⟩
  obtain⟨x,V⟩:=N;simp only[Gu,← Ci,V]at hv ⊢;grind
theorem MapAt.mkRec{base:Nat}{b:Nat}(u:o.sz=1000003)(h:Vz base w b o):MapAt base w g st b o:=by
 unfold MapAt; rwa [if_pos u]
theorem MapAt.mkOld{base:Nat}{b:Nat}(u:o.sz≠1000003)(h:MapAt0 base w g st b o):MapAt base w g st b o:=by
 unfold MapAt; rwa [if_neg u]
theorem Yq7{base:Nat}(h:SR base w g st)(k:Nat):SR base w g (cut k st):=by
 refine⟨?_,?_,?_,h.im,?_,h.size⟩
 ·intro i o' hi hm;obtain⟨a6,o,ho,rfl⟩:=Ot hi;have hm:o.isMap=true:=hm;have u:o.row=false:=V1 hm;have ad:=h.mp i o ho hm
  by_cases Y:o.sz=1000003
  ·obtain⟨r,n,a1,a2,a3,a4⟩:=ad.rec' Y;refine MapAt.mkRec Y ⟨r,n,a1,a2,by simp[u,a3,Gs,F5,Gr],a4⟩
  obtain⟨es,clock,I,M,N,h4,h5,a8⟩:=ad.old Y;refine MapAt.mkOld Y ?_;refine⟨es,clock,I,M,by rw[N,Ou],?_,?_,a8⟩
  ·intro x hx;simp only[u,Ak,if_false,AS]at hx;obtain⟨y,O,rfl⟩:=hx;obtain⟨l,rfl,hl⟩:=h4 y O;exact⟨_,rfl,by simpa using hl⟩
  ·intro j e el he ae;simp only[u,Ak,if_false,AG,DA]at ae;obtain⟨a9,U,rfl⟩:=ae;obtain⟨l,rfl,hl⟩:=h4 a9 (Ah U);have h6:=h5 j e _ he U;exact eW (fun d v h=>YY h) hl (Ze hm) h6.1 h6.2
 ·intro i o' hi hm;obtain⟨a6,o,ho,rfl⟩:=Ot hi;have hm:o.isMap=false:=hm;obtain⟨C,e,hb,aa,a0,hx,E,V⟩:=h.blk i o ho hm;refine⟨C,e,hb,aa,a0,?_,?_,?_⟩
  ·intro x J
   by_cases u:o.row=true
   ·grind
   ·simp only[u,Ak,if_false,AS]at J;simp only[u,Ak,if_false]at E;obtain⟨y,O,rfl⟩:=J;rw[V8 k (E.2.2 y O),E.2.1]; rfl
  ·by_cases u:o.row=true
   ·grind
   ·simp only[u,Ak,if_false]at E ⊢;refine⟨by simpa using E.1,E.2.1,fun x J=>?_⟩;simp only[AS]at J;obtain⟨y,O,rfl⟩:=J;exact V8 k (E.2.2 y O)
  ·intro i' j d hd
   by_cases u:o.row=true
   ·simp only[u,if_true]at hd;obtain⟨I,v,M,N⟩:=V i' j d hd;exact⟨I,v,M,N.pure (ImLe.refl _ _) (I u)⟩
   ·simp only[u,Ak,if_false]at hd E;obtain⟨e',he,hj⟩:=GQ hd;simp only[AG,DA]at he;obtain⟨e0,X,rfl⟩:=he;rw[V8 k (E.2.2 e0 (Ah X))]at hj
    have bc:j=0∧d=Gs k e0:=by
     grind
    obtain⟨rfl,rfl⟩:=bc;obtain⟨_,v,M,N⟩:=V i' 0 e0 (GB X (by rw[E.2.2 e0 (Ah X)]; rfl));exact⟨fun e=>absurd e u,v,M,X5 N⟩
 ·intro k1 k2 o1 o2 I M he;obtain⟨_,p1,q1,_⟩:=Ot I;obtain⟨_,p2,q2,_⟩:=Ot M;exact h.inj _ _ _ _ q1 q2 he
 ·intro k1 o1 x I hi;obtain⟨_,p1,q1,rfl⟩:=Ot I;have:=h.dis _ _ _ q1 hi;grind
def F4(n:Nat)(σ:List Nat)(j:Nat):Nat:=if j<n then j else σ.getD (j - n) 0
def Fb(n:Nat)(σ:List Nat)(g:Ghost):Ghost:={β:=fun j=>g.β (F4 n σ j),γ:=fun j=>g.γ (F4 n σ j),Im:=g.Im}
theorem aB:∀ (σ:List Nat) (b key j:Nat),L2 σ b key=some j→b≤j∧σ[j - b]?=some key
 |[],_,_,_,h=>by cases h
 |k::r,b,key,j,h=>by
  simp only[L2]at h
  split at h
  ·grind
  ·obtain⟨u,E⟩:=aB r (b+1) key j h;grind
theorem NL{n:Nat}(h:ED n σ key=some j):F4 n σ j=key∧(j<n∨(n≤j∧σ[j - n]?=some key)):=by
 unfold ED at h
 split at h
 ·rename_i hk;simp only[C9]at h;subst h;exact⟨by simp[F4,hk],.inl hk⟩
 ·obtain⟨u,E⟩:=aB σ n key j h;exact⟨by simp[F4,Nat.not_lt.2 u,Aj,E],.inr ⟨u,E⟩⟩
theorem LJ(n:Nat)(σ:List Nat)(o:Obj):(EJ n σ o).els.length=o.els.length:=by
 simp only[EJ]; split <;> simp
theorem NR{n:Nat}(I:n≤st.length)(h:ED n σ key=some j)(J:st[key]?=some o):(picked n σ st)[j]?=some (EJ n σ o):=by
 obtain⟨E,u⟩:=NL h;have hl:((st.take n).map (EJ n σ)).length=n:=by simp; omega
 rcases u with u | ⟨u,M⟩
 ·have:j=key:=by rw[← E]; simp[F4,u]
  subst this;rw[picked,Ao (by omega)];grind
 ·rw[picked,AD (by omega),hl];grind
theorem vH{n:Nat}(M:n≤st.length)(J:∀ k∈σ,k<st.length)(h:(picked n σ st)[j]?=some o') :
  ∃ o,st[F4 n σ j]?=some o∧o'=EJ n σ o∧(j<n∨(n≤j∧σ[j - n]?=some (F4 n σ j))):=by
 have hl:((st.take n).map (EJ n σ)).length=n:=by simp; omega
 rcases Be j n with u | u
 ·rw[picked,Ao (by omega)]at h;simp only[AG,BL,u,if_true,DA]at h;obtain⟨o,E,I⟩:=h;exact⟨o,by simpa[F4,u]using E,I.symm,.inl u⟩
 ·rw[picked,AD (by omega),hl]at h;simp only[AG,DA]at h;obtain⟨k,E,I⟩:=h;have hk:=J k (Ah E);have N:F4 n σ j=k:=by simp[F4,Nat.not_lt.2 u,Aj,E]
  grind
theorem Pb{f:Nat→D}{o:Option Nat}(h:∀ j,o=some j→RepV w g st (f j) v):RepV w g st (HX f o) v:=by
 cases o with
 |none=>exact .junk _
 |some j=>exact h j rfl
theorem gW{n:Nat}(N:n≤st.length)(h:RepV w g st d v):RepV w (Fb n σ g) (picked n σ st) (Gi n σ d) v:=by
 have V:ImLe w g w (Fb n σ g):=⟨fun b o h=>⟨h,rfl⟩,fun _ _ h _=>h⟩
 cases h with
 |int k n=>exact .int k n
 |bool b=>exact .bool b
 |str s=>exact .str s
 |nilp=>exact .nilp
 |nilm=>exact .nilm
 |gmap es b U clock u E J=>exact .gmap es b U clock u E J
 |nilf=>exact .nilf
 |slcE sz t a cap h=>exact .slcE sz t a cap h
 |slc els t b off cap sz val u E J X M Y h6 h7=>exact RepV.pure V (.slc els t b off cap sz val u E J X M Y h6 h7) rfl
 |clo f ds vs u E=>exact .junk _
 |row key tot off len o v O u E J M=>
  refine Pb fun j I=>?_;refine .row j tot off len _ v O (NR N I u) E (by rw[LJ]; exact J) fun e=>?_;have:=M (by rw[LJ]at e; exact e);simp only[Fb,(NL I).1];exact this
 |bsl key off m sz ag o cap u E J M=>
  refine Pb fun j I=>?_;have:=RepV.bsl (w:=w) (g:=Fb n σ g) j off m sz ag _ cap (NR (σ:=σ) N I u) E J M;simp only[Fb,(NL I).1]at this;exact this
 |mapv key o u E=>
  refine Pb fun j I=>?_;have:=RepV.mapv (w:=w) (g:=Fb n σ g) j _ (NR (σ:=σ) N I u) E;simp only[Fb,(NL I).1]at this;exact this
 |ptr key off o u E J=>
  refine Pb fun j I=>?_;have:=RepV.ptr (w:=w) (g:=Fb n σ g) j off _ (NR (σ:=σ) N I u) E J;simp only[Fb,(NL I).1]at this;exact this
 |rptr key tot i off o v O u E J M=>
  refine Pb fun j I=>?_;refine .rptr j tot i off _ v O (NR N I u) E (by rw[LJ]; exact J) fun e=>?_;have:=M (by rw[LJ]at e; exact e);simp only[Fb,(NL I).1];exact this
 |eptr el off b o val O u E=>exact RepV.eptr_any V (.eptr el off b o val O u E)
 |agg ds vs u E=>exact .junk _
 |tup ds vs u E=>exact .junk _
 |junk v=>exact .junk v
theorem Y6{n:Nat}(u:n≤st.length)(h:RepV w g st d v):RepV w (Fb n σ g) (picked n σ st) (Ep n σ d) v:=by
 cases d with
 |clo f l=>
  cases h with
  |clo _ _ vs I J=>
   refine .clo f _ vs (by simpa using I) fun i d v E hv=>?_;simp only[AG,DA]at E;obtain⟨d0,M,rfl⟩:=E;exact gW u (J i d0 v M hv)
 |_=>exact gW u h
theorem fx{n:Nat}(u:n≤st.length)(h:RepV w g st d v):RepV w (Fb n σ g) (picked n σ st) (Eo n σ d) v:=by
 cases d with
 |agg l=>
  cases h with
  |agg _ vs I J=>
   refine .agg _ vs (by simpa using I) fun i d v E hv=>?_;simp only[AG,DA]at E;obtain⟨d0,M,rfl⟩:=E;exact Y6 u (J i d0 v M hv)
 |tup l=>exact .junk _
 |_=>exact Y6 u h
theorem wy(n:Nat)(σ:List Nat)(d:D):(Ep n σ d).cells=[Ep n σ d]:=by
 cases d <;> simp only[Ep,Gi,HX] <;> first | rfl | (split <;> rfl)
theorem Yon(n:Nat)(σ:List Nat)(h:d.cells=[d]):Eo n σ d=Ep n σ d:=by
 cases d with
 |agg l=>exact absurd rfl (bH h l)
 |_=>rfl
theorem Wp(n:Nat)(σ:List Nat)(h:d.cells=[d]):(Eo n σ d).cells=[Eo n σ d]:=by rw[Yon n σ h]; exact wy n σ d
theorem ka(lo hi:Nat):∀ (l acc:List Nat),(acc.Nodup∧∀ k∈acc,lo≤k∧k<hi)→(Et lo hi l acc).Nodup∧∀ k∈Et lo hi l acc,lo≤k∧k<hi
 |[],_,h=>h
 |k::r,acc,h=>by
  simp only[Et];refine ka lo hi r _ ?_;grind
theorem tc{base:Nat}(h:SR base w g st){n:Nat}(hn:n≤st.length)(hd:σ.Nodup)(hσ:∀ k∈σ,n≤k∧k<st.length):SR base w (Fb n σ g) (picked n σ st):=by
 have inv:=fun {j:Nat} {o':Obj} (h:(picked n σ st)[j]?=some o')=>vH hn (fun k hk=>(hσ k hk).2) h;refine⟨?_,?_,?_,h.im,?_,h.size⟩
 ·intro i o' hi hm;obtain⟨o,ho,rfl,a6⟩:=inv hi;have hm:o.isMap=true:=hm;have u:o.row=false:=V1 hm;have ae:=h.mp _ o ho hm
  by_cases hs:o.sz=1000003
  ·obtain⟨r,n,a1,a2,a3,a4⟩:=ae.rec' hs;refine MapAt.mkRec hs ⟨r,n,a1,a2,by simp[EJ,u,a3,Eo,Ep,Gi],a4⟩
  obtain⟨es,clock,J,N,O,h4,h5,bb⟩:=ae.old hs;refine MapAt.mkOld hs ?_;refine⟨es,clock,J,N,by rw[O,LJ],?_,?_,bb⟩
  ·intro x hx;simp only[EJ,u,Ak,if_false,AS]at hx;obtain⟨y,U,rfl⟩:=hx;obtain⟨l,rfl,hl⟩:=h4 y U;exact⟨_,rfl,by rw[A2]; exact hl⟩
  ·intro j e el he af;simp only[EJ,u,Ak,if_false,AG,DA]at af;obtain⟨bc,V,rfl⟩:=af;obtain⟨l,rfl,hl⟩:=h4 bc (Ah V);have h6:=h5 j e _ he V;exact eW (fun d v h=>Y6 hn h) hl (Ze hm) h6.1 h6.2
 ·intro i o' hi hm;obtain⟨o,ho,rfl,a6⟩:=inv hi;have hm:o.isMap=false:=hm;obtain⟨C,e,hb,ac,a8,hx,E,X⟩:=h.blk _ o ho hm;refine⟨C,e,hb,ac,a8,?_,?_,?_⟩
  ·intro x I;simp only[EJ]at I ⊢
   by_cases u:o.row=true
   ·grind
   ·simp only[u,Ak,if_false,AS]at I;simp only[u,Ak,if_false]at E;obtain⟨y,U,rfl⟩:=I;rw[Wp n σ (E.2.2 y U),E.2.1]; rfl
  ·simp only[EJ]
   by_cases u:o.row=true
   ·simp only[u,if_true]at E ⊢; exact E
   ·simp only[u,Ak,if_false]at E ⊢;refine⟨by simpa using E.1,E.2.1,fun x I=>?_⟩;simp only[AS]at I;obtain⟨y,U,rfl⟩:=I;exact Wp n σ (E.2.2 y U)
  ·intro i' j d M;simp only[EJ]at M ⊢
   by_cases u:o.row=true
   ·simp only[u,if_true]at M;obtain⟨J,v,N,O⟩:=X i' j d M;exact⟨J,v,N,RepV.pure (g:=g) (g':=Fb n σ g) ⟨fun b o h=>⟨h,rfl⟩,fun _ _ h _=>h⟩ O (J u)⟩
   ·simp only[u,Ak,if_false]at M E;obtain⟨e',he,hj⟩:=GQ M;simp only[AG,DA]at he;obtain⟨e0,Y,rfl⟩:=he;rw[Wp n σ (E.2.2 e0 (Ah Y))]at hj
    have bf:j=0∧d=Eo n σ e0:=by
     grind
    obtain⟨rfl,rfl⟩:=bf;obtain⟨_,v,N,O⟩:=X i' 0 e0 (GB Y (by rw[E.2.2 e0 (Ah Y)]; rfl));exact⟨fun e=>absurd e u,v,N,fx hn O⟩
 ·intro k1 k2 o1 o2 J N he;obtain⟨p1,q1,_,r1⟩:=inv J;obtain⟨p2,q2,_,r2⟩:=inv N;have e:=h.inj _ _ _ _ q1 q2 he;rcases r1 with r1 | ⟨r1,s1⟩ <;> rcases r2 with r2 | ⟨r2,s2⟩
  ·simpa[F4,r1,r2]using e
  ·have:=(hσ _ (Ah s2)).1;rw[← e]at this;simp only[F4,r1,if_true]at this;omega
  ·have:=(hσ _ (Ah s1)).1;rw[e]at this;simp only[F4,r2,if_true]at this;omega
  ·rw[e]at s1;have O:=(List.getElem?_inj (Ab.1 s1).1 hd).1 (s1.trans s2.symm);omega
 ·intro k1 o1 x J hi;obtain⟨o,q1,rfl,_⟩:=inv J;have:=h.dis _ _ _ q1 hi;exact⟨this.1,by rw[LJ]; exact this.2⟩
theorem XS{w:World}{g:Ghost}{st:St}{n:Nat}{σ:List Nat}(u:n≤st.length){fr:Frame}{a:Act}(h:FR w g st fr a):∀ (keep:List Nat),FR w (Fb n σ g) (picked n σ st) (Fu (keep.map fun q=>(q,Eo n σ (fr q)))) a
 |[],_=>.junk _
 |q::r,s=>by
  simp only[Aq,Fu]
  split
  ·rename_i e; subst e; exact fx u (h s)
  ·exact XS u h r s
theorem Evo.len(h:Evo g st g' st'):st.length≤st'.length:=by
 rcases Be st'.length st.length with u | u
 ·obtain⟨o',E,_⟩:=h st'.length st[st'.length] (Af u);grind
 ·exact u
theorem Evo.cut(h:Evo g st g' st')(O:st.length≤k):Evo g st g' (PI.cut k st'):=by
 intro i o hi;obtain⟨o',u,E,I,J,M,N⟩:=h i o hi;have:i<st.length:=(Ab.1 hi).1;exact⟨_,Nr u (by omega),E,I,by simpa[Ou]using J,fun e=>M (by simpa[Ou]using e),N⟩
theorem Go1.cut(h:Go1 base w g st w' g' st')(u:st.length≤k):Go1 base w g st w' g' (PI.cut k st'):=
 ⟨Yq7 h.sr k,h.evo.cut u,h.im,h.new,h.below,h.kp⟩
theorem Go1.picked(h:Go1 base w g st w' g' st'){n:Nat}(hk:st.length≤n)(u:n≤st'.length)(I:σ.Nodup)(J:∀ k∈σ,n≤k∧k<st'.length):Go1 base w g st w' (Fb n σ g') (PI.picked n σ st'):=by
 refine⟨tc h.sr u I J,?_,⟨h.im.im,h.im.kp⟩,h.new,h.below,h.kp⟩;intro i o hi;obtain⟨o',M,N,O,U,V,X⟩:=h.evo i o hi;have Y:i<st.length:=(Ab.1 hi).1;have E:F4 n σ i=i:=by simp[F4,show i<n by omega]
 refine⟨_,NR (key:=i) (j:=i) u (by simp[ED,show i<n by omega]) M,N,O,by rw[LJ]; exact U,fun e=>?_,fun e=>?_⟩
 ·simp only[Fb,E]; exact V (by rw[LJ]at e; exact e)
 ·simp only[Fb,E]; exact X e
theorem R.restrict{s:PS}{a:Act}{w:World}(h:R G base n w0 g0 st0 dl s a w)(keep:List Nat)(k:Nat)(J:st0.length≤k):R G base n w0 g0 st0 dl (restrict keep k s) a w:=by
 obtain⟨g,h⟩:=h;unfold PI.restrict;generalize hm:(if k≤s.st.length then k else s.st.length)=m;have u:m≤s.st.length:=by rw[← hm]; split <;> omega
 have I:st0.length≤m:=by
  have:=h.go1.evo.len;grind
 generalize hl:Et m s.st.length (PE keep m s) []=σ;have E:=ka m s.st.length (PE keep m s) [] ⟨List.nodup_nil,fun _ h=>by cases h⟩;rw[hl]at E;exact⟨Fb m σ g,h.go1.picked I u E.1 E.2,XS u h.fr keep,h.gl.mono ⟨fun b o h=>⟨h,rfl⟩,fun _ _ h _=>h⟩,h.df,h.sz⟩
theorem jy{w:World}{g:Ghost}{st:St}{fr:Frame}{a:Act}(h:FR w g st fr a):∀ (keep:List Nat),FR w g st (Fu (keep.map fun q=>(q,fr q))) a
 |[],_=>.junk _
 |q::r,s=>by
  simp only[Aq,Fu]
  split
  ·rename_i e; subst e; exact h s
  ·exact jy h r s
theorem R.keepAll{s:PS}{a:Act}(h:R G base n w0 g0 st0 dl s a w)(keep:List Nat):R G base n w0 g0 st0 dl (PI.keepAll keep s) a w:=by
 obtain⟨g,h⟩:=h;exact⟨g,h.go1,jy h.fr keep,h.gl,h.df,h.sz⟩
theorem R.restrictAt{s:PS}{a:Act}{w:World}(h:R G base n w0 g0 st0 dl s a w)(keep:List Nat)(m:Nat)(σ:List Nat)(u:m≤s.st.length)(E:st0.length≤m)(I:σ.Nodup)(J:∀ k∈σ,m≤k∧k<s.st.length):R G base n w0 g0 st0 dl (restrictAt keep m σ s) a w:=by
 obtain⟨g,h⟩:=h;exact⟨Fb m σ g,h.go1.picked E u I J,XS u h.fr keep,h.gl.mono ⟨fun b o h=>⟨h,rfl⟩,fun _ _ h _=>h⟩,h.df,h.sz⟩
theorem mW{l:List PI}{bad:Option (Nat×Nat)}{u:List Nat}(I:LW ops.size u=true){F:List (Option Foot)}(Y:F.length=u.length)
  (hp:∀ (p q i j:Nat),q<p→u[p]?=some i→u[q]?=some j→((EI ops.toList []).getD i 0).testBit j=false→bad≠some (j,i)→HR (l.getD j default,F.getD q none) (l.getD i default,F.getD p none)) :
  Mc (EI ops.toList []) l ops.size bad (u.zip F)∧(∀ z∈u.zip F,z.1<ops.size)∧(∀ (listed:Array Bool),(∀ i,i<ops.size→listed.getD i true=false)→Gp l (FG listed (u.zip F))=(u.map fun k=>l.getD k default).zip F):=by
 simp only[LW,Ac,beq_iff_eq,Ag,AN]at I;obtain⟨h1,U⟩:=I;have M:∀ x∈CQ ops.size,x∈u:=fun x V=>by simpa using U x (AN.1 V)
 have E:u.Perm (CQ ops.size):=(fi _ _ Cz M (by rw[List.length_range]; omega)).symm;have N:u.Nodup:=E.nodup_iff.2 Cz;have O:∀ k∈u,k<ops.size:=fun k hk=>AN.1 (E.mem_iff.1 hk)
 have J:(u.zip F).map (·.1)=u:=by
  rw[List.map_fst_zip (by omega)]
 refine⟨⟨by rw[J]; exact N,?_,?_⟩,?_,?_⟩
 ·grind
 ·rw[List.pairwise_iff_getElem];grind
 ·intro z X;exact O z.1 (by rw[← J]; exact List.mem_map_of_mem X)
 ·intro listed hu
  have:FG listed (u.zip F)=u.zip F:=by
   simp only[FG,BU];grind
  rw[this,Gp];apply A9;grind
def JC:Ex→Exit
 |.next=>.normal
 |.exit id=>.exit id
 |.ret=>.ret
 |.panic t d=>.panic (KQ t d)
theorem sI(hT:TblOK P G T)(hY:YOK P G T.y base w0 g0 st0){id:Nat}{ba:Bool}{h:List (List Nat)}{r:PC×List (List Nat)}(I:Hh P il n h (.region id ops ba)=some r){fuel:Nat}{s s':PS}{e:Ex}(E:r.1.exec G T fuel s=some (e,s'))
  {a:Act}  (hR:R G base n w0 g0 st0 dl s a w) {Q:Exit→Act→World→Prop} (hQ:∀ a' w',R G base n w0 g0 st0 dl s' a' w'→Q (JC e) a' w'):(Code.region id ops ba).wpIn (Wr ro) 0 P Q a w:=by
 have bh:∀ l',r.1=.ops l'→e=.next∧Ft G T l' s=some s':=by
  intro l' V;rw[V]at E;simp only[PC.exec]at E;grind
 unfold Hh at I
 cases ba with
 |false=>
  simp only[Ak,if_false]at I
  split at I
  ·rename_i pre d1 t xo hp;obtain⟨o1,o2,hl,V,h3,h2,c8,c9,da,u,hu,db⟩:=wb hp
   split at I
   case h_2=>
    simp only[C9]at I;subst I;simp[PC.exec]at E
   rename_i l x b2 dc;simp only[C9]at I;subst I;simp only[PC.exec]at E
   split at E
   case h_2=>cases E
   rename_i s1 J
   split at E
   case isFalse=>cases E
   rename_i hi;simp only[C9,Dr]at E;obtain⟨rfl,rfl⟩:=E;refine wpIn_region_list ?_;rw[hl];exact SD hT hY _ _ _ _ _ _ b2 J hR fun a' w' a5=>Yih a5 V h3 h2 c8 c9 da hu db dc hi (fun dd c3=>hQ dd w' c3)
  ·simp only[DA]at I;obtain⟨l,hl,rfl⟩:=I
   by_cases X:l.any (Oh il)=true
   ·simp only[X,if_true,PC.exec]at E
    split at E
    ·rename_i s1 J;simp only[C9,Dr]at E;obtain⟨rfl,rfl⟩:=E;exact wpIn_region_list (jB hT hY _ _ _ _ _ _ hl J hR hQ)
    ·simp only[DA,Dr]at E;obtain⟨⟨t,d,s2⟩,E,rfl,rfl⟩:=E;exact wpIn_region_list (V5 hT hY _ _ _ _ _ _ hl E hR hQ)
   ·obtain⟨rfl,hs⟩:=bh l (by simp only[X,if_false,Ak]);exact wpIn_region_list (jB hT hY _ _ _ _ _ _ hl hs hR hQ)
 |true=>
  simp only[if_true]at I
  split at I
  case h_2=>cases I
  rename_i l hl;have hlen:=(OP hl).1;have b2:l.length=ops.size:=by simpa using hlen
  have hu:∀ i,i<ops.size→(CY ops.size false).getD i true=false:=by
   simp_all
  have h0:(GC ops.size (CY ops.size false)).length≤ops.size:=by
   unfold GC;grind
  have cg:Kq ops.toList (CY ops.size false):=by
   intro i o _ hi;grind
  have a6:LW ops.size (CQ ops.size)=true:=by simp[LW]
  have kg:(CQ ops.size).map (fun k=>l.getD k default)=l:=by
   apply A9;grind
  have bc:∀ (F:List (Option Foot)),F.length=l.length→GD G T (l.zip F) s s'→e=.next→P.follows .mixedOrders=true→KT ops.toList=true→
    (∀ (i j:Nat) (x y:PI),l[j]?=some x→l[i]?=some y→j<i→((EI ops.toList []).getD i 0).testBit j=false→HR (x,F.getD j none) (y,F.getD i none))→(Code.region id ops true).wpIn (Wr ro) 0 P Q a w:=by
   intro F Y hs he c4 c5 hp;subst he
   obtain⟨k1,k2,k3⟩:=mW (l:=l) (bad:=none) a6 (F:=F) (by simp[Y,b2]) (fun p q i j kh hi hj hm _=>by
    have k0:=(Ab.1 hi).1;grind)
   refine wpIn_region_any c4 (Ye1 hT hY hl c5 k1 k2 hQ ops.size _ s a _ (by simp) h0 cg ?_ hR.drew);grind
  split at I
  case isFalse=>
   simp only[C9]at I;subst I;simp[PC.exec]at E
  rename_i U;simp only[Ac]at U
  have dh:∀ (x y:Nat) (keep:List Nat) (q1 q2:List (PI×Bool×List Nat)),KI (EI ops.toList []) l (some (x,y)) (CQ ops.size)=some q1→KI (EI ops.toList []) l (some (y,x)) (JA (EI ops.toList []) ops.size x y)=some q2→
    LW ops.size (JA (EI ops.toList []) ops.size x y)=true→x≠y→(∀ k,k=x∨k=y→k<ops.size)→PC.exec G T fuel (.any2 keep q1 q2) s=some (e,s')→(Code.region id ops true).wpIn (Wr ro) 0 P Q a w:=by
   intro x y keep q1 q2 b3 b4 O b5 be N;simp only[PC.exec]at N
   split at N
   case h_2=>cases N
   rename_i s1 s2 J bf;simp only[DA,Dr]at N;obtain⟨s3,N,rfl,rfl⟩:=N;unfold VH at N
   split at N
   case isFalse=>cases N
   rename_i cb;obtain⟨k4,k5,heq⟩:=cb;simp only[C9]at N;subst N
   have hk:st0.length≤s.st.length:=by
    obtain⟨g,hg⟩:=hR;exact hg.go1.evo.len
   have alt:∀ (bad:Nat×Nat) (ord:List Nat) (q:List (PI×Bool×List Nat)) (sq:PS),LW ops.size ord=true→KI (EI ops.toList []) l (some bad) ord=some q→Gk G T q [] s=some sq→
     ∃ Z,Mc (EI ops.toList []) l ops.size (some bad) Z∧(∀ z∈Z,z.1<ops.size)∧GD G T (Gp l (FG (CY ops.size false) Z)) s sq:=by
    intro bad ord q sq ho hq d0;obtain⟨p1,p2,p3⟩:=wV hq;obtain⟨F,Y,hr,a8⟩:=SP q [] s sq d0
    obtain⟨k1,k2,k3⟩:=mW (l:=l) (bad:=some bad) ho (F:=F) (by rw[Y,p1]) (fun p r i j k6 hi hj hm hb=>by
     obtain⟨b,e1,e2⟩:=p3 p i hi;have ch:ord.getD r 0=j:=by simp[Aj,hj]
     by_cases M:(l.getD j default).apart (l.getD i default)=true
     ·exact⟨NV M,.inl M⟩
     ·have bd:r∈LV (EI ops.toList []) l (some bad) ord p i:=by
       simp only[LV,A3,AN,ch,hm,A0,A1,Ac,AL,beq_eq_false_iff_ne];grind
      obtain⟨f,g,a1,a2,a3⟩:=a8 p _ e1 r bd
      have a4:F[r]?=some (some f):=by
       grind
      have a6:=e2 r bd;rw[ch]at a6;refine⟨a6,.inr ⟨f,g,?_,?_,a2⟩⟩
      ·grind
      ·grind)
    grind
   obtain⟨Z1,z1,d2,r1⟩:=alt (x,y) _ q1 s1 a6 b3 J;obtain⟨Z2,z2,d3,r2⟩:=alt (y,x) _ q2 s2 O b4 bf;refine wpIn_region_any U.1 (Ye0 hT hY hl U.2 b5 (be x (.inl rfl)) z1 z2 d2 d3 (sf1:=s1) (sf2:=s2) ?_ ?_ ops.size _ s a _ (by simp) h0 cg (hu x (be x (.inl rfl))) (hu y (be y (.inr rfl))) r1 r2 hR.drew)
   ·intro a' w' a5;exact hQ a' w' (a5.restrictAt keep s.st.length [s.st.length,s.st.length+1] (by omega) hk (by simp) (by simp; omega))
   ·intro a' w' a5;rw[← heq]at hQ;exact hQ a' w' (a5.restrictAt keep s.st.length [s.st.length+1,s.st.length] (by omega) hk (by simp) (by simp; omega))
  split at I
  ·rename_i M;simp only[C9]at I;subst I
   by_cases X:(l.any (Oh il) && Kg (EI ops.toList []) l)=true
   ·simp only[X,if_true,PC.exec]at E;simp only[Ac]at X
    split at E
    ·rename_i s1 J;simp only[C9,Dr]at E;obtain⟨rfl,rfl⟩:=E;obtain⟨F,Y,hr⟩:=S8 l s s1 J;refine bc F Y hr rfl U.1 U.2 fun i j x y E hy a9 hm=>?_;have V:=W6 M E hy a9 hm;exact⟨NV V,.inl V⟩
    ·simp only[DA,Dr]at E;obtain⟨⟨t,d,s2⟩,E,rfl,rfl⟩:=E;exact wpIn_region_any U.1 (Yez hT hY hl U.2 M X.2 E hQ _ a _ (by simp) hu hR.drew)
   obtain⟨rfl,hs⟩:=bh l (by simp only[X,if_false,Ak]);obtain⟨F,Y,hr⟩:=S8 l s s' hs;refine bc F Y hr rfl U.1 U.2 fun i j x y E hy a9 hm=>?_;have V:=W6 M E hy a9 hm;exact⟨NV V,.inl V⟩
  ·split at I
   ·rename_i x y aa
    split at I
    case h_2=>
     simp only[C9]at I;subst I;simp[PC.exec]at E
    rename_i keep h' q1 q2 b3 b4
    split at I
    case isFalse=>
     simp only[C9]at I;subst I;simp[PC.exec]at E
    rename_i O;simp only[Ac,bne_iff_ne,ne_eq]at O;obtain⟨O,b5⟩:=O;simp only[C9]at I;subst I
    have be:∀ k,k=x∨k=y→k<ops.size:=by
     intro k hk;simp only[eB]at aa
     split at aa
     ·rename_i p hp;simp only[C9]at aa;subst aa;have bd:(x,y)∈l.zipIdx.flatMap fun yi=>((l.take yi.2).zipIdx.filter fun xj=>xj.1.op.push && yi.1.op.push && !(((EI ops.toList []).getD yi.2 0).testBit xj.2)).map fun xj=>(xj.2,yi.2):=by rw[hp]; simp
      grind
     ·cases aa
    grind
   split at I
   case h_2=>
    simp only[C9]at I;subst I;simp[PC.exec]at E
   rename_i q hq
   have ha:PC.exec G T fuel (.any q) s=some (e,s')→(Code.region id ops true).wpIn (Wr ro) 0 P Q a w:=by
    intro N;simp only[PC.exec]at N
    split at N
    case h_2=>cases N
    rename_i s1 J;simp only[C9,Dr]at N;obtain⟨rfl,rfl⟩:=N;obtain⟨q1,q2,q3⟩:=kY hq;obtain⟨F,Y,hr,a8⟩:=SP q [] s s1 J;rw[q2]at hr;refine bc F (by rw[Y,q1]) hr rfl U.1 U.2 fun i j x y E hy a9 hm=>?_;obtain⟨b,V,h2⟩:=q3 i y hy;have c0:l.getD j default=x:=by simp[Aj,E]
    by_cases M:x.apart y=true
    ·exact⟨NV M,.inl M⟩
    ·have hj:j∈GZ (EI ops.toList []) l i y:=by
      simp only[GZ,A3,AN,hm,c0,A0,A1];grind
     obtain⟨f,g,e1,e2,e3⟩:=a8 i _ V j hj
     have e4:F[j]?=some (some f):=by
      simp_all
     refine⟨by rw[← c0]; exact h2 j hj,.inr ⟨f,g,?_,?_,e2⟩⟩
     ·grind
     ·grind
   split at I
   ·rename_i k7
    split at I
    case h_2=>
     simp only[C9]at I;subst I;simp[PC.exec]at E
    rename_i keep h';simp only[C9]at I;subst I
    have hd:∀ (ps:List (Nat×Nat)),PC.exec G T fuel (IW keep (EI ops.toList []) l ops.size ps) s=some (e,s')→(Code.region id ops true).wpIn (Wr ro) 0 P Q a w:=by
     intro ps
     induction ps with
     |nil=>intro E; simp[IW,PC.exec]at E
     |cons p ps ih=>
      obtain⟨x,y⟩:=p;intro E;unfold IW at E
      split at E
      ·rename_i q1 q2 b3 b4
       split at E
       ·rename_i O;simp only[Ac,bne_iff_ne,ne_eq,decide_eq_true_eq]at O;obtain⟨⟨⟨O,b5⟩,k8⟩,k9⟩:=O;rw[PC.exec]at E;grind
       ·exact ih E
      ·exact ih E
    rw[PC.exec]at E;grind
   split at I
   ·rename_i c1;simp only[Ac]at c1;simp only[C9]at I;subst I;obtain⟨d5,o1,o2⟩:=vz c1.2;generalize UC il l=i0 at*;unfold Rk at E;rw[PC.exec]at E
    split at E
    ·grind
    ·simp only[PC.exec]at E
     cases J:Gk G T (q.take i0) [] s with
     |none=>simp[J]at E
     |some s1=>
      simp only[J,Ft,HW]at E
      cases bf:(l.getD i0 default).exec G T s1 with
      |some s2=>simp only[bf,reduceCtorEq]at E
      |none=>
       simp only[bf]at E
       cases b8:(l.getD i0 default).execX G T s1 with
       |none=>simp only[b8,Option.map_none,reduceCtorEq]at E
       |some r3=>
        obtain⟨t,d,s3⟩:=r3;simp only[b8,Ae,C9,Dr]at E;obtain⟨rfl,rfl⟩:=E;obtain⟨q1,q2,q3⟩:=kY hq;obtain⟨F,Y,hr,a8⟩:=SP _ [] s s1 J;have d6:F.length=i0:=by rw[Y,As]; omega
        have d7:(q.take i0).map (·.1)=l.take i0:=by rw[B0,q2]
        rw[d7]at hr;refine wpIn_region_any U.1 (iK hT hY hl U.2 d5 o1 o2 d6 (fun i j a9 hi hm=>?_) hr b8 hQ _ a _ (by simp) hu hR.drew);have d8:l[i]?=some (l.getD i default):=by simp[Aj,show i<l.length by omega]
        obtain⟨b,V,h2⟩:=q3 i _ d8
        by_cases M:(l.getD j default).apart (l.getD i default)=true
        ·exact⟨NV M,.inl M⟩
        ·have hj:j∈GZ (EI ops.toList []) l i (l.getD i default):=by
          simp only[GZ,A3,AN,hm,A0,A1];grind
         have d9:(q.take i0)[i]?=some (l.getD i default,b,GZ (EI ops.toList []) l i (l.getD i default)):=by
          grind
         obtain⟨f,g,e1,e2,e3⟩:=a8 i _ d9 j hj
         have e4:F[j]?=some (some f):=by
          grind
         refine⟨h2 j hj,.inr ⟨f,g,?_,?_,e2⟩⟩
         ·grind
         ·grind
   ·grind
theorem jR{n:Int}(h:recAt st k=some n):∃ o,st[k]?=some o∧o.row=false∧o.sz=1000003∧o.els=[.int .i64 n]:=by
 unfold recAt at h;grind
theorem SR.recAt{base:Nat}(h:SR base w g st)(E:st[k]?=some o)(I:o.row=false)(u:o.sz=1000003):Vz base w (g.β k) o:=
 (h.mp k o E (by simp[Obj.isMap,I,u])).rec' u
theorem Go1.recO{base:Nat}(h:Go1 base w g st w' g' st')(u:st[k]?=some o)(E:o.row=false)(I:o.sz=1000003) :
  g'.β k=g.β k∧∃ o',st'[k]?=some o'∧o'.row=false∧o'.sz=1000003:=by
 obtain⟨o',J,M,N,_,_,O⟩:=h.evo k o u;grind
theorem uc{l:Nat}{x:Go.Obj}:Beside w (w.putObj l x):=⟨rfl,rfl,rfl,by rw[World.putObj_size]; exact Az _⟩
theorem Go1.putRec{base:Nat}(h:SR base w g st){l:Nat}{r:Loop}{n:Int}{s:_}{p:Option Code}(J:st[k]?=some o)(u:o.row=false)(E:o.sz=1000003)
  (hl:g.β k=l) (I:w.heap[l]?=some (.loop r)) (M:n=0→s=.ready∧p=none) (N:n=1→s=.done∧p=some .ret) :
  Go1 base w g st (w.putObj l (.loop {r with state:=s,pending:=p})) g (st.set k (PI.recO n)):=by
 subst hl;exact h.updRec (s:=s) (p:=p) J u E uc (fun b hb=>World.putObj_heap_other hb) I (World.putObj_heap_same (Ax.1 I).1) M N
theorem fP(hT:TblOK P G T):∀ (c:Code) (ro:Option Nat) (_:ro=none∨HE c=true) (w0:World) (g0:Ghost) (st0:St) (dl:List Deferred) (_:YOK P G T.y base w0 g0 st0) (_:base≤w0.heap.size) (h:List (List Nat)) (r:PC×List (List Nat)),Hh P il n h c=some r→∀ (fuel:Nat) (s s':PS) (e:Ex),r.1.exec G T fuel s=some (e,s')→
  ∀ (a:Act) (w:World) (Q:Exit→Act→World→Prop),R G base n w0 g0 st0 dl s a w→(∀ a' w',R G base n w0 g0 st0 dl s' a' w'→Q (JC e) a' w')→c.wpIn (Wr ro) 0 P Q a w:=by
 intro c
 induction c with
 |skip=>
  intro ro hro w0 g0 st0 dl hY hb0 h r ht fuel s s' e hx a w Q hR hQ;simp only[Hh,C9]at ht; subst ht;simp only[PC.exec,C9,Dr]at hx;obtain⟨rfl,rfl⟩:=hx;exact wpIn_skip (hQ a w hR)
 |exit id=>
  intro ro hro w0 g0 st0 dl hY hb0 h r ht fuel s s' e hx a w Q hR hQ;simp only[Hh,C9]at ht; subst ht;simp only[PC.exec,C9,Dr]at hx;obtain⟨rfl,rfl⟩:=hx;exact wpIn_exit (hQ a w hR)
 |ret=>
  intro ro hro w0 g0 st0 dl hY hb0 h r ht fuel s s' e hx a w Q hR hQ;simp only[Hh,C9]at ht; subst ht;simp only[PC.exec,C9,Dr]at hx;obtain⟨rfl,rfl⟩:=hx;exact wpIn_ret (hQ a w hR)
 |region id ops draw=>
  intro ro hro w0 g0 st0 dl hY hb0 h r ht fuel s s' e hx a w Q hR hQ;exact sI hT hY ht hx hR hQ
 |seq x y ihx ihy=>
  intro ro hro w0 g0 st0 dl hY hb0 h r ht fuel s s' e hx a w Q hR hQ;unfold Hh at ht
  split at ht
  case h_2=>cases ht
  rename_i px h1 hx1
  split at ht
  case h_2=>cases ht
  rename_i py h2 hy1;simp only[C9]at ht; subst ht;simp only[PC.exec]at hx;refine wpIn_seq ?_
  split at hx
  ·rename_i s1 hs1;exact ihx ro (hro.imp (fun h=>h) fun h=>by simp only[HE,Ac]at h; exact h.1) w0 g0 st0 dl hY hb0 _ _ hx1 fuel s s1 .next hs1 a w _ hR fun a' w' hR'=>ihy ro (hro.imp (fun h=>h) fun h=>by simp only[HE,Ac]at h; exact h.2) w0 g0 st0 dl hY hb0 _ _ hy1 fuel s1 s' e hx a' w' Q hR' hQ
  ·rename_i e1 s1 hne hs1;simp only[C9,Dr]at hx;obtain⟨rfl,rfl⟩:=hx;refine ihx ro (hro.imp (fun h=>h) fun h=>by simp only[HE,Ac]at h; exact h.1) w0 g0 st0 dl hY hb0 _ _ hx1 fuel s _ _ hs1 a w _ hR fun a' w' hR'=>?_
   cases e1 with
   |next=>exact(hne rfl).elim
   |exit id=>exact hQ a' w' hR'
   |ret=>exact hQ a' w' hR'
   |panic t d=>exact hQ a' w' hR'
  ·cases hx
 |cond c x y ihx ihy=>
  intro ro hro w0 g0 st0 dl hY hb0 h r ht fuel s s' e hx a w Q hR hQ;unfold Hh at ht
  split at ht
  case h_2=>cases ht
  rename_i pa hpa
  split at ht
  case h_2=>cases ht
  rename_i px h1 hx1
  split at ht
  case h_2=>cases ht
  rename_i py h2 hy1;simp only[C9]at ht; subst ht;simp only[PC.exec]at hx;obtain⟨g,hg⟩:=id hR;have hc:=F3 (G:=G) hg.gl hg.fr hpa
  split at hx
  ·rename_i hb;rw[hb]at hc;exact wpIn_cond_true (JN hc) (ihx ro (hro.imp (fun h=>h) fun h=>by simp only[HE,Ac]at h; exact h.1) w0 g0 st0 dl hY hb0 _ _ hx1 fuel s s' e hx a w Q hR hQ)
  ·rename_i hb;rw[hb]at hc;exact wpIn_cond_false (JN hc) (ihy ro (hro.imp (fun h=>h) fun h=>by simp only[HE,Ac]at h; exact h.2) w0 g0 st0 dl hY hb0 _ _ hy1 fuel s s' e hx a w Q hR hQ)
  ·cases hx
 |block id c ih=>
  intro ro hro w0 g0 st0 dl hY hb0 h r ht fuel s s' e hx a w Q hR hQ;unfold Hh at ht
  split at ht
  case h_2=>cases ht
  rename_i px h1 hx1;simp only[C9]at ht; subst ht;simp only[PC.exec]at hx;refine wpIn_block ?_
  split at hx
  ·rename_i id' s1 hs1;refine ih ro (hro.imp (fun h=>h) fun h=>by simpa only[HE]using h) w0 g0 st0 dl hY hb0 _ _ hx1 fuel s s1 _ hs1 a w _ hR fun a' w' hR'=>?_
   split at hx
   ·rename_i he;simp only[C9,Dr]at hx;obtain⟨rfl,rfl⟩:=hx;simpa[JC,Exit.inBlock,he]using hQ a' w' hR'
   ·rename_i he;simp only[C9,Dr]at hx;obtain⟨rfl,rfl⟩:=hx;simpa[JC,Exit.inBlock,he]using hQ a' w' hR'
  ·rename_i e1 s1 hne hs1;simp only[C9,Dr]at hx;obtain⟨rfl,rfl⟩:=hx;refine ih ro (hro.imp (fun h=>h) fun h=>by simpa only[HE]using h) w0 g0 st0 dl hY hb0 _ _ hx1 fuel s _ _ hs1 a w _ hR fun a' w' hR'=>?_
   cases e1 with
   |next=>exact hQ a' w' hR'
   |exit id=>exact(hne _ rfl).elim
   |ret=>exact hQ a' w' hR'
   |panic t d=>exact hQ a' w' hR'
  ·cases hx
 |loop c ih=>
  intro ro hro w0 g0 st0 dl hY hb0 h r ht fuel s s' e hx a w Q hR hQ;unfold Hh at ht
  split at ht
  case h_2=>cases ht
  rename_i keep h'
  split at ht
  case h_2=>cases ht
  rename_i px h1 hx1;simp only[C9]at ht; subst ht
  have hk:st0.length≤s.st.length:=by
   obtain⟨g,hg⟩:=hR;exact hg.go1.evo.len
  obtain⟨cut,hcut,hx⟩:∃ cut:PS→PS,(∀ s a w,R G base n w0 g0 st0 dl s a w→R G base n w0 g0 st0 dl (cut s) a w)∧H6 (px.exec G T fuel) cut fuel s=some (e,s'):=by
   split at hx
   ·exact⟨keepAll keep.tail,fun _ _ _ h=>h.keepAll _,by simpa only[PC.exec]using hx⟩
   ·exact⟨PI.restrict keep s.st.length,fun _ _ _ h=>h.restrict _ _ hk,by simpa only[PC.exec]using hx⟩
  refine wpIn_loop_ghost (fun m a w=>∃ s1,H6 (px.exec G T fuel) (cut) m s1=some (e,s')∧R G base n w0 g0 st0 dl s1 a w) fuel ⟨s,hx,hR⟩ ?_;rintro m a w ⟨s1,hl,hR1⟩
  cases m with
  |zero=>simp[H6]at hl
  |succ m=>
   simp only[H6]at hl
   split at hl
   ·rename_i s2 hs2;exact ih ro (hro.imp (fun h=>h) fun h=>by simpa only[HE]using h) w0 g0 st0 dl hY hb0 _ _ hx1 fuel _ s2 .next hs2 a w _ (hcut _ _ _ hR1) fun a' w' hR'=>⟨m,CA m,s2,hl,hR'⟩
   ·rename_i e1 s2 hne hs2;simp only[C9,Dr]at hl;obtain⟨rfl,rfl⟩:=hl;refine ih ro (hro.imp (fun h=>h) fun h=>by simpa only[HE]using h) w0 g0 st0 dl hY hb0 _ _ hx1 fuel _ _ _ hs2 a w _ (hcut _ _ _ hR1) fun a' w' hR'=>?_
    cases e1 with
    |next=>exact(hne rfl).elim
    |exit id=>exact hQ a' w' hR'
    |ret=>exact hQ a' w' hR'
    |panic t d=>exact hQ a' w' hR'
   ·cases hl
 |rangeFunc gf ps asg body iha ihb=>
  intro ro hro w0 g0 st0 dl hY hb0 h r ht fuel s s' e hx a w Q hR hQ;unfold Hh at ht
  split at ht
  case h_2=>cases ht
  rename_i pa hpa
  split at ht
  case h_2=>cases ht
  rename_i pca h1 hx1
  split at ht
  case h_2=>cases ht
  rename_i pcb h2 hy1
  split at ht
  case isFalse=>
   simp only[C9]at ht; subst ht;simp[PC.exec]at hx
  rename_i hc;simp only[Ac]at hc;obtain⟨⟨hna,hnb⟩,hps⟩:=hc;simp only[C9]at ht; subst ht;obtain rfl:ro=none:=hro.resolve_right (by simp[HE]);simp only[PC.exec,Aw,DA,Dr]at hx;obtain⟨st'',hrr,e0,hex,rfl,rfl⟩:=hx;unfold OH at hrr
  split at hrr
  case h_2=>cases hrr
  rename_i f caps hclo
  split at hrr
  case isFalse=>cases hrr
  rename_i hlt
  split at hrr
  case h_2=>cases hrr
  rename_i sp hsp;simp only[DA,Prod.exists]at hrr;obtain⟨dr,st3,hrun,rfl⟩:=hrr;obtain⟨g,hg⟩:=hR;have hrep:=F3 (G:=G) hg.gl hg.fr hpa;rw[hclo]at hrep;generalize hxv:a.eval gf=xv at hrep
  cases hrep with
  |clo _ _ us hlen hus=>
   rw[Oo hlt,Wv hlt,VV hlt]at hxv;obtain⟨⟨fn,hfn,hbody,hname⟩,hcon⟩:=hT.r f sp hsp;refine wpIn_rangeFunc fun fnid _=>?_
   -- the two new blocks
   have hlw:w.heap.size+1=(w.alloc (.deferred (some []))).heap.size:=by rw[World.size_alloc]
   generalize hrec:({state:=.ready,pending:=none,fn:=fnid,tmps:=a.tmps,params:=ps,assign:=asg,body:=body,defers:=w.heap.size}:Loop)=rec;generalize hw1:((w.alloc (.deferred (some []))).alloc (.loop rec))=w1;have hs1:w1.heap.size=w.heap.size+2:=by rw[← hw1,World.size_alloc,World.size_alloc]
   have hold:∀ b,b<w.heap.size→w1.heap[b]?=w.heap[b]?:=by
    intro b hb;rw[← hw1]
    show((w.heap.push (.deferred (some []))).push (.loop rec))[b]?=_
    grind
   have hD:w1.heap[w.heap.size]?=some (.deferred (some [])):=by
    rw[← hw1]
    show((w.heap.push (.deferred (some []))).push (.loop rec))[w.heap.size]?=_
    grind
   have hL:w1.heap[w.heap.size+1]?=some (.loop rec):=by
    rw[← hw1]
    show((w.heap.push (.deferred (some []))).push (.loop rec))[w.heap.size+1]?=_
    grind
   have hready:rec.state=.ready∧rec.pending=none:=by rw[← hrec]; exact⟨rfl,rfl⟩
   have hgo1:Go1 base w g s.st w1 {g with β:=E9 g.β s.st.length (w.heap.size+1)} (s.st++[recO 0]):=by
    have hbes:Beside w w1:=by rw[← hw1]; exact⟨rfl,rfl,rfl,by rw[World.size_alloc,World.size_alloc]; omega⟩
    exact hg.sr.pushRec (by omega) hbes hold hL hready
   generalize hg1:({g with β:=E9 g.β s.st.length (w.heap.size+1)}:Ghost)=g1 at hgo1;have hβ1:g1.β s.st.length=w.heap.size+1:=by rw[← hg1]; exact GP _ _ _
   have Dt:(s.st++[recO 0])[s.st.length]?=some (recO 0):=by simp
   have henter:(Instr.enterLoop fnid a.tmps ps asg body (Wr none).round).run P w=.ok (w.heap.size+1,[{target:=.collected w.heap.size,args:=#[]}]) w1:=by
    rw[← hw1,← hrec];exact run_enterLoop_outer fnid a.tmps ps asg body
   refine⟨w.heap.size+1,[{target:=.collected w.heap.size,args:=#[]}],w1,{target:=.fn (.func f) us.toArray,args:=#[.func (.yield (w.heap.size+1)) #[] #[]]},w1,f,(Value.func (.yield (w.heap.size+1)) #[] #[]::us).toArray,w1,henter,?_,fun _ _=>trivial,?_,(fun e=>by cases e),?_⟩
   ·have hk:∀ v,a.eval (.const v)=v:=fun _=>rfl;simp[resolve,hxv,Deferred.ofValue,hk]
   ·have hbn:¬ fn.body=none:=by
     grind
    have hn':¬ fn.name= "runtime.NumGoroutine":=by simpa using hname
    simp[invoke,callFunc,hfn,hn',hbn]
   ·refine CallsIn.mono (callsIn_wide.2 (hcon base w1 g1 (s.st++[recO 0]) st3 caps us dr (w.heap.size+1) _ ?_ hrun hgo1.sr (hg.gl.mono hgo1.im) hlen (fun i d v hd hv=>hgo1.rep (hus i d v hd hv)))) ?_
    ·
     intro l' w2 g2 st2 st2' ds vs d2 hgo2 hG2 hy hl2 hr2
     replace hy:(if l'=w.heap.size+1 then IJ (PC.exec G T fuel pca) (PC.exec G T fuel pcb) s.fr ps.toList s.st.length ds st2 else none)=some (d2,st2'):=hy
     split at hy
     case isFalse=>cases hy
     rename_i hll;subst hll;unfold IJ at hy
     split at hy
     case isFalse=>cases hy
     rename_i hdl
     split at hy
     case h_2=>cases hy
     rename_i sa hsa
     split at hy
     case isFalse=>cases hy
     rename_i hrec0;obtain⟨s2,p2,hL2⟩:=(hgo2.kp _ _ hL rfl).loop;have hpsz:ps.size=vs.length:=by rw[← hl2,hdl]; simp
     refine⟨fnid,_,asg,body,by rw[run_yield hL2 (by rw[← hrec]; simp[hpsz]),← hrec],?_⟩;have hYw2:YOK P G T.y base w2 g2 st2:=hY.mono (hg.go1.trans (hgo1.trans hgo2));have hbl:base≤w.heap.size:=hg.sr.size
     have hfold:(ps.zip vs.toArray).foldl (fun tmps x=>tmps.setIfInBounds x.1 x.2) a.tmps=(ps.toList.zip vs).foldl (fun tmps p=>tmps.setIfInBounds p.1 p.2) a.tmps:=by
      rw[← Cp]; simp
     refine roundIn_of_wpIn trivial ?_
     show asg.wpIn (Wr (some (w.heap.size+1))) 0 P _ _ w2
     refine iha (some (w.heap.size+1)) (.inr hna) w2 g2 st2 [] hYw2 (AT hbl (AT (by omega) (hgo1.trans hgo2).below.size)) _ _ hx1 fuel _ sa .next hsa _ w2 _ ⟨g2,Go1.refl hgo2.sr,?_,hG2,⟨[],rfl,trivial⟩,?_⟩ ?_
     ·have hF2:FR w2 g2 st2 s.fr a:=hg.fr.mono (hgo1.trans hgo2).im (hgo1.trans hgo2).evo
      have:=fp (x:=[]) ps.toList ds vs s.fr a.tmps (by simpa using hdl) hl2 (fun p hp=>by
       have:=Ag.1 hps p hp;have:=of_decide_eq_true this;exact AZ this hg.sz) hF2 hr2
      grind
     ·have:=cr (ps.toList.zip vs) a.tmps;rw[← hfold]at this;exact AT hg.sz (Nat.le_of_eq this.symm)
     ·rintro a3 w3 ⟨g3,h3⟩;have hgo13:=hgo2.trans h3.go1;obtain⟨o3,ho3,hro3,hso3,hels3⟩:=jR hrec0;have hβ3:g3.β s.st.length=w.heap.size+1:=(hgo13.recO Dt rfl rfl).1.trans hβ1;obtain⟨r3,n3,hb3,_,hn3,hz3,_⟩:=h3.go1.sr.recAt ho3 hro3 hso3;rw[hβ3]at hb3;rw[hels3]at hn3;have hn0:n3=0:=by simpa using hn3.symm
      have hready3:r3.state=.ready:=(hz3 hn0).1;refine⟨_,run_beginRound hb3 hready3,?_⟩;have hgo4:=Go1.putRec (n:=2) (s:=.busy) (p:=r3.pending) h3.go1.sr ho3 hro3 hso3 hβ3 hb3 (fun e=>by cases e) (fun e=>by cases e);have hlt3:w.heap.size+1<w3.heap.size:=(Ax.1 hb3).1
      show body.wpIn (Wr (some (w.heap.size+1))) 0 P _ _ (w3.putObj (w.heap.size+1) (.loop {r3 with state:=.busy,pending:=r3.pending}))
      generalize hw4:w3.putObj (w.heap.size+1) (.loop {r3 with state:=.busy,pending:=r3.pending})=w4 at hgo4;have hgo04:=hg.go1.trans (hgo1.trans (hgo13.trans hgo4))
      have hk4:(sa.st.set s.st.length (recO 2))[s.st.length]?=some (recO 2):=by
       grind
      -- the body's end,and what is said of the record
      have fin:∀ (sb:PS) (a5:Act) (w5:World) (nn:Int) (jump:Option Code) (b:Bool),R G base n w4 g3 (sa.st.set s.st.length (recO 2)) a3.defers sb a5 w5→b=jump.isNone→(nn=0→jump=none)→(nn=1→jump=some .ret)→
        ∃ v w',(Instr.endRound (w.heap.size+1) jump).run P w5=.ok v w'∧∃ v' g',(Ending.returned v:Ending)=.returned v'∧Go1 base w2 g2 st2 w' g' (sb.st.set s.st.length (recO nn))∧RepV w' g' (sb.st.set s.st.length (recO nn)) (.bool b) v':=by
       rintro sb a5 w5 nn jump b ⟨g5,h5⟩ hb hj0 hj1;obtain⟨hβ5,o5,ho5,hro5,hso5⟩:=h5.go1.recO hk4 rfl rfl;obtain⟨r5,n5,hb5,_⟩:=h5.go1.sr.recAt ho5 hro5 hso5;rw[hβ5,hβ3]at hb5
       have hgo6:=Go1.putRec (n:=nn) (s:=if jump.isNone then .ready else .done) (p:=jump) h5.go1.sr ho5 hro5 hso5 (hβ5.trans hβ3) hb5
        (fun e=>by rw[hj0 e]; exact⟨rfl,rfl⟩) (fun e=>by rw[hj1 e]; exact⟨rfl,rfl⟩)
       refine⟨_,_,run_endRound jump hb5,.bool jump.isNone,g5,rfl,h3.go1.trans (hgo4.trans (h5.go1.trans hgo6)),?_⟩;rw[hb]; exact .bool _
      split at hy
      ·rename_i sb hsb;simp only[C9,Dr]at hy;obtain⟨rfl,rfl⟩:=hy;refine ihb (some (w.heap.size+1)) (.inr hnb) w4 g3 _ a3.defers (hY.mono hgo04) (AT hb0 hgo04.below.size) _ _ hy1 fuel _ sb .next hsb _ w4 _ ⟨g3,Go1.refl hgo4.sr,h3.fr.mono hgo4.im hgo4.evo,h3.gl.mono hgo4.im,⟨[],rfl,trivial⟩,h3.sz⟩ ?_
       exact fun a5 w5 h5=>fin sb a5 w5 0 none true h5 rfl (fun _=>rfl) (fun e=>by cases e)
      ·rename_i sb hsb;simp only[C9,Dr]at hy;obtain⟨rfl,rfl⟩:=hy;refine ihb (some (w.heap.size+1)) (.inr hnb) w4 g3 _ a3.defers (hY.mono hgo04) (AT hb0 hgo04.below.size) _ _ hy1 fuel _ sb .ret hsb _ w4 _ ⟨g3,Go1.refl hgo4.sr,h3.fr.mono hgo4.im hgo4.evo,h3.gl.mono hgo4.im,⟨[],rfl,trivial⟩,h3.sz⟩ ?_;exact fun a5 w5 h5=>fin sb a5 w5 1 (some .ret) false h5 rfl (fun e=>by cases e) (fun _=>rfl)
      ·cases hy
    ·rintro e w3 ⟨v,g3,rfl,hgo3,_⟩;obtain⟨hβ3,_⟩:=hgo3.recO Dt rfl rfl;rw[hβ1]at hβ3;have hD3:w3.heap[w.heap.size]?=some (.deferred (some [])):=(hgo3.kp _ _ hD rfl).def';have hbl:base≤w.heap.size:=hg.sr.size;unfold Pt at hex
     split at hex
     case h_2=>cases hex
     rename_i n3 hrec3;obtain⟨o3,ho3,hro3,hso3,hels3⟩:=jR hrec3;obtain⟨r3,n3',hb3,_,hn3,hz3,ho1⟩:=hgo3.sr.recAt ho3 hro3 hso3;rw[hβ3]at hb3;rw[hels3]at hn3;have hn0:n3'=n3:=by simpa using hn3.symm
     subst hn0
     have hnb3:r3.state≠.busy:=by
      grind
     have hgo4':=Go1.putRec (n:=2) (s:=.exhausted) (p:=r3.pending) hgo3.sr ho3 hro3 hso3 hβ3 hb3 (fun e=>by cases e) (fun e=>by cases e);have hgo4:=hgo1.trans (hgo3.trans hgo4')
     have hRn:R G base n w0 g0 st0 dl ⟨s.fr,st3.set s.st.length (recO 2)⟩ {a with defers:=[{target:=.collected w.heap.size,args:=#[]}]++a.defers} (w3.putObj (w.heap.size+1) (.loop {r3 with state:=.exhausted,pending:=r3.pending})):=by
      refine⟨g3,hg.go1.trans hgo4,hg.fr.mono hgo4.im hgo4.evo,hg.gl.mono hgo4.im,?_,hg.sz⟩;obtain⟨dd,hd1,hd2⟩:=hg.df;refine⟨{target:=.collected w.heap.size,args:=#[]}::dd,by simp[hd1],⟨w.heap.size,rfl,?_,?_,?_⟩,hd2.mono hgo4.kp⟩
      ·rw[World.putObj_heap_other (by omega)]; exact hD3
      ·have:=hg.go1.below.size;grind
      ·intro d' hd' e;obtain⟨D',h1,h2⟩:=hd2.mem hd';grind
     refine⟨r3.pending,_,run_endLoop hb3 hnb3,?_⟩
     split at hex
     ·rename_i e;obtain rfl:=Au hex;have hp:=(hz3 e).2;rw[hp];have:=hQ _ _ hRn;rw[hp]at this;simpa[JC]using this
     ·split at hex
      ·rename_i e;obtain rfl:=Au hex;have hp:=(ho1 e).2;rw[hp];have:=hQ _ _ hRn;rw[hp]at this;exact wpIn_ret (by simpa[JC]using this)
      ·cases hex
 |_=>
  intro ro hro w0 g0 st0 dl hY hb0 h r ht fuel s s' e hx;simp only[Hh,C9]at ht; subst ht;simp[PC.exec]at hx
theorem vb{t:TypeId}{u:Value}(h:(Instr.loadAt t v).run P w=.ok u w):(do loadVar t (← asAddr v):Sem Value).run P w=.ok u w:=by
 cases v with
 |pointer a=>
  cases a with
  |none=>simp[Instr.loadAt,Instr.sureAddr]at h
  |some a=>simpa[Instr.loadAt,Instr.sureAddr,asAddr]using h
 |_=>simp[Instr.loadAt,Instr.sureAddr]at h
def PM(tmps:Array Value):ResultVar→Sem Value
 |.tmp t=>pure (tmps.getD t undef)
 |.cell a t=>do loadVar t (← asAddr (tmps.getD a undef))
theorem jH{s:PS}:∀ {l:List PRes} {ys:List D},Fq s l=some ys→∃ ds,Ea s l=some ds∧D2 s.st ds=some ys
 |[],ys,h=>by simp[Fq]at h; subst h; exact⟨[],rfl,rfl⟩
 |r::l,ys,h=>by
  unfold Fq at h
  split at h
  case h_2=>cases h
  rename_i x y u J;simp only[C9]at h; subst h;obtain⟨ds,E,I⟩:=jH J
  cases r with
  |tmp t=>
   exact⟨s.fr t::ds,by simp[Ea,E],by simp only[PRes.get]at u; simp[D2,u,I]⟩
  |cell t n ag=>
   simp only[PRes.get]at u
   split at u
   ·rename_i d M;exact⟨d::ds,by simp[Ea,M,E],by simp[D2,u,I]⟩
   ·cases u
theorem RM{s:PS}{a:Act}{w:World}{g:Ghost}(N:SR base w g s.st)(J:FR w g s.st s.fr a):∀ {rs:List ResultVar} {l:List PRes} {ds:List D},MT P rs=some l→Ea s l=some ds→
  ∃ vs:List Value,ds.length=vs.length∧(∀ (i:Nat) d v,ds[i]?=some d→vs[i]?=some v→RepV w g s.st d v)∧
   (rs.mapM (PM a.tmps)).run P w=.ok vs w
 |[],l,ds,E,I=>by
  simp[MT]at E; subst E;simp[Ea]at I; subst I;simp_all
 |.tmp t::rs,l,ds,E,I=>by
  simp only[MT,DA]at E;obtain⟨Y,O,rfl⟩:=E;simp only[Ea,DA]at I;obtain⟨ae,h2,rfl⟩:=I;obtain⟨vs,U,V,X⟩:=RM N J O h2;refine⟨a.tmps.getD t undef::vs,by simp[U],?_,?_⟩
  ·intro i d v M hv
   cases i with
   |zero=>simp only[AB,C9]at M hv; subst M; subst hv; exact J t
   |succ i=>simp only[Bt]at M hv; exact V i d v M hv
  ·simp only[Bv,PM,Sem.run_bind,Sem.run_pure,Result.andThen_ok,X]
 |.cell b t::rs,l,ds,E,I=>by
  unfold MT at E
  split at E
  case h_2=>cases E
  rename_i n ag Y hn ha O;simp only[C9]at E; subst E;unfold Ea at I
  split at I
  case h_2=>cases I
  rename_i x y hx hy;simp only[C9]at I; subst I;obtain⟨vs,U,V,X⟩:=RM N J O hy;obtain⟨u,u1,u2⟩:=jQ N ha hn hx (J b);refine⟨u::vs,by simp[U],?_,?_⟩
  ·grind
  ·have u3:=vb u1;simp only[Bv];rw[Sem.run_bind,show(PM a.tmps (.cell b t)).run P w=.ok u w from u3];simp_all
def Z4:List Value→Value
 |[v]=>v
 |vs=>.tuple vs.toArray
theorem bB{fn:Func}{tmps:Array Value}
  (h:(fn.results.toList.mapM (PM tmps)).run P w=.ok vs w) :
  (results fn tmps).run P w=.ok (Z4 vs) w:=by
 have u:results fn tmps=(do let vs ← fn.results.mapM (PM tmps); pure (if h:vs.size=1 then vs[0]else .tuple vs)):=rfl;rw[u,Sem.run_bind,Array.mapM_eq_mapM_toList];rw[Sem.run_map,h];simp only[Result.andThen_ok,Sem.run_pure]
 match vs with
 |[]=>rfl
 |[v]=>rfl
 |_::_::_=>simp[Z4]
theorem ir(hl:ds.length=vs.length)(h:∀ (i:Nat) d v,ds[i]?=some d→vs[i]?=some v→RepV w g st d v) :
  RepV w g st (D1 ds) (Z4 vs):=by
 match ds,vs,hl with
 |[],[],_=>exact .tup [] [] rfl h
 |[d],[v],_=>exact h 0 d v rfl rfl
 |_::_::_,_::_::_,hl=>exact .tup _ _ hl h
theorem iq(h:∀ d∈ds,purA d=true):purR (D1 ds)=true:=by
 match ds with
 |[]=>rfl
 |[d]=>
  have:=h d (by simp);simp only[D1]
  cases d with
  |tup l=>simp[purA,D.pure1]at this
  |_=>exact this
 |x::y::l=>
  simp only[D1,purR,Ag];exact h
theorem V2{fn:Func}{R:Ending→World→Prop}(E:base≤w0.heap.size){s:PS}{a:Act}{g:Ghost}:∀ (ds:List Deferred) (w:World),Go1 base w0 g0 st0 w g s.st→FR w g s.st s.fr a→DfOK w0 w ds→
  (∀ w',Go1 base w0 g0 st0 w' g s.st→FR w' g s.st s.fr a→∃ v,(results fn a.tmps).run P w'=.ok v w'∧R (.returned v) w')→LeavesInM Fence.wide 0 P fn a.tmps R ds .returning w
 |[],w,u,I,_,h=>h w u I
 |d::ds,w,u,I,⟨⟨D,Y,N,h3,h4⟩,h5⟩,h=>by
  subst Y;refine⟨by simp,.inl ⟨D,_,rfl,run_takeDeferred N,?_⟩⟩
  have O:w0.heap.size≤D:=by
   grind
  have J:=GoX.put (o':=.deferred none) u.sr N rfl ⟨_,rfl⟩ (AT E O);refine V2 E ds _ (((u.x D).trans J).fin (fun o U=>by rw[h3]at U; cases U)) (I.mono J.im J.evo) ?_ h
  have:∀ (l:List Deferred),(∀ M∈l,M≠{target:=.collected D,args:=#[]})→DfOK w0 w l→DfOK w0 (w.putObj D (.deferred none)) l:=by
   intro l
   induction l with
   |nil=>exact fun _ _=>trivial
   |cons d l ih=>
    rintro V ⟨⟨D',e1,e2,e3,e4⟩,e5⟩;refine⟨⟨D',e1,?_,e3,e4⟩,ih (fun M X=>V M (by simp[X])) e5⟩;rw[World.putObj_heap_other]
    ·exact e2
    ·grind
  grind
theorem RE(hT:TblOK P G T)(ht:Ds P il f hints=some F)(fuel:Nat):(∃ fn,P.funcs[f]?=some fn∧fn.body.isSome=true∧(fn.name == "runtime.NumGoroutine")=false)∧
  ∀ (base:Nat) (w:World) (g:Ghost) (st st':St) (ds:List D) (vs:List Value) (d:D),YOK P G T.y base w g st→F.runI G T fuel ds st=some (d,st')→SR base w g st→GlobOK G w g→ds.length=vs.length→
   (∀ (i:Nat) d v,ds[i]?=some d→vs[i]?=some v→RepV w g st d v)→Calls P f vs.toArray w fun e w'=>∃ v g',e=.returned v∧Go1 base w g st w' g' st'∧RepV w' g' st' d v:=by
 unfold Ds at ht
 split at ht
 case h_2=>cases ht
 rename_i fn hfn
 split at ht
 case h_2=>cases ht
 rename_i c hc
 split at ht
 case h_2=>cases ht
 rename_i pc hrest res htc htr
 split at ht
 ·cases ht
 rename_i hname;simp only[C9]at ht; subst ht;refine⟨⟨fn,hfn,by rw[hc]; rfl,by simpa using hname⟩,?_⟩;intro base w g st st' ds vs d hY hsp hS hG hlen hrep
 have key:∀ (e:Ex) (s':PS),pc.exec G T fuel {fr:=Db ds,st}=some (e,s')→((Ea s' res).map fun l=>(D1 l,s'.st))=some (d,st')→(e=.next∨e=.ret)→
   Calls P f vs.toArray w fun e w'=>∃ v g',e=.returned v∧Go1 base w g st w' g' st'∧RepV w' g' st' d v:=by
  intro e s' hex hget he;refine callsIn_wide.1 (callsIn_of_wp_marks (F:=Fence.wide) (n:=0) hfn hc trivial ?_)
  have hR0:R G base fn.ntmps w g st [] {fr:=Db ds,st} {tmps:=vs.toArray++CY (fn.ntmps - vs.toArray.size) undef,defers:=[]} w:=by
   refine⟨g,Go1.refl hS,?_,hG,⟨[],rfl,trivial⟩,?_⟩
   ·intro s;simp only[Db];rcases Be s ds.length with h1 | h1
    ·have h2:s<vs.length:=by omega
     have h3:(vs.toArray++CY (fn.ntmps - vs.toArray.size) undef).getD s undef=vs[s]:=by
      simp[Array.getD,h2];omega
     rw[h3];have:=hrep s ds[s] vs[s] (by simp[h1]) (by simp[h2]);grind
    ·simp[Aj,B7 h1];exact .junk _
   ·simp; omega
  have fin:∀ a' w',R G base fn.ntmps w g st [] s' a' w'→LeavesInM Fence.wide 0 P fn a'.tmps (fun e w'=>∃ v g',e=.returned v∧Go1 base w g st w' g' st'∧RepV w' g' st' d v) a'.defers .returning w':=by
   rintro a' w' ⟨g1,h⟩;obtain⟨dd,hd1,hd2⟩:=h.df;rw[hd1,Av];refine V2 hS.size dd w' h.go1 h.fr hd2 fun w2 hgo hF=>?_;simp only[DA,Dr]at hget;obtain⟨xs,hx1,rfl,rfl⟩:=hget;obtain⟨us,e1,e2,e3⟩:=RM hgo.sr hF htr hx1;exact⟨_,bB e3,_,g1,rfl,hgo,ir e1 e2⟩
  refine fP hT c none (.inl rfl) w g st [] hY hS.size hints (pc,hrest) htc fuel _ s' e hex _ w _ hR0 ?_;intro a' w' hR';rcases he with rfl | rfl
  ·exact fin a' w' hR'
  ·exact fin a' w' hR'
 simp only[PF.runI]at hsp;grind
theorem RF(u:TblOK P G T)(J:T.y=fun _ _ _=>none)(E:Ds P il f hints=some F)(fuel:Nat):IContract P G f (F.runI G T fuel):=
 ⟨(RE u E fuel).1,fun base w g st st' ds vs d I M N hl O=>(RE u E fuel).2 base w g st st' ds vs d (by rw[J]; exact YOK.none) I M N hl O⟩
theorem Ydd(u:TblOK P G T)(I:Ds P il f hints=some F){sp:(List D→St→Option (D×St))→List D→St→Option (D×St)}
  (h:∀ (l:Nat) y ds st r,sp y ds st=some r→∃ fuel,F.runI G (L7 T l y) fuel (.clo (10000000+l) []::ds) st=some r):O5 P G f sp:=by
 refine⟨(RE u I 0).1,fun base w g st st' ds vs d l y N J O U hl V=>?_⟩;obtain⟨fuel,hf⟩:=h l y ds st _ J;have M:TblOK P G (L7 T l y):=⟨u.p,u.i,u.m,u.r,u.x,u.q⟩;refine(RE M I fuel).2 base w g st st' _ (_::vs) d N hf O U (by simp[hl]) ?_;intro i d v E hv
 cases i with
 |zero=>
  simp only[AB,C9]at E hv;subst E; subst hv;have:=RepV.clo (w:=w) (g:=g) (st:=st) (10000000+l) [] [] rfl (fun i d v h=>by simp at h);rw[uD,SM,Sy]at this;exact this
 |succ i=>exact V i d v (by simpa using E) (by simpa using hv)
theorem Yb4(h:RepV w g st d v):RepV w g (PI.cut k st) (GJ k d) v:=by
 cases d with
 |tup l=>
  cases h with
  |tup _ vs E I=>
   refine .tup _ vs (by simpa using E) fun i d v u hv=>?_;simp only[AG,DA]at u;obtain⟨d0,J,rfl⟩:=u;exact X5 (I i d0 v J hv)
 |_=>exact X5 h
theorem IContract.dropped{sp:List D→St→Option (D×St)}(h:IContract P G f sp):IContract P G f (PI.dropped sp):=by
 refine⟨h.1,fun base w g st st' ds vs d u E I hl J=>?_⟩;simp only[PI.dropped,DA,Dr,Prod.exists]at u;obtain⟨d0,st1,M,rfl,rfl⟩:=u;refine(h.2 base w g st st1 ds vs d0 M E I hl J).mono ?_;rintro e w' ⟨v,g',rfl,N,O⟩;exact⟨v,g',rfl,N.cut (Az _),Yb4 O⟩
theorem Ykk(hT:TblOK P G T)(U:T.y=fun _ _ _=>none)(u:Ds P il f hints=some F)(fuel:Nat):Contract P G f (F.run G T fuel):=by
 intro w g ds vs d Y hG aa hlen V _;unfold Ds at u
 split at u
 case h_2=>cases u
 rename_i fn ab
 split at u
 case h_2=>cases u
 rename_i c hc
 split at u
 case h_2=>cases u
 rename_i pc N res ac ad
 split at u
 ·cases u
 simp only[C9]at u; subst u;have hS:SR w.heap.size w g []:=⟨fun k o h=>by simp at h,fun k o h=>by simp at h,fun k k' o o' h=>by simp at h,aa,fun k o x h=>by simp at h,Az _⟩
 have key:∀ (e:Ex) (s':PS),pc.exec G T fuel {fr:=Db ds,st:=[]}=some (e,s')→(Fq s' res).map D1=some d→(e=.next∨e=.ret)→
   Calls P f vs.toArray w fun e w'=>∃ v g',e=.returned v∧RepV w' g' [] d v∧purR d=true∧ImLe w g w' g'∧(∀ b o,g'.Im b o→g.Im b o∨w.heap.size≤b)∧
   (∀ b o,g'.Im b o→(w'.cell? ⟨b,o,none⟩).isSome=true)∧Below w.heap.size w w':=by
  intro e s' hex M he;refine callsIn_wide.1 (callsIn_of_wp_marks (F:=Fence.wide) (n:=0) ab hc trivial ?_)
  have ae:R G w.heap.size fn.ntmps w g [] [] {fr:=Db ds,st:=[]} {tmps:=vs.toArray++CY (fn.ntmps - vs.toArray.size) undef,defers:=[]} w:=by
   refine⟨g,Go1.refl hS,?_,hG,⟨[],rfl,trivial⟩,?_⟩
   ·intro s;simp only[Db];rcases Be s ds.length with X | X
    ·have h2:s<vs.length:=by omega
     have h3:(vs.toArray++CY (fn.ntmps - vs.toArray.size) undef).getD s undef=vs[s]:=by
      simp[Array.getD,h2];omega
     rw[h3];have:=V s ds[s] vs[s] (by simp[X]) (by simp[h2]);grind
    ·simp[Aj,B7 X];exact .junk _
   ·simp; omega
  have fin:∀ I w',R G w.heap.size fn.ntmps w g [] [] s' I w'→LeavesInM Fence.wide 0 P fn I.tmps (fun e w'=>∃ v g',e=.returned v∧RepV w' g' [] d v∧purR d=true∧ImLe w g w' g'∧(∀ b o,g'.Im b o→g.Im b o∨w.heap.size≤b)∧
   (∀ b o,g'.Im b o→(w'.cell? ⟨b,o,none⟩).isSome=true)∧Below w.heap.size w w') I.defers .returning w':=by
   rintro I w' ⟨g1,h⟩;obtain⟨dd,ah,a0⟩:=h.df;rw[ah,Av];refine V2 (Az _) dd w' h.go1 h.fr a0 fun w2 J hF=>?_;simp only[DA]at M;obtain⟨ys,a1,rfl⟩:=M;obtain⟨xs,a2,a3⟩:=jH a1;obtain⟨us,e1,e2,e3⟩:=RM J.sr hF ad a2;obtain⟨g2,a4,_,e5,e6,e7⟩:=OW J.sr a3;have E:=J.trans a4;refine⟨_,bB e3,_,g2,rfl,?_,iq e6,E.im,E.new,E.sr.im,E.below⟩;have h8:=ir (g:=g2) (w:=w2) (ds:=ys) (vs:=us) (by omega) fun i y v U hv=>e7 i y v U fun x hx=>e2 i x v hx hv;exact h8.purR (ImLe.refl _ _) (iq e6)
  refine fP hT c none (.inl rfl) w g [] [] (by rw[U]; exact YOK.none) (Az _) hints (pc,N) ac fuel _ s' e hex _ w _ ae ?_;intro I w' O;rcases he with rfl | rfl
  ·exact fin I w' O
  ·exact fin I w' O
 simp only[PF.run]at Y;grind
theorem gR(u:TblOK P G T)(E:T.y=fun _ _ _=>none)(I:Ds P il f hints=some F){sp:List D→Option D}(h:∀ ds d,sp ds=some d→∃ fuel,F.run G T fuel ds=some d):Contract P G f sp:=by
 intro w g ds vs d J;obtain⟨fuel,hf⟩:=h ds d J;exact Ykk u E I fuel w g ds vs d hf
end
end Go.Proofs.YtijnglngaogdjaaGreatDoor.PI
