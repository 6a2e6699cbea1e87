/-
  The translation of code, and that it is sound: a function whose translation comes to a value meets its contract.
  Conditions: none; these are definitions and lemmas.
-/
import Derived.Test.YtlnmoflpeohkbaaGreatDoorEngO
import Derived.OrdersIn
import Derived.TacticsIn
import Derived.Sort.LoopGhostIn
import Derived.RangeFuncLeaves
import Derived.RangeFuncRecord
open Inhabited renaming default->d_
open Bool renaming false->f_,true->t_
open Option renaming some->s_,none->n_
open List renaming range->C9
set_option maxHeartbeats 8000000
set_option maxRecDepth 20000
set_option linter.unusedSimpArgs false
set_option linter.unusedVariables false
set_option linter.defProp false
namespace Go.Proofs.YtlnmoflpeohkbaaGreatDoor.PI
open Go Go.RowKit
open POp renaming args->yaV,callee->ybm,exec->yaU,execX->ybt,foot->yaY
open Go.Region renaming binds->ybs,ready->ybu,wanted->yaw
open Go.World renaming putObj_heap_other->ybv,putObj_size->ybw
def POp.cls:POp->Nat
 |.mov _ | .pick _ _ _ | .bld _ _ | .bin _ _ _ | .beq _ _ _ | .aeq _ _ _ _ | .un _ _ | .sliceA _ _ _ _ _ _ | .fldv _ _ _ _ | .idx _ _ | .idxV _ _ _ _ _ | .lenA _ | .mm _ _ _ | .mm3 _ _ _ _ | .ext _ _ | .mkclo _ _=>0
 |.conv c _=>match c with
  |.str=>1
  |_=>0
 |.load _ _ _ | .nilc _ | .slice _ _ _ _ _ | .fld _ _ | .idxS _ _ _ | .idxA _ _ _ _ | .len _ _ | .mapget _ _ _ _ _ _ | .rcall _ _=>1
 |.bslc _ _ | .call _ _=>2
 |.box _ | .stor _ _ _ | .mkslc _ _ _ _ _ | .app _ _ _ _ | .icall _ _ | .mcall _ _ | .callv _ _ | .mkmap _ | .mapup _ _ _ _ _ | .cpy _ _ _ | .fail=>3
def PA.slot:PA->List Nat
 |.s n=>[n]
 |_=>[]
def PI.reads(i:PI):List Nat:=i.op.args.flatMap PA.slot++(H3 i.guard).map (·.1)
def POp.push:POp->Bool
 |.box _ | .mkslc _ _ _ _ _=>t_
 |_=>f_
def TN(x y:POp):Bool:=match x,y with
 |.mapup sz ks _ (.c (.int k a)) _,.mapup sz' ks' _ (.c (.int k' b)) _=>sz==sz'&&ks == [0]&&ks' == [0]&&mS sz==2&&a !=b&&decide (k=.i64)&&decide (k'=.i64)
 |_,_=>f_
def PI.apart(x y:PI):Bool:=
 (match x.dst with
  |some d=>!(y.reads.contains d)&&y.dst !=s_ d
  |none=>t_) &&
 (match y.dst with
  |some d=>!(x.reads.contains d)
  |none=>t_) &&
 (x.op.cls==0||y.op.cls==0||(decide (x.op.cls<=2)&&(decide (y.op.cls<=2)||y.op.push))||TN x.op y.op)
def Qn{α β:Type}{f g:α->β}:∀{l:List α},(∀x∈l,f x=g x)->l.map f=l.map g:=λh=>AY h
variable{st:St}{ρ:PA->D}{T:Tbl}
def Ybb{N:PA->D}(p:POp)(h:∀x∈p.args,ρ x=N x):p.exec T ρ st=p.exec T N st:=by
 have opt:∀(o:Option PA),(∀x∈H3 o,ρ x=N x)->o.map ρ=o.map N:=by
  intro o ho
  cases o with
  |none=>rfl
  |some x=>simp[ho x (by simp[H3])]
 cases p with
 |bld zero parts=>
  have:(parts.map λp=>(p.1,p.2.1,ρ p.2.2))=parts.map λp=>(p.1,p.2.1,N p.2.2):=Qn λq E=>by
   rw[h q.2.2 (by simp only[yaV,AR];exact⟨q,E,rfl⟩)]
  simp only[yaU,this]
 |bslc sz parts=>
  have:parts.map ρ=parts.map N:=Qn λq E=>h q E;simp only[yaU,this]
 |call f args=>
  have:args.map ρ=args.map N:=Qn λq E=>h q E;simp only[yaU,this]
 |icall f args=>
  have:args.map ρ=args.map N:=Qn λq E=>h q E;simp only[yaU,this]
 |mcall f args=>
  have:args.map ρ=args.map N:=Qn λq E=>h q E;simp only[yaU,this]
 |rcall f args=>
  have:args.map ρ=args.map N:=Qn λq E=>h q E;simp only[yaU,this]
 |mkclo f args=>
  have:args.map ρ=args.map N:=Qn λq E=>h q E;simp only[yaU,this]
 |callv x args=>
  have:args.map ρ=args.map N:=Qn λq E=>h q (by simp[yaV,E]);simp only[yaU,this,h x (by simp[yaV])]
 |slice sz x lo hi mx=>
  simp only[yaV,AB,AK]at h;simp only[yaU,h x (.inl rfl),opt lo (λy hy=>h y (.inr (.inl (.inl hy)))),opt hi (λy hy=>h y (.inr (.inl (.inr hy)))),opt mx (λy hy=>h y (.inr (.inr hy)))]
 |sliceA n sz ag x lo hi=>
  simp only[yaV,AB,AK]at h;simp only[yaU,h x (.inl rfl),opt lo (λy hy=>h y (.inr (.inl hy))),opt hi (λy hy=>h y (.inr (.inr hy)))]
 |_=>
  simp only[yaV,AB,AM,zav,forall_eq_or_imp,zbe]at h;simp only[yaU,h]
abbrev lend1(k:Nat)(st:St):St:=st.modify k λo=>{o with lent:=t_}
theorem tD(st:St)(k key tot:Nat):EY (lend1 k st) key tot=EY st key tot:=by unfold EY;grind
def yYp(st:St)(k:Nat)(d:D):FB (lend1 k st) d=FB st d:=by cases d<;>simp only[FB,tD]
def yRn(st:St)(k:Nat)(c:PConv)(d:D):Gm (lend1 k st) c d=Gm st c d:=by cases c<;>cases d<;>simp only[Gm,yz1]
theorem yMz(st:St)(k sz:Nat)(x:D)(lo hi E:Option D):GS (lend1 k st) sz x lo hi E=GS st sz x lo hi E:=by
 cases x with
 |row key tot off len=>
  simp only[GS,W4];grind
 |_=>simp only[GS]
theorem yRj(st:St)(k sz:Nat)(x i:D):ER (lend1 k st) sz x i=ER st sz x i:=by
 unfold ER
 cases FA i with
 |none=>rfl
 |some j=>
  grind
def yG6(st:St)(k off:Nat)(x:D):FE (lend1 k st) off x=FE st off x:=by cases x<;>simp only[FE,tD]
def yRk(st:St)(k n sz:Nat)(x i:D):J8 (lend1 k st) n sz x i=J8 st n sz x i:=by simp only[J8,yG6]
theorem yRh(st:St)(k n:Nat)(ag:Bool)(p:D):Fa (lend1 k st) n ag p=Fa st n ag p:=by
 cases p with
 |ptr key off=>
  simp only[Fa,W4];grind
 |rptr key tot i off=>
  simp only[Fa,W4];grind
 |_=>simp only[Fa]
def yJv(st:St)(N sz:Nat)(ks:List Nat)(ok:Bool)(E m k:D):JH (lend1 N st) sz ks ok E m k=JH st sz ks ok E m k:=by
 cases m with
 |mapv key=>
  simp only[JH,W4]
  cases st[key]? with
  |none=>rfl
  |some o=>by_cases e:N=key<;>simp[e,Obj.isMap]
 |_=>simp only[JH]
theorem yZ4(a b:Nat)(st:St):lend1 a (lend1 b st)=lend1 b (lend1 a st):=by apply A2;grind
theorem lV(a:Nat):∀(ks:List Nat)(st:St),lend ks (lend1 a st)=lend1 a (lend ks st)
 |[],_=>rfl
 |k::r,st=>by
  show lend r (lend1 k (lend1 a st))=lend1 a (lend r (lend1 k st))
  rw[yZ4,lV a r]
theorem yy:∀(ks E:List Nat)(st:St),lend ks (lend E st)=lend E (lend ks st)
 |[],_,_=>rfl
 |k::r,E,st=>by
  show lend r (lend1 k (lend E st))=lend E (lend r (lend1 k st))
  rw[<-lV,yy r E]
def Yht(st:St)(k key:Nat):((lend1 k st)[key]?).map Obj.see=(st[key]?).map Obj.see:=by
 rw[W4]
 cases st[key]? with
 |none=>rfl
 |some o=>by_cases e:k=key<;>simp[e,Obj.see]
theorem yGt(st:St)(k:Nat):∀l:List Nat,Ij (lend1 k st) l=Ij st l
 |[]=>rfl
 |a::l=>by simp only[Ij,Yht,yGt st k l]
theorem yN6(st:St)(k key:Nat):((lend1 k st)[key]?).isSome=(st[key]?).isSome:=by grind
def yMx(st:St)(k:Nat)(sp:List D->List (Option (Bool×Nat×List D))->Option D)(ds:List D):I5 sp ds (lend1 k st)=I5 sp ds st:=by unfold I5;simp only[yN6,yGt]
theorem Yba(p:POp)(hc:p.cls<=2)(k:Nat)(st:St):p.exec T ρ (lend1 k st)=(p.exec T ρ st).map λr=>(r.1,lend1 k r.2):=by
 have mp:∀{α:Type}(o:Option α)(f:α->D),(o.map λx=>(f x,lend1 k st))=(o.map λx=>(f x,st)).map λr=>(r.1,lend1 k r.2):=by
  intro α o f;cases o<;>rfl
 cases p with
 |mov x=>rfl
 |pick c x y=>simp only[yaU];split<;>rfl
 |box x=>simp[POp.cls]at hc
 |bld zero parts=>simp only[yaU];exact mp _ _
 |bslc sz parts=>
  simp only[yaU,lT]
  split
  .split
   .simp only[Ae,lV]
   .rfl
  .rfl
 |load n ag x=>simp only[yaU,yRh];exact mp _ _
 |stor n p x=>simp[POp.cls]at hc
 |nilc x=>
  simp only[yaU,tD]
  split
  .rfl
  .rfl
  .grind
  .rfl
 |bin op x y=>simp only[yaU];exact mp _ _
 |beq neg x y=>simp only[yaU];exact mp _ _
 |aeq ks neg x y=>simp only[yaU];exact mp _ _
 |un op x=>simp only[yaU];exact mp _ _
 |conv c x=>simp only[yaU,yRn];exact mp _ _
 |mkslc sz bytes zero l c=>simp[POp.cls]at hc
 |slice sz x lo hi E=>simp only[yaU,yMz];exact mp _ _
 |sliceA n sz ag x lo hi=>simp only[yaU];exact mp _ _
 |fld off x=>simp only[yaU,yG6];exact mp _ _
 |fldv off n ag x=>simp only[yaU];exact mp _ _
 |idxS sz x i=>simp only[yaU,yRj];exact mp _ _
 |idxA n sz x i=>simp only[yaU,yRk];exact mp _ _
 |idx x i=>simp only[yaU];exact mp _ _
 |idxV l sz ag x i=>simp only[yaU];exact mp _ _
 |len str x=>
  simp only[yaU,yYp]
  split
  .simp_all
  .rfl
 |lenA n=>rfl
 |app sz bytes s x=>simp[POp.cls]at hc
 |mm E x y=>simp only[yaU];split<;>rfl
 |mm3 E x y z=>simp only[yaU];split<;>rfl
 |rcall f args=>
  simp only[yaU,yMx]
  split
  .exact mp _ _
  .rfl
 |icall f args=>simp[POp.cls]at hc
 |mcall f args=>simp[POp.cls]at hc
 |fail=>simp[POp.cls]at hc
 |mkmap sz=>simp[POp.cls]at hc
 |mapup sz ks m k v=>simp[POp.cls]at hc
 |cpy sz d s=>simp[POp.cls]at hc
 |mapget sz ks ok zero m k=>simp only[yaU,yJv];exact mp _ _
 |callv x args=>simp[POp.cls]at hc
 |mkclo f args=>rfl
 |call f args=>
  simp only[yaU,lT]
  split
  .split
   .split
    .rfl
    .simp only[Ae,lV]
   .rfl
  .rfl
 |ext x i=>
  simp only[yaU]
  split
  .exact mp _ id
  .rfl
theorem yg{T:Tbl}{ρ:PA->D}(p:POp)(hc:p.cls<=2):∀(ks:List Nat)(st:St),p.exec T ρ (lend ks st)=(p.exec T ρ st).map λr=>(r.1,lend ks r.2)
 |[],st=>by cases h:p.exec T ρ st<;>simp[lend,h]
 |k::r,st=>by
  show p.exec T ρ (lend r (lend1 k st))=_
  rw[yg p hc r,Yba p hc k st];cases p.exec T ρ st<;>rfl
variable{d:D}{st':St}
theorem kJ(p:POp)(hc:p.cls<=2)(h:p.exec T ρ st=s_ (d,st')):∃ks,st'=lend ks st:=by
 have mp:∀{α:Type}(o:Option α)(f:α->D),(o.map λx=>(f x,st))=s_ (d,st')->∃ks,st'=lend ks st:=by
  intro α o f h;simp only[D1,D4]at h;obtain⟨_,_,_,rfl⟩:=h;exact⟨[],rfl⟩
 cases p with
 |mov x=>simp only[yaU,Dv,D4]at h;exact⟨[],h.2.symm⟩
 |pick c x y=>
  simp only[yaU]at h
  split at h
  .simp only[Dv,D4]at h;exact⟨[],h.2.symm⟩
  .cases h
 |box x=>simp[POp.cls]at hc
 |bld zero parts=>simp only[yaU]at h;exact mp _ _ h
 |bslc sz parts=>
  simp only[yaU]at h;grind
 |load n ag x=>simp only[yaU]at h;exact mp _ _ h
 |stor n p x=>simp[POp.cls]at hc
 |nilc x=>
  simp only[yaU]at h
  split at h
  .simp only[Dv,D4]at h;exact⟨[],h.2.symm⟩
  .simp only[Dv,D4]at h;exact⟨[],h.2.symm⟩
  .split at h
   .simp only[Dv,D4]at h;exact⟨[],h.2.symm⟩
   .cases h
  .cases h
 |bin op x y=>simp only[yaU]at h;exact mp _ _ h
 |beq neg x y=>simp only[yaU]at h;exact mp _ _ h
 |aeq ks neg x y=>simp only[yaU]at h;exact mp _ _ h
 |un op x=>simp only[yaU]at h;exact mp _ _ h
 |conv c x=>simp only[yaU]at h;exact mp _ _ h
 |mkslc sz bytes zero l c=>simp[POp.cls]at hc
 |slice sz x lo hi E=>simp only[yaU]at h;exact mp _ _ h
 |sliceA n sz ag x lo hi=>simp only[yaU]at h;exact mp _ _ h
 |fld off x=>simp only[yaU]at h;exact mp _ _ h
 |fldv off n ag x=>simp only[yaU]at h;exact mp _ _ h
 |idxS sz x i=>simp only[yaU]at h;exact mp _ _ h
 |idxA n sz x i=>simp only[yaU]at h;exact mp _ _ h
 |idx x i=>simp only[yaU]at h;exact mp _ _ h
 |idxV l sz ag x i=>simp only[yaU]at h;exact mp _ _ h
 |len str x=>
  simp only[yaU]at h
  split at h
  .exact mp _ (λn:Nat=>D.int .i64 (n:Int)) h
  .cases h
 |lenA n=>simp only[yaU,Dv,D4]at h;exact⟨[],h.2.symm⟩
 |app sz bytes s x=>simp[POp.cls]at hc
 |mm E x y=>
  simp only[yaU]at h
  split at h
  .simp only[Dv,D4]at h;exact⟨[],h.2.symm⟩
  .cases h
 |mm3 E x y z=>
  simp only[yaU]at h
  split at h
  .simp only[Dv,D4]at h;exact⟨[],h.2.symm⟩
  .cases h
 |rcall f args=>
  simp only[yaU]at h
  split at h
  .exact mp _ id (by simpa using h)
  .cases h
 |icall f args=>simp[POp.cls]at hc
 |mcall f args=>simp[POp.cls]at hc
 |fail=>simp[POp.cls]at hc
 |mkmap sz=>simp[POp.cls]at hc
 |mapup sz ks m k v=>simp[POp.cls]at hc
 |cpy sz d s=>simp[POp.cls]at hc
 |mapget sz ks ok zero m k=>simp only[yaU]at h;exact mp _ _ h
 |callv x args=>simp[POp.cls]at hc
 |mkclo f args=>simp only[yaU,Dv,D4]at h;exact⟨[],h.2.symm⟩
 |call f args=>
  simp only[yaU]at h
  split at h
  .split at h
   .simp only[Dv,D4]at h;obtain⟨_,rfl⟩:=h
    split
    .exact⟨[],rfl⟩
    .grind
   .cases h
  .cases h
 |ext x i=>
  simp only[yaU]at h
  split at h
  .exact mp _ id h
  .cases h
theorem T9(p:POp)(hc:p.cls=0)(h:p.exec T ρ st=s_ (d,st')):st'=st/\∀st2,p.exec T ρ st2=s_ (d,st2):=by
 have mp:∀{α:Type}(o:Option α)(f:α->D),(o.map λx=>(f x,st))=s_ (d,st')->st'=st/\∀st2:St,(o.map λx=>(f x,st2))=s_ (d,st2):=by
  simp_all
 cases p with
 |mov x=>simp only[yaU,Dv,D4]at h⊢;exact⟨h.2.symm,λst2=>⟨h.1,trivial⟩⟩
 |pick c x y=>
  simp only[yaU]at h⊢
  split at h
  .grind
  .cases h
 |bld zero parts=>simp only[yaU]at h⊢;exact mp _ _ h
 |bin op x y=>simp only[yaU]at h⊢;exact mp _ _ h
 |beq neg x y=>simp only[yaU]at h⊢;exact mp _ _ h
 |aeq ks neg x y=>simp only[yaU]at h⊢;exact mp _ _ h
 |un op x=>simp only[yaU]at h⊢;exact mp _ _ h
 |conv c x=>
  cases c with
  |str=>simp[POp.cls]at hc
  |int k=>
   have e:∀st2,Gm st2 (.int k) (ρ x)=Gm st (.int k) (ρ x):=λst2=>by cases ρ x<;>simp only[Gm]
   simp only[yaU]at h⊢;obtain⟨E,N⟩:=mp _ _ h;grind
  |bytes=>
   have e:∀st2,Gm st2 .bytes (ρ x)=Gm st .bytes (ρ x):=λst2=>by cases ρ x<;>simp only[Gm]
   simp only[yaU]at h⊢;obtain⟨E,N⟩:=mp _ _ h;grind
  |same=>
   have e:∀st2,Gm st2 .same (ρ x)=Gm st .same (ρ x):=λst2=>by cases ρ x<;>simp only[Gm]
   simp only[yaU]at h⊢;obtain⟨E,N⟩:=mp _ _ h;grind
 |sliceA n sz ag x lo hi=>simp only[yaU]at h⊢;exact mp _ _ h
 |fldv off n ag x=>simp only[yaU]at h⊢;exact mp _ _ h
 |idx x i=>simp only[yaU]at h⊢;exact mp _ _ h
 |idxV l sz ag x i=>simp only[yaU]at h⊢;exact mp _ _ h
 |mkclo f args=>simp only[yaU,Dv,D4]at h⊢;exact⟨h.2.symm,λst2=>⟨h.1,trivial⟩⟩
 |lenA n=>simp only[yaU,Dv,D4]at h⊢;exact⟨h.2.symm,λst2=>⟨h.1,trivial⟩⟩
 |mm mx x y=>
  simp only[yaU]at h⊢
  split at h
  .grind
  .cases h
 |mm3 mx x y z=>
  simp only[yaU]at h⊢
  split at h
  .grind
  .cases h
 |ext x i=>
  simp only[yaU]at h⊢
  split at h
  .exact mp _ id h
  .cases h
 |_=>simp[POp.cls]at hc
theorem Ww(fr:Frame){x y:Option Nat}(u v:D)(h:∀d,x=s_ d->y≠s_ d):(fr.put x u).put y v=(fr.put y v).put x u:=by
 cases x with
 |none=>rfl
 |some a=>
  cases y with
  |none=>rfl
  |some b=>
   have E:a≠b:=λe=>h a rfl (e▸rfl)
   funext t
   simp only[Frame.put,Frame.set];grind
theorem Yqq{k:Nat}{a:Obj}(o:Obj)(h:st[k]?=s_ a):(st++[o])[k]?=s_ a:=by grind
variable{key off tot:Nat}
theorem yCy{len:Nat}{r:Nat×List D}(o:Obj)(h:I6 st key tot off len=s_ r):I6 (st++[o]) key tot off len=s_ r:=by unfold I6 at h⊢;grind
variable{ag:Bool}{n sz:Nat}
theorem Ykr{r:List D}(o:Obj)(h:Jl st key off n sz ag=s_ r):Jl (st++[o]) key off n sz ag=s_ r:=by unfold Jl ND at h⊢;grind
variable{y:D}
def yOd(o:Obj)(h:DO st d=s_ y):DO (st++[o]) d=s_ y:=by
 cases d<;>simp only[DO]at h⊢<;>first
  |exact h
  |(simp only[D1]at h⊢
    obtain⟨r,E,N⟩:=h;exact⟨r,yCy o E,N⟩)
  |(simp only[D1]at h⊢
    obtain⟨r,E,N⟩:=h;exact⟨r,Ykr o E,N⟩)
theorem yOa{st:St}(o:Obj):∀{ds ys:List D},Ef st ds=s_ ys->Ef (st++[o]) ds=s_ ys
 |[],ys,h=>h
 |d::l,ys,h=>by
  simp only[Ef]at h⊢
  split at h
  .rename_i x y E N;rw[yOd o E,yOa o N];exact h
  .cases h
def Yp8(o:Obj)(h:D2 st d=s_ y):D2 (st++[o]) d=s_ y:=by
 cases d<;>simp only[D2]at h⊢<;>first
  |exact yOd o h
  |(simp only[D1]at h⊢
    obtain⟨r,E,N⟩:=h;exact⟨r,yOa o E,N⟩)
  |(cases h;done)
theorem yI{st:St}(o:Obj):∀{ds ys:List D},Ey st ds=s_ ys->Ey (st++[o]) ds=s_ ys
 |[],ys,h=>h
 |d::l,ys,h=>by
  simp only[Ey]at h⊢
  split at h
  .rename_i x y E N;rw[Yp8 o E,yI o N];exact h
  .cases h
theorem yD(o:Obj)(h:EY st key tot=t_):EY (st++[o]) key tot=t_:=by unfold EY at h⊢;grind
def Ydy(o:Obj)(h:FB st d=s_ n):FB (st++[o]) d=s_ n:=by
 cases d<;>simp only[FB]at h⊢<;>first
  |exact h
  |(split at h
    .rename_i hl;rw[yD o hl];simpa using h
    .cases h)
def yZh{c:PConv}(o:Obj)(h:Gm st c d=s_ y):Gm (st++[o]) c d=s_ y:=by
 cases c<;>cases d<;>simp only[Gm]at h⊢<;>first
  |exact h
  |(split at h
    .rename_i sz els E;rw[yCy o E];exact h
    .cases h)
theorem yRc{x:D}{lo hi E:Option D}(o:Obj)(h:GS st sz x lo hi E=s_ y):GS (st++[o]) sz x lo hi E=s_ y:=by
 cases x with
 |row key tot off len=>
  simp only[GS]at h⊢;grind
 |_=>simpa only[GS]using h
theorem yY8{x i:D}(o:Obj)(h:ER st sz x i=s_ y):ER (st++[o]) sz x i=s_ y:=by
 unfold ER at h⊢
 cases hn:FA i with
 |none=>simp[hn]at h
 |some j=>
  grind
def yM5{x:D}(o:Obj)(h:FE st off x=s_ y):FE (st++[o]) off x=s_ y:=by
 cases x<;>simp only[FE]at h⊢<;>first
  |exact h
  |(split at h
    .rename_i hl;rw[yD o hl];simpa using h
    .cases h)
def yZa{x i:D}(o:Obj)(h:J8 st n sz x i=s_ y):J8 (st++[o]) n sz x i=s_ y:=by
 unfold J8 at h⊢
 cases hn:FA i with
 |none=>simp[hn]at h
 |some j=>
  rw[hn]at h;simp only at h⊢
  split at h
  .rename_i hj;rw[zae hj];exact yM5 o h
  .cases h
theorem yY3{p:D}(o:Obj)(h:Fa st n ag p=s_ y):Fa (st++[o]) n ag p=s_ y:=by unfold Fa at h⊢;grind
variable{k m:D}{ks:List Nat}
theorem yM1{ok:Bool}{E:D}(o:Obj)(h:JH st sz ks ok E m k=s_ y):JH (st++[o]) sz ks ok E m k=s_ y:=by unfold JH at h⊢;grind
theorem yOf(h:DO st d=s_ y):∀k∈Fw d,k<st.length:=by
 cases d with
 |row key tot off len=>
  simp only[DO,D1]at h;obtain⟨r,E,_⟩:=h;unfold I6 at E
  split at E
  .rename_i a ha;intro k hk;simp only[Fw,AU]at hk;grind
  .cases E
 |bsl key off n sz ag=>
  simp only[DO,D1]at h;obtain⟨r,E,_⟩:=h;intro k hk;simp only[Fw,AU]at hk;subst hk;unfold Jl ND at E;grind
 |_=>intro k hk;simp[Fw]at hk
theorem yOc{st:St}:∀{ds ys:List D},Ef st ds=s_ ys->∀k∈ds.flatMap Fw,k<st.length
 |[],_,_=>λk hk=>by simp at hk
 |d::l,ys,h=>by
  simp only[Ef]at h
  split at h
  .rename_i x y E N;intro k hk;simp only[AA,AK]at hk;rcases hk with hk|hk
   .exact yOf E k hk
   .exact yOc N k hk
  .cases h
def Yp9(h:D2 st d=s_ y):∀k∈keys d,k<st.length:=by
 cases d with
 |agg l=>
  simp only[D2,D1]at h;obtain⟨r,E,_⟩:=h;exact yOc E
 |tup l=>simp[D2]at h
 |_=>simp only[D2]at h;exact yOf h
theorem yH{st:St}:∀{ds ys:List D},Ey st ds=s_ ys->∀k∈ds.flatMap keys,k<st.length
 |[],_,_=>λk hk=>by simp at hk
 |d::l,ys,h=>by
  simp only[Ey]at h
  split at h
  .rename_i x y E N;intro k hk;simp only[AA,AK]at hk;rcases hk with hk|hk
   .exact Yp9 E k hk
   .exact yH N k hk
  .cases h
theorem Rq:∀(ks:List Nat)(st:St),(lend ks st).length=st.length
 |[],_=>rfl
 |k::r,st=>by rw[lend,Rq r,List.length_modify]
theorem yz{o:Obj}:∀(ks:List Nat)(st:St),(∀k∈ks,k<st.length)->lend ks (st++[o])=lend ks st++[o]
 |[],_,_=>rfl
 |k::r,st,h=>by
  have E:(st++[o]).modify k (λo=>{o with lent:=t_})=st.modify k (λo=>{o with lent:=t_})++[o]:=by
   apply A2;grind
  rw[lend,lend,E,yz r _ (λq N=>by rw[List.length_modify];exact h q (by simp[N]))]
theorem yMf{st:St}(o:Obj):∀{l:List Nat},l.all (λk=>(st[k]?).isSome)=t_->Ij (st++[o]) l=Ij st l
 |[],_=>rfl
 |a::l,h=>by
  simp only[AQ,Af]at h;obtain⟨x,E⟩:=B5.1 h.1;simp only[Ij,Yqq o E,E,yMf o h.2]
theorem yQ9(o:Obj){sp:List D->List (Option (Bool×Nat×List D))->Option D}{ds:List D}(h:I5 sp ds st=s_ d):I5 sp ds (st++[o])=s_ d:=by
 unfold I5 at h⊢
 split at h
 case isFalse=>cases h
 rename_i hc
 rw[zae (by
  grind),yMf o hc]
 exact h
theorem Yid{o:Obj}(p:POp)(hc:p.cls<=2)(h:p.exec T ρ st=s_ (d,st')):p.exec T ρ (st++[o])=s_ (d,st'++[o]):=by
 have mp:∀{α:Type}(a b:Option α)(f:α->D),(∀y,a=s_ y->b=s_ y)->(a.map λx=>(f x,st))=s_ (d,st')->(b.map λx=>(f x,st++[o]))=s_ (d,st'++[o]):=by
  simp_all
 cases p with
 |mov x=>simp only[yaU,Dv,D4]at h⊢;exact⟨h.1,by rw[h.2]⟩
 |pick c x y=>
  simp only[yaU]at h⊢
  split at h
  .grind
  .cases h
 |box x=>simp[POp.cls]at hc
 |bld zero parts=>simp only[yaU]at h⊢;exact mp _ _ _ (λ_ h=>h) h
 |bslc sz parts=>
  simp only[yaU]at h⊢
  split at h
  .rename_i els he;rw[yI o he];simp only
   split at h
   .rename_i N;rw[zae N];simp only[Dv,D4]at h⊢;exact⟨h.1,by rw[<-h.2,yz _ _ (yH he)]⟩
   .cases h
  .cases h
 |load n ag x=>simp only[yaU]at h⊢;exact mp _ _ _ (λ_ h=>yY3 o h) h
 |stor n p x=>simp[POp.cls]at hc
 |nilc x=>
  simp only[yaU]at h⊢
  split at h
  .grind
  .grind
  .split at h
   .rename_i hl;rw[yD o hl];grind
   .cases h
  .cases h
 |bin op x y=>simp only[yaU]at h⊢;exact mp _ _ _ (λ_ h=>h) h
 |beq neg x y=>simp only[yaU]at h⊢;exact mp _ _ _ (λ_ h=>h) h
 |aeq ks neg x y=>simp only[yaU]at h⊢;exact mp _ _ _ (λ_ h=>h) h
 |un op x=>simp only[yaU]at h⊢;exact mp _ _ _ (λ_ h=>h) h
 |conv c x=>simp only[yaU]at h⊢;exact mp _ _ _ (λ_ h=>yZh o h) h
 |mkslc sz bytes zero l c=>simp[POp.cls]at hc
 |slice sz x lo hi mx=>simp only[yaU]at h⊢;exact mp _ _ _ (λ_ h=>yRc o h) h
 |sliceA n sz ag x lo hi=>simp only[yaU]at h⊢;exact mp _ _ _ (λ_ h=>h) h
 |fld off x=>simp only[yaU]at h⊢;exact mp _ _ _ (λ_ h=>yM5 o h) h
 |fldv off n ag x=>simp only[yaU]at h⊢;exact mp _ _ _ (λ_ h=>h) h
 |idxS sz x i=>simp only[yaU]at h⊢;exact mp _ _ _ (λ_ h=>yY8 o h) h
 |idxA n sz x i=>simp only[yaU]at h⊢;exact mp _ _ _ (λ_ h=>yZa o h) h
 |idx x i=>simp only[yaU]at h⊢;exact mp _ _ _ (λ_ h=>h) h
 |idxV l sz ag x i=>simp only[yaU]at h⊢;exact mp _ _ _ (λ_ h=>h) h
 |len str x=>
  simp only[yaU]at h⊢
  split at h
  .rename_i hs;rw[zae hs];exact mp _ _ _ (λ_ h=>Ydy o h) h
  .cases h
 |lenA n=>simp only[yaU,Dv,D4]at h⊢;exact⟨h.1,by rw[h.2]⟩
 |app sz bytes s x=>simp[POp.cls]at hc
 |mm mx x y=>
  simp only[yaU]at h⊢
  split at h
  .grind
  .cases h
 |mm3 mx x y z=>
  simp only[yaU]at h⊢
  split at h
  .grind
  .cases h
 |rcall f args=>
  simp only[yaU]at h⊢
  split at h
  .exact mp _ _ _ (λ_ h=>yQ9 o h) h
  .cases h
 |icall f args=>simp[POp.cls]at hc
 |mcall f args=>simp[POp.cls]at hc
 |fail=>simp[POp.cls]at hc
 |mkmap sz=>simp[POp.cls]at hc
 |mapup sz ks m k v=>simp[POp.cls]at hc
 |cpy sz d s=>simp[POp.cls]at hc
 |mapget sz ks ok zero m k=>simp only[yaU]at h⊢;exact mp _ _ _ (λ_ h=>yM1 o h) h
 |callv x args=>simp[POp.cls]at hc
 |mkclo f args=>simp only[yaU,Dv,D4]at h⊢;exact⟨h.1,by rw[h.2]⟩
 |call f args=>
  simp only[yaU]at h⊢
  split at h
  .rename_i sp vs ab E;simp only[ab,yI o E]
   split at h
   .rename_i r hr;simp only[Dv,D4]at h⊢;refine⟨h.1,?_⟩;rw[<-h.2]
    split
    .rfl
    .rw[yz _ _ (yH E)]
   .cases h
  .cases h
 |ext x i=>
  simp only[yaU]at h⊢
  split at h
  .simp_all
  .cases h
def Yep{p:POp}(E:p.push=t_)(h:p.exec T ρ st=s_ (d,st')):∃o,∀st1:St,st1.length=st.length->p.exec T ρ st1=s_ (d,st1++[o]):=by
 cases p with
 |box x=>
  simp only[yaU]at h⊢
  split at h
  .rename_i hc;simp only[Dv,D4]at h;exact⟨_,λst1 hl=>by rw[zae hc,hl,h.1]⟩
  .cases h
 |mkslc sz bytes zero l c=>
  simp only[yaU]at h⊢
  split at h
  .split at h
   .rename_i hc;simp only[Dv,D4]at h;exact⟨_,λst1 hl=>by rw[zae hc,hl,h.1]⟩
   .cases h
  .cases h
 |_=>simp[POp.push]at E
variable{dst:Option Nat}{fr:Frame}{G:Dy}
def Yd6{pa:PA}(h:∀t,dst=s_ t->t∉pa.slot):DJ G (fr.put dst d) pa=DJ G fr pa:=by
 cases pa with
 |s n=>
  cases dst with
  |none=>rfl
  |some t=>
   have:n≠t:=λe=>h t rfl (by simp[PA.slot,e]);simp[DJ,Frame.put,Frame.set,this]
 |_=>rfl
theorem NQ{i:PI}(h:∀t,dst=s_ t->t∉i.reads):i.op.exec T (DJ G (fr.put dst d)) st=i.op.exec T (DJ G fr) st:=by refine Ybb i.op λx N=>Yd6 λt E hm=>h t E ?_;simp only[PI.reads,AK,Bk];grind
def Rr{i:PI}(h:∀t,dst=s_ t->t∉i.reads):i.wanted (fr.put dst d)=i.wanted fr:=by
 unfold PI.wanted
 cases E:i.guard with
 |none=>rfl
 |some q=>
  obtain⟨s,want⟩:=q
  cases dst with
  |none=>rfl
  |some t=>
   have:s≠t:=λe=>h t rfl (by simp[PI.reads,E,H3,e]);simp[Frame.put,Frame.set,this]
def PI.step(G:Dy)(T:Tbl)(i:PI)(s:PS):Option (D×St):=
 match i.wanted s.fr with
 |none=>n_
 |some f_=>s_ (.tup [],s.st)
 |some t_=>i.op.exec T (DJ G s.fr) s.st
theorem PI.exec_eq(i:PI)(s:PS):i.exec G T s=(i.step G T s).map λr=>{fr:=s.fr.put i.dst r.1,st:=r.2}:=by unfold PI.exec PI.step;grind
def Ygz(a:Int)(d:D):Gb 2 [0] (.int .i64 a) d=(match d with
  |.int k b=>if IntKind.i64=k then s_ (a==b)else n_
  |_=>n_):=by unfold Gb;cases d<;>simp[Kb]
variable{a b:Int}
theorem Yae(h:(Gb 2 [0] (.int .i64 a) d).isSome=t_):(Gb 2 [0] (.int .i64 b) d).isSome=t_:=by rw[Ygz]at h⊢;grind
def yWc(h:a≠b):Gb 2 [0] (.int .i64 a) (.int .i64 b)=s_ f_:=by rw[Ygz];simp[h]
variable{els:List D}
def Yts(h:Ff 2 [0] (.int .i64 a) els=t_):Ff 2 [0] (.int .i64 b) els=t_:=
 Ad.2 λel E=>Yae (Ad.1 h el E)
abbrev EH(a:Int)(v:D):D:=.agg ([.int .i64 a]++[v])
theorem YD(a:Int)(v:D):DE 2 (EH a v)=.int .i64 a:=(rfl)
def Kj(a:Int)(el:D):Bool:=Gb 2 [0] (.int .i64 a) (DE 2 el)==s_ t_
def kP(h:a≠b)(v:D):Kj a (EH b v)=f_:=by unfold Kj;rw[YD,yWc h];rfl
def Yg5{E:D}(h:Kj a E=t_):DE 2 E=.int .i64 a:=by unfold Kj at h;exact(WH (zao.1 h)).symm
def FU(a:Int)(x el:D):D:=if Kj a el then x else el
theorem YGv(a:Int)(x:D)(els:List D):L5 2 [0] (.int .i64 a) x els=els.map (FU a x):=by unfold L5;refine AY λel _=>?_;unfold FU Kj;grind
def YS(a:Int)(v E:D):DE 2 (FU a (EH a v) E)=DE 2 E:=by
 unfold FU
 split
 .rename_i h;rw[Yg5 h];rfl
 .rfl
def yJ{x:D}(h:DE 2 x=DE 2 y):Kj a x=Kj a y:=by unfold Kj;rw[h]
def Ydv(h:a≠b)(v v' E:D):FU b (EH b v') (FU a (EH a v) E)=FU a (EH a v) (FU b (EH b v') E):=by
 have N:Kj b (FU a (EH a v) E)=Kj b E:=yJ (YS a v E);have h2:Kj a (FU b (EH b v') E)=Kj a E:=yJ (YS b v' E)
 show(if Kj b (FU a (EH a v) E)=t_ then EH b v' else FU a (EH a v) E)=(if Kj a (FU b (EH b v') E)=t_ then EH a v else FU b (EH b v') E)
 rw[N,h2]
 cases ha:Kj a E with
 |true=>
  have hb:Kj b E=f_:=by unfold Kj;rw[Yg5 ha,yWc (Ne.symm h)];rfl
  rw[hb];simp[FU,ha]
 |false=>
  cases hb:Kj b E<;>simp[FU,ha,hb]
def HB(a:Int)(els:List D):Bool:=els.any (Kj a)
def wI(a b:Int)(v:D)(els:List D):HB a (els.map (FU b (EH b v)))=HB a els:=by
 unfold HB;rw[List.any_map]
 congr 1
 funext el
 exact yJ (YS b v el)
theorem qG{a b:Int}(h:a≠b)(v:D):∀(els:List D),HB a (Fk 2 b (EH b v) els)=HB a els
 |[]=>by simp[HB,Fk,kP h]
 |el::r=>by
  unfold Fk
  split
  .simp[HB,kP h]
  .have:=qG h v r;unfold HB at this⊢;grind
theorem vF{a b:Int}(h:a≠b)(v v':D):∀(els:List D),Fk 2 b (EH b v') (els.map (FU a (EH a v)))=(Fk 2 b (EH b v') els).map (FU a (EH a v))
 |[]=>by simp[Fk,FU,kP h]
 |el::r=>by
  rw[Av,Fk,Fk,YS]
  split
  .simp[FU,kP h]
  .rw[Av,vF h v v' r]
theorem Yhp(h:a<b)(hb:MA b d=t_):MA a d=t_:=by cases d<;>simp_all [MA];omega
theorem tQ{a b:Int}(h:a<b)(v v':D):∀(els:List D),Fk 2 b (EH b v') (Fk 2 a (EH a v) els)=Fk 2 a (EH a v) (Fk 2 b (EH b v') els)
 |[]=>by
  have E:MA b (DE 2 (EH a v))=f_:=by rw[YD];simp[MA];omega
  have N:MA a (DE 2 (EH b v'))=t_:=by rw[YD];simp[MA];omega
  simp only[Fk,E,N,zaj,zam,Ao]
 |el::r=>by
  have E:MA b (DE 2 (EH a v))=f_:=by rw[YD];simp[MA];omega
  have N:MA a (DE 2 (EH b v'))=t_:=by rw[YD];simp[MA];omega
  cases ha:MA a (DE 2 el)with
  |true=>
   cases hb:MA b (DE 2 el)with
   |true=>simp only[Fk,ha,hb,E,N,zaj,zam,Ao]
   |false=>simp only[Fk,ha,hb,E,zaj,zam,Ao]
  |false=>
   have hb:MA b (DE 2 el)=f_:=by
    cases hb:MA b (DE 2 el)with
    |false=>rfl
    |true=>rw[Yhp h hb]at ha;cases ha
   simp only[Fk,ha,hb,zam,Ao];rw[tQ h v v' r]
def YAa(h:a≠b)(v v':D)(els:List D):Fk 2 b (EH b v') (Fk 2 a (EH a v) els)=Fk 2 a (EH a v) (Fk 2 b (EH b v') els):=by
 rcases Int.lt_or_gt_of_ne h with h|h
 .exact tQ h v v' els
 .exact(tQ h v' v els).symm
def yWh(a:Int)(x:D):∀(els:List D),(Fk 2 a x els).length=els.length+1:=λels=>by
 have:=(kO 2 a x els).length_eq;simpa using this
variable{v:D}
theorem Pd(N:Ff 2 [0] (.int .i64 a) els=t_):MO 2 [0] (.int .i64 a) v els=if HB a els then s_ (els.map (FU a (EH a v)))else if els.length<39 then s_ (Fk 2 a (EH a v) els)else n_:=by
 unfold MO;rcases W3 els 0 N with⟨E,h2⟩|⟨j,el,E,h2,h3⟩
 .have hn:HB a els=f_:=by
   unfold HB;rw[List.any_eq_false];intro el ad;unfold Kj;grind
  rw[E,hn];rfl
 .have hy:HB a els=t_:=by
   unfold HB;rw[List.any_eq_true];exact⟨el,Ak h2,by unfold Kj;rw[h3];rfl⟩
  rw[E,hy,YGv];rfl
theorem Y4(h:Ff 2 [0] (.int .i64 a) els=t_):Ff 2 [0] (.int .i64 a) (els.map (FU b (EH b v)))=t_:=by
 unfold Ff at h⊢;rw[CW,Ad];intro el E
 show(Gb 2 [0] (.int .i64 a) (DE 2 (FU b (EH b v) el))).isSome=t_
 rw[YS];grind
def Y3(h:Ff 2 [0] (.int .i64 a) els=t_):Ff 2 [0] (.int .i64 a) (Fk 2 b (EH b v) els)=t_:=by
 refine Ad.2 λel N=>?_;rcases AK.1 ((kO 2 b (EH b v) els).mem_iff.1 N)with E|E
 .exact Ad.1 h el E
 .simp only[AU]at E;subst E;rfl
variable{v':D}
def Yl4(h:a≠b){e1 e2:List D}(E:Ff 2 [0] (.int .i64 a) els=t_)(h1:MO 2 [0] (.int .i64 a) v els=s_ e1)(N:MO 2 [0] (.int .i64 b) v' e1=s_ e2):
  ∃ac,MO 2 [0] (.int .i64 b) v' els=s_ ac/\Ff 2 [0] (.int .i64 a) ac=t_/\MO 2 [0] (.int .i64 a) v ac=s_ e2:=by
 have aa:Ff 2 [0] (.int .i64 b) els=t_:=Yts E;rw[Pd E]at h1
 cases ha:HB a els with
 |true=>
  rw[ha,zae rfl,Dv]at h1;subst h1;rw[Pd (Y4 aa),wI]at N
  cases hb:HB b els with
  |true=>
   rw[hb,zae rfl,Dv]at N;subst N;refine⟨_,by rw[Pd aa,hb,zae rfl],Y4 E,?_⟩;rw[Pd (Y4 E),wI,ha,zae rfl,Bf,Bf]
   congr 1
   refine AY λel _=>?_;exact(Ydv h v v' el).symm
  |false=>
   rw[hb,zaf zab]at N
   split at N
   case isFalse=>cases N
   rename_i hl;rw[Az]at hl;cases N;refine⟨_,by rw[Pd aa,hb,zaf zab,zae hl],Y3 E,?_⟩;rw[Pd (Y3 E),qG h,ha,zae rfl,vF h]
 |false=>
  rw[ha,zaf zab]at h1
  split at h1
  case isFalse=>cases h1
  rename_i hl;cases h1;rw[Pd (Y3 aa),qG (Ne.symm h)]at N
  cases hb:HB b els with
  |true=>
   rw[hb,zae rfl,Dv]at N;subst N;refine⟨_,by rw[Pd aa,hb,zae rfl],Y4 E,?_⟩;rw[Pd (Y4 E),wI,ha,zaf zab,zae (by rw[Az];exact hl),vF (Ne.symm h)]
  |false=>
   rw[hb,zaf zab]at N
   split at N
   case isFalse=>cases N
   rename_i ad;rw[yWh]at ad;cases N;refine⟨_,by rw[Pd aa,hb,zaf zab,zae hl],Y3 E,?_⟩;rw[Pd (Y3 E),qG h,ha,zaf zab,zae (by rw[yWh];exact ad),YAa h]
variable{st1:St}
theorem yG2(h:Mp st sz ks m k v=s_ st1):∃key o v' els,m=.mapv key/\st[key]?=s_ o/\II sz v=s_ v'/\(o.isMap&&o.sz==sz&&!o.lent&&v'.isCell&&K2 v'&&k.cells.length+1==mS sz&&k.cells.all D.isCell&&Gb (mS sz) ks k k==s_ t_&&N1 k)=t_/\Ff (mS sz) ks k o.els=t_/\MO (mS sz) ks k v' o.els=s_ els/\st1=st.set key {o with els}:=by
 unfold Mp at h
 split at h
 case h_2=>cases h
 rename_i key
 split at h
 case h_2=>cases h
 rename_i o v' E hv
 split at h
 case isFalse=>cases h
 rename_i hc;rw[Af]at hc;simp only[D1]at h;grind
theorem k8{o:Obj}(E:st[key]?=s_ o)(hv:II sz v=s_ v')(hc:(o.isMap&&o.sz==sz&&!o.lent&&v'.isCell&&K2 v'&&k.cells.length+1==mS sz&&k.cells.all D.isCell&&Gb (mS sz) ks k k==s_ t_&&N1 k)=t_)(N:Ff (mS sz) ks k o.els=t_)(he:MO (mS sz) ks k v' o.els=s_ els):
  Mp st sz ks (.mapv key) k v=s_ (st.set key {o with els}):=by simp only[Mp,E,hv];grind
variable{st2:St}
theorem yRf{m':D}(N:mS sz=2)(a3:a≠b)(h1:Mp st sz [0] m (.int .i64 a) v=s_ st1)(h2:Mp st1 sz [0] m' (.int .i64 b) v'=s_ st2):
  ∃aa,Mp st sz [0] m' (.int .i64 b) v'=s_ aa/\Mp aa sz [0] m (.int .i64 a) v=s_ st2:=by
 obtain⟨key,o,u,els,rfl,ho,hv,hc,hm,he,rfl⟩:=yG2 h1;obtain⟨ab,o',u',a1,rfl,E,ad,ae,af,ac,rfl⟩:=yG2 h2;have ah:key<st.length:=(Aa.1 ho).1
 by_cases hk:key=ab
 .subst hk;rw[Ap ah,Dv]at E;subst E;rw[N]at hm af he ac;obtain⟨e1,q1,q2,q3⟩:=Yl4 a3 hm he ac;have c1:(o.isMap&&o.sz==sz&&!o.lent&&u'.isCell&&K2 u'&&(D.int .i64 b).cells.length+1==mS sz&&(D.int .i64 b).cells.all D.isCell&&Gb (mS sz) [0] (.int .i64 b) (.int .i64 b)==s_ t_&&N1 (.int .i64 b))=t_:=ae;refine⟨_,k8 ho ad c1 (by rw[N];exact Yts hm) (by rw[N];exact q1),?_⟩;have:=k8 (st:=st.set key {o with els:=e1}) (o:={o with els:=e1}) (sz:=sz) (ks:=[0]) (k:=.int .i64 a) (v:=v) (Ap ah) hv hc (by rw[N];exact q2) (by rw[N];exact q3);simp_all
 .rw[Ac hk]at E;refine⟨_,k8 E ad ae af ac,?_⟩;have:=k8 (st:=st.set ab {o' with els:=a1}) (sz:=sz) (ks:=[0]) (k:=.int .i64 a) (v:=v) (by rw[Ac (Ne.symm hk)];exact ho) hv hc hm he;rw[this,List.set_comm _ _ hk]
theorem ud{x y:POp}(h:TN x y=t_):∃sz m E a b v v',x=.mapup sz [0] m (.c (.int .i64 a)) v/\y=.mapup sz [0] E (.c (.int .i64 b)) v'/\mS sz=2/\a≠b:=by unfold TN at h;grind
theorem yNj{N ρy:PA->D}(ab:∀d,N (.c d)=d)(ac:∀d,ρy (.c d)=d){x y:POp}(h:TN x y=t_){dx dy:D}(hx:x.exec T N st=s_ (dx,st1))(hy:y.exec T ρy st1=s_ (dy,st2)):∃E,y.exec T ρy st=s_ (dy,E)/\x.exec T N E=s_ (dx,st2):=by obtain⟨sz,m,m',a,b,v,v',rfl,rfl,hs,a0⟩:=ud h;simp only[yaU,D1,D4,ab,ac]at hx hy⊢;obtain⟨s1,h1,rfl,rfl⟩:=hx;obtain⟨s2,h2,rfl,rfl⟩:=hy;obtain⟨a4,q1,q2⟩:=yRf hs a0 h1 h2;grind
def yz4{x y:POp}(h:TN x y=t_):x.foot ρ st2=x.foot ρ st/\y.foot ρ st2=y.foot ρ st:=by obtain⟨sz,m,E,a,b,v,v',rfl,rfl,_⟩:=ud h;exact⟨rfl,rfl⟩
def yz5{x y:POp}(h:TN x y=t_):x.isCall=f_/\y.isCall=f_:=by obtain⟨sz,m,E,a,b,v,v',rfl,rfl,_⟩:=ud h;exact⟨rfl,rfl⟩
theorem lD{x y:PI}(h:x.apart y=t_):(∀t,x.dst=s_ t->t∉y.reads)/\(∀t,x.dst=s_ t->y.dst≠s_ t)/\(∀t,y.dst=s_ t->t∉x.reads)/\(x.op.cls=0\/y.op.cls=0\/(x.op.cls<=2/\y.op.cls<=2)\/(x.op.cls<=2/\y.op.push=t_)\/TN x.op y.op=t_):=by simp only[PI.apart,Af,A5,zao,zan]at h;grind
def swap{x y:PI}{s s1 s2:PS}(h:x.apart y=t_)(hx:x.exec G T s=s_ s1)(E:y.exec G T s1=s_ s2):∃af,y.exec G T s=s_ af/\x.exec G T af=s_ s2:=by
 obtain⟨a1,a2,a3,a4⟩:=lD h;rw[PI.exec_eq]at hx E;simp only[D1]at hx E;obtain⟨⟨dx,stx⟩,hx,rfl⟩:=hx;obtain⟨⟨dy,a5⟩,E,rfl⟩:=E;simp only at E;have ba:y.wanted (s.fr.put x.dst dx)=y.wanted s.fr:=Rr a1
 have key:∀ae,y.step G T s=s_ (dy,ae)->(∀d,x.step G T {fr:=s.fr.put y.dst d,st:=ae}=s_ (dx,a5))->∃af,y.exec G T s=s_ af/\x.exec G T af=s_ {fr:=(s.fr.put x.dst dx).put y.dst dy,st:=a5}:=by
  intro ae h1 h2;refine⟨{fr:=s.fr.put y.dst dy,st:=ae},by rw[PI.exec_eq,h1];rfl,?_⟩;rw[PI.exec_eq,h2 dy];simp only[Ae];rw[Ww s.fr dx dy a2]
 unfold PI.step at hx E;simp only[ba]at E;have ac:∀d,x.wanted (s.fr.put y.dst d)=x.wanted s.fr:=λd=>Rr a3
 cases ab:x.wanted s.fr with
 |none=>simp[ab]at hx
 |some bx=>
  cases N:y.wanted s.fr with
  |none=>simp[N]at E
  |some by'=>
   cases bx with
   |false=>
    simp only[ab,Dv,D4]at hx;obtain⟨rfl,rfl⟩:=hx
    cases by' with
    |false=>
     simp only[N,Dv,D4]at E;obtain⟨rfl,rfl⟩:=E;exact key s.st (by simp[PI.step,N]) (λd=>by simp[PI.step,ac,ab])
    |true=>
     simp only[N]at E;rw[NQ a1]at E;exact key a5 (by simp[PI.step,N,E]) (λd=>by simp[PI.step,ac,ab])
   |true=>
    simp only[ab]at hx
    cases by' with
    |false=>
     simp only[N,Dv,D4]at E;obtain⟨rfl,rfl⟩:=E;exact key s.st (by simp[PI.step,N]) (λd=>by simp only[PI.step,ac,ab];rw[NQ a3];exact hx)
    |true=>
     simp only[N]at E;rw[NQ a1]at E;rcases a4 with c|c|⟨c1,c2⟩|⟨c1,c2⟩|c
     .obtain⟨rfl,h2⟩:=T9 x.op c hx;exact key a5 (by simp[PI.step,N,E]) (λd=>by simp only[PI.step,ac,ab];rw[NQ a3];exact h2 _)
     .obtain⟨rfl,h2⟩:=T9 y.op c E;exact key s.st (by simp only[PI.step,N];exact h2 _) (λd=>by simp only[PI.step,ac,ab];rw[NQ a3];exact hx)
     .obtain⟨ks,rfl⟩:=kJ x.op c1 hx;rw[yg y.op c2]at E;simp only[D1,D4,Prod.exists]at E;obtain⟨bh,st',h1,rfl,rfl⟩:=E;obtain⟨qs,rfl⟩:=kJ y.op c2 h1;refine key _ (by simp only[PI.step,N];exact h1) (λd=>?_);simp only[PI.step,ac,ab];rw[NQ a3,yg x.op c1,hx];simp only[Ae];rw[yy]
     .obtain⟨ks,rfl⟩:=kJ x.op c1 hx;obtain⟨o,ho⟩:=Yep c2 E;have h1:=ho s.st (by rw[Rq]);have h2:=ho (lend ks s.st) rfl;rw[E]at h2;simp only[Dv,D4,zal]at h2;refine key _ (by simp only[PI.step,N];exact h1) (λd=>?_);simp only[PI.step,ac,ab];rw[NQ a3,Yid x.op c1 hx,h2]
     .obtain⟨a8,h1,h2⟩:=yNj (λ_=>rfl) (λ_=>rfl) c hx E;exact key a8 (by simp only[PI.step,N];exact h1) (λd=>by simp only[PI.step,ac,ab];rw[NQ a3];exact h2)
open Go Go.RowKit
def Like(st st2:St)(k:Nat):Prop:=(st[k]?=n_/\st2[k]?=n_)\/∃o o2,st[k]?=s_ o/\st2[k]?=s_ o2/\o2.row=o.row/\o2.sz=o.sz/\o2.els=o.els
variable{k:Nat}{st st2:St}
theorem Like.symm(h:Like st st2 k):Like st2 st k:=by
 rcases h with⟨a,b⟩|⟨o,o2,a,b,c,d,e⟩
 .exact .inl ⟨b,a⟩
 .exact .inr ⟨o2,o,b,a,c.symm,d.symm,e.symm⟩
theorem Like.of_eq(h:st2[k]?=st[k]?):Like st st2 k:=by
 cases hk:st[k]? with
 |none=>exact .inl ⟨hk,by rw[h,hk]⟩
 |some o=>exact .inr ⟨o,o,hk,by rw[h,hk],rfl,rfl,rfl⟩
variable{key:Nat}
theorem uk(h:Like st st2 key)(tot off len:Nat):I6 st2 key tot off len=I6 st key tot off len:=by
 unfold I6;rcases h with⟨a,b⟩|⟨o,o2,a,b,c,d,e⟩
 .rw[a,b]
 .grind
theorem yFp(h:Like st st2 key)(off n sz:Nat)(ag:Bool):ND st2 key off n sz ag=ND st key off n sz ag:=by
 unfold ND;rcases h with⟨a,b⟩|⟨o,o2,a,b,c,d,e⟩
 .rw[a,b]
 .grind
theorem yC(h:Like st st2 key)(tot:Nat):EY st2 key tot=EY st key tot:=by
 unfold EY;rcases h with⟨a,b⟩|⟨o,o2,a,b,c,d,e⟩
 .rw[a,b]
 .grind
variable{d:D}
def yOe(h:∀k∈DT d,Like st st2 k):DO st2 d=DO st d:=by
 cases d with
 |row key tot off len=>simp only[DO,uk (h key (by simp[DT,Gk]))]
 |bsl key off n sz ag=>simp only[DO,Jl,yFp (h key (by simp[DT,Gk]))]
 |_=>simp only[DO]
theorem yOb{st st2:St}:∀{l:List D},(∀k∈l.flatMap DT,Like st st2 k)->Ef st2 l=Ef st l
 |[],_=>rfl
 |d::l,h=>by
  simp only[Ef];rw[yOe (λk hk=>h k (by simp[hk])),yOb (λk hk=>h k (by rw[AA,AK];exact .inr hk))]
def wP(h:∀k∈hk d,Like st st2 k):D2 st2 d=D2 st d:=by
 cases d with
 |agg l=>simp only[D2];rw[yOb h]
 |tup l=>rfl
 |_=>simp only[D2];exact yOe h
theorem kN{st st2:St}:∀{l:List D},(∀k∈l.flatMap hk,Like st st2 k)->Ey st2 l=Ey st l
 |[],_=>rfl
 |d::l,h=>by
  simp only[Ey];rw[wP (λk hk=>h k (by rw[AA,AK];exact .inl hk)),kN (λk hk=>h k (by rw[AA,AK];exact .inr hk))]
def Ybd(h:∀k∈hk d,Like st st2 k):H6 st2 d=H6 st d:=by
 cases d with
 |row key tot off len=>simp only[H6,uk (h key (by simp[hk,DT,Gk]))]
 |bsl key off n sz ag=>simp only[H6,yFp (h key (by simp[hk,DT,Gk]))]
 |_=>rfl
def Ydz(h:∀k∈hk d,Like st st2 k):FB st2 d=FB st d:=by
 cases d with
 |row key tot off len=>simp only[FB,yC (h key (by simp[hk,DT,Gk]))]
 |_=>rfl
def yZi{c:PConv}(h:∀k∈hk d,Like st st2 k):Gm st2 c d=Gm st c d:=by
 cases d with
 |row key tot off len=>cases c<;>simp only[Gm,uk (h key (by simp[hk,DT,Gk]))]
 |_=>cases c<;>simp only[Gm]
variable{sz:Nat}
theorem yRd{x:D}{lo hi E:Option D}(h:∀k∈hk x,Like st st2 k):GS st2 sz x lo hi E=GS st sz x lo hi E:=by
 cases x with
 |row key tot off len=>
  simp only[GS];rcases h key (by simp[hk,DT,Gk])with⟨a,b⟩|⟨o,o2,a,b,c,d,e⟩
  .rw[a,b]
  .grind
 |_=>simp only[GS]
theorem yY9{x i:D}(h:∀k∈hk x,Like st st2 k):ER st2 sz x i=ER st sz x i:=by
 unfold ER
 cases FA i with
 |none=>rfl
 |some j=>
  cases x with
  |row key tot off len=>
   simp only;rcases h key (by simp[hk,DT,Gk])with⟨a,b⟩|⟨o,o2,a,b,c,d,e⟩
   .rw[a,b]
   .grind
  |_=>rfl
def yM6{off:Nat}{x:D}(h:∀k∈MT x,Like st st2 k):FE st2 off x=FE st off x:=by
 cases x with
 |rptr key tot i o=>simp only[FE,yC (h key (by simp[MT]))]
 |_=>rfl
variable{n:Nat}
def yZb{x i:D}(h:∀k∈MT x,Like st st2 k):J8 st2 n sz x i=J8 st n sz x i:=by simp only[J8,yM6 h]
theorem yY4{ag:Bool}{p:D}(h:∀k∈hk p,Like st st2 k):Fa st2 n ag p=Fa st n ag p:=by
 cases p with
 |ptr key off=>
  simp only[Fa];rcases h key (by simp[hk,DT,Gk])with⟨a,b⟩|⟨o,o2,a,b,c,d,e⟩
  .rw[a,b]
  .grind
 |rptr key tot i off=>
  simp only[Fa];rcases h key (by simp[hk,DT,Gk])with⟨a,b⟩|⟨o,o2,a,b,c,d,e⟩
  .rw[a,b]
  .grind
 |_=>simp only[Fa]
def yM2{ks:List Nat}{ok:Bool}{E m k:D}(h:∀k∈hk m,Like st st2 k):JH st2 sz ks ok E m k=JH st sz ks ok E m k:=by
 cases m with
 |mapv key=>
  simp only[JH];rcases h key (by simp[hk,DT,Gk])with⟨a,b⟩|⟨o,o2,a,b,c,d,e⟩
  .rw[a,b]
  .simp only[a,b,Obj.isMap,c,d,e];rfl
 |_=>simp only[JH]
def Yfv{p:D}(h:∀k∈MT p,Like st st2 k):∀key tot i off,p=.rptr key tot i off->EY st2 key tot=EY st key tot:=by rintro key tot i off rfl;exact yC (h key (by simp[MT])) tot
theorem Yp0(h:k∈Fw d):k∈DT d:=by cases d<;>simp_all [Fw,DT,Gk]
def Yzs(h:k∈keys d):k∈hk d:=by
 cases d with
 |agg l=>
  simp only[keys,hk,Bk]at h⊢;obtain⟨x,E,N⟩:=h;exact⟨x,E,Yp0 N⟩
 |row a b c e=>exact h
 |bsl key off n sz ag=>simp only[keys,Fw,AU]at h;subst h;simp[hk,DT,Gk]
 |_=>simp[keys,Fw]at h
def yWb{l:List D}(h:k∈l.flatMap keys):k∈l.flatMap hk:=by simp only[Bk]at h⊢;obtain⟨x,E,N⟩:=h;exact⟨x,E,Yzs N⟩
inductive Eff where
 |lend (ks:List Nat)
 |set (k:Nat) (o:Obj)
 |push (os:List Obj)
theorem YC9{E:Nat}{xs:List D}(h:H6 st d=s_ (E,xs))(N:xs≠[])(n:Nat):G8 d n=s_ n:=by
 unfold G8
 split
 .simp only[H6,Dv,D4]at h;grind
 .rfl
theorem Yk9{m:Nat}(h:G8 d m=s_ n):n=m:=by unfold G8 at h;grind
theorem yPr(h:G8 d n=n_)(m:Nat):G8 d m=n_:=by unfold G8 at h⊢;grind
def Eff.app:Eff->St->St
 |.lend ks,st=>PI.lend ks st
 |.set k o,st=>st.set k o
 |.push os,st=>st++os
def Eff.inn(f:Foot):Eff->Prop
 |.lend ks=>∀k∈ks,k∈f.rd
 |.set k _=>k∈f.wr
 |.push _=>f.nu.isSome=t_
theorem yMg{st st2:St}:∀{l:List Nat},(∀k∈l,Like st st2 k)->Ij st2 l=Ij st l
 |[],_=>rfl
 |a::l,h=>by
  have e:(st2[a]?).map Obj.see=(st[a]?).map Obj.see:=by
   rcases h a zac with⟨x,y⟩|⟨o,o2,x,y,c,d,e⟩
   .rw[x,y]
   .simp only[x,y,Ae,Obj.see,c,d,e]
  have E:=yMg (st:=st) (st2:=st2) (l:=l) λk hk=>h k (by simp[hk]);simp only[Ij,e,E]
theorem yRa{sp:List D->List (Option (Bool×Nat×List D))->Option D}{ds:List D}(h:∀k∈ds.flatMap hk,Like st st2 k):I5 sp ds st2=I5 sp ds st:=by
 have e:(ds.flatMap hk).all (λk=>(st2[k]?).isSome)=(ds.flatMap hk).all (λk=>(st[k]?).isSome):=by
  rw[Bool.eq_iff_iff,Ad,Ad];refine forall_congr' λk=>imp_congr_right λhk=>?_;rcases h k hk with⟨x,y⟩|⟨o,o2,x,y,_⟩
  .rw[x,y]
  .grind
 unfold I5;rw[e,yMg h]
variable{f:Foot}{st':St}{ρ:PA->D}{T:Tbl}
def ym(p:POp)(E:p.foot ρ st=s_ f)(h:p.exec T ρ st=s_ (d,st')):
  ∃e:Eff,e.inn f/\st'=e.app st/\∀st2:St,(∀k∈f.rd,Like st st2 k)->(∀k∈f.wr,st2[k]?=st[k]?)->(f.nu.isSome=t_->st2.length=st.length)->p.exec T ρ st2=s_ (d,e.app st2):=by
 by_cases hc:p.cls=0
 .obtain⟨h1,h2⟩:=T9 p hc h;exact⟨.lend [],(λk hk=>by cases hk),h1,λst2 _ _ _=>h2 st2⟩
 have rd:∀{α:Type}(F:St->Option α)(g:α->D),((F st).map λx=>(g x,st))=s_ (d,st')->(∀st2,(∀k∈f.rd,Like st st2 k)->F st2=F st)->(∀st2,p.exec T ρ st2=(F st2).map λx=>(g x,st2))->
   ∃e:Eff,e.inn f/\st'=e.app st/\∀st2:St,(∀k∈f.rd,Like st st2 k)->(∀k∈f.wr,st2[k]?=st[k]?)->(f.nu.isSome=t_->st2.length=st.length)->p.exec T ρ st2=s_ (d,e.app st2):=by
  intro α F g h1 h2 h3;simp only[D1,D4]at h1;obtain⟨x,hx,h4,h5⟩:=h1;refine⟨.lend [],(λk hk=>by cases hk),h5.symm,λst2 hl _ _=>?_⟩;rw[h3,h2 st2 hl,hx,<-h4];rfl
 cases p with
 |load n ag x=>
  simp only[yaY,yaV,Dv]at E;subst E;exact rd (λst=>Fa st n ag (ρ x)) id h (λst2 hl=>yY4 λk hk=>hl k (by simpa using hk)) (λ_=>rfl)
 |fld off x=>
  simp only[yaY,Dv]at E;subst E;exact rd (λst=>FE st off (ρ x)) id h (λst2 hl=>yM6 hl) (λ_=>rfl)
 |conv c x=>
  simp only[yaY,yaV,Dv]at E;subst E;exact rd (λst=>Gm st c (ρ x)) id h (λst2 hl=>yZi λk hk=>hl k (by simpa using hk)) (λ_=>rfl)
 |slice sz x lo hi mx=>
  simp only[yaY,yaV,Dv]at E;subst E;exact rd (λst=>GS st sz (ρ x) (lo.map ρ) (hi.map ρ) (mx.map ρ)) id h (λst2 hl=>yRd λk hk=>hl k (by rw[Av,AA,AK];exact .inl hk)) (λ_=>rfl)
 |idxS sz x i=>
  simp only[yaY,yaV,Dv]at E;subst E;exact rd (λst=>ER st sz (ρ x) (ρ i)) id h (λst2 hl=>yY9 λk hk=>hl k (by rw[Av,AA,AK];exact .inl hk)) (λ_=>rfl)
 |idxA n sz x i=>
  simp only[yaY,Dv]at E;subst E;exact rd (λst=>J8 st n sz (ρ x) (ρ i)) id h (λst2 hl=>yZb hl) (λ_=>rfl)
 |len str x=>
  simp only[yaY,yaV,Dv]at E;subst E;simp only[yaU]at h
  split at h
  .rename_i hs;exact rd (λst=>FB st (ρ x)) (λn:Nat=>D.int .i64 (n:Int)) h (λst2 hl=>Ydz λk hk=>hl k (by simpa using hk)) (λst2=>by simp only[yaU];rw[zae hs])
  .cases h
 |nilc x=>
  simp only[yaY,Dv]at E;subst E;have hn:=λst2 (hl:∀k∈MT (ρ x),Like st st2 k)=>Yfv (p:=ρ x) hl;simp only[yaU]at h⊢
  cases hx:ρ x with
  |ptr key off=>
   simp only[hx,Dv,D4]at h;refine⟨.lend [],(λk hk=>by cases hk),h.2.symm,λst2 hl _ _=>by rw[<-h.1];rfl⟩
  |eptr el off=>
   simp only[hx,Dv,D4]at h;refine⟨.lend [],(λk hk=>by cases hk),h.2.symm,λst2 hl _ _=>by rw[<-h.1];rfl⟩
  |rptr key tot i off=>
   simp only[hx]at h⊢
   split at h
   .rename_i a5;simp only[Dv,D4]at h;refine⟨.lend [],(λk hk=>by cases hk),h.2.symm,λst2 hl _ _=>?_⟩;rw[hn st2 (by rw[hx];exact hl) key tot i off hx,zae a5,<-h.1];rfl
   .cases h
  |_=>simp[hx]at h
 |bslc sz parts=>
  simp only[yaY,yaV,Dv]at E;subst E;simp only[yaU]at h⊢
  split at h
  .rename_i els he
   split at h
   .rename_i N;simp only[Dv,D4]at h;refine⟨.lend ((parts.map ρ).flatMap keys),λk hk=>yWb hk,h.2.symm,λst2 hl _ _=>?_⟩;rw[kN hl,he];simp only[N,zaj,<-h.1];rfl
   .cases h
  .cases h
 |call fn args=>
  simp only[yaY,yaV,Dv]at E;subst E;simp only[yaU]at h⊢
  split at h
  .rename_i sp vs ae a0
   split at h
   .rename_i r hr;simp only[Dv,D4]at h
    by_cases hn:r.noRef=t_
    .refine⟨.lend [],(λk hk=>by cases hk),?_,λst2 hl _ _=>?_⟩
     .rw[<-h.2,zae hn];rfl
     .simp only[ae,kN hl,a0,hr,hn,zaj,<-h.1];rfl
    .refine⟨.lend ((args.map ρ).flatMap keys),λk hk=>yWb hk,?_,λst2 hl _ _=>?_⟩
     .rw[<-h.2,zaf hn];rfl
     .simp only[ae,kN hl,a0,hr,hn,<-h.1];rfl
   .cases h
  .cases h
 |box x=>
  simp only[yaY,Dv]at E;subst E;simp only[yaU]at h⊢
  split at h
  .rename_i N;simp only[Dv,D4]at h;refine⟨.push _,rfl,h.2.symm,λst2 _ _ hm=>?_⟩;rw[zae N,hm rfl,<-h.1];rfl
  .cases h
 |mkslc sz bytes zero l c=>
  simp only[yaY,Dv]at E;subst E;simp only[yaU]at h⊢
  split at h
  .split at h
   .rename_i N;simp only[Dv,D4]at h;refine⟨.push _,rfl,h.2.symm,λst2 _ _ hm=>?_⟩;rw[zae N,hm rfl,<-h.1];rfl
   .cases h
  .cases h
 |mcall fn args=>
  simp only[yaY,Dv]at E;subst E;simp only[yaU]at h⊢
  split at h
  .split at h
   .simp only[Dv,D4]at h;refine⟨.push _,rfl,h.2.symm,λst2 _ _ hm=>?_⟩;rw[hm rfl,<-h.1];rfl
   .cases h
  .cases h
 |stor n p x=>
  simp only[yaY,Dv]at E;subst E;simp only[yaU]at h⊢
  cases hp:ρ p with
  |ptr key off=>
   rw[hp]at h;simp only[Le]at h⊢
   cases hk:st[key]? with
   |none=>simp[hk]at h
   |some o=>
    simp only[hk]at h
    split at h
    .rename_i N;simp only[Ae,Dv,D4]at h;refine⟨.set key _,by simp[Eff.inn,PI.hk,DT,Gk],h.2.symm,λst2 _ hw _=>?_⟩;have e:=hw key (by simp[PI.hk,DT,Gk]);rw[e,hk];simp only[N,zaj,Ae,<-h.1];rfl
    .simp at h
  |rptr key tot i off=>
   rw[hp]at h;simp only[Le]at h⊢
   cases hk:st[key]? with
   |none=>simp[hk]at h
   |some o=>
    cases hy:D2 st (ρ x)with
    |none=>simp[hk,hy]at h
    |some y=>
     simp only[hk,hy]at h
     split at h
     case isFalse=>simp at h
     rename_i N
     split at h
     case h_2=>simp at h
     rename_i el a7
     split at h
     case h_2=>simp at h
     rename_i bd a4
     split at h
     case isFalse=>simp at h
     rename_i hlen;simp only[Ae,Dv,D4]at h;refine⟨.set key _,by simp[Eff.inn,PI.hk,DT,Gk],h.2.symm,λst2 hl hw _=>?_⟩;have e:=hw key (by simp[PI.hk,DT,Gk]);rw[e,hk,wP hl,hy];simp only[N,zaj,a7,a4,hlen,Ae,<-h.1];rfl
  |_=>simp[hp,Le]at h
 |app sz bytes s x=>
  simp only[yaY]at E;simp only[yaU]at h⊢;unfold EW at h⊢;have ad:∀st2,(∀k∈hk (ρ x),Like st st2 k)->H6 st2 (ρ x)=H6 st (ρ x):=λst2 hl=>Ybd hl
  cases he:H6 st (ρ x)with
  |none=>simp[he]at h
  |some r=>
   obtain⟨be,xs⟩:=r;simp only[he]at h
   split at h
   .cases h
   rename_i af
   cases hs:ρ s with
   |row key tot off len=>
    simp only[hs,Dv]at E;subst E;simp only[hs]at h⊢
    cases hk:st[key]? with
    |none=>simp[hk]at h
    |some o=>
     simp only[hk]at h
     split at h
     case isFalse=>cases h
     rename_i N;simp only[Dv,D4]at h;refine⟨.set key _,by simp[Eff.inn],h.2.symm,λst2 hl hw _=>?_⟩;have e:=hw key zac;rw[ad st2 hl,he,e,hk];simp only[af,zam,Ao,N,zaj,<-h.1];rfl
   |slc bf els t=>
    simp only[hs,Dv]at E;subst E
    cases t with
    |false=>simp[hs]at h
    |true=>
     simp only[hs]at h⊢
     split at h
     .rename_i aa;simp only[Dv,D4]at h;refine⟨.lend [],(λk hk=>by cases hk),h.2.symm,λst2 hl _ _=>?_⟩;rw[ad st2 hl,he];dsimp only;rw[zaf af,zae aa,<-h.1];rfl
     .rename_i aa
      split at h
      case isFalse=>cases h
      rename_i N;simp only[Dv,D4]at h;have hN:G8 (ρ x) st.length=s_ st.length:=YC9 he (by simpa using aa) _;refine⟨.push _,(by show(G8 (ρ x) st.length).isSome=t_;rw[hN];rfl),h.2.symm,λst2 hl _ hm=>?_⟩;rw[ad st2 hl,he,hm (by show(G8 (ρ x) st.length).isSome=t_;rw[hN];rfl)];dsimp only;rw[zaf af,zaf aa,zae N,<-h.1];rfl
   |_=>simp[hs]at h
 |rcall fn args=>
  simp only[yaY,yaV,Dv]at E;subst E;simp only[yaU]at h
  split at h
  .rename_i sp ae;exact rd (λst=>I5 sp (args.map ρ) st) id h (λst2 hl=>yRa hl) (λst2=>by simp only[yaU,ae];rfl)
  .cases h
 |icall fn args=>simp[yaY]at E
 |callv x args=>simp[yaY]at E
 |fail=>simp[yaY]at E
 |mkmap sz=>
  simp only[yaY,Dv]at E;subst E;simp only[yaU]at h⊢
  split at h
  .rename_i N;simp only[Dv,D4]at h;refine⟨.push _,rfl,h.2.symm,λst2 _ _ hm=>?_⟩;rw[zae N,hm rfl,<-h.1];rfl
  .cases h
 |mapup sz ks m k v=>
  simp only[yaY,Dv]at E;subst E;simp only[yaU]at h⊢
  cases hm:ρ m with
  |mapv key=>
   rw[hm]at h;simp only[Mp]at h⊢
   cases hk:st[key]? with
   |none=>simp[hk]at h
   |some o=>
    cases hv:II sz (ρ v)with
    |none=>simp[hk,hv]at h
    |some v'=>
     simp only[hk,hv]at h
     split at h
     case isFalse=>simp at h
     rename_i N
     cases hu:MO (mS sz) ks (ρ k) v' o.els with
     |none=>simp[hu]at h
     |some els=>
      simp only[hu,Ae,Dv,D4]at h;refine⟨.set key _,by simp[Eff.inn,PI.hk,DT,Gk],h.2.symm,λst2 _ hw _=>?_⟩;have e:=hw key (by simp[PI.hk,DT,Gk]);rw[e,hk];simp only[N,zaj,hu,Ae,<-h.1];rfl
  |_=>simp[hm,Mp]at h
 |cpy sz d s=>simp[yaY]at E
 |mapget sz ks ok zero m k=>
  simp only[yaY,yaV,Dv]at E;subst E;exact rd (λst=>JH st sz ks ok zero (ρ m) (ρ k)) id h (λst2 hl=>yM2 λk hk=>hl k (by rw[Av,AA,AK];exact .inl hk)) (λ_=>rfl)
 |_=>simp[POp.cls]at hc
variable{p:POp}
def Yhz(h:p.foot ρ st=s_ f):∀n,f.nu=s_ n->n=st.length:=by
 intro n hn
 cases p with
 |app sz bytes s x=>
  simp only[yaY]at h;cases E:ρ s<;>simp only[E,Dv]at h<;>subst h<;>first|exact Yk9 hn|(simp at hn;done)|exact(by simpa using hn.symm)
 |_=>
  simp only[yaY,Dv,reduceCtorEq]at h
  try subst h
  try simp at hn
  try exact hn.symm
def Wu(p:POp)(h:st2.length=st.length):p.foot ρ st2=p.foot ρ st:=by cases p<;>simp only[yaY,h]
def qE(p:POp)(hc:p.cls<=2)(st st2:St):p.foot ρ st2=p.foot ρ st:=by cases p<;>first|rfl|(simp[POp.cls]at hc;done)
def tO(h:p.foot ρ st=s_ f)(E:f.nu=n_):p.foot ρ st2=s_ f:=by
 cases p with
 |app sz bytes s x=>
  simp only[yaY]at h⊢;cases N:ρ s<;>simp only[N,Dv]at h⊢<;>subst h<;>first|rfl|(simp only[yPr E _];done)|(simp at E;done)|(rw[yPr E st2.length,E])
 |box x=>simp only[yaY,Dv]at h;subst h;cases E
 |mkslc a b c d e=>simp only[yaY,Dv]at h;subst h;cases E
 |mkmap sz=>simp only[yaY,Dv]at h;subst h;cases E
 |mcall fn args=>simp only[yaY,Dv]at h;subst h;cases E
 |_=>exact h
def Ya7{E:PA->D}(p:POp)(h:∀x∈p.args,ρ x=E x):p.foot ρ st=p.foot E st:=by
 cases p with
 |stor n p x=>simp only[yaV,AB,AM,zav,forall_eq_or_imp,zbe]at h;simp only[yaY,h]
 |app a b s x=>simp only[yaV,AB,AM,zav,forall_eq_or_imp,zbe]at h;simp only[yaY,h]
 |box x=>rfl
 |mkslc a b c d e=>rfl
 |mcall f args=>rfl
 |icall f args=>rfl
 |callv x args=>rfl
 |fail=>rfl
 |mkmap sz=>rfl
 |mapup sz ks m k v=>simp only[yaV,AB,AM,zav,forall_eq_or_imp,zbe]at h;simp only[yaY,h]
 |cpy sz d s=>rfl
 |fld n x=>simp only[yaV,AB,AM,zav,zbe]at h;simp only[yaY,h]
 |nilc x=>simp only[yaV,AB,AM,zav,zbe]at h;simp only[yaY,h]
 |idxA a b x i=>simp only[yaV,AB,AM,zav,forall_eq_or_imp,zbe]at h;simp only[yaY,h]
 |_=>
  simp only[yaY];rw[AY h]
variable{b:List Nat}
theorem Y8{a:List Nat}(h:H5 a b=t_):∀k∈a,k∉b:=by simp only[H5,Ad,AN]at h;grind
def WX{m:Option Nat}(h:Ly m b=t_):∀n,m=s_ n->∀k∈b,k<n:=by rintro n rfl k hk;simp only[Ly,Ad,zan]at h;exact h k hk
variable{g:Foot}
def Yfm(h:f.ok g=t_):(∀k∈g.wr,k∉f.rd)/\(∀k∈g.wr,k∉f.wr)/\(∀k∈f.wr,k∉g.rd)/\(∀n,f.nu=s_ n->∀k∈g.rd,k<n)/\(∀n,f.nu=s_ n->∀k∈g.wr,k<n)/\(∀n,g.nu=s_ n->∀k∈f.rd,k<n)/\(∀n,g.nu=s_ n->∀k∈f.wr,k<n)/\(f.nu=n_\/g.nu=n_):=by simp only[Foot.ok,Af,A5,Option.isNone_iff_eq_none]at h;obtain⟨⟨⟨⟨⟨⟨⟨E,N⟩,h3⟩,h4⟩,h5⟩,h6⟩,h7⟩,h8⟩:=h;exact⟨Y8 E,Y8 N,Y8 h3,WX h4,WX h5,WX h6,WX h7,h8⟩
theorem Q0:∀(ks:List Nat)(st:St)(i:Nat),(lend ks st)[i]?=(st[i]?).map λo=>if i∈ks then {o with lent:=t_} else o
 |[],st,i=>by simp[lend]
 |k::r,st,i=>by
  rw[lend,Q0 r,W4];grind
theorem yVu(ks:List Nat)(st:St)(k:Nat)(o:Obj)(h:k∉ks):lend ks (st.set k o)=(lend ks st).set k o:=by apply A2;intro i;rw[Q0,List.getElem?_set,List.getElem?_set,Q0,Rq];grind
theorem yVw(ks:List Nat)(st:St)(os:List Obj)(h:∀k∈ks,k<st.length):lend ks (st++os)=lend ks st++os:=by
 apply A2;intro i;rw[Q0];rcases Bg i st.length with hi|hi
 .rw[Aw hi,Aw (by rw[Rq];exact hi),Q0]
 .rw[AF hi,AF (by rw[Rq];exact hi),Rq];grind
def Ydt(st:St)(k:Nat)(o:Obj)(os:List Obj)(h:k<st.length):(st++os).set k o=st.set k o++os:=BI _ _ h
variable{e:Eff}
theorem Eff.len(h:e.inn f)(E:f.nu=n_):(e.app st).length=st.length:=by
 cases e with
 |lend ks=>exact Rq ks st
 |set k o=>simp[Eff.app]
 |push os=>simp[Eff.inn,E]at h
theorem Eff.comm{e':Eff}(h:e.inn f)(N:e'.inn g)(ae:f.ok g=t_)(hf:∀n,f.nu=s_ n->n=st.length)(hg:∀n,g.nu=s_ n->n=st.length):e.app (e'.app st)=e'.app (e.app st):=by
 obtain⟨o1,o2,o3,o4,o5,o6,o7,o8⟩:=Yfm ae
 have E:∀{m:Option Nat},m.isSome=t_->(∀n,m=s_ n->n=st.length)->m=s_ st.length:=by
  intro m h1 h2
  cases m with
  |none=>cases h1
  |some n=>rw[h2 n rfl]
 cases e with
 |lend ks=>
  cases e' with
  |lend qs=>exact yy ks qs st
  |set k o=>exact yVu ks st k o λhk=>o1 k N (h k hk)
  |push os=>exact yVw ks st os λk hk=>o6 _ (E N hg) k (h _ hk)
 |set k o=>
  cases e' with
  |lend qs=>exact(yVu qs st k o λhk=>o3 k h (N k hk)).symm
  |set k' q=>exact List.set_comm _ _ (λe=>o2 k' N (e▸h))
  |push q=>exact Ydt st k o q (o7 _ (E N hg) _ h)
 |push o=>
  cases e' with
  |lend qs=>exact(yVw qs st o λk hk=>o4 _ (E h hf) k (N _ hk)).symm
  |set k q=>exact(Ydt st k q o (o5 _ (E h hf) _ N)).symm
  |push q=>
   have a:=E h hf;have b:=E N hg;grind
theorem Eff.eq_at(h:e.inn f)(E:∀n,f.nu=s_ n->n=st.length)(N:k∉f.rd)(h2:k∉f.wr)(h3:∀n,f.nu=s_ n->k<n):(e.app st)[k]?=st[k]?:=by
 cases e with
 |lend ks=>
  show(PI.lend ks st)[k]?=_
  rw[Q0];have:k∉ks:=λhk=>N (h k hk);simp[this]
 |set q o=>
  have:q≠k:=λe=>h2 (e▸h);simp[Eff.app,this]
 |push o=>
  have hs:f.nu=s_ st.length:=by
   cases hk:f.nu with
   |none=>simp[Eff.inn,hk]at h
   |some n=>rw[E n hk]
  have:=h3 _ hs
  show(st++o)[k]?=_
  grind
theorem Eff.like_at(h:e.inn f)(E:∀n,f.nu=s_ n->n=st.length)(N:k∉f.wr)(h3:∀n,f.nu=s_ n->k<n):Like st (e.app st) k:=by
 cases e with
 |lend ks=>
  show Like st (PI.lend ks st) k
  unfold Like;rw[Q0];grind
 |set q o=>
  have:q≠k:=λe=>N (e▸h);exact Like.of_eq (by simp[Eff.app,this])
 |push o=>
  have hs:f.nu=s_ st.length:=by
   cases hk:f.nu with
   |none=>simp[Eff.inn,hk]at h
   |some n=>rw[E n hk]
  have:=h3 _ hs;refine Like.of_eq ?_
  show(st++o)[k]?=_
  grind
theorem YFg{ρx ρy:PA->D}{x y:POp}{st1:St}{dx dy:D}(hx:x.exec T ρx st=s_ (dx,st1))(N:x.foot ρx st=s_ f)(hy:y.exec T ρy st1=s_ (dy,st2))(aa:y.foot ρy st1=s_ g)(a2:f.ok g=t_):
  ∃E,y.exec T ρy st=s_ (dy,E)/\y.foot ρy st=s_ g/\x.exec T ρx E=s_ (dx,st2)/\x.foot ρx E=s_ f:=by
 obtain⟨o1,o2,o3,o4,o5,o6,o7,o8⟩:=Yfm a2;obtain⟨e,e1,e2,e3⟩:=ym x N hx;have af:=Yhz N;have a3:=Yhz aa
 have ah:∀n,g.nu=s_ n->n=st.length:=by
  intro n hn;rw[a3 n hn,e2];rcases o8 with c|c
  .exact Eff.len e1 c
  .grind
 have a4:y.foot ρy st=s_ g:=by
  rcases o8 with c|c
  .rw[Wu (st:=st1) y (by rw[e2];exact(Eff.len e1 c).symm)];exact aa
  .exact tO aa c
 obtain⟨q,q1,q2,q3⟩:=ym y aa hy
 have a9:=q3 st (λk hk=>by
   rw[e2];exact(Eff.like_at e1 af (λhw=>o3 k hw hk) (λn hn=>o4 n hn k hk)).symm)
  (λk hk=>by
   rw[e2];exact(Eff.eq_at e1 af (λhr=>o1 k hk hr) (λhw=>o2 k hk hw) (λn hn=>o5 n hn k hk)).symm)
  (λhm=>by
   rw[e2];rcases o8 with c|c
   .exact(Eff.len e1 c).symm
   .grind)
 refine⟨q.app st,a9,a4,?_,?_⟩
 .have:=e3 (q.app st) (λk hk=>Eff.like_at q1 ah (λhw=>o1 k hw hk) (λn hn=>o6 n hn k hk))
   (λk hk=>Eff.eq_at q1 ah (λhr=>o3 k hk hr) (λhw=>o2 k hw hk) (λn hn=>o7 n hn k hk))
   (λhm=>by
    rcases o8 with c|c
    .grind
    .exact Eff.len q1 c)
  rw[this,q2,e2,Eff.comm e1 q1 a2 af ah]
 .rcases o8 with c|c
  .exact tO N c
  .rw[Wu (st:=st) x (Eff.len q1 c)];exact N
def PI.regs(x y:PI):Bool:=
 (match x.dst with
  |some d=>!(y.reads.contains d)&&y.dst !=s_ d
  |none=>t_) &&
 (match y.dst with
  |some d=>!(x.reads.contains d)
  |none=>t_)
variable{y:PI}
theorem yMv{x:PI}(h:x.regs y=t_):(∀t,x.dst=s_ t->t∉y.reads)/\(∀t,x.dst=s_ t->y.dst≠s_ t)/\(∀t,y.dst=s_ t->t∉x.reads):=by simp only[PI.regs,Af]at h;grind
def SY{x:PI}(h:x.apart y=t_):x.regs y=t_:=by simp only[PI.apart,Af]at h;simp only[PI.regs,Af];exact h.1
variable{i:PI}{dst:Option Nat}{fr:Frame}{G:Dy}
theorem yWv(h:∀t,dst=s_ t->t∉i.reads):i.op.foot (DJ G (fr.put dst d)) st=i.op.foot (DJ G fr) st:=by refine Ya7 i.op λx N=>Yd6 λt E hm=>h t E ?_;simp only[PI.reads,AK,Bk];grind
def kH(x y:PI×Option Foot):Prop:=x.1.regs y.1=t_/\(x.1.apart y.1=t_\/∃f g:Foot,x.2=s_ f/\y.2=s_ g/\f.ok g=t_)
def Lb(x y:PI×Option Foot):Prop:=x.1.regs y.1=t_/\(x.1.apart y.1=t_\/∃f g:Foot,x.2=s_ f/\y.2=s_ g/\Vo x.1 y.1 f g=t_)
variable{s s1:PS}
theorem qg{x:PI}(h:x.exec G T s=s_ s1)(hc:x.op.cls<=2):s1.st.length=s.st.length:=by
 rw[PI.exec_eq]at h;simp only[D1]at h;obtain⟨⟨d,st⟩,E,rfl⟩:=h;unfold PI.step at E
 split at E
 .cases E
 .grind
 .obtain⟨ks,rfl⟩:=kJ x.op hc E;exact Rq ks s.st
theorem uR{x:PI}(h:x.exec G T s=s_ s1):∃d,s1.fr=s.fr.put x.dst d:=by rw[PI.exec_eq]at h;simp only[D1]at h;grind
def Tv{s':PS}(E:s'.fr=s.fr.put dst d)(h:∀t,dst=s_ t->t∉i.reads)(N:i.op.foot (DJ G s.fr) s'.st=i.op.foot (DJ G s.fr) s.st):i.foot G s'=i.foot G s:=by unfold PI.foot;rw[E,Rr h,yWv h,N]
theorem YFh{x:PI}{s2:PS}(h:kH (x,x.foot G s) (y,y.foot G s1))(N:x.exec G T s=s_ s1)(E:y.exec G T s1=s_ s2):
  ∃ab,y.exec G T s=s_ ab/\x.exec G T ab=s_ s2/\y.foot G s=y.foot G s1/\x.foot G ab=x.foot G s:=by
 obtain⟨a6,h⟩:=h;dsimp only at a6 h;obtain⟨a1,a2,a3⟩:=yMv a6;rcases h with h|⟨f,g,hf,hg,bg⟩
 .obtain⟨ab,h1,h2⟩:=swap h N E;obtain⟨_,_,_,a4⟩:=lD h;obtain⟨dx,ex⟩:=uR N;obtain⟨dy,ey⟩:=uR h1;refine⟨ab,h1,h2,(Tv ex a1 ?_).symm,Tv ey a3 ?_⟩
  .rcases a4 with c|c|⟨c,_⟩|⟨c,_⟩|c
   .exact Wu _ (qg N zaa)
   .exact qE _ zaa _ _
   .exact Wu _ (qg N c)
   .exact Wu _ (qg N c)
   .exact(yz4 c).2
  .rcases a4 with c|c|⟨c,_⟩|⟨c,_⟩|c
   .exact qE _ zaa _ _
   .exact Wu _ (qg h1 zaa)
   .exact qE _ c _ _
   .exact qE _ c _ _
   .exact(yz4 c).1
 .have a9:y.wanted s1.fr=y.wanted s.fr:=by
   obtain⟨dx,ex⟩:=uR N;rw[ex];exact Rr a1
  rw[PI.exec_eq]at N E;simp only[D1]at N E;obtain⟨⟨dx,stx⟩,N,rfl⟩:=N;obtain⟨⟨dy,ba⟩,E,rfl⟩:=E;simp only at E a9 hg⊢;have a0:∀d,x.wanted (s.fr.put y.dst d)=x.wanted s.fr:=λd=>Rr a3
  have key:∀ac,y.step G T s=s_ (dy,ac)->(∀d,x.step G T {fr:=s.fr.put y.dst d,st:=ac}=s_ (dx,ba))->x.op.foot (DJ G s.fr) ac=x.op.foot (DJ G s.fr) s.st->y.op.foot (DJ G s.fr) stx=y.op.foot (DJ G s.fr) s.st->
    ∃ab,y.exec G T s=s_ ab/\x.exec G T ab=s_ {fr:=(s.fr.put x.dst dx).put y.dst dy,st:=ba}/\y.foot G s=y.foot G {fr:=s.fr.put x.dst dx,st:=stx}/\x.foot G ab=x.foot G s:=by
   intro ac h1 h2 h3 h4;refine⟨{fr:=s.fr.put y.dst dy,st:=ac},by rw[PI.exec_eq,h1];rfl,?_,(Tv (s':={fr:=s.fr.put x.dst dx,st:=stx}) rfl a1 h4).symm,Tv (s':={fr:=s.fr.put y.dst dy,st:=ac}) rfl a3 h3⟩;rw[PI.exec_eq,h2 dy];simp only[Ae];rw[Ww s.fr dx dy a2]
  unfold PI.step at N E;simp only[a9]at E
  cases ad:x.wanted s.fr with
  |none=>simp[ad]at N
  |some bx=>
   cases aa:y.wanted s.fr with
   |none=>simp[aa]at E
   |some by'=>
    cases bx with
    |false=>
     simp only[ad,Dv,D4]at N;obtain⟨rfl,rfl⟩:=N
     cases by' with
     |false=>
      simp only[aa,Dv,D4]at E;obtain⟨rfl,rfl⟩:=E;exact key s.st (by simp[PI.step,aa]) (λd=>by simp[PI.step,a0,ad]) rfl rfl
     |true=>
      simp only[aa]at E;rw[NQ a1]at E;refine⟨{fr:=s.fr.put y.dst dy,st:=ba},by rw[PI.exec_eq];simp[PI.step,aa,E],?_,?_,?_⟩
      .rw[PI.exec_eq];simp only[PI.step,a0,ad,Ae];rw[Ww s.fr _ dy a2]
      .exact(Tv (s':={fr:=s.fr.put x.dst (.tup []),st:=s.st}) rfl a1 rfl).symm
      .unfold PI.foot;grind
    |true=>
     simp only[ad]at N;simp only[PI.foot,ad]at hf
     cases by' with
     |false=>
      simp only[aa,Dv,D4]at E;obtain⟨rfl,rfl⟩:=E;refine⟨{fr:=s.fr.put y.dst (.tup []),st:=s.st},by rw[PI.exec_eq];simp[PI.step,aa],?_,?_,?_⟩
      .rw[PI.exec_eq];simp only[PI.step,a0,ad];rw[NQ a3,N];simp only[Ae];rw[Ww s.fr dx _ a2]
      .unfold PI.foot;grind
      .exact Tv (s':={fr:=s.fr.put y.dst (.tup []),st:=s.st}) rfl a3 rfl
     |true=>
      simp only[aa]at E;rw[NQ a1]at E;simp only[PI.foot,a9,aa]at hg;rw[yWv a1]at hg;obtain⟨be,h1,h2,h3,h4⟩:=YFg N hf E hg bg;exact key be (by simp only[PI.step,aa];exact h1) (λd=>by simp only[PI.step,a0,ad];rw[NQ a3];exact h3) (by rw[h4,hf]) (by rw[hg,h2])
def yFh(E:k∉(Td st st').wr)(N:k<st.length):st'[k]?=st[k]?:=by simp only[Td,AV,AP,N,zal,zan]at E;exact Classical.not_not.1 E
theorem yVt(p:POp)(hl:p.light=t_)(h:p.exec T ρ st=s_ (d,st')):st'=st:=by
 cases p with
 |load n ag x=>simp only[yaU,D1,D4]at h;obtain⟨_,_,_,rfl⟩:=h;rfl
 |slice sz x lo hi E=>simp only[yaU,D1,D4]at h;obtain⟨_,_,_,rfl⟩:=h;rfl
 |fld off x=>simp only[yaU,D1,D4]at h;obtain⟨_,_,_,rfl⟩:=h;rfl
 |idxS sz x i=>simp only[yaU,D1,D4]at h;obtain⟨_,_,_,rfl⟩:=h;rfl
 |idxA n sz x i=>simp only[yaU,D1,D4]at h;obtain⟨_,_,_,rfl⟩:=h;rfl
 |nilc x=>
  simp only[yaU]at h;grind
 |len s x=>
  simp only[yaU]at h
  split at h
  .simp only[D1,D4]at h;obtain⟨_,_,_,rfl⟩:=h;rfl
  .cases h
 |_=>cases hl
def yz6(h:p.light=t_):p.isCall=f_:=by cases p<;>first|rfl|cases h
def Yjr(h:p.isCall=t_):p.foot ρ st=n_:=by cases p<;>first|rfl|cases h
def Ypf(h:p.light=t_)(E:p.foot ρ st=s_ f):f.nu=n_:=by cases p<;>first|(simp only[yaY,Dv]at E;subst E;rfl)|cases h
theorem lO(h:i.foot G s=s_ f):i.footT G T s=s_ f/\(i.op.isCall=t_->Na f=t_):=by
 unfold PI.foot at h;unfold PI.footT
 split at h
 .by_cases hc:i.op.isCall=t_
  .rw[Yjr hc]at h;cases h
  .grind
 .cases h;exact⟨rfl,λ_=>rfl⟩
def yOk(h:i.footT G T s=s_ f)(hc:i.op.isCall=t_->Na f=t_):i.foot G s=s_ f:=by
 unfold PI.footT at h;unfold PI.foot
 split at h
 .split at h
  .rename_i hk
   split at h
   .cases h;have:=hc hk;simp[Na,Td]at this
   .cases h
  .exact h
 .exact h
theorem Qb(hc:i.op.isCall=f_):i.footT G T s=i.foot G s:=by unfold PI.footT PI.foot;grind
def xM(h:∀t,dst=s_ t->t∉i.reads):i.step G T ⟨fr.put dst d,st⟩=i.step G T ⟨fr,st⟩:=by unfold PI.step;simp only[Rr h,NQ h]
theorem kK(h:i.exec G T s=s_ s1):∃d,i.step G T s=s_ (d,s1.st)/\s1=⟨s.fr.put i.dst d,s1.st⟩:=by rw[PI.exec_eq]at h;simp only[D1]at h;grind
def WT(h:i.step G T s=s_ (d,st)):i.exec G T s=s_ ⟨s.fr.put i.dst d,st⟩:=by rw[PI.exec_eq,h];rfl
theorem yNr{x:PI}{dx:D}{N:St}(hl:x.op.light=t_)(E:x.foot G s=s_ f)(h:x.step G T s=s_ (dx,N)):
  N=s.st/\∀st2,(∀k∈f.rd,Like s.st st2 k)->x.step G T ⟨s.fr,st2⟩=s_ (dx,st2)/\x.foot G ⟨s.fr,st2⟩=s_ f:=by
 unfold PI.step at h⊢;unfold PI.foot at E⊢
 cases hw:x.wanted s.fr with
 |none=>simp[hw]at h
 |some b=>
  cases b with
  |false=>
   grind
  |true=>
   simp only[hw]at h E⊢;refine⟨yVt _ hl h,λst2 hk=>?_⟩;obtain⟨e,e1,e2,e3⟩:=ym x.op E h;have hn:=Ypf hl E
   have h3:=e3 st2 hk (λk hk=>by
    have:f.wr=[]:=by
     cases hp:x.op<;>rw[hp]at E hl<;>first|(simp only[yaY,Dv]at E;subst E;rfl)|cases hl
    grind) (λhm=>by rw[hn]at hm;cases hm)
   exact⟨by rw[h3,yVt _ hl h3],tO E hn⟩
theorem Qm(hc:i.op.isCall=t_)(h:i.exec G T s=s_ s1):i.footT G T s=s_ (if i.wanted s.fr=s_ t_ then Td s.st s1.st else PW):=by unfold PI.footT;grind
theorem Xc(h:i.step G T s=s_ (d,st))(E:¬i.wanted s.fr=s_ t_):st=s.st:=by unfold PI.step at h;grind
theorem dC{x:PI}{s2:PS}(h:Lb (x,x.footT G T s) (y,y.footT G T s1))(hx:x.exec G T s=s_ s1)(hy:y.exec G T s1=s_ s2):
  ∃E,y.exec G T s=s_ E/\x.exec G T E=s_ s2/\y.footT G T s=y.footT G T s1/\x.footT G T E=x.footT G T s:=by
 obtain⟨ad,h⟩:=h;dsimp only at ad h;obtain⟨a1,a2,a3⟩:=yMv ad;obtain⟨dx,qx,ex⟩:=kK hx;obtain⟨dy,qy,ey⟩:=kK hy;have b3:y.wanted s1.fr=y.wanted s.fr:=by rw[ex];exact Rr a1
 have b4:y.step G T ⟨s1.fr,s.st⟩=y.step G T s:=by rw[ex];exact xM a1
 rcases h with h|⟨f,g,hf,hg,be⟩
 ·
  obtain⟨E,N,h2,h3,h4⟩:=YFh ⟨ad,.inl h⟩ hx hy;refine⟨E,N,h2,?_,?_⟩
  .by_cases hc:y.op.isCall=t_
   .have b5:x.op.cls=0:=by
     obtain⟨_,_,_,a4⟩:=lD h;have c6:y.op.cls=3/\y.op.push=f_:=by cases hp:y.op<;>rw[hp]at hc<;>first|exact⟨rfl,rfl⟩|cases hc
     rcases a4 with c|c|⟨c1,c2⟩|⟨c1,c2⟩|c
     .exact c
     .omega
     .omega
     .grind
     .rw[(yz5 c).2]at hc;cases hc
    have e1:s1.st=s.st:=by
     by_cases hw:x.wanted s.fr=s_ t_
     .unfold PI.step at qx;rw[hw]at qx;exact(T9 x.op b5 qx).1
     .exact Xc qx hw
    obtain⟨c7,a7,_⟩:=kK h2
    have e2:s2.st=E.st:=by
     by_cases hw:x.wanted E.fr=s_ t_
     .unfold PI.step at a7;rw[hw]at a7;exact(T9 x.op b5 a7).1
     .exact Xc a7 hw
    rw[Qm hc N,Qm hc hy,b3,e1,e2]
   .rw[Qb (by simpa using hc),Qb (by simpa using hc)];exact h3
  .by_cases hc:x.op.isCall=t_
   .have b6:y.op.cls=0:=by
     obtain⟨_,_,_,a4⟩:=lD h;have c8:x.op.cls=3:=by cases hp:x.op<;>rw[hp]at hc<;>first|rfl|cases hc
     rcases a4 with c|c|⟨c1,c2⟩|⟨c1,c2⟩|c
     .omega
     .exact c
     .omega
     .omega
     .rw[(yz5 c).1]at hc;cases hc
    obtain⟨c9,a8,cf⟩:=kK N
    have e1:E.st=s.st:=by
     by_cases hw:y.wanted s.fr=s_ t_
     .unfold PI.step at a8;rw[hw]at a8;exact(T9 y.op b6 a8).1
     .exact Xc a8 hw
    have e2:s2.st=s1.st:=by
     by_cases hw:y.wanted s1.fr=s_ t_
     .unfold PI.step at qy;rw[hw]at qy;exact(T9 y.op b6 qy).1
     .exact Xc qy hw
    have b7:x.wanted E.fr=x.wanted s.fr:=by rw[cf];exact Rr a3
    rw[Qm hc h2,Qm hc hx,b7,e1,e2]
   .rw[Qb (by simpa using hc),Qb (by simpa using hc)];exact h4
 .unfold Vo at be;simp only[A5,Af,AN]at be;rcases be with(⟨⟨N,h2⟩,h3⟩|⟨⟨⟨N,h2⟩,h3⟩,h4⟩)|⟨⟨⟨N,h2⟩,h3⟩,h4⟩
  .have b8:x.foot G s=s_ f:=yOk hf λe=>by rcases h2 with c|c;(rw[c]at e;cases e);exact c
   have b9:y.foot G s1=s_ g:=yOk hg λe=>by rcases h3 with c|c;(rw[c]at e;cases e);exact c
   obtain⟨E,k1,k2,k3,k4⟩:=YFh (x:=x) (y:=y) ⟨ad,.inr ⟨f,g,b8,b9,N⟩⟩ hx hy;exact⟨E,k1,k2,by rw[hg];exact(lO (k3.trans b9)).1,by rw[hf];exact(lO (k4.trans b8)).1⟩
  ·
   have bg:=yz6 h2;rw[Qb bg]at hf;obtain⟨e1,e2⟩:=yNr h2 hf qx;have hq:y.step G T s=s_ (dy,s2.st):=by rw[<-b4,<-e1];exact qy
   have bh:∀k∈f.rd,Like s.st s2.st k:=by
    intro k hk
    by_cases hw:y.wanted s1.fr=s_ t_
    .rw[Qm N hy,zae hw,Dv]at hg;subst hg;rw[<-e1];exact .of_eq (yFh (Y8 h3 k hk) (WX h4 _ rfl k hk))
    .rw[Xc qy hw,e1];exact .of_eq rfl
   obtain⟨m1,m2⟩:=e2 s2.st bh;have a9:x.step G T ⟨s.fr.put y.dst dy,s2.st⟩=s_ (dx,s2.st):=by rw[xM a3];exact m1
   refine⟨⟨s.fr.put y.dst dy,s2.st⟩,WT hq,?_,?_,?_⟩
   .rw[WT a9]
    congr 1
    rw[ey,ex];simp only;rw[Ww s.fr dx dy a2]
   .rw[Qm N (WT hq),Qm N hy,b3,e1]
   .rw[Qb bg,Qb bg,hf];exact(Tv (s:=⟨s.fr,s2.st⟩) (s':=⟨s.fr.put y.dst dy,s2.st⟩) rfl a3 rfl).trans m2
  ·
   have b1:=yz6 h2;rw[Qb b1]at hg;obtain⟨e1,e2⟩:=yNr h2 hg qy
   have bh:∀k∈g.rd,Like s1.st s.st k:=by
    intro k hk
    by_cases hw:x.wanted s.fr=s_ t_
    .rw[Qm N hx,zae hw,Dv]at hf;subst hf;exact(Like.of_eq (yFh (Y8 h3 k hk) (WX h4 _ rfl k hk))).symm
    .rw[Xc qx hw];exact .of_eq rfl
   obtain⟨m1,m2⟩:=e2 s.st bh;rw[b4]at m1;have a9:x.step G T ⟨s.fr.put y.dst dy,s.st⟩=s_ (dx,s1.st):=by rw[xM a3];exact qx
   refine⟨⟨s.fr.put y.dst dy,s.st⟩,WT m1,?_,?_,?_⟩
   .rw[WT a9]
    congr 1
    rw[ey,ex,e1];simp only;rw[Ww s.fr dx dy a2]
   .rw[Qb b1,Qb b1,hg];rw[<-m2,ex];exact(Tv (s:=s) (s':=⟨s.fr.put x.dst dx,s.st⟩) rfl a1 rfl).symm
   .have b7:x.wanted (s.fr.put y.dst dy)=x.wanted s.fr:=Rr a3;rw[Qm N (WT a9),Qm N hx];grind
def Ip(G:Dy)(T:Tbl):List (PI×Option Foot)->PS->PS->Prop
 |[],s,s'=>s'=s
 |a::l,s,s'=>a.1.footT G T s=a.2/\∃s1,a.1.exec G T s=s_ s1/\Ip G T l s1 s'
theorem YG1{G:Dy}{T:Tbl}{i:PI×Option Foot}:∀(l r:List (PI×Option Foot))(s sf:PS),(∀x∈l,Lb x i)->Ip G T (l++i::r) s sf->∃s',i.1.exec G T s=s_ s'/\i.1.footT G T s=i.2/\Ip G T (l++r) s' sf
 |[],r,s,sf,_,h=>by
  obtain⟨E,s1,N,h3⟩:=h;grind
 |x::l,r,s,sf,ha,h=>by
  obtain⟨E,s1,N,h3⟩:=h;obtain⟨s2,h4,h5,h6⟩:=YG1 l r s1 sf (λy hy=>ha y (by simp[hy])) h3;have hp:=ha x zac;have ac:Lb (x.1,x.1.footT G T s) (i.1,i.1.footT G T s1):=by rw[E,h5];exact hp
  obtain⟨ad,k1,k2,k3,k4⟩:=dC ac N h4;exact⟨ad,k1,by rw[k3,h5],by rw[k4,E],s2,k2,h6⟩
theorem oL{x:PI}(h:f.ok g=t_)(E:x.op.isCall=t_->Na f=t_)(N:y.op.isCall=t_->Na g=t_):Vo x y f g=t_:=by
 unfold Vo
 have a1:(!x.op.isCall||Na f)=t_:=by
  grind
 grind
theorem mU{G:Dy}{T:Tbl}:∀(l:List PI)(s sf:PS),Fq G T l s=s_ sf->∃F:List (Option Foot),F.length=l.length/\Ip G T (l.zip F) s sf
 |[],s,sf,h=>by
  simp only[Fq,Dv]at h;exact⟨[],rfl,h.symm⟩
 |i::l,s,sf,h=>by
  simp only[Fq]at h
  split at h
  .rename_i s1 E;obtain⟨F,N,h2⟩:=mU l s1 sf h;exact⟨i.footT G T s::F,by simp[N],rfl,s1,E,h2⟩
  .cases h
theorem yXa{fs:List (Option Foot)}{g:Option Foot}:∀{cs:List Nat},QB fs g cs=t_->∀j∈cs,∃f g':Foot,fs[j]?=s_ (s_ f)/\g=s_ g'/\f.ok g'=t_
 |[],_,j,hj=>by cases hj
 |c::cs,h,j,hj=>by
  simp only[QB,Af]at h;rcases AB.1 hj with rfl|hj
  .have E:=h.1
   cases hf:fs[j]? with
   |none=>rw[hf]at E;cases E
   |some o=>
    rw[hf]at E
    cases o with
    |none=>cases E
    |some f=>
     cases g with
     |none=>cases E
     |some g'=>exact⟨f,g',rfl,rfl,E⟩
  .exact yXa h.2 j hj
theorem ZA{G:Dy}{T:Tbl}:∀(l:List (PI×Bool×List Nat))(fs:List (Option Foot))(s sf:PS),GB G T l fs s=s_ sf->∃F:List (Option Foot),F.length=l.length/\Ip G T ((l.map (·.1)).zip F) s sf/\
   ∀(i:Nat)(q:PI×Bool×List Nat),l[i]?=s_ q->∀j∈q.2.2,∃f g:Foot,F[i]?=s_ (s_ g)/\f.ok g=t_/\(q.1.op.isCall=t_->Na g=t_)/\(fs[j]?=s_ (s_ f)\/(fs.length<=j/\F[j-fs.length]?=s_ (s_ f)/\∀q',l[j-fs.length]?=s_ q'->q'.1.op.isCall=t_->Na f=t_))
 |[],fs,s,sf,h=>by
  simp only[GB,Dv]at h;exact⟨[],rfl,h.symm,λi q N=>by simp at N⟩
 |(i0,b,cs)::l,fs,s,sf,h=>by
  simp only[GB]at h
  split at h
  case isFalse=>cases h
  rename_i ac
  split at h
  .rename_i s1 hs;obtain⟨F,h1,h2,h3⟩:=ZA l _ s1 sf h;refine⟨i0.footT G T s::F,by simp[h1],⟨rfl,s1,hs,h2⟩,?_⟩;intro i q N j hj
   cases i with
   |zero=>
    simp only[Ay,Dv]at N;subst N;obtain⟨f,g',e1,e2,E⟩:=yXa ac j hj;obtain⟨t1,t2⟩:=lO (T:=T) e2;grind
   |succ i=>
    simp only[By]at N;obtain⟨f,g,e1,e2,ae,E⟩:=h3 i q N j hj;refine⟨f,g,by simpa using e1,e2,ae,?_⟩;rcases E with E|⟨E,e4,e5⟩
    .rcases Nat.lt_trichotomy j fs.length with aa|aa|aa
     .grind
     .subst aa;rw[AF (Au _)]at E;simp only[BQ,Ay,Dv]at E
      cases b with
      |false=>simp at E
      |true=>
       have E:i0.foot G s=s_ f:=E;obtain⟨t1,t2⟩:=lO (T:=T) E;grind
     .grind
    .grind
  .cases h
theorem yzy{G:Dy}{T:Tbl}:∀(l:List (PI×Bool×List Nat))(fs:List (PI×Option Foot))(s sf:PS),O0 G T l fs s=s_ sf->∃F:List (Option Foot),F.length=l.length/\Ip G T ((l.map (·.1)).zip F) s sf/\
   ∀(i:Nat)(q:PI×Bool×List Nat),l[i]?=s_ q->∀j∈q.2.2,∃(x:PI)(f g:Foot),F[i]?=s_ (s_ g)/\Vo x q.1 f g=t_/\(fs[j]?=s_ (x,s_ f)\/(fs.length<=j/\F[j-fs.length]?=s_ (s_ f)/\(l[j-fs.length]?).map (·.1)=s_ x))
 |[],fs,s,sf,h=>by
  simp only[O0,Dv]at h;exact⟨[],rfl,h.symm,λi q E=>by simp at E⟩
 |(i0,b,cs)::l,fs,s,sf,h=>by
  simp only[O0]at h
  split at h
  case h_2=>cases h
  rename_i s1 hs
  split at h
  case isFalse=>cases h
  rename_i N;obtain⟨F,h1,h2,h3⟩:=yzy l _ s1 sf h;refine⟨i0.footT G T s::F,by simp[h1],⟨rfl,s1,hs,h2⟩,?_⟩;intro i q E j hj
  cases i with
  |zero=>
   simp only[Ay,Dv]at E;subst E;have aa:=Ad.1 N j hj;unfold R5 at aa;grind
  |succ i=>
   grind
def H4(ms:List Nat)(l:List PI)(i:Nat)(y:PI):List Nat:=(C9 i).filter λj=>!((ms.getD i 0).testBit j)&&!((l.getD j d_).apart y)
def UD(ms:List Nat)(l:List PI):Option (List (PI×Bool×List Nat)):=
 if l.zipIdx.all λyi=>(H4 ms l yi.2 yi.1).all λj=>(l.getD j d_).regs yi.1 then
  s_ (l.zipIdx.map λyi=>(yi.1,(l.zipIdx.map λzj=>H4 ms l zj.2 zj.1).any (λc=>c.contains yi.2),H4 ms l yi.2 yi.1))
 else n_
variable{q:List (PI×Bool×List Nat)}{l:List PI}{ms:List Nat}
theorem lB(h:UD ms l=s_ q):q.length=l.length/\q.map (·.1)=l/\(∀(i:Nat)y,l[i]?=s_ y->∃b,q[i]?=s_ (y,b,H4 ms l i y)/\∀j∈H4 ms l i y,(l.getD j d_).regs y=t_):=by
 unfold UD at h
 split at h
 case isFalse=>cases h
 rename_i E;cases h;refine⟨zac,?_,?_⟩
 .rw[Bf];apply A2;grind
 .intro i y hy;refine⟨(l.zipIdx.map λN=>H4 ms l N.2 N.1).any (λc=>c.contains i),?_,?_⟩
  .grind
  .rw[Ad]at E;have:=E (y,i) (by rw[Ba];exact hy);grind
def Te(ms:List Nat)(l:List PI)(bad:Option (Nat×Nat))(ord:List Nat)(p i:Nat):List Nat:=
 (C9 p).filter λj=>!((ms.getD i 0).testBit (ord.getD j 0))&&!((l.getD (ord.getD j 0) d_).apart (l.getD i d_))&&!(bad==s_ (ord.getD j 0,i))
def QK(ms:List Nat)(l:List PI)(bad:Option (Nat×Nat))(ord:List Nat):Option (List (PI×Bool×List Nat)):=
 if ord.zipIdx.all λip=>(Te ms l bad ord ip.2 ip.1).all λj=>(l.getD (ord.getD j 0) d_).regs (l.getD ip.1 d_)then
  s_ (ord.zipIdx.map λip=>(l.getD ip.1 d_,(ord.zipIdx.map λkq=>Te ms l bad ord kq.2 kq.1).any (λc=>c.contains ip.2),Te ms l bad ord ip.2 ip.1))
 else n_
theorem yTm{bad:Option (Nat×Nat)}{E:List Nat}(h:QK ms l bad E=s_ q):
  q.length=E.length/\q.map (·.1)=E.map (λk=>l.getD k d_)/\(∀(p i:Nat),E[p]?=s_ i->∃b,q[p]?=s_ (l.getD i d_,b,Te ms l bad E p i)/\∀j∈Te ms l bad E p i,(l.getD (E.getD j 0) d_).regs (l.getD i d_)=t_):=by
 unfold QK at h
 split at h
 case isFalse=>cases h
 rename_i N;cases h;refine⟨zac,?_,?_⟩
 .rw[Bf];apply A2;grind
 .intro p i hi;refine⟨(E.zipIdx.map λkq=>Te ms l bad E kq.2 kq.1).any (λc=>c.contains p),?_,?_⟩
  .grind
  .rw[Ad]at N;have:=N (i,p) (by rw[Ba];exact hi);grind
def Yk3(ms:List Nat)(l:List PI):Option (Nat×Nat):=
 match(l.zipIdx.flatMap λyi=>((l.take yi.2).zipIdx.filter λxj=>xj.1.op.push&&yi.1.op.push&&!((ms.getD yi.2 0).testBit xj.2)).map λxj=>(xj.2,yi.2))with
 |[p]=>s_ p
 |_=>n_
def POp.push2:POp->Bool
 |.box _ | .mkslc _ _ _ _ _ | .app _ _ _ _ | .mcall _ _=>t_
 |_=>f_
def yXt(ms:List Nat)(l:List PI):List (Nat×Nat):=
 l.zipIdx.flatMap λyi=>((l.take yi.2).zipIdx.filter λxj=>xj.1.op.push2&&yi.1.op.push2&&!((ms.getD yi.2 0).testBit xj.2)).map λxj=>(xj.2,yi.2)
def N0(ms:List Nat)(m x y:Nat):List Nat:=
 (C9 m).filter (λk=>k<x||(k<y&&(ms.getD y 0).testBit k)||k==y)++(C9 m).filter (λk=>!(k<x||(k<y&&(ms.getD y 0).testBit k)||k==y))
def Qr(m:Nat)(ord:List Nat):Bool:=ord.length==m&&(C9 m).all (λk=>ord.contains k)
def M4(keep:List Nat)(ms:List Nat)(l:List PI)(m:Nat):List (Nat×Nat)->PC
 |[]=>.fail
 |(x,y)::r=>match QK ms l (s_ (x,y)) (C9 m),QK ms l (s_ (y,x)) (N0 ms m x y)with
  |some q1,s_ q2=>if Qr m (N0 ms m x y)&&x !=y&&decide (x<m)&&decide (y<m)then .alt (.any2 keep q1 q2) (M4 keep ms l m r)else M4 keep ms l m r
  |_,_=>M4 keep ms l m r
open Go Go.RowKit
def rZ(n:Nat):Option Nat->Bool
 |some d=>decide (d<n)
 |none=>t_
def Pk(P:Program)(il:List Nat)(n:Nat)(ops:Array Oper)(o:Oper):Option PI:=
 if rZ n o.dst then
  match o.guard with
  |none=>s_ {dst:=o.dst,op:=(DU P il o.op).getD .fail}
  |some (j,want)=>match(ops[j]?).bind (·.dst)with
   |some s=>s_ {dst:=o.dst,op:=(DU P il o.op).getD .fail,guard:=s_ (s,want)}
   |none=>n_
 else n_
def F5(P:Program)(il:List Nat)(n:Nat)(ops:Array Oper):List Oper->Option (List PI)
 |[]=>s_ []
 |o::r=>match Pk P il n ops o,F5 P il n ops r with
  |some a,s_ b=>s_ (a::b)
  |_,_=>n_
def pw(P:Program)(il:List Nat)(n:Nat)(o1 o2:Oper):Option (PI×PI):=match o1.op,o2.op,o1.dst with
 |.buildSlice t len parts,.convert s t' (.tmp d),s_ d1=>match P.underlying t with
  |some (.slice e)=>match P.underlying e with
   |some (.int .u8)=>if s=t/\t'=t/\d=d1/\d1<n/\rZ n o2.dst=t_/\o1.guard=n_/\o2.guard=n_ then
     match DU P il (.buildSlice t len parts)with
     |some p=>s_ ({dst:=s_ d1,op:=p},{dst:=o2.dst,op:=.mov (.s d1)})
     |none=>n_
    else n_
   |_=>n_
  |_=>n_
 |_,_,_=>n_
def LF(P:Program)(il:List Nat)(n:Nat)(ops:Array Oper):List Oper->Option (List PI)
 |[]=>s_ []
 |[o]=>(Pk P il n ops o).map λa=>[a]
 |o1::o2::r=>match pw P il n o1 o2 with
  |some (a,b)=>(LF P il n ops r).map λl=>a::b::l
  |none=>match Pk P il n ops o1,LF P il n ops (o2::r)with
   |some a,s_ l=>s_ (a::l)
   |_,_=>n_
def Yj(il:List Nat)(i:PI):Bool:=match i.op with
 |.icall f _=>il.contains (f+60000000)
 |.callv _ _=>il.contains 60000000
 |_=>f_
def Ywb(P:Program)(n:Nat)(l:List Oper):Option (List Oper×Nat×Nat×Operand):=match l.reverse with
 |o2::o1::rpre=>match o1.op,o2.op,o1.dst with
  |.makeInterface t xo,.panic (.tmp d),s_ d1=>if d=d1/\d1<n/\o1.guard=n_/\o2.guard=n_ then
    match P.underlying t with
    |some (.interface _)=>n_
    |some _=>s_ (rpre.reverse,d1,t,xo)
    |none=>n_
   else n_
  |_,_,_=>n_
 |_=>n_
variable{xo:Operand}{d1 t:Nat}
theorem yYa{P:Program}{n:Nat}{l pre:List Oper}(h:Ywb P n l=s_ (pre,d1,t,xo)):∃o1 o2,l=pre++[o1,o2]/\o1.op=.makeInterface t xo/\o1.dst=s_ d1/\o2.op=.panic (.tmp d1)/\d1<n/\o1.guard=n_/\o2.guard=n_/\
  ∃u,P.underlying t=s_ u/\∀m,u≠.interface m:=by
 unfold Ywb at h
 split at h
 case h_2=>cases h
 rename_i o2 o1 N hl
 split at h
 case h_2=>cases h
 rename_i t' ae d af h1 h2 h3
 split at h
 case isFalse=>cases h
 rename_i hc;obtain⟨rfl,c1,c2,c3⟩:=hc
 split at h
 case h_1=>cases h
 case h_3=>cases h
 rename_i u E hu;cases h;refine⟨o1,o2,?_,h1,h3,h2,c1,c2,c3,u,hu,λm e=>E m e⟩;simp_all
def MF(o:Oper):List Nat:=(o.after.toList.filter (ybs .any)).map (·.on)
def Fb:List Oper->List Nat->List Nat
 |[],acc=>acc
 |o::r,acc=>Fb r (acc++[(MF o).foldl (λm e=>m ||| (1 <<< e) ||| acc.getD e 0) 0])
def rf(ms:List Nat)(l:List PI):Bool:=
 l.zipIdx.all λ(y,i)=>(l.take i).zipIdx.all λ(x,j)=>(ms.getD i 0).testBit j||x.apart y
def Vr:POp->Bool
 |.icall _ _=>t_
 |.callv _ _=>t_
 |_=>f_
def Ps(ms:List Nat)(l:List PI):Bool:=
 l.zipIdx.all λ(y,i)=>!Vr y.op||((C9 l.length).all λj=>(j==i)||(if j<i then(ms.getD i 0).testBit j else(ms.getD j 0).testBit i))
def aC(il:List Nat)(l:List PI):Nat:=(l.takeWhile λi=>!Yj il i).length
def Ru(il:List Nat)(i x:PI):Bool:=il.contains 50000009&&(match i.op with
 |.mov _ | .load _ _ _ | .fld _ _=>t_
 |_=>f_)&&(match i.dst with
 |some d=>!x.reads.contains d
 |none=>f_)
def Yyk(il:List Nat)(ms:List Nat)(l:List PI)(i:Nat):Bool:=decide (i<l.length)&&(C9 l.length).all λj=>(j==i)||(if j<i then(ms.getD i 0).testBit j||Ru il (l.getD j d_) (l.getD i d_)else(ms.getD j 0).testBit i)
def Tj(ms:List Nat)(l:List PI)(i:Nat):List Nat:=((C9 i).filter λj=>!(ms.getD i 0).testBit j).filterMap λj=>(l.getD j d_).dst
def eJ:List Nat->PC->PC
 |[],c=>c
 |ts,c=>.seq (.ops (ts.map λt=>{dst:=s_ t,op:=.mov (.c .junk)})) c
def YAz(il:List Nat)(q:List (PI×Bool×List Nat)):Bool:=il.contains 50000007&&q.any λx=>x.1.op.isCall&&!x.2.2.isEmpty
def jJ(K:Bool)(q:List (PI×Bool×List Nat))(x:PI)(i:Nat)(ts:List Nat):PC:=.alt (if K then .anyK q else .any q) (.seq (.seq (.any (q.take i)) (eJ ts (.opsX [x]))) .fail)
def NL(l:List Oper):Bool:=l.zipIdx.all λ(o,i)=>(MF o).all λe=>decide (e<i)
def Ks:Code->Bool
 |.seq a b=>Ks a&&Ks b
 |.cond _ a b=>Ks a&&Ks b
 |.block _ c=>Ks c
 |.loop c=>Ks c
 |.scope c=>Ks c
 |.rangeFunc _ _ _ _=>f_
 |_=>t_
def GK(P:Program)(il:List Nat)(n:Nat):List (List Nat)->Code->Option (PC×List (List Nat))
 |h,.skip=>s_ (.skip,h)
 |h,.region _ ops draw=>if draw then match F5 P il n ops ops.toList with
  |some l=>
    if P.follows .mixedOrders&&NL ops.toList then
     if rf (Fb ops.toList []) l then s_ (if l.any (Yj il)&&Ps (Fb ops.toList []) l then .opsX l else .ops l,h)else
      match Yk3 (Fb ops.toList []) l with
      |some (x,y)=>match h,QK (Fb ops.toList []) l (s_ (x,y)) (C9 ops.size),QK (Fb ops.toList []) l (s_ (y,x)) (N0 (Fb ops.toList []) ops.size x y)with
       |keep::h',s_ q1,s_ q2=>if Qr ops.size (N0 (Fb ops.toList []) ops.size x y)&&x !=y then s_ (.any2 keep q1 q2,h')else s_ (.fail,h)
       |_,_,_=>s_ (.fail,h)
      |none=>match UD (Fb ops.toList []) l with
       |some q=>if il.contains 70000000&&decide (2<=(yXt (Fb ops.toList []) l).length)then
         match h with
         |keep::h'=>s_ (.alt (.any q) (M4 keep (Fb ops.toList []) l ops.size (yXt (Fb ops.toList []) l)),h')
         |[]=>s_ (.fail,h)
        else if l.any (Yj il)&&Yyk il (Fb ops.toList []) l (aC il l)then s_ (jJ (YAz il q) q (l.getD (aC il l) d_) (aC il l) (Tj (Fb ops.toList []) l (aC il l)),h)
        else s_ (if YAz il q then .anyK q else .any q,h)
       |none=>s_ (.fail,h)
    else s_ (.fail,h)
  |none=>n_
  else match Ywb P n ops.toList with
   |some (pre,d1,t,xo)=>match LF P il n ops pre,Ek xo with
    |some l,s_ x=>s_ (.pan l d1 t x,h)
    |_,_=>s_ (.fail,h)
   |none=>(LF P il n ops ops.toList).map λl=>(if l.any (Yj il)then .opsX l else .ops l,h)
 |h,.seq a b=>match GK P il n h a with
  |some (x,h')=>match GK P il n h' b with
   |some (y,h'')=>s_ (.seq x y,h'')
   |none=>n_
  |none=>n_
 |h,.cond c a b=>match Ek c with
  |some pa=>match GK P il n h a with
   |some (x,h')=>match GK P il n h' b with
    |some (y,h'')=>s_ (.cond pa x y,h'')
    |none=>n_
   |none=>n_
  |none=>n_
 |h,.block id c=>match GK P il n h c with
  |some (x,h')=>s_ (.block id x,h')
  |none=>n_
 |h,.loop c=>match h with
  |keep::h'=>match GK P il n h' c with
   |some (x,h'')=>s_ (if keep.head?=s_ 1000000 then .loopA keep.tail x else .loop keep x,h'')
   |none=>n_
  |[]=>n_
 |h,.rangeFunc g ps a b=>match Ek g with
  |some pa=>match GK P il n h a with
   |some (x,h')=>match GK P il n h' b with
    |some (y,h'')=>if Ks a&&Ks b&&ps.toList.all (λp=>decide (p<n))then s_ (.range pa ps.toList x y,h'')else s_ (.fail,h)
    |none=>n_
   |none=>n_
  |none=>n_
 |h,.scope c=>GK P il n h c
 |h,.label _=>s_ (.skip,h)
 |h,.exit id=>s_ (.exit id,h)
 |h,.ret=>s_ (.ret,h)
 |h,_=>s_ (.fail,h)
def Ry(P:Program):List ResultVar->Option (List PRes)
 |[]=>s_ []
 |.tmp t::r=>(Ry P r).map (.tmp t::·)
 |.cell a t::r=>match ET P t,E9 P t,Ry P r with
  |some n,s_ ag,s_ l=>s_ (.cell a n ag::l)
  |_,_,_=>n_
def IY(P:Program)(il:List Nat)(f:Nat)(hints:List (List Nat)):Option PF:=
 match P.funcs[f]? with
 |some fn=>match fn.body with
  |some c=>match GK P il fn.ntmps hints c,Ry P fn.results.toList with
   |some (pc,_),s_ res=>if fn.name == "runtime.NumGoroutine" then n_ else s_ {code:=pc,res}
   |_,_=>n_
  |none=>n_
 |none=>n_
variable{w w' w1:World}{g g' g1:Ghost}{a:Act}{s s' s1 sf:PS}{i:PI}{o o1 o2:Oper}{ops:Array Oper}{Q:Exit->Act->World->Prop}{d:D}{listed:Array Bool}{is l:List PI}{ms:List Nat}{Z:List (Nat×Option Foot)}{bad:Option (Nat×Nat)}{st st' st1:St}
section
variable{P:Program}{il:List Nat}{G:Dy}{T:Tbl}{base n:Nat}{w0:World}{g0:Ghost}{st0:St}{dl:List Deferred}{r:Option Nat}
def DfOK(w0 w:World):List Deferred->Prop
 |[]=>True
 |d::ds=>(∃D,d={target:=.collected D,args:=#[]}/\w.heap[D]?=s_ (.deferred (s_ []))/\w0.heap[D]?=n_/\∀d'∈ds,d'≠d)/\DfOK w0 w ds
theorem DfOK.mem{w0:World}:∀{ds:List Deferred}{d:Deferred},DfOK w0 w ds->d∈ds->∃D,d={target:=.collected D,args:=#[]}/\w.heap[D]?=s_ (.deferred (s_ []))
 |_::_,d,⟨⟨D,N,h2,_⟩,E⟩,hd=>by
  rcases AB.1 hd with rfl|hd
  .grind
  .exact DfOK.mem E hd
theorem DfOK.mono{w0:World}(h:∀(b:Nat)(o:Go.Obj),w.heap[b]?=s_ o->special o=t_->Kept w' b o):∀{ds:List Deferred},DfOK w0 w ds->DfOK w0 w' ds
 |[],_=>trivial
 |_::_,⟨⟨D,E,N,h3,h4⟩,h5⟩=>⟨⟨D,E,(h D _ N rfl).def',h3,h4⟩,DfOK.mono h h5⟩
structure Rel (G:Dy) (base n:Nat) (w0:World) (g0:Ghost) (st0:St) (dl:List Deferred) (s:PS) (a:Act) (w:World) (g:Ghost):Prop where
 go1:Go1 base w0 g0 st0 w g s.st
 fr:FR w g s.st s.fr a
 gl:GlobOK G w g
 df:∃ds,a.defers=ds++dl/\DfOK w0 w ds
 sz:n<=a.tmps.size
theorem Rel.sr(h:Rel G base n w0 g0 st0 dl s a w g):SR base w g s.st:=h.go1.sr
theorem Rel.go{a':Act}(h:Rel G base n w0 g0 st0 dl s a w g)(E:Go1 base w g s.st w' g' s'.st)(N:FR w' g' s'.st s'.fr a')(hd:a'.defers=a.defers)(hs:n<=a'.tmps.size):Rel G base n w0 g0 st0 dl s' a' w' g':=
 ⟨h.go1.trans E,N,h.gl.mono E.im,(let⟨ds,h1,h2⟩:=h.df;⟨ds,hd.trans h1,h2.mono E.kp⟩),hs⟩
def R(G:Dy)(base n:Nat)(w0:World)(g0:Ghost)(st0:St)(dl:List Deferred)(s:PS)(a:Act)(w:World):Prop:=∃g,Rel G base n w0 g0 st0 dl s a w g
def Wx(a:Act)(dst:Option Tmp)(v:Value):(a.put dst v).tmps.size=a.tmps.size:=by cases dst<;>simp[Act.put]
def Ur(a:Act)(dst:Option Tmp)(v:Value):(a.put dst v).defers=a.defers:=by cases dst<;>rfl
theorem tN(hF:FR w g s.st s.fr a)(E:Pk P il n ops o=s_ i){b:Bool}(N:i.wanted s.fr=s_ b):yaw o (yielded ops a.tmps)=b:=by
 unfold Pk at E
 split at E
 case isFalse=>cases E
 split at E
 .rename_i hg;simp only[Dv]at E;subst E;simp only[PI.wanted,Dv]at N;subst N;simp[yaw,hg]
 .rename_i j want hg
  split at E
  case h_2=>cases E
  rename_i sl ah;simp only[Dv]at E;subst E;simp only[PI.wanted]at N;have hr:=hF sl
  have hy:yielded ops a.tmps j=(match a.tmps[sl]? with|some (.bool b)=>s_ b|_=>n_):=by
   unfold yielded;grind
  simp only[yaw,hg,hy]
  split at N
  .rename_i bb hb;simp only[Dv]at N;subst N;rw[hb]at hr;have hv:=Ok hr
   have a0:sl<a.tmps.size:=by
    rcases Bg sl a.tmps.size with h|h
    .exact h
    .simp[Array.getElem?_eq_none h,undef]at hv
   simp_all
  .rename_i hb;simp only[Dv]at N;subst N;rw[hb]at hr;generalize hv:a.tmps.getD sl undef=v at hr
   cases hr with
   |tup _ vs h1 h2=>
    have h3:vs=[]:=AW h1.symm;subst h3
    have h4:(match a.tmps[sl]? with|some (.bool b)=>s_ b|_=>n_)=(n_:Option Bool):=by
     rcases Bg sl a.tmps.size with h|h
     .simp_all
     .grind
    grind
  .cases N
theorem yTz(N:Pk P il n ops o=s_ i):(DU P il o.op=s_ i.op\/i.op=.fail)/\i.dst=o.dst/\∀t,o.dst=s_ t->t<n:=by
 have aa:∀p,(DU P il o.op).getD .fail=p->DU P il o.op=s_ p\/p=.fail:=by
  intro p E
  cases h:DU P il o.op with
  |none=>rw[h]at E;exact .inr E.symm
  |some q=>rw[h]at E;exact .inl (by rw[<-E];rfl)
 unfold Pk at N
 split at N
 case isFalse=>cases N
 rename_i hd
 have ab:∀t,o.dst=s_ t->t<n:=by
  intro t h;rw[h]at hd;simpa[rZ]using hd
 grind
def yR(hT:TblOK P G T)(hY:YOK P G T.y base w0 g0 st0){K:Act->World->Prop}(hR:R G base n w0 g0 st0 dl s a w)(ht:Pk P il n ops o=s_ i)(E:i.exec G T s=s_ s')
  (hK:∀a' w',R G base n w0 g0 st0 dl s' a' w'->a'.defers=a.defers->K a' w'):if yaw o (yielded ops a.tmps)then o.wpIn (Wr r) 0 P a w K Q else(∀f,o.about P w a.eval=s_ f->(Wr r).fn f)/\K (a.put o.dst undef) w:=by
 obtain⟨g,h⟩:=hR;obtain⟨h1,h2,h3⟩:=yTz ht;have N:∀t,i.dst=s_ t->t<a.tmps.size:=λt e=>AX (h3 t (h2▸e)) h.sz;rw[PI.exec_eq]at E;simp only[D1]at E;obtain⟨⟨d,st'⟩,E,rfl⟩:=E;unfold PI.step at E
 split at E
 .cases E
 .rename_i hw;rw[tN h.fr ht hw];cases E;simp only[Ao,zam];refine⟨λ_ _=>trivial,hK _ _ ⟨g,h.go (Go1.refl h.sr) ?_ (Ur ..) (by rw[Wx];exact h.sz)⟩ (Ur ..)⟩;rw[<-h2];exact h.fr.put N (.tup [] [] rfl (λi d v hh=>by simp at hh))
 .rename_i hw;rw[tN h.fr ht hw];simp only[zaj];have h1:=h1.resolve_right (λe=>by rw[e]at E;simp[yaU]at E);refine Yos hT hY h.go1 h.gl h.fr h1 E ?_;intro v w' g' aa ae;refine hK _ _ ⟨g',h.go aa ?_ (Ur ..) (by rw[Wx];exact h.sz)⟩ (Ur ..);rw[<-h2];exact(h.fr.mono aa.im aa.evo).put N ae
def xN(E:TblOK P G T)(N:YOK P G T.y base w0 g0 st0){K:Act->World->Prop}(hR:R G base n w0 g0 st0 dl s a w)(ht:Pk P il n ops o=s_ i)(hx:i.exec G T s=s_ s')
  (hK:∀a' w',R G base n w0 g0 st0 dl s' a' w'->K a' w'):if yaw o (yielded ops a.tmps)then o.wpIn (Wr r) 0 P a w K Q else(∀f,o.about P w a.eval=s_ f->(Wr r).fn f)/\K (a.put o.dst undef) w:=
 yR E N hR ht hx λa' w' h _=>hK a' w' h
theorem yNq(hT:TblOK P G T)(hY:YOK P G T.y base w0 g0 st0){ops:Array Oper}{Q:Exit->Act->World->Prop}:∀(l:List Oper)(is:List PI)(s s':PS)(a:Act)(w:World),F5 P il n ops l=s_ is->Fq G T is s=s_ s'->R G base n w0 g0 st0 dl s a w->
  (∀a' w',R G base n w0 g0 st0 dl s' a' w'->a'.defers=a.defers->Q .normal a' w')->wpListIn (Wr r) 0 P ops Q l a w
 |[],is,s,s',a,w,E,N,hR,hQ=>by
  simp[F5]at E;subst E;simp[Fq]at N;subst N;exact hQ a w hR rfl
 |o::l,is,s,s',a,w,E,N,hR,hQ=>by
  simp only[F5]at E
  split at E
  .rename_i i ad h1 h2;simp only[Dv]at E;subst E;simp only[Fq]at N
   split at N
   .rename_i s1 ae;exact yR hT hY hR h1 ae λa' w' af ah=>yNq hT hY l ad s1 s' a' w' h2 N af λa2 w2 a0 a1=>hQ a2 w2 a0 (a1.trans ah)
   .cases N
  .cases E
theorem yNp(hT:TblOK P G T)(hY:YOK P G T.y base w0 g0 st0){ops:Array Oper}{rest:List Oper}{Q:Exit->Act->World->Prop}:∀(l:List Oper)(is:List PI)(s s':PS)(a:Act)(w:World),F5 P il n ops l=s_ is->Fq G T is s=s_ s'->R G base n w0 g0 st0 dl s a w->
  (∀a' w',R G base n w0 g0 st0 dl s' a' w'->wpListIn (Wr r) 0 P ops Q rest a' w')->wpListIn (Wr r) 0 P ops Q (l++rest) a w
 |[],is,s,s',a,w,E,N,hR,hQ=>by
  simp[F5]at E;subst E;simp[Fq]at N;subst N;grind
 |o::l,is,s,s',a,w,E,N,hR,hQ=>by
  unfold F5 at E
  split at E
  .rename_i i ad h1 h2;simp only[Dv]at E;subst E;simp only[Fq]at N
   split at N
   .rename_i s1 ae;exact xN hT hY hR h1 ae λa' w' af=>yNp hT hY l ad s1 s' a' w' h2 N af hQ
   .cases N
  .cases E
def yCe{E N:PI}(h:pw P il n o1 o2=s_ (E,N)):∃t e len parts d1 p,o1.op=.buildSlice t len parts/\o2.op=.convert t t (.tmp d1)/\o1.dst=s_ d1/\P.underlying t=s_ (.slice e)/\P.underlying e=s_ (.int .u8)/\d1<n/\(∀x,o2.dst=s_ x->x<n)/\o1.guard=n_/\o2.guard=n_/\
  DU P il (.buildSlice t len parts)=s_ p/\E={dst:=s_ d1,op:=p}/\N={dst:=o2.dst,op:=.mov (.s d1)}:=by
 unfold pw at h
 split at h
 case h_2=>cases h
 rename_i t len parts s t' d d1 h1 h2 h3
 split at h
 case h_2=>cases h
 rename_i e hu
 split at h
 case h_2=>cases h
 rename_i aa
 split at h
 case isFalse=>cases h
 rename_i hc;obtain⟨rfl,rfl,rfl,c1,c2,c3,c4⟩:=hc
 split at h
 case h_2=>cases h
 rename_i p hp;cases h;exact⟨_,e,len,parts,_,p,h1,h2,h3,hu,aa,c1,λx hx=>by rw[hx]at c2;simpa[rZ]using c2,c3,c4,hp,rfl,rfl⟩
theorem yVh{i1 i2:PI}{s2:PS}{K:Act->World->Prop}(hR:R G base n w0 g0 st0 dl s a w)(ht:pw P il n o1 o2=s_ (i1,i2))(N:i1.exec G T s=s_ s1)(E:i2.exec G T s1=s_ s2)
  (hK:∀a' w',R G base n w0 g0 st0 dl s2 a' w'->K a' w'):yaw o1 (yielded ops a.tmps)=t_/\(∀tm,yaw o2 (yielded ops tm)=t_)/\o1.wpIn (Wr r) 0 P a w (λa' w'=>o2.wpIn (Wr r) 0 P a' w' K Q) Q:=by
 obtain⟨g,h⟩:=hR;obtain⟨t,e,len,parts,d1,p,h1,h2,h3,hu,a8,a9,ae,ba,bb,hp,rfl,rfl⟩:=yCe ht;refine⟨by simp[yaw,ba],λtm=>by simp[yaw,bb],?_⟩;rw[PI.exec_eq]at N E;simp only[PI.step,PI.wanted,D1]at N E;obtain⟨⟨d,st'⟩,N,rfl⟩:=N;obtain⟨⟨d',st2⟩,E,rfl⟩:=E;simp only[yaU,Dv,D4]at E;obtain⟨rfl,rfl⟩:=E;obtain⟨b2,b4,bc,ah,aa,ab⟩:=o1;obtain⟨a0,b5,ty2,pos2,after2,guard2⟩:=o2;simp only at h1 h2 h3 ae;subst h1;subst h2;subst h3;have af:d1<a.tmps.size:=AX a9 h.sz
 have hw:=yQq (Q:=Q) (next2:=K) (d1:=d1) (d2:=a0) (ty:=bc) (ty2:=ty2) (pos:=ah) (pos2:=pos2) (after:=aa) (after2:=after2) (guard:=ab) (guard2:=guard2) h.sr h.gl h.fr hp hu a8 af N (λv w' g' ac ad=>by
  refine hK _ _ ⟨g',h.go ac ?_ (by rw[Ur,Ur]) (by rw[Wx,Wx];exact h.sz)⟩;have bd:=(h.fr.mono ac.im ac.evo).put (dst:=s_ d1) (a:=a) (λt e=>by cases e;exact af) ad
  have be:DJ G (s.fr.put (s_ d1) d) (.s d1)=d:=by
   show(if d1=d1 then d else s.fr d1)=d
   grind
  rw[be];exact bd.put (λt e=>by rw[Wx];exact AX (ae t e) h.sz) ad)
 refine W9 (λc e=>by cases e) ?_;refine Oper.wp_mono (λa' w' h'=>?_) hw;exact W9 (λc e=>by cases e) h'
theorem Un(hT:TblOK P G T)(hY:YOK P G T.y base w0 g0 st0){ops:Array Oper}{rest:List Oper}{Q:Exit->Act->World->Prop}:∀(l:List Oper)(is:List PI)(s s':PS)(a:Act)(w:World),LF P il n ops l=s_ is->Fq G T is s=s_ s'->R G base n w0 g0 st0 dl s a w->
  (∀a' w',R G base n w0 g0 st0 dl s' a' w'->wpListIn (Wr r) 0 P ops Q rest a' w')->wpListIn (Wr r) 0 P ops Q (l++rest) a w
 |[],is,s,s',a,w,N,E,hR,hQ=>by
  simp[LF]at N;subst N;simp[Fq]at E;subst E;grind
 |[o],is,s,s',a,w,N,E,hR,hQ=>by
  simp only[LF,D1]at N;obtain⟨i,h1,rfl⟩:=N;exact yNp (il:=il) hT hY [o] [i] s s' a w (by simp[F5,h1]) E hR hQ
 |o1::o2::l,is,s,s',a,w,N,E,hR,hQ=>by
  unfold LF at N
  split at N
  .rename_i i1 i2 hp;simp only[D1]at N;obtain⟨ab,h2,rfl⟩:=N;simp only[Fq]at E
   split at E
   case h_2=>cases E
   rename_i s1 ac
   split at E
   case h_2=>cases E
   rename_i s2 a1;obtain⟨e1,e2,e3⟩:=yVh (r:=r) (ops:=ops) (Q:=Q) (K:=wpListIn (Wr r) 0 P ops Q (l++rest)) hR hp ac a1 (λa' w' ad=>Un hT hY l ab s2 s' a' w' h2 E ad hQ);simp only[Aj,wpListIn,e1,e2,zaj];exact e3
  .split at N
   .rename_i i ab h1 h2;simp only[Dv]at N;subst N;simp only[Fq]at E
    split at E
    .rename_i s1 ac;exact xN hT hY hR h1 ac λa' w' ad=>Un hT hY (o2::l) ab s1 s' a' w' h2 E ad hQ
    .cases E
   .cases N
theorem yA(E:TblOK P G T)(N:YOK P G T.y base w0 g0 st0)(l:List Oper)(is:List PI)(s s':PS)(a:Act)(w:World)(ht:LF P il n ops l=s_ is)(hx:Fq G T is s=s_ s')(hR:R G base n w0 g0 st0 dl s a w)
  (hQ:∀a' w',R G base n w0 g0 st0 dl s' a' w'->Q .normal a' w'):wpListIn (Wr r) 0 P ops Q l a w:=by have:=Un (r:=r) (rest:=[]) E N l is s s' a w ht hx hR hQ;grind
theorem yS(hT:TblOK P G T){K:Act->World->Prop}(hR:R G base n w0 g0 st0 dl s a w)(ht:Pk P il n ops o=s_ i)(hx:i.execX G T s=s_ (t,d,s'))
  (hQ:∀w',R G base n w0 g0 st0 dl s' a w'->Q (.panic (MJ t d)) a w'):yaw o (yielded ops a.tmps)=t_/\o.wpIn (Wr r) 0 P a w K Q:=by
 obtain⟨g,h⟩:=hR;obtain⟨E,h2,h3⟩:=yTz ht;unfold PI.execX at hx
 split at hx
 case h_2=>cases hx
 rename_i hw;refine⟨tN h.fr ht hw,?_⟩;simp only[D1,D4]at hx;obtain⟨⟨t',d',st'⟩,hx,rfl,rfl,rfl⟩:=hx;unfold ybt at hx
 split at hx
 case h_2=>cases hx
 rename_i f ds N
 split at hx
 case h_2=>cases hx
 rename_i sp ah
 have hinv:∃c,o.op=.call c/\∃vs:List Value,ds.length=vs.length/\(∀(i:Nat)d v,ds[i]?=s_ d->vs[i]?=s_ v->RepV w g s.st d v)/\execOp a.eval o=callFunc f vs.toArray:=by
  obtain⟨dst,op,ty,pos,after,guard⟩:=o;rcases E with E|E
  case inr=>rw[E]at N;cases N
  simp only at E;generalize i.op=p at E N;clear ht h3 h2 hw hQ
  cases op with
  |call c=>
   refine⟨c,rfl,?_⟩;simp only[DU]at E
   split at E
   .rename_i b hb;unfold ll at E
    repeat' split at E
    all_goals first|(cases E;done)|(cases E;cases N;done)|(simp only[Dv]at E;subst E;simp[ybm]at N;done)|(simp only[D1]at E;obtain⟨_,_,E⟩:=E;subst E;simp[ybm]at N;done)|skip
   .rename_i f' ab
    split at E
    case h_2=>cases E
    rename_i fn l a7 hl
    split at E
    case isFalse=>
     split at E
     .cases E
     .simp only[Dv]at E;subst E;simp[ybm]at N
    simp only[Dv]at E
    split at E
    .subst E;simp[ybm]at N
    split at E
    .subst E;simp[ybm]at N
    .split at E
     .subst E;simp only[ybm,Dv,D4]at N;obtain⟨rfl,rfl⟩:=N;obtain⟨g1,g2⟩:=Rk (λx pa h'=>Ha (G:=G) h.gl h.fr h') hl;refine⟨c.args.toList.map a.eval,by simpa using g1,g2,?_⟩;simp only[execOp,resolve,ab]
      have:(c.args.toList.map a.eval).toArray=c.args.map a.eval:=by
       grind
      rw[this]
      show(do let d <- (pure {target:=Target.fn (Fn.func f') #[],args:=#[]++c.args.map a.eval}:Sem Deferred);invoke d.target d.args)=_
      simp only[Bv];rfl
     .subst E;simp[ybm]at N
   .rename_i x a8 ab
    split at E
    case h_2=>cases E
    rename_i pa l a0 hl;simp only[Dv]at E;subst E;exact tv (λx pa h'=>Ha (G:=G) h.gl h.fr h') ab a0 hl N
   .cases E
  |_=>
   exfalso;revert E;simp only[DU,sY,pH,ql]
   repeat' split
   all_goals first
    |(intro E;cases E;done)
    |(intro E;cases E;cases N;done)
    |(intro E;simp only[Dv]at E;subst E;simp[ybm]at N;done)
    |(intro E;simp only[D1]at E;obtain⟨_,_,E⟩:=E;subst E;simp[ybm]at N;done)
    |(intro _;contradiction)
 obtain⟨c,e1,vs,g1,g2,g3⟩:=hinv;refine W9 (λc' e=>by rw[e1]at e;cases e) ?_;refine Yas (hT.x f sp ah) h.sr h.gl (ds:=ds) (vs:=vs) hx g1 g2 g3 ?_;intro w' g' ac;exact hQ w' ⟨g',h.go ac (h.fr.mono ac.im ac.evo) rfl h.sz⟩
theorem yB(hT:TblOK P G T)(hY:YOK P G T.y base w0 g0 st0){ops:Array Oper}{Q:Exit->Act->World->Prop}{t:Nat}{d:D}:∀(l:List Oper)(is:List PI)(s s':PS)(a:Act)(w:World),LF P il n ops l=s_ is->Lm G T is s=s_ (t,d,s')->R G base n w0 g0 st0 dl s a w->
  (∀a' w',R G base n w0 g0 st0 dl s' a' w'->Q (.panic (MJ t d)) a' w')->wpListIn (Wr r) 0 P ops Q l a w
 |[],is,s,s',a,w,N,E,hR,hQ=>by
  simp[LF]at N;subst N;simp[Lm]at E
 |[o],is,s,s',a,w,N,E,hR,hQ=>by
  simp only[LF,D1]at N;obtain⟨i,h1,rfl⟩:=N;simp only[Lm]at E
  split at E
  .cases E
  .obtain⟨k1,k2⟩:=yS (r:=r) (ops:=ops) (K:=wpListIn (Wr r) 0 P ops Q []) hT hR h1 E (λw' aa=>hQ a w' aa);simp only[wpListIn,k1,zaj];exact k2
 |o1::o2::l,is,s,s',a,w,N,E,hR,hQ=>by
  unfold LF at N
  split at N
  .rename_i i1 i2 hp;simp only[D1]at N;obtain⟨ae,h2,rfl⟩:=N;simp only[Lm]at E;obtain⟨t',e,len,parts,d1,p,q1,q2,q3,hu,ba,bb,bc,bd,be,ab,rfl,rfl⟩:=yCe hp
   split at E
   case h_2=>
    exfalso;simp only[PI.execX,PI.wanted,D1]at E;obtain⟨r,E,_⟩:=E;unfold ybt at E
    split at E
    case h_2=>cases E
    rename_i f ds a0;simp only[DU]at ab
    repeat' split at ab
    all_goals first|(cases ab;done)|(cases ab;cases a0;done)|(simp only[Dv]at ab;subst ab;simp[ybm]at a0;done)
   rename_i s1 af
   split at E
   case h_2=>
    exfalso;simp[PI.execX,PI.wanted,ybt,ybm]at E
   rename_i s2 a6;obtain⟨e1,e2,e3⟩:=yVh (r:=r) (ops:=ops) (Q:=Q) (K:=wpListIn (Wr r) 0 P ops Q l) hR hp af a6 (λa' w' aa=>yB hT hY l ae s2 s' a' w' h2 E aa hQ);simp only[wpListIn,e1,e2,zaj];exact e3
  .split at N
   .rename_i i ae h1 h2;simp only[Dv]at N;subst N;simp only[Lm]at E
    split at E
    .rename_i s1 af;exact xN hT hY hR h1 af λa' w' aa=>yB hT hY (o2::l) ae s1 s' a' w' h2 E aa hQ
    .obtain⟨k1,k2⟩:=yS (r:=r) (ops:=ops) (K:=wpListIn (Wr r) 0 P ops Q (o2::l)) hT hR h1 E (λw' aa=>hQ a w' aa);simp only[wpListIn,k1,zaj];exact k2
   .cases N
def Yyd{x:PA}(hR:R G base n w0 g0 st0 dl s a w)(h1:o1.op=.makeInterface t xo)(h3:o1.dst=s_ d1)(h2:o2.op=.panic (.tmp d1))(a4:d1<n)
  (ae:o1.guard=n_) (af:o2.guard=n_) {u:TypeDesc} (hu:P.underlying t=s_ u) (bc:∀m,u≠.interface m) (hx:Ek xo=s_ x) (hi:Lz (DJ G s.fr x)=t_)
  (hQ:∀a',R G base n w0 g0 st0 dl ⟨s.fr.set d1 .junk,s.st⟩ a' w->Q (.panic (MJ t (DJ G s.fr x))) a' w):wpListIn (Wr r) 0 P ops Q [o1,o2] a w:=by
 obtain⟨g,h⟩:=hR;have hv:=Ycr (Ha (G:=G) h.gl h.fr hx) hi;have ah:d1<a.tmps.size:=AX a4 h.sz;obtain⟨bb,bd,a0,N,E,a5⟩:=o1;obtain⟨aa,be,ty2,pos2,after2,guard2⟩:=o2;simp only at h1 h2 h3 ae af;subst h1;subst h2;subst h3;subst ae;subst af;have w1:∀tm,yaw ({dst:=s_ d1,op:=.makeInterface t xo,type:=a0,pos:=N,after:=E,guard:=n_}:Oper) (yielded ops tm)=t_:=λtm=>by simp[yaw]
 have w2:∀tm,yaw ({dst:=aa,op:=.panic (.tmp d1),type:=ty2,pos:=pos2,after:=after2,guard:=n_}:Oper) (yielded ops tm)=t_:=λtm=>by simp[yaw]
 simp only[wpListIn,w1,w2,zaj];refine W9 (λc e=>by cases e) ?_;unfold Oper.wp
 have ac:(execOp a.eval {dst:=s_ d1,op:=.makeInterface t xo,type:=a0,pos:=N,after:=E,guard:=n_}).run P w=.ok (.value (.iface t (GX (DJ G s.fr x)))) w:=by
  simp only[execOp,hv,Sem.run_bind,Instr.makeInterface,run_underlying hu,Result.andThen_ok];rfl
 rw[ac,Oper.upon_value];refine W9 (λc e=>by cases e) ?_;unfold Oper.wp
 have a6:(a.put (s_ d1) (.iface t (GX (DJ G s.fr x)))).eval (.tmp d1)=.iface t (GX (DJ G s.fr x)):=by
  simp[Act.eval,Act.put,ah]
 have ad:(execOp (a.put (s_ d1) (.iface t (GX (DJ G s.fr x)))).eval {dst:=aa,op:=.panic (.tmp d1),type:=ty2,pos:=pos2,after:=after2,guard:=n_}).run P w=.halt (.panic (.iface t (GX (DJ G s.fr x)))) w:=by
  simp only[execOp,a6,Sem.run_bind,Instr.panic];rfl
 rw[ad,Oper.upon_panic];refine hQ _ ⟨g,h.go (Go1.refl h.sr) ?_ (Ur ..) (by rw[Wx];exact h.sz)⟩;exact h.fr.put (dst:=s_ d1) (λt e=>by cases e;exact ah) (.junk _)
theorem WD{ops:Array Oper}:∀{l:List Oper}{is:List PI},F5 P il n ops l=s_ is->is.length=l.length/\∀(k:Nat)o,l[k]?=s_ o->∃i,is[k]?=s_ i/\Pk P il n ops o=s_ i
 |[],is,h=>by simp[F5]at h;subst h;exact⟨rfl,λk o h=>by simp at h⟩
 |o::l,is,h=>by
  unfold F5 at h
  split at h
  .rename_i i N h1 E;simp only[Dv]at h;subst h;obtain⟨e1,e2⟩:=WD E;grind
  .cases h
theorem yz3:∀(l:List Oper)(acc:List Nat),∃r,Fb l acc=acc++r
 |[],acc=>⟨[],by simp[Fb]⟩
 |o::l,acc=>by
  obtain⟨r,h⟩:=yz3 l (acc++[(MF o).foldl (λm e=>m ||| (1 <<< e) ||| acc.getD e 0) 0]);exact⟨_,by rw[Fb,h,Al]⟩
theorem yHm(N:List Nat)(j:Nat):∀(l:List Nat)(m:Nat),(l.foldl (λm e=>m ||| (1 <<< e) ||| N.getD e 0) m).testBit j=t_->m.testBit j=t_\/∃e∈l,j=e\/(N.getD e 0).testBit j=t_
 |[],m,h=>.inl h
 |e::l,m,h=>by
  rcases yHm N j l _ h with E|⟨e',E,h2⟩
  .simp only[Nat.testBit_or,A5]at E;rcases E with(E|E)|E
   .grind
   .refine .inr ⟨e,zac,.inl ?_⟩;rw[Nat.one_shiftLeft,Nat.testBit_two_pow]at E;grind
   .grind
  .grind
theorem yG9:∀(l:List Oper)(acc:List Nat)(i j:Nat)(o:Oper),l[i]?=s_ o->((Fb l acc).getD (acc.length+i) 0).testBit j=t_->
  ∃e∈MF o,j=e\/(e<acc.length+i/\((Fb l acc).getD e 0).testBit j=t_)
 |[],acc,i,j,o,h,_=>by simp at h
 |o'::l,acc,i,j,o,h,hb=>by
  cases i with
  |zero=>
   simp only[Ay,Dv]at h;subst h;obtain⟨r,N⟩:=yz3 l (acc++[(MF o').foldl (λm e=>m ||| (1 <<< e) ||| acc.getD e 0) 0]);rw[Fb,N]at hb⊢;rw[BR,Al]at hb;simp only[Am,List.singleton_append,AF (Au _),BQ,Ay,Cq]at hb;rcases yHm acc j _ 0 (by simpa[Am]using hb)with E|⟨e,E,h2⟩
   .simp at E
   .grind
  |succ i=>
   simp only[By]at h;have:=yG9 l (acc++[(MF o').foldl (λm e=>m ||| (1 <<< e) ||| acc.getD e 0) 0]) i j o h;simp only[Ag,List.length_singleton]at this;rw[show acc.length+1+i=acc.length+(i+1) by omega]at this;exact this hb
def OF(ops:List Oper)(listed:Array Bool):Prop:=∀(i:Nat)o,ops[i]?=s_ o->listed.getD i f_=t_->∀e∈MF o,listed.getD e f_=t_
theorem ue{ops:List Oper}(hc:OF ops listed):∀(i:Nat)o,ops[i]?=s_ o->(∀e∈MF o,listed.getD e f_=t_)->∀j,((Fb ops []).getD i 0).testBit j=t_->listed.getD j f_=t_:=by
 intro i
 induction i using Nat.strongRecOn with
 |_ i ih=>
  intro o ho hd j hj;obtain⟨e,he,N⟩:=yG9 ops [] i j o ho (by simpa using hj);rcases N with rfl|⟨N,h2⟩
  .grind
  .simp only[As,Ar]at N;have aa:=hd e he
   cases E:ops[e]? with
   |none=>
    have:ops.length<=e:=BX.1 E;grind
   |some oe=>exact ih e N oe E (hc e oe E aa) j h2
def H9(m:Nat)(listed:Array Bool):List Nat:=(C9 m).filter λi=>!listed.getD i t_
theorem uv(h:rf ms l=t_){i j:Nat}{x y:PI}(N:l[j]?=s_ x)(hy:l[i]?=s_ y)(E:j<i)(hm:(ms.getD i 0).testBit j=f_):x.apart y=t_:=by simp only[rf,Ad]at h;have h1:=h (y,i) (by rw[Ba];exact hy);have h2:=h1 (x,j) (by rw[Ba,BO,zae E];exact N);grind
theorem yAe{p:Nat->Bool}:∀(m i:Nat),i<m->p i=t_->∃l r,(C9 m).filter p=l++i::r/\(∀j∈l,j<i/\p j=t_)/\(C9 m).filter (λj=>p j&&j !=i)=l++r:=by
 intro m i hi E;refine⟨(C9 i).filter p,((List.range' (i+1) (m-(i+1))).filter p),?_,?_,?_⟩
 .have:C9 m=C9 i++(i::List.range' (i+1) (m-(i+1))):=by
   rw[Bp,Bp,<-BZ,show m-(i+1)+1=m-i by omega];have:=List.range'_append_1 (s:=0) (m:=i) (n:=m-i);grind
  grind
 .grind
 .have:C9 m=C9 i++(i::List.range' (i+1) (m-(i+1))):=by
   rw[Bp,Bp,<-BZ,show m-(i+1)+1=m-i by omega];have:=List.range'_append_1 (s:=0) (m:=i) (n:=m-i);grind
  rw[this,List.filter_append,List.filter_cons];simp only[bne_self_eq_false,Bool.and_false,Ao,zam]
  congr 1
  .apply CO;intro j hj;simp only[AP]at hj;have:j≠i:=zaa
   simp[this]
  .apply CO;intro j hj;simp only[List.mem_range'_1]at hj;have:j≠i:=zaa
   simp[this]
theorem wh(hT:TblOK P G T)(hY:YOK P G T.y base w0 g0 st0)(ht:F5 P il n ops ops.toList=s_ is)(a0:NL ops.toList=t_)(E:List Deferred->Prop)(af:Array Bool->PS->Prop)
  (ba:∀(listed:Array Bool)(s:PS)(i:Nat)(o:Oper),listed.size=ops.size->OF ops.toList listed->af listed s->ops.toList[i]?=s_ o->i<ops.size->listed.getD i t_=f_->(∀e∈MF o,listed.getD e f_=t_)->
   (∃s1,(is.getD i d_).exec G T s=s_ s1/\af (listed.setIfInBounds i t_) s1)\/∃t d s1,(is.getD i d_).execX G T s=s_ (t,d,s1)/\∀a' w',R G base n w0 g0 st0 dl s1 a' w'->E a'.defers->Q (.panic (MJ t d)) a' w')
  (a1:∀(listed:Array Bool)(s:PS),H9 ops.size listed=[]->af listed s->∀a' w',R G base n w0 g0 st0 dl s a' w'->E a'.defers->Q .normal a' w'):
  ∀(fuel:Nat)(listed:Array Bool)(s:PS)(a:Act)(w:World),listed.size=ops.size->(H9 ops.size listed).length<=fuel->OF ops.toList listed->af listed s->R G base n w0 g0 st0 dl s a w->E a.defers->
  wpAnyIn (Wr r) 0 P .any ops Q fuel listed a w:=by
 obtain⟨hlen,b1⟩:=WD ht;have cc:is.length=ops.size:=by simpa using hlen
 have ac:∀(listed:Array Bool)(i:Nat),i∈ybu .any ops listed↔i∈H9 ops.size listed/\∀o,ops.toList[i]?=s_ o->∀e∈MF o,listed.getD e f_=t_:=by
  intro listed i;simp only[ybu,H9,AV,AP,Af];constructor
  .rintro⟨N,h2,h3⟩;refine⟨⟨N,h2⟩,λo ho e he=>?_⟩;rw[Ci]at ho;simp only[ho,Ae,Cq]at h3;simp only[MF,AR,AV,Array.mem_toList_iff]at he;obtain⟨ed,⟨h4,h5⟩,rfl⟩:=he;have:=Array.all_eq_true'.1 h3 ed h4;grind
  .rintro⟨⟨N,h2⟩,h3⟩;refine⟨N,h2,?_⟩;have ho:ops.toList[i]?=s_ ops[i]:=by rw[Ci,Bt N]
   rw[Bt N];simp only[Ae,Cq];refine Array.all_eq_true'.2 λed b5=>?_
   by_cases hb:ybs .any ed=t_
   .have:=h3 _ ho ed.on (by simp only[MF,AR,AV,Array.mem_toList_iff];exact⟨ed,⟨b5,hb⟩,rfl⟩);simp[this]
   .simp[hb]
 have bc:∀(listed:Array Bool),H9 ops.size listed≠[]->ybu .any ops listed≠[]:=by
  intro listed b6 hr;obtain⟨i,r,be⟩:=List.exists_cons_of_ne_nil b6;have hi:i∈H9 ops.size listed:=by rw[be];simp
  have ab:i<ops.size/\listed.getD i t_=f_:=by
   simp only[H9,AV,AP,AN]at hi;exact hi
  have ch:∀e,e<i->listed.getD e t_=t_:=by
   intro e he
   by_cases h:listed.getD e t_=t_
   .exact h
   .exfalso;obtain⟨l,r',N,h2,_⟩:=yAe (p:=λi=>!listed.getD i t_) ops.size e zaa (by simpa using h);have h3:l++e::r'=i::r:=by rw[<-N];exact be
    cases l with
    |nil=>simp at h3;omega
    |cons x l=>
     grind
  have:i∈ybu .any ops listed:=by
   rw[ac];refine⟨hi,λo ho e he=>?_⟩
   have c2:e<i:=by
    simp only[NL,Ad]at a0;have N:=a0 (o,i) (by rw[Ba];exact ho);grind
   grind
  grind
 intro fuel
 induction fuel with
 |zero=>
  intro listed s a w a4 hl hc hx hR hE;have h0:H9 ops.size listed=[]:=AW zaa;refine⟨?_,a1 listed s h0 hx a w hR hE⟩;apply List.eq_nil_iff_forall_not_mem.2;grind
 |succ fuel ih=>
  intro listed s a w a4 hl hc hx hR hE;refine⟨λhr=>?_,λi hi=>?_⟩
  .have h0:H9 ops.size listed=[]:=by
    by_cases h:H9 ops.size listed=[]
    .exact h
    .exact absurd hr (bc listed h)
   exact a1 listed s h0 hx a w hR hE
  .obtain⟨bf,b8⟩:=(ac listed i).1 hi
   have ab:i<ops.size/\listed.getD i t_=f_:=by
    simp only[H9,AV,AP,AN]at bf;exact bf
   have ho:ops.toList[i]?=s_ ops[i]:=by rw[Ci,Bt ab.1]
   obtain⟨pi,b9,bg⟩:=b1 i _ ho;have a7:is.getD i d_=pi:=by simp[Am,b9]
   rcases ba listed s i _ a4 hc hx ho ab.1 ab.2 (b8 _ ho)with⟨s1,ae,a8⟩|⟨t,d,s1,ae,a8⟩
   rotate_left
   .rw[a7]at ae;obtain⟨k1,k2⟩:=yS (r:=r) (Q:=Q) (ops:=ops) (K:=wpAnyIn (Wr r) 0 P .any ops Q fuel (listed.setIfInBounds i t_)) hT hR bg ae (λw' a9=>a8 a w' a9 hE);unfold wpOpIn;grind
   rw[a7]at ae
   have b3:∀q,(listed.setIfInBounds i t_).getD q f_=t_↔q=i\/listed.getD q f_=t_:=by
    intro q
    by_cases bh:q=i
    .simp_all
    .rcases Bg q listed.size with h5|h5
     .simp[Array.getD,h5,bh,show ¬i=q by omega]
     .simp[Array.getD,CY.2 h5,bh]
   have ca:=yR (r:=r) (Q:=Q) (ops:=ops) (K:=wpAnyIn (Wr r) 0 P .any ops Q fuel (listed.setIfInBounds i t_)) hT hY hR bg ae (λa' w' a9 cb=>by
    refine ih (listed.setIfInBounds i t_) s1 a' w' (by simp[a4]) ?_ ?_ a8 a9 (by rw[cb];exact hE)
    .obtain⟨l,r,N,h2,h3⟩:=yAe (p:=λi=>!listed.getD i t_) ops.size i ab.1 (by simpa using ab.2)
     have cd:H9 ops.size (listed.setIfInBounds i t_)=l++r:=by
      rw[<-h3];simp only[H9];grind
     have c3:H9 ops.size listed=l++i::r:=N;grind
    .intro k o' hk ah e he;rw[b3]at ah⊢;refine .inr ?_;rcases ah with rfl|ah
     .grind
     .exact hc k o' hk ah e he)
   unfold wpOpIn;grind
def Ylc(hT:TblOK P G T)(hY:YOK P G T.y base w0 g0 st0)(ht:F5 P il n ops ops.toList=s_ is)(ad:NL ops.toList=t_)(E:Array Bool->PS->Prop)
  (ac:∀(listed:Array Bool)(s:PS)(i:Nat)(o:Oper),listed.size=ops.size->OF ops.toList listed->E listed s->ops.toList[i]?=s_ o->i<ops.size->listed.getD i t_=f_->(∀e∈MF o,listed.getD e f_=t_)->
   ∃s1,(is.getD i d_).exec G T s=s_ s1/\E (listed.setIfInBounds i t_) s1)
  (ae:∀(listed:Array Bool)(s:PS),H9 ops.size listed=[]->E listed s->∀a' w',R G base n w0 g0 st0 dl s a' w'->Q .normal a' w'):
  ∀(fuel:Nat)(listed:Array Bool)(s:PS)(a:Act)(w:World),listed.size=ops.size->(H9 ops.size listed).length<=fuel->OF ops.toList listed->E listed s->R G base n w0 g0 st0 dl s a w->
  wpAnyIn (Wr r) 0 P .any ops Q fuel listed a w:=
 λfuel listed s a w N h2 h3 h4 h5=>wh hT hY ht ad (λ_=>True) E (λlisted s i o N h2 h3 h4 h5 h6 h7=>.inl (ac listed s i o N h2 h3 h4 h5 h6 h7)) (λlisted s N h2 a' w' h3 _=>ae listed s N h2 a' w' h3) fuel listed s a w N h2 h3 h4 h5 trivial
theorem Ye6:∀(l m:List Nat),l.Nodup->(∀x∈l,x∈m)->m.length<=l.length->l.Perm m
 |[],m,_,_,h=>by
  grind
 |a::l,m,hn,E,h=>by
  have ha:a∈m:=E a zac;have hp:=List.perm_cons_erase ha;have N:=List.nodup_cons.1 hn
  have ih:=Ye6 l (m.erase a) N.2 (λx hx=>by
   have aa:x∈a::m.erase a:=hp.mem_iff.1 (E x (by simp[hx]));rcases AB.1 aa with e|e
   .grind
   .exact e) (by
   grind)
  grind
def Ix(is:List PI)(Z:List (Nat×Option Foot)):List (PI×Option Foot):=Z.map λz=>(is.getD z.1 d_,z.2)
def G1(listed:Array Bool)(Z:List (Nat×Option Foot)):List (Nat×Option Foot):=Z.filter λz=>!listed.getD z.1 t_
def TI(ms:List Nat)(is:List PI)(m:Nat)(bad:Option (Nat×Nat))(Z:List (Nat×Option Foot)):Prop:=
 (Z.map (·.1)).Nodup/\(∀k,k<m->∃f,(k,f)∈Z)/\
  Z.Pairwise λx y=>(ms.getD y.1 0).testBit x.1=f_->bad≠s_ (x.1,y.1)->Lb (is.getD x.1 d_,x.2) (is.getD y.1 d_,y.2)
theorem yPt{m:Nat}(hZ:TI (Fb ops.toList []) is m bad Z){i:Nat}
  (bf:listed.size=ops.size) (hc:OF ops.toList listed) (hr:Ip G T (Ix is (G1 listed Z)) s sf) (ho:ops.toList[i]?=s_ o) (hi:i<ops.size) (a4:i<m) (bg:listed.getD i t_=f_) (hd:∀e∈MF o,listed.getD e f_=t_)
  (hb:∀j,listed.getD j t_=f_->bad≠s_ (j,i)):∃s1,(is.getD i d_).exec G T s=s_ s1/\Ip G T (Ix is (G1 (listed.setIfInBounds i t_) Z)) s1 sf:=by
 obtain⟨z1,z2,z3⟩:=hZ;obtain⟨f,hf⟩:=z2 i a4
 have a0:(i,f)∈G1 listed Z:=by
  simp only[G1,AV];grind
 obtain⟨l,r,E⟩:=List.append_of_mem a0;have ae:(G1 listed Z).Pairwise λx y=>((Fb ops.toList []).getD y.1 0).testBit x.1=f_->bad≠s_ (x.1,y.1)->Lb (is.getD x.1 d_,x.2) (is.getD y.1 d_,y.2):=z3.filter _;rw[E]at ae
 have aa:∀x∈l,listed.getD x.1 t_=f_:=by
  intro x hx;have:x∈G1 listed Z:=by rw[E];simp[hx]
  simp only[G1,AV,AN]at this;exact this.2
 have ac:∀x∈Ix is l,Lb x (is.getD i d_,f):=by
  intro x hx;simp only[Ix,AR]at hx;obtain⟨z,N,rfl⟩:=hx;have h1:=(List.pairwise_append.1 ae).2.2 z N (i,f) zac;have h2:=aa z N;refine h1 ?_ (hb _ h2)
  cases a5:((Fb ops.toList []).getD i 0).testBit z.1 with
  |false=>rfl
  |true=>
   have h4:=ue hc i _ ho hd z.1 a5;grind
 have a6:Ix is (G1 listed Z)=Ix is l++(is.getD i d_,f)::Ix is r:=by rw[E];simp[Ix]
 rw[a6]at hr;obtain⟨s1,h1,_,h2⟩:=YG1 _ _ s sf ac hr;refine⟨s1,h1,?_⟩;have a7:((G1 listed Z).map (·.1)).Nodup:=List.Nodup.sublist (List.Sublist.map _ (List.filter_sublist ..)) z1;rw[E,A1,Av]at a7
 have af:∀z∈l++r,z.1≠i:=by
  grind
 have ad:G1 (listed.setIfInBounds i t_) Z=l++r:=by
  have e1:G1 (listed.setIfInBounds i t_) Z=(G1 listed Z).filter λz=>z.1 !=i:=by
   simp only[G1,List.filter_filter];apply CO;intro z _
   by_cases ah:z.1=i
   .simp_all
   .rcases Bg z.1 listed.size with h5|h5
    .simp[Array.getD,h5,ah,show ¬i=z.1 from λe=>ah e.symm]
    .grind
  rw[e1,E,List.filter_append,List.filter_cons];simp only[bne_self_eq_false,Ao,zam];rw[B2.2 (λz N=>by simpa using af z (List.mem_append_left _ N)),B2.2 (λz N=>by simpa using af z (List.mem_append_right _ N))]
 rw[ad];simpa[Ix]using h2
def SA(hZ:TI (Fb ops.toList []) is ops.size bad Z){i:Nat}
  (E:listed.size=ops.size) (hc:OF ops.toList listed) (hr:Ip G T (Ix is (G1 listed Z)) s sf) (ho:ops.toList[i]?=s_ o) (hi:i<ops.size) (N:listed.getD i t_=f_) (hd:∀e∈MF o,listed.getD e f_=t_)
  (hb:∀j,listed.getD j t_=f_->bad≠s_ (j,i)):∃s1,(is.getD i d_).exec G T s=s_ s1/\Ip G T (Ix is (G1 (listed.setIfInBounds i t_) Z)) s1 sf:=
 yPt hZ E hc hr ho hi hi N hd hb
theorem qT(E:∀z∈Z,z.1<ops.size)(N:H9 ops.size listed=[]):Ix is (G1 listed Z)=[]:=by
 have:G1 listed Z=[]:=by
  simp only[G1,List.filter_eq_nil_iff,AN];intro z hz hl
  have h1:z.1∈H9 ops.size listed:=by
   simp only[H9,AV,AP];grind
  grind
 rw[this];rfl
theorem Ysv(hT:TblOK P G T)(hY:YOK P G T.y base w0 g0 st0)(ht:F5 P il n ops ops.toList=s_ is)(N:NL ops.toList=t_)(hZ:TI (Fb ops.toList []) is ops.size n_ Z)(aa:∀z∈Z,z.1<ops.size)
   (hQ:∀a' w',R G base n w0 g0 st0 dl sf a' w'->Q .normal a' w') (fuel:Nat) (listed:Array Bool) (s:PS) (a:Act) (w:World) (ab:listed.size=ops.size) (hl:(H9 ops.size listed).length<=fuel) (hc:OF ops.toList listed) (hr:Ip G T (Ix is (G1 listed Z)) s sf) (hR:R G base n w0 g0 st0 dl s a w):
  wpAnyIn (Wr r) 0 P .any ops Q fuel listed a w:=by
 refine Ylc hT hY ht N (λlisted s=>Ip G T (Ix is (G1 listed Z)) s sf) ?_ ?_ fuel listed s a w ab hl hc hr hR
 .intro listed s i o E h2 h3 h4 h5 h6 h7;exact SA hZ E h2 h3 h4 h5 h6 h7 (λj _ h=>by cases h)
 .intro listed s h0 E;rw[qT aa h0]at E;simp only[Ip]at E;grind
theorem yHo:∀(l:List PI)(s:PS){t:Nat}{d:D}{s':PS},Lm G T l s=s_ (t,d,s')->∃i s1,i<l.length/\Fq G T (l.take i) s=s_ s1/\(l.getD i d_).execX G T s1=s_ (t,d,s')
 |[],s,t,d,s',h=>by simp[Lm]at h
 |i::l,s,t,d,s',h=>by
  simp only[Lm]at h
  split at h
  .rename_i s1 E;obtain⟨k,s2,h1,N,h3⟩:=yHo l s1 h;refine⟨k+1,s2,by simp;omega,?_,by simpa using h3⟩;simp only[List.take_succ_cons,Fq,E];exact N
  .exact⟨0,s,zac,rfl,by simpa using h⟩
def Yie{r:Nat×D×PS}(h:i.execX G T s=s_ r):Vr i.op=t_:=by
 unfold PI.execX at h
 split at h
 case h_2=>cases h
 simp only[D1]at h;obtain⟨x,h,_⟩:=h;unfold ybt at h
 split at h
 case h_2=>cases h
 rename_i f ds hc;unfold ybm at hc
 split at hc
 .rename_i e;rw[e];rfl
 .rename_i e;rw[e];rfl
 .cases hc
def Yfd(h:Ps ms l=t_){i:Nat}(hi:i<l.length)(N:Vr (l.getD i d_).op=t_):(∀j,j<i->(ms.getD i 0).testBit j=t_)/\∀j,i<j->j<l.length->(ms.getD j 0).testBit i=t_:=by
 simp only[Ps,Ad]at h;have hg:l[i]?=s_ (l.getD i d_):=by simp[Am,hi]
 have E:=h (l.getD i d_,i) (by rw[Ba];exact hg);simp only[N,Bool.not_true,Bu,Ad,AP,A5,zao]at E;refine⟨λj hj=>?_,λj hj hl=>?_⟩
 .rcases E j zaa with e|e
  .omega
  .rwa [zae hj]at e
 .rcases E j hl with e|e
  .omega
  .rwa [YYN]at e
def yFc{il:List Nat}{x:PI}(h:Ru il i x=t_)(hd:i.dst=s_ t):t∉x.reads:=by simp only[Ru,Af,hd]at h;simpa using h.2
def Yji{il:List Nat}{x:PI}(h:Ru il i x=t_)(N:i.exec G T s=s_ s1):s1.st=s.st/\∀t,i.dst≠s_ t->s1.fr t=s.fr t:=by
 rw[PI.exec_eq]at N;simp only[D1]at N;obtain⟨⟨d,st⟩,E,rfl⟩:=N;refine⟨?_,λt ht=>?_⟩
 .unfold PI.step at E
  split at E
  .cases E
  .simp only[Dv,D4]at E;exact E.2.symm
  .simp only[Ru,Af]at h;have hc:=h.1.2;generalize i.op=p at E hc
   cases p with
   |mov x=>simp only[yaU,Dv,D4]at E;exact E.2.symm
   |load n ag p=>simp only[yaU,D1,D4]at E;obtain⟨_,_,_,E⟩:=E;exact E.symm
   |fld o p=>simp only[yaU,D1,D4]at E;obtain⟨_,_,_,E⟩:=E;exact E.symm
   |_=>cases hc
 .show(s.fr.put i.dst d) t=s.fr t
  cases hd:i.dst with
  |none=>rfl
  |some u=>
   have:t≠u:=λe=>ht (by rw[hd,e]);simp[Frame.put,Frame.set,this]
theorem yUs{il:List Nat}{x:PI}:∀(l:List (PI×Option Foot))(s s1:PS),(∀y∈l,Ru il y.1 x=t_)->Ip G T l s s1->s1.st=s.st/\∀t,(∀y∈l,y.1.dst≠s_ t)->s1.fr t=s.fr t
 |[],s,s1,_,h=>by
  simp only[Ip]at h;subst h;exact⟨rfl,λ_ _=>rfl⟩
 |y::l,s,s1,hc,h=>by
  obtain⟨_,s2,h2,h3⟩:=h;obtain⟨a1,a2⟩:=Yji (hc y zac) h2;obtain⟨b1,b2⟩:=yUs l s2 s1 (λz E=>hc z (by simp[E])) h3;exact⟨b1.trans a1,λt N=>(b2 t λz E=>N z (by simp[E])).trans (a2 t (N y zac))⟩
def ySt{E:PS}(h:∀q∈i.reads,E.fr q=s.fr q)(ac:E.st=s.st)(N:i.execX G T E=s_ (t,d,s')):s'.fr=E.fr/\i.execX G T s=s_ (t,d,⟨s.fr,s'.st⟩):=by
 have hw:i.wanted E.fr=i.wanted s.fr:=by
  unfold PI.wanted
  cases hg:i.guard with
  |none=>rfl
  |some q=>simp only[h q.1 (by simp[PI.reads,hg,H3])]
 have hr:∀x∈i.op.args,DJ G E.fr x=DJ G s.fr x:=λx hm=>by
  cases x with
  |s n=>exact h n (by simp only[PI.reads,AK,Bk];exact .inl ⟨_,hm,by simp[PA.slot]⟩)
  |_=>rfl
 have hc:i.op.callee (DJ G E.fr)=i.op.callee (DJ G s.fr):=by
  unfold ybm;generalize i.op=p at hr
  cases p with
  |icall f args=>exact congrArg (λl=>s_ (f,l)) (Qn λq hq=>hr q hq)
  |callv x args=>
   have e1:=hr x (by simp[yaV]);have e2:args.map (DJ G E.fr)=args.map (DJ G s.fr):=Qn λq hq=>hr q (by simp[yaV,hq]);simp only[e1,e2]
  |_=>rfl
 unfold PI.execX ybt at N⊢;rw[<-hw,<-hc,<-ac]
 split at N
 case h_2=>cases N
 rename_i a0;simp only[D1,D4]at N⊢;obtain⟨⟨t',d',st'⟩,h1,rfl,rfl,rfl⟩:=N;exact⟨rfl,_,h1,rfl,rfl,rfl⟩
theorem yN2:∀(E:List Nat)(s:PS),∃N,Fq G T (E.map λt=>{dst:=s_ t,op:=.mov (.c .junk)}) s=s_ N/\N.st=s.st/\∀t,N.fr t=if t∈E then .junk else s.fr t
 |[],s=>⟨s,rfl,rfl,λ_=>zac⟩
 |a::E,s=>by
  obtain⟨N,h1,h2,h3⟩:=yN2 E ⟨s.fr.put (s_ a) .junk,s.st⟩;refine⟨N,h1,h2,λt=>?_⟩;rw[h3]
  by_cases e:t∈E
  .simp[e]
  .by_cases e2:t=a<;>simp[e,e2,Frame.put,Frame.set]
theorem yPs(hT:TblOK P G T)(hY:YOK P G T.y base w0 g0 st0)(ht:F5 P il n ops ops.toList=s_ is)(a7:NL ops.toList=t_){E:Nat}(cd:E<is.length)(o1:∀j,j<E->((Fb ops.toList []).getD E 0).testBit j=t_\/Ru il (is.getD j d_) (is.getD E d_)=t_)(o2:∀j,E<j->j<is.length->((Fb ops.toList []).getD j 0).testBit E=t_)
  {F:List (Option Foot)} (ce:F.length=E) (cf:∀(i j:Nat),j<i->i<E->((Fb ops.toList []).getD i 0).testBit j=f_->Lb (is.getD j d_,F.getD j n_) (is.getD i d_,F.getD i n_))
    {sj:PS} (hr:Ip G T ((is.take E).zip F) s s1) (hj:sj.st=s1.st/\∀t,sj.fr t=if t∈Tj (Fb ops.toList []) is E then .junk else s1.fr t) (hp:(is.getD E d_).execX G T sj=s_ (t,d,s')) (hQ:∀a' w',R G base n w0 g0 st0 dl s' a' w'->Q (.panic (MJ t d)) a' w') (listed:Array Bool) (a:Act) (w:World) (bb:listed.size=ops.size) (hu:∀i,i<ops.size->listed.getD i t_=f_) (hR:R G base n w0 g0 st0 dl s a w):
  wpAnyIn (Wr r) 0 P .any ops Q ops.size listed a w:=by
 have hlen:=(WD ht).1;have bg:is.length=ops.size:=by simpa using hlen
 let Z:List (Nat×Option Foot):=(C9 E).zip F
 have ad:Z.map (·.1)=C9 E:=by
  show((C9 E).zip F).map (·.1)=_
  rw[List.map_fst_zip (by simp;omega)]
 have a8:∀z∈Z,z.1<E:=λz N=>by
  have:z.1∈Z.map (·.1):=List.mem_map_of_mem N;grind
 have hZ:TI (Fb ops.toList []) is E n_ Z:=by
  refine⟨by rw[ad];exact CS,λk hk=>?_,?_⟩
  .have:k∈Z.map (·.1):=by rw[ad];exact AP.2 hk
   grind
  .show List.Pairwise _ ((C9 E).zip F)
   rw[List.pairwise_iff_getElem];grind
 have a4:Ix is (G1 listed Z)=(is.take E).zip F:=by
  have e:G1 listed Z=Z:=by
   simp only[G1,B2];grind
  rw[e]
  show Ix is ((C9 E).zip F)=_
  unfold Ix;apply A2;intro i;rcases Bg i E with h3|h3
  .rw[Ah (by simp;omega),Ah (by simp;omega)];simp only[List.getElem_map,List.getElem_zip,List.getElem_range,List.getElem_take]
   congr 2
   simp[Am,show i<is.length by omega]
  .rw[Bh (by simp;omega),Bh (by simp;omega)]
 refine wh hT hY ht a7 (λ_=>True) (λlisted s=>(∀j,E<=j->j<ops.size->listed.getD j t_=f_)/\Ip G T (Ix is (G1 listed Z)) s s1) ?_ ?_ ops.size listed s a w bb ?_ ?_ ⟨λj _ hj=>hu j hj,by rw[a4];exact hr⟩ hR trivial
 .rintro listed s i o h1 h2 ⟨h3,a6⟩ h4 h5 h6 h7;rcases Nat.lt_trichotomy i E with hi|hi|hi
  .left
   obtain⟨s2,g1,g2⟩:=yPt hZ h1 h2 a6 h4 h5 hi h6 h7 (λj _ h=>by cases h);refine⟨s2,g1,λj hj bd=>?_,g2⟩;have:=h3 j hj bd;have cg:¬i=j:=zaa
   simp_all
  .right
   subst hi
   have aa:∀z∈G1 listed Z,z.1<i/\((Fb ops.toList []).getD i 0).testBit z.1=f_/\Ru il (is.getD z.1 d_) (is.getD i d_)=t_:=λz N=>by
    simp only[G1,AV,AN]at N;have h8:=a8 z N.1
    have hm:((Fb ops.toList []).getD i 0).testBit z.1=f_:=by
     cases hm:((Fb ops.toList []).getD i 0).testBit z.1 with
     |false=>rfl
     |true=>
      have h9:=ue h2 i o h4 h7 z.1 hm;have a1:z.1<listed.size:=zaa
      simp[Array.getD,a1]at h9 N;rw[h9]at N;exact N.2
    exact⟨h8,hm,(o1 _ h8).resolve_left (by rw[hm];simp)⟩
   obtain⟨c1,c2⟩:=yUs (x:=is.getD i d_) (il:=il) _ s s1 (λy hy=>by
    obtain⟨z,N,rfl⟩:=AR.1 hy;exact(aa z N).2.2) a6
   obtain⟨j1,j2⟩:=hj
   have bf:∀t∈(is.getD i d_).reads,sj.fr t=s.fr t:=λt ht=>by
    rw[j2,zaf,c2]
    .intro y hy hd;obtain⟨z,N,rfl⟩:=AR.1 hy;exact yFc (aa z N).2.2 hd ht
    .intro hm;simp only[Tj,CE,AV,AP,AN]at hm;obtain⟨j,⟨h8,h9⟩,a1⟩:=hm;exact yFc ((o1 j h8).resolve_left (by rw[h9];simp)) a1 ht
   obtain⟨p1,p2⟩:=ySt bf (j1.trans c1) hp;refine⟨t,d,_,p2,λa' w'⟨g,hR⟩_=>hQ a' w' ⟨g,⟨hR.go1,λq=>?_,hR.gl,hR.df,hR.sz⟩⟩⟩;have hq:=hR.fr q;rw[p1,j2]
   by_cases e:q∈Tj (Fb ops.toList []) is i
   .rw[zae e];exact .junk _
   .rw[zaf e,c2 q (λy hy hd=>?_)]
    .exact hq
    .obtain⟨z,N,rfl⟩:=AR.1 hy;obtain⟨k1,k2,k3⟩:=aa z N;apply e;simp only[Tj,CE,AV,AP,AN];exact⟨z.1,⟨k1,k2⟩,hd⟩
  .exfalso;have h8:=ue h2 i o h4 h7 E (o2 i hi zaa);have h9:=h3 E (Au _) zaa;grind
 .rintro listed s h0 ⟨h1,_⟩;exfalso;have h2:=h1 E (Au _) zaa
  have:E∈H9 ops.size listed:=by
   simp only[H9,AV,AP];grind
  grind
 .unfold H9;grind
 .intro i o ho hi;have h1:=(Aa.1 ho).1;have h2:=hu i (by simpa using h1);grind
def Yst(hT:TblOK P G T)(hY:YOK P G T.y base w0 g0 st0)(ht:F5 P il n ops ops.toList=s_ is)(N:NL ops.toList=t_)(ab:rf (Fb ops.toList []) is=t_)(ac:Ps (Fb ops.toList []) is=t_)
     (hx:Lm G T is s=s_ (t,d,s')) (hQ:∀a' w',R G base n w0 g0 st0 dl s' a' w'->Q (.panic (MJ t d)) a' w') (listed:Array Bool) (a:Act) (w:World) (ad:listed.size=ops.size) (hu:∀i,i<ops.size->listed.getD i t_=f_) (hR:R G base n w0 g0 st0 dl s a w):
  wpAnyIn (Wr r) 0 P .any ops Q ops.size listed a w:=by
 obtain⟨i0,s1,E,he,hp⟩:=yHo _ _ hx;have a2:is.length=ops.size:=by simpa using (WD ht).1
 obtain⟨o1,o2⟩:=Yfd ac E (Yie hp);obtain⟨F,hF,hr⟩:=mU _ _ _ he;have af:F.length=i0:=by rw[hF,AJ];omega
 refine yPs hT hY ht N E (λj hj=>.inl (o1 j hj)) o2 af (λi j ah hi hm=>?_) hr ⟨rfl,λt=>(zaf (by
  simp only[Tj,CE,AV,AP,AN];rintro⟨j,⟨h8,h9⟩,_⟩;rw[o1 j h8]at h9;cases h9)).symm⟩ hp hQ listed a w ad hu hR
 have h1:is[j]?=s_ (is.getD j d_):=by simp[Am,show j<is.length by omega]
 have h2:is[i]?=s_ (is.getD i d_):=by simp[Am,show i<is.length by omega]
 have h3:=uv ab h1 h2 ah hm;exact⟨SY h3,.inl h3⟩
def yZl{il:List Nat}{i:Nat}(h:Yyk il ms l i=t_):i<l.length/\(∀j,j<i->(ms.getD i 0).testBit j=t_\/Ru il (l.getD j d_) (l.getD i d_)=t_)/\∀j,i<j->j<l.length->(ms.getD j 0).testBit i=t_:=by
 simp only[Yyk,Af,zan,Ad,AP,A5,zao]at h;obtain⟨hi,E⟩:=h;refine⟨hi,λj hj=>?_,λj hj hl=>?_⟩
 .rcases E j zaa with e|e
  .omega
  .rw[zae hj]at e;simpa using e
 .rcases E j hl with e|e
  .omega
  .rwa [YYN]at e
theorem Ysu(hT:TblOK P G T)(hY:YOK P G T.y base w0 g0 st0)(ht:F5 P il n ops ops.toList=s_ is)(a8:NL ops.toList=t_){x y:Nat}(cb:x≠y)(hx:x<ops.size){Z1 Z2:List (Nat×Option Foot)}(a0:TI (Fb ops.toList []) is ops.size (s_ (x,y)) Z1)(a5:TI (Fb ops.toList []) is ops.size (s_ (y,x)) Z2)
  (a9:∀z∈Z1,z.1<ops.size) (ba:∀z∈Z2,z.1<ops.size)
  {sf1 sf2:PS} (cc:∀a' w',R G base n w0 g0 st0 dl sf1 a' w'->Q .normal a' w') (cd:∀a' w',R G base n w0 g0 st0 dl sf2 a' w'->Q .normal a' w') (fuel:Nat) (listed:Array Bool) (s:PS) (a:Act) (w:World) (bb:listed.size=ops.size) (hl:(H9 ops.size listed).length<=fuel) (hc:OF ops.toList listed)
  (bc:listed.getD x t_=f_) (bd:listed.getD y t_=f_) (be:Ip G T (Ix is (G1 listed Z1)) s sf1) (bf:Ip G T (Ix is (G1 listed Z2)) s sf2) (hR:R G base n w0 g0 st0 dl s a w):
  wpAnyIn (Wr r) 0 P .any ops Q fuel listed a w:=by
 refine Ylc hT hY ht a8 (λlisted s=>(listed.getD x t_=f_/\listed.getD y t_=f_/\Ip G T (Ix is (G1 listed Z1)) s sf1/\Ip G T (Ix is (G1 listed Z2)) s sf2)\/
  ((listed.getD x t_=t_\/listed.getD y t_=t_)/\Ip G T (Ix is (G1 listed Z1)) s sf1)\/((listed.getD x t_=t_\/listed.getD y t_=t_)/\Ip G T (Ix is (G1 listed Z2)) s sf2)) ?_ ?_ fuel listed s a w bb hl hc (.inl ⟨bc,bd,be,bf⟩) hR
 .intro listed s i o N h2 h3 h4 h5 h6 h7
  have b9:∀q,q≠i->(listed.setIfInBounds i t_).getD q t_=listed.getD q t_:=by
   intro q hq;rcases Bg q listed.size with h|h
   .simp[Array.getD,h,show ¬i=q from λe=>hq e.symm]
   .grind
  have b2:(listed.setIfInBounds i t_).getD i t_=t_:=by
   simp_all
  have b3:∀q,listed.getD q t_=t_->(listed.setIfInBounds i t_).getD q t_=t_:=by
   grind
  rcases h3 with⟨a1,E,a3,a4⟩|⟨a1,E⟩|⟨a1,E⟩
  .by_cases ey:i=y
   .obtain⟨s1,k1,k2⟩:=SA a5 N h2 a4 h4 h5 h6 h7 (λj _ h=>by
     grind)
    grind
   .by_cases ex:i=x
    .obtain⟨s1,k1,k2⟩:=SA a0 N h2 a3 h4 h5 h6 h7 (λj _ h=>by
      grind)
     grind
    .obtain⟨s1,k1,k2⟩:=SA a0 N h2 a3 h4 h5 h6 h7 (λj _ h=>by
      grind)
     obtain⟨ce,k3,k4⟩:=SA a5 N h2 a4 h4 h5 h6 h7 (λj _ h=>by
      grind)
     grind
  .obtain⟨s1,k1,k2⟩:=SA a0 N h2 E h4 h5 h6 h7 (λj hj h=>by
    grind)
   grind
  .obtain⟨s1,k1,k2⟩:=SA a5 N h2 E h4 h5 h6 h7 (λj hj h=>by
    grind)
   grind
 .intro listed s h0 N
  have cf:listed.getD x t_=t_:=by
   cases h:listed.getD x t_ with
   |true=>rfl
   |false=>
    have N:x∈H9 ops.size listed:=by
     simp only[H9,AV,AP];grind
    grind
  rcases N with⟨a1,_⟩|⟨_,E⟩|⟨_,E⟩
  .grind
  .rw[qT a9 h0]at E;simp only[Ip]at E;grind
  .rw[qT ba h0]at E;simp only[Ip]at E;grind
structure GoX (l:Nat) (base:Nat) (w:World) (g:Ghost) (st:St) (w':World) (g':Ghost) (st':St):Prop where
 sr:SR base w' g' st'
 evo:Evo g st g' st'
 im:ImLe w g w' g'
 new:∀b o,g'.Im b o->g.Im b o\/base<=b
 below:Below base w w'
 kp:∀(b:Nat)(o:Go.Obj),b≠l->w.heap[b]?=s_ o->special o=t_->Kept w' b o
theorem Go1.x(h:Go1 base w g st w' g' st')(l:Nat):GoX l base w g st w' g' st':=⟨h.sr,h.evo,h.im,h.new,h.below,λb o _=>h.kp b o⟩
theorem GoX.trans{l:Nat}{w2:World}{g2:Ghost}{st2:St}(h:GoX l base w g st w1 g1 st1)(E:GoX l base w1 g1 st1 w2 g2 st2):GoX l base w g st w2 g2 st2:=
 ⟨E.sr,h.evo.trans E.evo,h.im.trans E.im,λb o hb=>by
  rcases E.new b o hb with x|x
  .exact h.new b o x
  .exact .inr x,h.below.trans E.below,λb o hl hb N=>(let⟨_,h1,h2⟩:=h.kp b o hl hb N;let⟨o2,h3,h4⟩:=E.kp b _ hl h1 (h2.special N);⟨o2,h3,h2.trans h4⟩)⟩
theorem GoX.fin{l:Nat}(h:GoX l base w g st w' g' st')(hl:∀(o:Go.Obj),w.heap[l]?=s_ o->special o=t_->Kept w' l o):Go1 base w g st w' g' st':=
 ⟨h.sr,h.evo,h.im,h.new,h.below,λb o hb E=>by
  by_cases e:b=l
  .grind
  .exact h.kp b o e hb E⟩
theorem GoX.put{l:Nat}{o o':Go.Obj}(N:SR base w g st)(ho:w.heap[l]?=s_ o)(hs:special o=t_)(a6:∃ds,o=.deferred ds)(hl:base<=l):GoX l base w g st (w.putObj l o') g st:=by
 have aa:∀b x,g.Im b x->(w.putObj l o').cell? ⟨b,x,n_⟩=w.cell? ⟨b,x,n_⟩:=by
  intro b x hb
  have E:b≠l:=by
   rintro rfl;have:=N.im b x hb;unfold World.cell? at this;grind
  simp only[World.cell?,ybv E]
 have hI:ImLe w g (w.putObj l o') g:=⟨λb x hb=>⟨hb,aa b x hb⟩,λb x hb hx=>by
  have E:b≠l:=by
   rintro rfl;rw[ho]at hb;obtain rfl:=At hb;cases o<;>first|(simp[Nl]at hx;done)|(simp[special]at hs;done)
  rw[ybv E];exact hb⟩
 refine⟨⟨?_,?_,N.inj,?_,N.dis,by rw[ybw];exact N.size⟩,Evo.refl _ _,hI,λ_ _ h=>.inl h,⟨rfl,rfl,rfl,by rw[ybw];exact Au _,λk hk=>ybv zaa⟩,λb o1 hb h1 _=>.same (by rw[ybv hb];exact h1)⟩
 .intro k ob hk hm;have hm:=N.mp k ob hk hm;refine hm.mono hI (Evo.refl _ _) rfl (ybv ?_);rintro rfl;obtain⟨x,hb,_,_,_,h5,_⟩:=hm.at;grind
 .intro k ob hk hm;obtain⟨C,e,hb,ab,ah,hx,hC,a0⟩:=N.blk k ob hk hm
  have E:g.β k≠l:=by
   grind
  refine⟨C,e,by rw[ybv E];exact hb,ab,ah,hx,hC,λi j d hd=>?_⟩;obtain⟨h1,v,h2,h3⟩:=a0 i j d hd;exact⟨h1,v,h2,h3.mono hI (Evo.refl _ _)⟩
 .intro b x hb;rw[aa b x hb];exact N.im b x hb
theorem YOK.mono{y:Nat->zsF}(h:YOK P G y base w0 g0 st0)(N:Go1 base w0 g0 st0 w1 g1 st1):YOK P G y base w1 g1 st1:=
 λl w g st st' ds vs d E=>h l w g st st' ds vs d (N.trans E)
theorem Ydu{x:List Deferred}{w:World}{g:Ghost}{st:St}:∀(ps:List Nat)(ds:List D)(vs:List Value)(fr:Frame)(tmps:Array Value),ds.length=ps.length->ds.length=vs.length->(∀p∈ps,p<tmps.size)->FR w g st fr {tmps:=tmps,defers:=x}->
  (∀(i:Nat)d v,ds[i]?=s_ d->vs[i]?=s_ v->RepV w g st d v)->
  FR w g st (K0 fr ps ds) {tmps:=(ps.zip vs).foldl (λtmps p=>tmps.setIfInBounds p.1 p.2) tmps,defers:=x}
 |[],ds,vs,fr,tmps,E,N,_,hF,_=>by
  simp only[List.zip_nil_left,List.foldl_nil]
  cases ds with
  |nil=>exact hF
  |cons d ds=>simp at E
 |p::ps,ds,vs,fr,tmps,E,N,hp,hF,hr=>by
  cases ds with
  |nil=>simp at E
  |cons d ds=>
   cases vs with
   |nil=>simp at N
   |cons v vs=>
    simp only[List.zip_cons_cons,List.foldl_cons,K0];refine Ydu ps ds vs _ _ (by simpa using E) (by simpa using N) (λq hq=>?_) ?_ (λi d v hd hv=>hr (i+1) d v (by simpa using hd) (by simpa using hv))
    .grind
    .exact FR.put (dst:=s_ p) (a:={tmps:=tmps,defers:=x}) hF (λt ht=>by cases ht;exact hp p zac) (hr 0 d v rfl rfl)
theorem yu5:∀(l:List (Nat×Value))(tmps:Array Value),(l.foldl (λtmps p=>tmps.setIfInBounds p.1 p.2) tmps).size=tmps.size
 |[],_=>rfl
 |p::l,tmps=>by rw[List.foldl_cons,yu5 l];simp
theorem R.drew(h:R G base n w0 g0 st0 dl s a w):R G base n w0 g0 st0 dl s a {w with drawn:=w.drawn+1}:=by obtain⟨g,h⟩:=h;have E:=h.sr.drew (w.drawn+1);exact⟨g,h.go E (h.fr.mono E.im E.evo) rfl h.sz⟩
