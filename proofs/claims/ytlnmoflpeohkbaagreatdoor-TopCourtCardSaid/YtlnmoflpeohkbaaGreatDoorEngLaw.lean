/-
  From the arguments of a law, as their types allow them, to plain data.
  Conditions: none; these are definitions and lemmas.
-/
import Derived.Test.YtlnmoflpeohkbaaGreatDoorEngW
import Derived.Laws.Cover3
import Derived.RecoverIn
open Inhabited renaming default->d_
open Bool renaming false->f_,true->t_
open Option renaming some->s_,none->n_
open Array renaming replicate->Dc
open BitVec renaming ofInt->C8
open List renaming replicate->C7
open UInt64 renaming ofNat->Dq
open UInt8 renaming ofNat->De
set_option maxHeartbeats 8000000
set_option maxRecDepth 20000
set_option linter.unusedSimpArgs false
set_option linter.unusedVariables false
set_option linter.defProp false
noncomputable section
namespace Go.Proofs.YtlnmoflpeohkbaaGreatDoor.PI
open Go
open D renaming cells->yaZ,int->yaW,isCell->yaa
open Go.Instr renaming typeAssert->ya0
open Go.IntKind renaming bits->yac,max->ya2,min->ya1,signed->ya3
open PC renaming exec->yaX
open POp renaming args->yaV,exec->yaU,foot->yaY
open Go.Result renaming andThen_ok->yaz
class Cont (α:Type):Type where
 mk::
 run:α->Prop
class Cont2 (α β:Type):Type where
 mk::
 run:α->β->Prop
class QC:Type where
 mk::
 run:Ex->Frame->St->Prop
class InvC:Type where
 mk::
 run:PS->Prop
class Br:Type where
 mk::
 run:Prop
def on{α:Type}(o:Option α)[k:Cont α]:Prop:=match o with
 |some a=>k.run a
 |none=>False
variable{α:Type}
theorem Yfk(a:α)(K:α->Prop):@on α (s_ a) ⟨K⟩=K a:=(rfl)
theorem Yyn(k:Cont α):@on α n_ k=False:=(rfl)
def Yh(d:D)[k:Cont Bool]:Prop:=match d with
 |.bool b=>k.run b
 |_=>False
theorem Yow(b:Bool)(K:Bool->Prop):@Yh (.bool b) ⟨K⟩=K b:=(rfl)
def Ib(b:Bool)[x:Br][y:Br]:Prop:=if b=t_ then x.run else y.run
theorem Yqh(x:Prop)(y:Br):@Ib t_ ⟨x⟩ y=x:=(rfl)
theorem Yhh(x:Br)(y:Prop):@Ib f_ x ⟨y⟩=y:=(rfl)
def YAi(b:Bool)(x y:Br):@Ib (!b) x y=@Ib b y x:=by cases b<;>rfl
variable{y:Prop}
def yp{b:Bool}{x:Prop}(E:b=t_->x)(N:b=f_->y):@Ib b ⟨x⟩ ⟨y⟩:=by
 cases b
 .exact N rfl
 .exact E rfl
def Fm{p:Prop}[Decidable p]{x:Prop}(E:p->x)(N:¬p->y):@Ib (decide p) ⟨x⟩ ⟨y⟩:=by
 by_cases h:p
 .rw[show decide p=t_ by simpa using h];exact E h
 .rw[show decide p=f_ by simpa using h];exact N h
def ev(d:D)[k:Cont D]:Prop:=k.run d
theorem iY(d:D)(K:D->Prop):@ev d ⟨K⟩=K d:=(rfl)
def TE(d:D)(st:St)[k:Cont2 D St]:Prop:=k.run d st
theorem YKf(d:D)(st:St)(K:D->St->Prop):@TE d st ⟨K⟩=K d st:=(rfl)
def FJ(T:Tbl)(op:POp)(ρ:PA->D)(st:St)(K:D->St->Prop):Prop:=@on _ (op.exec T ρ st) ⟨λp=>K p.1 p.2⟩
def kG(fr:Frame)(g:Option (Nat×Bool))(x y:Prop):Prop:=match g with
 |none=>x
 |some (s,want)=>match fr s with
  |.bool b=>@Ib (b==want) ⟨x⟩ ⟨y⟩
  |.tup []=>y
  |_=>False
def Gw(G:Dy)(T:Tbl):List PI->Frame->St->(Frame->St->Prop)->Prop
 |[],fr,st,K=>K fr st
 |i::l,fr,st,K=>kG fr i.guard (FJ T i.op (DJ G fr) st λd st'=>Gw G T l (fr.put i.dst d) st' K) (Gw G T l (fr.put i.dst (.tup [])) st K)
theorem W1{G:Dy}{T:Tbl}:∀(l:List PI)(fr:Frame)(st:St)(K:Frame->St->Prop),Gw G T l fr st K->∃E st',Fq G T l ⟨fr,st⟩=s_ ⟨E,st'⟩/\K E st'
 |[],fr,st,K,h=>⟨fr,st,rfl,h⟩
 |i::l,fr,st,K,h=>by
  have yes:FJ T i.op (DJ G fr) st (λd st'=>Gw G T l (fr.put i.dst d) st' K)->i.wanted fr=s_ t_->∃E st',Fq G T (i::l) ⟨fr,st⟩=s_ ⟨E,st'⟩/\K E st':=by
   intro h hw;unfold FJ on at h
   split at h
   .rename_i p hp;obtain⟨E,st',h1,h2⟩:=W1 l _ _ K h;exact⟨E,st',by simp only[Fq,PI.exec,hw,hp,h1],h2⟩
   .exact h.elim
  have no:Gw G T l (fr.put i.dst (.tup [])) st K->i.wanted fr=s_ f_->∃E st',Fq G T (i::l) ⟨fr,st⟩=s_ ⟨E,st'⟩/\K E st':=by
   intro h hw;obtain⟨E,st',h1,h2⟩:=W1 l _ _ K h;exact⟨E,st',by simp only[Fq,PI.exec,hw,h1],h2⟩
  rw[Gw]at h;unfold kG at h
  split at h
  .rename_i N;exact yes h (by simp[PI.wanted,N])
  .rename_i s want N
   split at h
   .rename_i b hb;have hw:i.wanted fr=s_ (b==want):=by simp[PI.wanted,N,hb]
    cases aa:(b==want)with
    |true=>rw[aa]at h hw;exact yes h hw
    |false=>rw[aa]at h hw;exact no h hw
   .rename_i hb;exact no h (by simp[PI.wanted,N,hb])
   .exact h.elim
def KC(T:Tbl)(op:POp)(ρ:PA->D)(st:St)(K:D->St->Prop)(X:Nat->D->St->Prop):Prop:=match op.exec T ρ st with
 |some p=>K p.1 p.2
 |none=>match op.execX T ρ st with
  |some r=>X r.1 r.2.1 r.2.2
  |none=>False
def Ot(G:Dy)(T:Tbl):List PI->Frame->St->(Frame->St->Prop)->(Nat->D->Frame->St->Prop)->Prop
 |[],fr,st,K,_=>K fr st
 |i::l,fr,st,K,X=>kG fr i.guard (KC T i.op (DJ G fr) st (λd st'=>Ot G T l (fr.put i.dst d) st' K X) (λt d st'=>X t d fr st')) (Ot G T l (fr.put i.dst (.tup [])) st K X)
theorem uc{G:Dy}{T:Tbl}:∀(l:List PI)(fr:Frame)(st:St)(K:Frame->St->Prop)(X:Nat->D->Frame->St->Prop),Ot G T l fr st K X->
  (∃E st',Fq G T l ⟨fr,st⟩=s_ ⟨E,st'⟩/\K E st')\/∃t d E st',Fq G T l ⟨fr,st⟩=n_/\Lm G T l ⟨fr,st⟩=s_ (t,d,⟨E,st'⟩)/\X t d E st'
 |[],fr,st,K,X,h=>.inl ⟨fr,st,rfl,h⟩
 |i::l,fr,st,K,X,h=>by
  have yes:KC T i.op (DJ G fr) st (λd st'=>Ot G T l (fr.put i.dst d) st' K X) (λt d st'=>X t d fr st')->i.wanted fr=s_ t_->
    (∃E st',Fq G T (i::l) ⟨fr,st⟩=s_ ⟨E,st'⟩/\K E st')\/∃t d E st',Fq G T (i::l) ⟨fr,st⟩=n_/\Lm G T (i::l) ⟨fr,st⟩=s_ (t,d,⟨E,st'⟩)/\X t d E st':=by
   intro h hw;unfold KC at h
   split at h
   .rename_i p hp;rcases uc l _ _ K X h with⟨E,st',N,h2⟩|⟨t,d,E,st',N,h2,h3⟩
    .exact .inl ⟨E,st',by simp only[Fq,PI.exec,hw,hp,N],h2⟩
    .exact .inr ⟨t,d,E,st',by simp only[Fq,PI.exec,hw,hp,N],by simp only[Lm,PI.exec,hw,hp,h2],h3⟩
   .rename_i hn
    split at h
    .rename_i r hr;exact .inr ⟨r.1,r.2.1,fr,r.2.2,by simp only[Fq,PI.exec,hw,hn],by simp only[Lm,PI.exec,PI.execX,hw,hn,hr,Ae],h⟩
    .exact h.elim
  have no:Ot G T l (fr.put i.dst (.tup [])) st K X->i.wanted fr=s_ f_->
    (∃E st',Fq G T (i::l) ⟨fr,st⟩=s_ ⟨E,st'⟩/\K E st')\/∃t d E st',Fq G T (i::l) ⟨fr,st⟩=n_/\Lm G T (i::l) ⟨fr,st⟩=s_ (t,d,⟨E,st'⟩)/\X t d E st':=by
   intro h hw;rcases uc l _ _ K X h with⟨E,st',N,h2⟩|⟨t,d,E,st',N,h2,h3⟩
   .exact .inl ⟨E,st',by simp only[Fq,PI.exec,hw,N],h2⟩
   .exact .inr ⟨t,d,E,st',by simp only[Fq,PI.exec,hw,N],by simp only[Lm,PI.exec,hw,h2],h3⟩
  rw[Ot]at h;unfold kG at h
  split at h
  .rename_i hg;exact yes h (by simp[PI.wanted,hg])
  .rename_i s want hg
   split at h
   .rename_i b hb;have hw:i.wanted fr=s_ (b==want):=by simp[PI.wanted,hg,hb]
    cases ac:(b==want)with
    |true=>rw[ac]at h hw;exact yes h hw
    |false=>rw[ac]at h hw;exact no h hw
   .rename_i hb;exact no h (by simp[PI.wanted,hg,hb])
   .exact h.elim
variable{X:Nat->D->St->Prop}{st:St}{T:Tbl}
theorem Yg2{op:POp}{ρ:PA->D}{K E:D->St->Prop}{N:Nat->D->St->Prop}(h:KC T op ρ st K X)(hk:∀d st,K d st->E d st)(hx:∀t d st,X t d st->N t d st):KC T op ρ st E N:=by unfold KC at h⊢;grind
variable{fr:Frame}
theorem Yz4{g:Option (Nat×Bool)}{x E N:Prop}(h:kG fr g x y)(hx:x->E)(hy:y->N):kG fr g E N:=by
 unfold kG at h⊢
 revert h
 split
 .exact hx
 .split
  .unfold Ib;grind
  .exact hy
  .exact id
theorem tU{G:Dy}{T:Tbl}:∀(l:List PI)(fr:Frame)(st:St)(K E:Frame->St->Prop)(X N:Nat->D->Frame->St->Prop),Ot G T l fr st K X->(∀fr st,K fr st->E fr st)->(∀t d fr st,X t d fr st->N t d fr st)->Ot G T l fr st E N
 |[],_,_,_,_,_,_,h,hk,_=>hk _ _ h
 |i::l,fr,st,K,E,X,N,h,hk,hx=>by
  rw[Ot]at h⊢;exact Yz4 h (λh=>Yg2 h (λ_ _ h=>tU l _ _ _ _ _ _ h hk hx) λ_ _ _ h=>hx _ _ _ _ h) λh=>tU l _ _ _ _ _ _ h hk hx
class XC:Type where
 mk::
 run:Nat->D->Frame->St->Prop
class XC0:Type where
 mk::
 run:Nat->D->St->Prop
def To(G:Dy)(T:Tbl)(l:List PI)(fr:Frame)(st:St)[K:Cont2 Frame St][X:XC]:Prop:=Ot G T l fr st K.run X.run
def KZ(T:Tbl)(op:POp)(ρ:PA->D)(st:St)[K:Cont2 D St][X:XC0]:Prop:=KC T op ρ st K.run X.run
theorem Ycn(G:Dy)(T:Tbl)(fr:Frame)(st:St)(K:Frame->St->Prop)(X:XC):@To G T [] fr st ⟨K⟩ X=K fr st:=(rfl)
def Yg(o:Option (D×St))(p:Option (Nat×D×St))[K:Cont2 D St][X:XC0]:Prop:=match o with
 |some r=>K.run r.1 r.2
 |none=>match p with
  |some r=>X.run r.1 r.2.1 r.2.2
  |none=>False
theorem Yov(d:D)(st:St)(p:Option (Nat×D×St))(K:D->St->Prop)(X:XC0):@Yg (s_ (d,st)) p ⟨K⟩ X=K d st:=(rfl)
theorem Yfl(t:Nat)(d:D)(st:St)(K:Cont2 D St)(X:Nat->D->St->Prop):@Yg n_ (s_ (t,d,st)) K ⟨X⟩=X t d st:=(rfl)
def jT(o:Option (zsF))(ds:List D)(st:St):Option (D×St):=match o with
 |some sp=>sp ds st
 |none=>n_
theorem yZu(sp:zsF)(ds:List D)(st:St):jT (s_ sp) ds st=sp ds st:=(rfl)
theorem yZv(ds:List D)(st:St):jT n_ ds st=n_:=(rfl)
def jU(o:Option (zsX))(ds:List D)(st:St):Option (Nat×D×St):=match o with
 |some sp=>sp ds st
 |none=>n_
theorem yZs(sp:zsX)(ds:List D)(st:St):jU (s_ sp) ds st=sp ds st:=(rfl)
theorem yZt(ds:List D)(st:St):jU n_ ds st=n_:=(rfl)
theorem yX4(T:Tbl)(f:Nat)(args:List PA)(ρ:PA->D)(st:St)(K:Cont2 D St)(X:XC0):@KZ T (.icall f args) ρ st K X=@Yg (jT (T.i f) (args.map ρ) st) (jU (T.x f) (args.map ρ) st) K X:=zad
def N3(d:D)(ds:List D):Option (Nat×List D):=match d with
 |.clo f caps=>if f<5000000 then s_ (f,ds++caps)else if f<10000000 then s_ (f-5000000,caps++ds)else n_
 |_=>n_
theorem SV(T:Tbl)(x:PA)(args:List PA)(ρ:PA->D)(st:St)(K:Cont2 D St)(X:XC0)(f:Nat)(ds:List D)(h:N3 (ρ x) (args.map ρ)=s_ (f,ds)):@KZ T (.callv x args) ρ st K X=@Yg (jT (T.i f) ds st) (jU (T.x f) ds st) K X:=by simp only[KZ,KC,yaU,Yg,jT,jU,POp.execX,POp.callee];unfold N3 at h;grind
def POp.tame:POp->Bool
 |.icall _ _ | .callv _ _=>f_
 |_=>t_
theorem Yco(T:Tbl)(op:POp)(ρ:PA->D)(st:St)(K:Cont2 D St)(X:XC0)(h:op.tame=t_):@KZ T op ρ st K X=FJ T op ρ st K.run:=by
 have:op.execX T ρ st=n_:=by
  cases op<;>first|rfl|(simp[POp.tame]at h;done)
 simp only[KZ,KC,FJ,on,this];grind
def kF(fs:List (Option Foot))(b:Bool)(cs:List Nat)(f:Option Foot)(K:List (Option Foot)->Prop):Prop:=@Ib (QB fs f cs) ⟨K (fs++[if b then f else n_])⟩ ⟨False⟩
variable{f:Option Foot}{cs:List Nat}{fs:List (Option Foot)}
theorem uY{b:Bool}{K:List (Option Foot)->Prop}(h:kF fs b cs f K):QB fs f cs=t_/\K (fs++[if b then f else n_]):=by unfold kF Ib at h;grind
theorem Yg3{b:Bool}{K E:List (Option Foot)->Prop}(h:kF fs b cs f K)(hk:∀fs,K fs->E fs):kF fs b cs f E:=by obtain⟨N,h2⟩:=uY h;unfold kF Ib;grind
def G6(G:Dy)(T:Tbl):List (PI×Bool×List Nat)->List (Option Foot)->Frame->St->(Frame->St->Prop)->Prop
 |[],_,fr,st,K=>K fr st
 |i::l,fs,fr,st,K=>kG fr i.1.guard (kF fs i.2.1 i.2.2 (i.1.op.foot (DJ G fr) st) λfs'=>FJ T i.1.op (DJ G fr) st λd st'=>G6 G T l fs' (fr.put i.1.dst d) st' K)
   (kF fs i.2.1 i.2.2 (s_ PW) λfs'=>G6 G T l fs' (fr.put i.1.dst (.tup [])) st K)
theorem W0{G:Dy}{T:Tbl}:∀(l:List (PI×Bool×List Nat))(fs:List (Option Foot))(fr:Frame)(st:St)(K:Frame->St->Prop),G6 G T l fs fr st K->∃E st',GB G T l fs ⟨fr,st⟩=s_ ⟨E,st'⟩/\K E st'
 |[],_,fr,st,K,h=>⟨fr,st,rfl,h⟩
 |(i,b,cs)::l,fs,fr,st,K,h=>by
  have yes:kF fs b cs (i.op.foot (DJ G fr) st) (λaa=>FJ T i.op (DJ G fr) st λd st'=>G6 G T l aa (fr.put i.dst d) st' K)->i.wanted fr=s_ t_->∃E st',GB G T ((i,b,cs)::l) fs ⟨fr,st⟩=s_ ⟨E,st'⟩/\K E st':=by
   intro h hw;obtain⟨h1,h⟩:=uY h;unfold FJ on at h
   split at h
   .rename_i p hp;obtain⟨E,st',h2,h3⟩:=W0 l _ _ _ K h;have hf:i.foot G ⟨fr,st⟩=i.op.foot (DJ G fr) st:=by simp[PI.foot,hw]
    have hx:i.exec G T ⟨fr,st⟩=s_ ⟨fr.put i.dst p.1,p.2⟩:=by simp only[PI.exec,hw,hp]
    exact⟨E,st',by simp only[GB,hf,h1,zaj,hx,h2],h3⟩
   .exact h.elim
  have no:kF fs b cs (s_ PW) (λaa=>G6 G T l aa (fr.put i.dst (.tup [])) st K)->i.wanted fr=s_ f_->∃E st',GB G T ((i,b,cs)::l) fs ⟨fr,st⟩=s_ ⟨E,st'⟩/\K E st':=by
   intro h hw;obtain⟨h1,h⟩:=uY h;obtain⟨E,st',h2,h3⟩:=W0 l _ _ _ K h;have hf:i.foot G ⟨fr,st⟩=s_ PW:=by simp[PI.foot,hw]
   have hx:i.exec G T ⟨fr,st⟩=s_ ⟨fr.put i.dst (.tup []),st⟩:=by simp only[PI.exec,hw]
   exact⟨E,st',by simp only[GB,hf,h1,zaj,hx,h2],h3⟩
  rw[G6]at h;unfold kG at h
  split at h
  .rename_i N;exact yes h (by simp only at N;simp[PI.wanted,N])
  .rename_i s want N;simp only at N
   split at h
   .rename_i b hb;have hw:i.wanted fr=s_ (b==want):=by simp[PI.wanted,N,hb]
    cases ab:(b==want)with
    |true=>rw[ab]at h hw;exact yes h hw
    |false=>rw[ab]at h hw;exact no h hw
   .rename_i hb;exact no h (by simp[PI.wanted,N,hb])
   .exact h.elim
theorem Ze{G:Dy}{T:Tbl}:∀(l:List (PI×Bool×List Nat))(fs:List (Option Foot))(fr:Frame)(st:St)(K N:Frame->St->Prop),G6 G T l fs fr st K->(∀fr st,K fr st->N fr st)->G6 G T l fs fr st N
 |[],_,_,_,_,_,h,hk=>hk _ _ h
 |i::l,fs,fr,st,K,N,h,hk=>by
  have h1:kF fs i.2.1 i.2.2 (i.1.op.foot (DJ G fr) st) (λE=>FJ T i.1.op (DJ G fr) st λd st'=>G6 G T l E (fr.put i.1.dst d) st' K)->kF fs i.2.1 i.2.2 (i.1.op.foot (DJ G fr) st) (λE=>FJ T i.1.op (DJ G fr) st λd st'=>G6 G T l E (fr.put i.1.dst d) st' N):=by
   refine λh=>Yg3 h λE=>?_;unfold FJ on
   split
   .exact λh=>Ze l _ _ _ _ _ h hk
   .exact id
  have h2:kF fs i.2.1 i.2.2 (s_ PW) (λE=>G6 G T l E (fr.put i.1.dst (.tup [])) st K)->kF fs i.2.1 i.2.2 (s_ PW) (λE=>G6 G T l E (fr.put i.1.dst (.tup [])) st N):=λh=>Yg3 h λE h=>Ze l _ _ _ _ _ h hk;rw[G6]at h⊢;unfold kG at h⊢
  revert h
  split
  .exact h1
  .split
   .unfold Ib;grind
   .exact h2
   .exact id
def L6(p:POp)(ρ:PA->D):Option (List Nat):=match p with
 |.load _ _ x=>s_ (hk (ρ x))
 |.fld _ x=>s_ (MT (ρ x))
 |_=>n_
def Tl(r:List Nat)(st st':St):Prop:=∀k∈r,k<st.length/\st'[k]?=st[k]?
def gr(x:Option (Option (List Nat)))(st st':St):Prop:=match x with
 |some (s_ r)=>Tl r st st'
 |_=>False
def RW(fs:List (Option (List Nat)))(cs:List Nat)(st st':St):Prop:=∀j∈cs,gr fs[j]? st st'
def Ys(G:Dy)(T:Tbl):List (PI×Bool×List Nat)->List (Option (List Nat))->Frame->St->(Frame->St->Prop)->Prop
 |[],_,fr,st,K=>K fr st
 |(i,_,cs)::l,fs,fr,st,K=>i.guard=n_/\(cs=[]\/i.op.isCall=t_)/\FJ T i.op (DJ G fr) st λd st'=>RW fs cs st st'/\Ys G T l (fs++[L6 i.op (DJ G fr)]) (fr.put i.dst d) st' K
theorem yD0{G:Dy}{T:Tbl}:∀(l:List (PI×Bool×List Nat))(fs:List (Option (List Nat)))(gs:List (PI×Option Foot))(fr:Frame)(st:St)(K:Frame->St->Prop),fs.length=gs.length->
  (∀(j:Nat)r,fs[j]?=s_ (s_ r)->∃x f,gs[j]?=s_ (x,s_ f)/\x.op.light=t_/\f.rd=r)->Ys G T l fs fr st K->∃s',O0 G T l gs ⟨fr,st⟩=s_ s'/\K s'.fr s'.st
 |[],_,_,fr,st,K,_,_,h=>⟨_,rfl,h⟩
 |(i,b,cs)::l,fs,gs,fr,st,K,hl,hf,h=>by
  obtain⟨h1,h2,E⟩:=h;unfold FJ on at E
  split at E
  case h_2=>exact E.elim
  rename_i p hp;obtain⟨d,st'⟩:=p;obtain⟨E,h4⟩:=E;have hw:i.wanted fr=s_ t_:=by simp[PI.wanted,h1]
  have hx:i.exec G T ⟨fr,st⟩=s_ ⟨fr.put i.dst d,st'⟩:=by simp only[PI.exec,hw,hp]
  obtain⟨s',a1,a2⟩:=yD0 l _ (gs++[(i,i.footT G T ⟨fr,st⟩)]) _ _ K (by simp[hl]) (λj r hj=>by
   rcases Bg j fs.length with N|N
   .rw[Aw N]at hj;rw[Aw zaa];exact hf j r hj
   .rw[AF N]at hj;rw[AF zaa,<-hl]
    have ae:j-fs.length=0:=by
     cases hq:j-fs.length with
     |zero=>rfl
     |succ n=>rw[hq]at hj;simp at hj
    rw[ae]at hj⊢;simp only[Ay,Dv]at hj⊢;have aa:i.op.isCall=f_->i.footT G T ⟨fr,st⟩=i.op.foot (DJ G fr) st:=λe=>by simp[PI.footT,hw,e]
    generalize ab:i.op=p at hj aa
    cases p with
    |load n ag x=>
     simp only[L6,Dv]at hj;exact⟨i,_,by rw[aa rfl];rfl,by rw[ab];rfl,by rw[<-hj];simp[yaV]⟩
    |fld n x=>
     simp only[L6,Dv]at hj;exact⟨i,_,by rw[aa rfl];rfl,by rw[ab];rfl,hj⟩
    |_=>simp[L6]at hj) h4
  have hc:cs.all (λj=>R5 gs[j]? i (i.footT G T ⟨fr,st⟩))=t_:=by
   rw[Ad];intro j hj;have ac:i.op.isCall=t_:=h2.resolve_left (by rintro rfl;cases hj);have:=E j hj;unfold gr at this
   split at this
   case h_2=>exact this.elim
   rename_i r hr;obtain⟨x,f,g1,g2,g3⟩:=hf j r hr;have e:i.footT G T ⟨fr,st⟩=s_ (Td st st'):=by simp only[PI.footT,hw,ac,zaj,hx]
   rw[e,g1];simp only[R5,Vo,A5,Af];refine .inl (.inr ⟨⟨⟨ac,g2⟩,?_⟩,?_⟩)
   .simp only[H5,Ad,AN,List.contains_eq_mem,decide_eq_false_iff_not,g3];intro k hk hm;simp only[Td,AV,zan]at hm;exact hm.2 (this k hk).2
   .simp only[Td,Ly,Ad,zan,g3];exact λk hk=>(this k hk).1
  exact⟨s',by simp only[O0,hx,hc,zaj,a1],a2⟩
def Rz(G:Dy)(T:Tbl)(l:List (PI×Bool×List Nat))(fs:List (Option (List Nat)))(fr:Frame)(st:St)[K:Cont2 Frame St]:Prop:=Ys G T l fs fr st K.run
theorem yFw{G:Dy}{T:Tbl}:∀(l:List (PI×Bool×List Nat))(gs:List (PI×Option Foot))(s s':PS),O0 G T l gs s=s_ s'->Fq G T (l.map (·.1)) s=s_ s'
 |[],_,_,_,h=>h
 |(i,b,cs)::l,gs,s,s',h=>by
  simp only[O0]at h
  split at h
  case h_2=>cases h
  rename_i s1 E
  split at h
  case isFalse=>cases h
  simp only[Av,Fq,E];exact yFw l _ _ _ h
class FsC:Type where
 mk::
 run:List (Option Foot)->Prop
def wF(fs:List (Option Foot))(b:Bool)(cs:List Nat)(f:Option Foot)[K:FsC]:Prop:=kF fs b cs f K.run
theorem Fc(fs:List (Option Foot))(f:Option Foot)(K:List (Option Foot)->Prop):@wF fs f_ [] f ⟨K⟩=K (fs++[n_]):=(rfl)
def rT(l:List (Option Foot))[K:FsC]:Prop:=K.run l
theorem YJ6(l:List (Option Foot))(K:List (Option Foot)->Prop):@rT l ⟨K⟩=K l:=(rfl)
theorem Yv2(fs:List (Option Foot))(f:Foot)(K:FsC):@wF fs t_ [] (s_ f) K=@rT (fs++[s_ f]) K:=(rfl)
theorem cQ(fs:List (Option Foot))(b:Bool)(j:Nat)(cs:List Nat)(f:Foot)(K:FsC):@wF fs b (j::cs) (s_ f) K=@Ib (QB fs (s_ f) (j::cs)) ⟨@rT (fs++[if b then s_ f else n_]) K⟩ ⟨False⟩:=(rfl)
def jZ(a b:PS)[k:Cont PS]:Prop:=a=b/\k.run a
def yYo(a:PS)(K:PS->Prop):@jZ a a ⟨K⟩=K a:=by simp[jZ]
def W2(keep:List Nat)(n:Nat)(fr1:Frame)(st1:St)(fr2:Frame)(st2:St)(K:PS->Prop):Prop:=
 @Ib (st1.length==n+2&&st2.length==n+2) ⟨@jZ (restrictAt keep n [n,n+1] ⟨fr1,st1⟩) (restrictAt keep n [n+1,n] ⟨fr2,st2⟩) ⟨K⟩⟩ ⟨False⟩
variable{st1 st2:St}{fr1 fr2:Frame}{keep:List Nat}
theorem YDl{n:Nat}{K:PS->Prop}(h:W2 keep n fr1 st1 fr2 st2 K):sV keep n ⟨fr1,st1⟩ ⟨fr2,st2⟩=s_ (restrictAt keep n [n,n+1] ⟨fr1,st1⟩)/\K (restrictAt keep n [n,n+1] ⟨fr1,st1⟩):=by
 unfold W2 Ib at h
 split at h
 .rename_i hl;simp only[Af,zao]at hl;obtain⟨N,E⟩:=h;refine⟨?_,E⟩;unfold sV;grind
 .exact h.elim
def YDm{n:Nat}{K E:PS->Prop}(h:W2 keep n fr1 st1 fr2 st2 K)(hk:∀s,K s->E s):W2 keep n fr1 st1 fr2 st2 E:=by
 unfold W2 Ib at h⊢
 split at h
 .rename_i hl;rw[zae hl];exact⟨h.1,hk _ h.2⟩
 .exact h.elim
def I8(G:Dy)(T:Tbl)(l:List (PI×Bool×List Nat))(fs:List (Option Foot))(fr:Frame)(st:St)[K:Cont2 Frame St]:Prop:=G6 G T l fs fr st K.run
def Ig(G:Dy)(T:Tbl)(l:List PI)(fr:Frame)(st:St)[K:Cont2 Frame St]:Prop:=Gw G T l fr st K.run
def EB(T:Tbl)(op:POp)(ρ:PA->D)(st:St)[K:Cont2 D St]:Prop:=FJ T op ρ st K.run
def kV(d:D)(want:Bool)[x:Br][y:Br]:Prop:=match d with
 |.bool b=>@Ib (b==want) x y
 |.tup []=>y.run
 |_=>False
theorem Yl0(G:Dy)(T:Tbl)(fr:Frame)(st:St)(K:Frame->St->Prop):@Ig G T [] fr st ⟨K⟩=K fr st:=(rfl)
theorem yX2(G:Dy)(T:Tbl)(dst:Option Nat)(op:POp)(l:List PI)(fr:Frame)(st:St)(K:Cont2 Frame St):
  @Ig G T ({dst,op,guard:=n_}::l) fr st K=@EB T op (DJ G fr) st ⟨λd st'=>@Ig G T l (fr.put dst d) st' K⟩:=(rfl)
theorem yX3(G:Dy)(T:Tbl)(dst:Option Nat)(op:POp)(s:Nat)(E:Bool)(l:List PI)(fr:Frame)(st:St)(K:Cont2 Frame St):
  @Ig G T ({dst,op,guard:=s_ (s,E)}::l) fr st K=@kV (fr s) E ⟨@EB T op (DJ G fr) st ⟨λd st'=>@Ig G T l (fr.put dst d) st' K⟩⟩ ⟨@Ig G T l (fr.put dst (.tup [])) st K⟩:=(rfl)
theorem yPz(G:Dy)(T:Tbl)(dst:Option Nat)(op:POp)(l:List PI)(fr:Frame)(st:St)(K:Cont2 Frame St)(X:XC):
  @To G T ({dst,op,guard:=n_}::l) fr st K X=@KZ T op (DJ G fr) st ⟨λd st'=>@To G T l (fr.put dst d) st' K X⟩ ⟨λt d st'=>X.run t d fr st'⟩:=(rfl)
theorem yP0(G:Dy)(T:Tbl)(dst:Option Nat)(op:POp)(s:Nat)(E:Bool)(l:List PI)(fr:Frame)(st:St)(K:Cont2 Frame St)(X:XC):
  @To G T ({dst,op,guard:=s_ (s,E)}::l) fr st K X=@kV (fr s) E ⟨@KZ T op (DJ G fr) st ⟨λd st'=>@To G T l (fr.put dst d) st' K X⟩ ⟨λt d st'=>X.run t d fr st'⟩⟩ ⟨@To G T l (fr.put dst (.tup [])) st K X⟩:=(rfl)
def Yv1(T:Tbl)(op:POp)(ρ:PA->D)(st:St)(K:D->St->Prop)(X:XC0)(h:op.tame=t_):@KZ T op ρ st ⟨K⟩ X=@EB T op ρ st ⟨K⟩:=Yco T op ρ st ⟨K⟩ X h
theorem Yl2(G:Dy)(T:Tbl)(fs:List (Option Foot))(fr:Frame)(st:St)(K:Frame->St->Prop):@I8 G T [] fs fr st ⟨K⟩=K fr st:=(rfl)
theorem yX5(G:Dy)(T:Tbl)(dst:Option Nat)(op:POp)(b:Bool)(cs:List Nat)(l:List (PI×Bool×List Nat))(fs:List (Option Foot))(fr:Frame)(st:St)(K:Cont2 Frame St):
  @I8 G T (({dst,op,guard:=n_},b,cs)::l) fs fr st K=@wF fs b cs (op.foot (DJ G fr) st) ⟨λE=>@EB T op (DJ G fr) st ⟨λd st'=>@I8 G T l E (fr.put dst d) st' K⟩⟩:=(rfl)
theorem yX6(G:Dy)(T:Tbl)(dst:Option Nat)(op:POp)(s:Nat)(E:Bool)(b:Bool)(cs:List Nat)(l:List (PI×Bool×List Nat))(fs:List (Option Foot))(fr:Frame)(st:St)(K:Cont2 Frame St):
  @I8 G T (({dst,op,guard:=s_ (s,E)},b,cs)::l) fs fr st K=@kV (fr s) E ⟨@wF fs b cs (op.foot (DJ G fr) st) ⟨λN=>@EB T op (DJ G fr) st ⟨λd st'=>@I8 G T l N (fr.put dst d) st' K⟩⟩⟩ ⟨@wF fs b cs (s_ PW) ⟨λN=>@I8 G T l N (fr.put dst (.tup [])) st K⟩⟩:=(rfl)
theorem Ycp(G:Dy)(T:Tbl)(fs:List (Option (List Nat)))(fr:Frame)(st:St)(K:Frame->St->Prop):@Rz G T [] fs fr st ⟨K⟩=K fr st:=(rfl)
def yP1(G:Dy)(T:Tbl)(dst:Option Nat)(op:POp)(b:Bool)(l:List (PI×Bool×List Nat))(fs:List (Option (List Nat)))(fr:Frame)(st:St)(K:Cont2 Frame St):
  @Rz G T (({dst,op,guard:=n_},b,[])::l) fs fr st K=@EB T op (DJ G fr) st ⟨λd st'=>@Rz G T l (fs++[L6 op (DJ G fr)]) (fr.put dst d) st' K⟩:=by simp[Rz,Ys,EB,RW]
def yX7(G:Dy)(T:Tbl)(dst:Option Nat)(op:POp)(b:Bool)(j:Nat)(cs:List Nat)(l:List (PI×Bool×List Nat))(fs:List (Option (List Nat)))(fr:Frame)(st:St)(K:Cont2 Frame St)(h:op.isCall=t_):
  @Rz G T (({dst,op,guard:=n_},b,j::cs)::l) fs fr st K=@EB T op (DJ G fr) st ⟨λd st'=>RW fs (j::cs) st st'/\@Rz G T l (fs++[L6 op (DJ G fr)]) (fr.put dst d) st' K⟩:=by simp[Rz,Ys,EB,h]
def Yzp(fs:List (Option (List Nat)))(st st':St):RW fs [] st st'=True:=by simp[RW]
def Ypu(fs:List (Option (List Nat)))(j:Nat)(cs:List Nat)(st st':St):RW fs (j::cs) st st'=(gr fs[j]? st st'/\RW fs cs st st'):=by simp[RW]
theorem YIm(r:List Nat)(st st':St):gr (s_ (s_ r)) st st'=Tl r st st':=rfl
def Yg0(st st':St):Tl [] st st'=True:=by simp[Tl]
theorem Yn1(n:Nat)(ag:Bool)(x:PA)(ρ:PA->D):L6 (.load n ag x) ρ=s_ (hk (ρ x)):=(rfl)
theorem Yxy(n:Nat)(x:PA)(ρ:PA->D):L6 (.fld n x) ρ=s_ (MT (ρ x)):=(rfl)
theorem Yxw(x:PA)(ρ:PA->D):L6 (.mov x) ρ=n_:=(rfl)
theorem Yen(x:PA)(l:List PA)(ρ:PA->D):L6 (.callv x l) ρ=n_:=(rfl)
theorem Yem(f:Nat)(l:List PA)(ρ:PA->D):L6 (.icall f l) ρ=n_:=(rfl)
theorem Yn2(n:Nat)(l:List PA)(ρ:PA->D):L6 (.bslc n l) ρ=n_:=(rfl)
theorem Yxz(z:List D)(l:List (Nat×Nat×PA))(ρ:PA->D):L6 (.bld z l) ρ=n_:=(rfl)
theorem Yn0(n:Nat)(x y:PA)(ρ:PA->D):L6 (.stor n x y) ρ=n_:=(rfl)
theorem Yx0(n m:Nat)(x y:PA)(ρ:PA->D):L6 (.app n m x y) ρ=n_:=(rfl)
theorem Yxx(s:Bool)(x:PA)(ρ:PA->D):L6 (.len s x) ρ=n_:=(rfl)
def Yz3(b:Bool)(x y:Br):@kV (.bool b) t_ x y=@Ib b x y:=by cases b<;>rfl
def Yp3(b:Bool)(x y:Br):@kV (.bool b) f_ x y=@Ib b y x:=by cases b<;>rfl
theorem YI2(E:Bool)(x:Br)(y:Prop):@kV (.tup []) E x ⟨y⟩=y:=(rfl)
section
variable(T:Tbl) (ρ:PA->D) (st:St) (K:D->St->Prop)
def Ko{β:Type}(o:Option α)(f:α->β)(K:β->Prop):@on β (o.map f) ⟨K⟩=@on α o ⟨λa=>K (f a)⟩:=by cases o<;>rfl
theorem gw(x:PA):@EB T (.mov x) ρ st ⟨K⟩=@ev (ρ x) ⟨λd=>K d st⟩:=(rfl)
def jY(c x y:D):Option D:=match c with
 |.bool b=>s_ (if b then x else y)
 |_=>n_
theorem yZe(x y:D):jY (.bool t_) x y=s_ x:=(rfl)
theorem yRl(x y:D):jY (.bool f_) x y=s_ y:=(rfl)
def yZf(b c e:Bool):jY (.bool b) (.bool c) (.bool e)=s_ (.bool (if b then c else e)):=by cases b<;>rfl
def YIr(c x y:PA):@EB T (.pick c x y) ρ st ⟨K⟩=@on _ (jY (ρ c) (ρ x) (ρ y)) ⟨λd=>K d st⟩:=by simp only[EB,FJ,yaU,jY];cases ρ c<;>rfl
def DM(d:D):Option (List D):=if d.cells.all yaa then s_ d.cells else n_
def gH(x:PA):@EB T (.box x) ρ st ⟨K⟩=@on _ (DM (ρ x)) ⟨λcs=>@TE (.ptr st.length 0) (st++[{row:=f_,sz:=1,els:=cs,lent:=f_}]) ⟨K⟩⟩:=by
 simp only[EB,FJ,yaU,DM]
 split<;>rfl
def gI(E:List D)(parts:List (Nat×Nat×PA)):@EB T (.bld E parts) ρ st ⟨K⟩=@on _ (Ec E (parts.map λp=>(p.1,p.2.1,ρ p.2.2))) ⟨λcs=>K (.agg cs) st⟩:=by simp only[EB,FJ,yaU,Ko]
def EZ(sz:Nat)(els:List D):Option D:=if(els.all λe=>e.cells.length==sz)&&decide (0<sz)&&decide (els.length*sz<=16777216)then s_ (.slc sz els t_)else n_
def YI1(sz:Nat)(parts:List PA):@EB T (.bslc sz parts) ρ st ⟨K⟩=@on _ (Ey st (parts.map ρ)) ⟨λels=>@on _ (EZ sz els) ⟨λd=>@TE d (lend ((parts.map ρ).flatMap keys) st) ⟨K⟩⟩⟩:=by
 simp only[EB,FJ,yaU]
 cases Ey st (parts.map ρ)with
 |none=>rfl
 |some els=>
  simp only[on]
  by_cases h:((els.all λe=>e.cells.length==sz)&&decide (0<sz)&&decide (els.length*sz<=16777216))=t_
  .simp only[EZ,h,zaj];rfl
  .simp only[EZ,h,Ao,zam]
def YIt(n:Nat)(ag:Bool)(p:PA):@EB T (.load n ag p) ρ st ⟨K⟩=@on _ (Fa st n ag (ρ p)) ⟨λd=>K d st⟩:=by simp only[EB,FJ,yaU,Ko]
def YIq(n:Nat)(p x:PA):@EB T (.stor n p x) ρ st ⟨K⟩=@on _ (Le st n (ρ p) (ρ x)) ⟨λst'=>K (.tup []) st'⟩:=by simp only[EB,FJ,yaU,Ko]
def sH(st:St)(d:D):Option D:=match d with
 |.ptr _ _ | .eptr _ _=>s_ d
 |.rptr key tot _ _=>if EY st key tot then s_ d else n_
 |_=>n_
def YIs(x:PA):@EB T (.nilc x) ρ st ⟨K⟩=@on _ (sH st (ρ x)) ⟨λd=>K d st⟩:=by
 simp only[EB,FJ,yaU,sH]
 cases ρ x with
 |rptr key tot i off=>
  simp only
  split<;>rfl
 |_=>rfl
def gJ(op:BinOp)(x y:PA):@EB T (.bin op x y) ρ st ⟨K⟩=@on _ (DI op (ρ x) (ρ y)) ⟨λd=>K d st⟩:=by simp only[EB,FJ,yaU,Ko]
def gL(E:Bool)(x y:PA):@EB T (.beq E x y) ρ st ⟨K⟩=@on _ (Pr E (ρ x) (ρ y)) ⟨λd=>K d st⟩:=by simp only[EB,FJ,yaU,Ko]
def gN(ks:List Nat)(E:Bool)(x y:PA):@EB T (.aeq ks E x y) ρ st ⟨K⟩=@on _ (Jg ks E (ρ x) (ρ y)) ⟨λd=>K d st⟩:=by simp only[EB,FJ,yaU,Ko]
def k_un(op:UnOp)(x:PA):@EB T (.un op x) ρ st ⟨K⟩=@on _ (Pq op (ρ x)) ⟨λd=>K d st⟩:=by simp only[EB,FJ,yaU,Ko]
def YIz(c:PConv)(x:PA):@EB T (.conv c x) ρ st ⟨K⟩=@on _ (Gm st c (ρ x)) ⟨λd=>K d st⟩:=by simp only[EB,FJ,yaU,Ko]
def Sm(sz bytes:Nat)(zero ln cp:D):Option (Nat×Obj):=match FA ln,FA cp with
 |some l,s_ c=>if l<=c/\c<=4294967296/\c*bytes<=140737488355328/\0<sz/\zero.cells.length=sz/\zero.cells.all D.pure1=t_ then
   s_ (l,{row:=t_,sz,els:=C7 l zero,lent:=f_})else n_
 |_,_=>n_
def Yzw(sz bytes:Nat)(E:D)(N cp:PA):@EB T (.mkslc sz bytes E N cp) ρ st ⟨K⟩=@on _ (Sm sz bytes E (ρ N) (ρ cp)) ⟨λr=>@TE (.row st.length r.1 0 r.1) (st++[r.2]) ⟨K⟩⟩:=by
 simp only[EB,FJ,yaU,Sm]
 cases FA (ρ N)with
 |none=>rfl
 |some l=>
  cases FA (ρ cp)with
  |none=>rfl
  |some c=>
   simp only
   split<;>rfl
def Yzu(sz:Nat)(x:PA)(lo hi E:Option PA):@EB T (.slice sz x lo hi E) ρ st ⟨K⟩=@on _ (GS st sz (ρ x) (lo.map ρ) (hi.map ρ) (E.map ρ)) ⟨λd=>K d st⟩:=by simp only[EB,FJ,yaU,Ko]
def Yp1(n sz:Nat)(ag:Bool)(x:PA)(lo hi:Option PA):@EB T (.sliceA n sz ag x lo hi) ρ st ⟨K⟩=@on _ (Sv n sz ag (ρ x) (lo.map ρ) (hi.map ρ)) ⟨λd=>K d st⟩:=by simp only[EB,FJ,yaU,Ko]
def gE(off:Nat)(p:PA):@EB T (.fld off p) ρ st ⟨K⟩=@on _ (FE st off (ρ p)) ⟨λd=>K d st⟩:=by simp only[EB,FJ,yaU,Ko]
def YIy(off n:Nat)(ag:Bool)(x:PA):@EB T (.fldv off n ag x) ρ st ⟨K⟩=@on _ (Ov off n ag (ρ x)) ⟨λd=>K d st⟩:=by simp only[EB,FJ,yaU,Ko]
def YIw(sz:Nat)(x i:PA):@EB T (.idxS sz x i) ρ st ⟨K⟩=@on _ (ER st sz (ρ x) (ρ i)) ⟨λd=>K d st⟩:=by simp only[EB,FJ,yaU,Ko]
def YIx(n sz:Nat)(p i:PA):@EB T (.idxA n sz p i) ρ st ⟨K⟩=@on _ (J8 st n sz (ρ p) (ρ i)) ⟨λd=>K d st⟩:=by simp only[EB,FJ,yaU,Ko]
def gz(x i:PA):@EB T (.idx x i) ρ st ⟨K⟩=@on _ (Jf (ρ x) (ρ i)) ⟨λd=>K d st⟩:=by simp only[EB,FJ,yaU,Ko]
def YIv(E sz:Nat)(ag:Bool)(x i:PA):@EB T (.idxV E sz ag x i) ρ st ⟨K⟩=@on _ (Qt E sz ag (ρ x) (ρ i)) ⟨λd=>K d st⟩:=by simp only[EB,FJ,yaU,Ko]
def E0(st:St)(str:Bool)(d:D):Option D:=if Kk d==str then(FB st d).map λ(n:Nat)=>yaW .i64 (n:Int)else n_
def gy(E:Bool)(x:PA):@EB T (.len E x) ρ st ⟨K⟩=@on _ (E0 st E (ρ x)) ⟨λd=>K d st⟩:=by
 simp only[EB,FJ,yaU,E0]
 split
 .simp only[Ko]
 .rfl
theorem YIu(n:Nat):@EB T (.lenA n) ρ st ⟨K⟩=@ev (.int .i64 (n:Int)) ⟨λd=>K d st⟩:=(rfl)
theorem gM(sz bytes:Nat)(s x:PA):@EB T (.app sz bytes s x) ρ st ⟨K⟩=@on _ (EW st sz bytes (ρ s) (ρ x)) ⟨λr=>K r.1 r.2⟩:=(rfl)
def aJ(sz:Nat):Option Obj:=if 1<mS sz/\sz≠1000003 then s_ {row:=f_,sz,els:=[],lent:=f_} else n_
def Yzx(sz:Nat):@EB T (.mkmap sz) ρ st ⟨K⟩=@on _ (aJ sz) ⟨λo=>@TE (.mapv st.length) (st++[o]) ⟨K⟩⟩:=by
 simp only[EB,FJ,yaU,aJ]
 split<;>rfl
def Yz0(sz:Nat)(ks:List Nat)(m k v:PA):@EB T (.mapup sz ks m k v) ρ st ⟨K⟩=@on _ (Mp st sz ks (ρ m) (ρ k) (ρ v)) ⟨λst'=>K (.tup []) st'⟩:=by simp only[EB,FJ,yaU,Ko]
def Yp2(sz:Nat)(ks:List Nat)(ok:Bool)(E:D)(m k:PA):@EB T (.mapget sz ks ok E m k) ρ st ⟨K⟩=@on _ (JH st sz ks ok E (ρ m) (ρ k)) ⟨λd=>K d st⟩:=by simp only[EB,FJ,yaU,Ko]
theorem gG(sz:Nat)(d s:PA):@EB T (.cpy sz d s) ρ st ⟨K⟩=@on _ (L7 st sz (ρ d) (ρ s)) ⟨λr=>K r.1 r.2⟩:=(rfl)
def Yi(isMax:Bool)(x y:D):Option D:=match x,y with
 |.int k a,.int _ b=>s_ (.int k (if isMax then(if b>a then b else a)else(if b<a then b else a)))
 |_,_=>n_
def k_mm(E:Bool)(x y:PA):@EB T (.mm E x y) ρ st ⟨K⟩=@on _ (Yi E (ρ x) (ρ y)) ⟨λd=>K d st⟩:=by
 simp only[EB,FJ,yaU,Yi]
 cases ρ x with
 |int k a=>cases ρ y<;>rfl
 |_=>rfl
def RS(isMax:Bool)(x y z:D):Option D:=match x,y,z with
 |.int k a,.int _ b,.int _ c=>s_ (.int k (Pv isMax (Pv isMax a b) c))
 |_,_,_=>n_
def gx(E:Bool)(x y z:PA):@EB T (.mm3 E x y z) ρ st ⟨K⟩=@on _ (RS E (ρ x) (ρ y) (ρ z)) ⟨λd=>K d st⟩:=by
 simp only[EB,FJ,yaU,RS]
 cases ρ x with
 |int k a=>cases ρ y<;>first|rfl|(cases ρ z<;>rfl)
 |_=>rfl
def Yzv(f:Nat)(args:List PA):@EB T (.rcall f args) ρ st ⟨K⟩=@on _ (T.q f) ⟨λsp=>@on _ (I5 sp (args.map ρ) st) ⟨λd=>K d st⟩⟩:=by
 simp only[EB,FJ,yaU]
 cases T.q f with
 |none=>rfl
 |some sp=>simp only[Yfk,Ko]
def Yz1(f:Nat)(args:List PA):@EB T (.icall f args) ρ st ⟨K⟩=@on _ (T.i f) ⟨λsp=>@on _ (sp (args.map ρ) st) ⟨λr=>K r.1 r.2⟩⟩:=by simp only[EB,FJ,yaU];cases T.i f<;>rfl
def J3(T:Tbl)(d:D):Option ((zsF)×List D×List D):=match d with
 |.clo f caps=>if f<5000000 then(T.i f).map λsp=>(sp,[],caps)else if f<10000000 then(T.i (f-5000000)).map λsp=>(sp,caps,[])else if caps.isEmpty then s_ (T.y (f-10000000),[],[])else n_
 |_=>n_
def Yzz(f:Nat)(args:List PA):@EB T (.mcall f args) ρ st ⟨K⟩=@on _ (T.m f) ⟨λsp=>@on _ (sp (args.map ρ)) ⟨λr=>@TE (r.1 st.length) (st++r.2 st.length) ⟨K⟩⟩⟩:=by
 simp only[EB,FJ,yaU]
 cases T.m f with
 |none=>rfl
 |some sp=>
  simp only[on];cases sp (args.map ρ)<;>rfl
def Yz2(x:PA)(args:List PA):@EB T (.callv x args) ρ st ⟨K⟩=@on _ (J3 T (ρ x)) ⟨λp=>@on _ (p.1 (p.2.1++(args.map ρ++p.2.2)) st) ⟨λr=>K r.1 r.2⟩⟩:=by
 simp only[EB,FJ,yaU,J3]
 cases ρ x with
 |clo f E=>
  simp only
  by_cases N:f<5000000
  .simp only[zae N];cases T.i f<;>rfl
  .by_cases h:f<10000000
   .simp only[zaf N,zae h]
    cases T.i (f-5000000)with
    |none=>rfl
    |some sp=>simp only[Ae,on,Ai]
   .simp only[zaf N,zaf h]
    cases E with
    |nil=>simp only[CT,zaj,on,Ai,Aq]
    |cons a l=>rfl
 |_=>rfl
theorem Yzy(f:Nat)(E:List PA):@EB T (.mkclo f E) ρ st ⟨K⟩=@ev (.clo f (E.map ρ)) ⟨λd=>K d st⟩:=(rfl)
def YI0(f:Nat)(args:List PA):@EB T (.call f args) ρ st ⟨K⟩=@on _ (T.p f) ⟨λsp=>@on _ (Ey st (args.map ρ)) ⟨λvs=>@on _ (sp vs) ⟨λr=>@TE r (if r.noRef then st else lend ((args.map ρ).flatMap keys) st) ⟨K⟩⟩⟩⟩:=by
 simp only[EB,FJ,yaU]
 cases T.p f with
 |none=>rfl
 |some sp=>
  cases Ey st (args.map ρ)with
  |none=>rfl
  |some vs=>
   simp only[on];cases sp vs<;>rfl
def PE(d:D)(i:Nat):Option D:=match d with
 |.tup vs=>vs[i]?
 |_=>n_
def gF(x:PA)(i:Nat):@EB T (.ext x i) ρ st ⟨K⟩=@on _ (PE (ρ x) i) ⟨λd=>K d st⟩:=by
 simp only[EB,FJ,yaU,PE]
 cases ρ x with
 |tup vs=>simp only[Ko]
 |_=>rfl
theorem YKe(a:D)(l:List D):PE (.tup (a::l)) 0=s_ a:=(rfl)
theorem YKd(a b:D)(l:List D):PE (.tup (a::b::l)) 1=s_ b:=(rfl)
theorem YKc(a b c:D)(l:List D):PE (.tup (a::b::c::l)) 2=s_ c:=(rfl)
end
theorem Yn5(fr:Frame)(s:Nat)(d:D):fr.put (s_ s) d=fr.set s d:=(rfl)
theorem Yn6(fr:Frame)(d:D):fr.put n_ d=fr:=(rfl)
theorem eB(G:Dy)(fr:Frame)(n:Nat):DJ G fr (.s n)=fr n:=(rfl)
theorem eD(G:Dy)(fr:Frame)(d:D):DJ G fr (.c d)=d:=(rfl)
def J9(G:Dy)(fr:Frame)(n:Nat)(d:D)(h:G n=s_ d):DJ G fr (.g n)=.eptr d 0:=by simp[DJ,h]
theorem YMn(a:D)(l:List D):Du (a::l) 0=a:=(rfl)
theorem YMm(a b:D)(l:List D):Du (a::b::l) 1=b:=(rfl)
theorem YMl(a b c:D)(l:List D):Du (a::b::c::l) 2=c:=(rfl)
theorem YMk(a b c d:D)(l:List D):Du (a::b::c::d::l) 3=d:=(rfl)
theorem YMj(a b c d e:D)(l:List D):Du (a::b::c::d::e::l) 4=e:=(rfl)
theorem YMi(a b c d e f:D)(l:List D):Du (a::b::c::d::e::f::l) 5=f:=(rfl)
theorem YMh(a b c d e f g:D)(l:List D):Du (a::b::c::d::e::f::g::l) 6=g:=(rfl)
theorem YMg(a b c d e f g h:D)(l:List D):Du (a::b::c::d::e::f::g::h::l) 7=h:=(rfl)
def Nr(B:Frame->St->(Ex->Frame->St->Prop)->Prop)(cut:PS->PS):Nat->PS->(Ex->Frame->St->Prop)->Prop
 |0,_,_=>False
 |n+1,s,Q=>B (cut s).fr (cut s).st λe fr st=>match e with
  |.next=>Nr B cut n ⟨fr,st⟩ Q
  |e=>Q e fr st
def W(G:Dy)(T:Tbl):PC->Frame->St->(Ex->Frame->St->Prop)->Prop
 |.skip,fr,st,Q=>Q .next fr st
 |.ops l,fr,st,Q=>Gw G T l fr st (Q .next)
 |.any l,fr,st,Q=>G6 G T l [] fr st (Q .next)
 |.anyK l,fr,st,Q=>∃s',O0 G T l [] ⟨fr,st⟩=s_ s'/\Q .next s'.fr s'.st
 |.any2 keep l1 l2,fr,st,Q=>G6 G T l1 [] fr st λfr1 st1=>G6 G T l2 [] fr st λfr2 st2=>W2 keep st.length fr1 st1 fr2 st2 λs=>Q .next s.fr s.st
 |.seq a b,fr,st,Q=>W G T a fr st λe fr' st'=>match e with
  |.next=>W G T b fr' st' Q
  |e=>Q e fr' st'
 |.cond c a b,fr,st,Q=>@Yh (DJ G fr c) ⟨λv=>@Ib v ⟨W G T a fr st Q⟩ ⟨W G T b fr st Q⟩⟩
 |.block id c,fr,st,Q=>W G T c fr st λe fr' st'=>match e with
  |.exit id'=>if id'=id then Q .next fr' st' else Q (.exit id') fr' st'
  |e=>Q e fr' st'
 |.loop keep c,fr,st,Q=>∃n,Nr (W G T c) (restrict keep st.length) n ⟨fr,st⟩ Q
 |.loopA keep c,fr,st,Q=>∃n,Nr (W G T c) (keepAll keep) n ⟨fr,st⟩ Q
 |.opsX l,fr,st,Q=>Ot G T l fr st (Q .next) (λt d=>Q (.panic t d))
 |.pan l d1 t x,fr,st,Q=>Gw G T l fr st λfr' st'=>@Ib (Lz (DJ G fr' x)) ⟨Q (.panic t (DJ G fr' x)) (fr'.set d1 .junk) st'⟩ ⟨False⟩
 |.alt a b,fr,st,Q=>W G T a fr st Q\/(a.exec G T 0 ⟨fr,st⟩=n_/\(∀m,a.exec G T m ⟨fr,st⟩=n_)/\W G T b fr st Q)
 |.range x ps a b,fr,st,Q=>∃(n:Nat)(st':St)(e:Ex),(∀m,n<=m->YQ T (DJ G fr x) (MH (a.exec G T m) (b.exec G T m) fr ps st.length) (st++[recO 0])=s_ st')/\jW st' st.length=s_ e/\Q e fr (st'.set st.length (recO 2))
 |.exit id,fr,st,Q=>Q (.exit id) fr st
 |.ret,fr,st,Q=>Q .ret fr st
 |.fail,_,_,_=>False
theorem Kp{G:Dy}{T:Tbl}:∀(c:PC)(fr:Frame)(st:St)(Q:Ex->Frame->St->Prop),W G T c fr st Q->
  ∃(n:Nat)(e:Ex)(E:Frame)(st':St),(∀m,n<=m->c.exec G T m ⟨fr,st⟩=s_ (e,⟨E,st'⟩))/\Q e E st'
 |.skip,fr,st,Q,h=>⟨0,.next,fr,st,λ_ _=>rfl,h⟩
 |.ops l,fr,st,Q,h=>by
  obtain⟨E,st',h1,N⟩:=W1 l fr st _ h;exact⟨0,.next,E,st',λm _=>by simp only[yaX,h1],N⟩
 |.any l,fr,st,Q,h=>by
  obtain⟨E,st',h1,N⟩:=W0 l [] fr st _ h;exact⟨0,.next,E,st',λm _=>by simp only[yaX,h1],N⟩
 |.anyK l,fr,st,Q,h=>by
  obtain⟨s',h1,N⟩:=h;exact⟨0,.next,s'.fr,s'.st,λm _=>by simp only[yaX,h1],N⟩
 |.any2 keep l1 l2,fr,st,Q,h=>by
  obtain⟨fr1,st1,h1,N⟩:=W0 l1 [] fr st _ h;obtain⟨fr2,st2,h3,h4⟩:=W0 l2 [] fr st _ N;obtain⟨h5,h6⟩:=YDl h4;exact⟨0,.next,_,_,λm _=>by simp only[yaX,h1,h3,h5,Ae],h6⟩
 |.seq a b,fr,st,Q,h=>by
  obtain⟨n,e,E,st',h1,N⟩:=Kp a fr st _ h
  cases e with
  |next=>
   obtain⟨n',e',ad,ae,h3,h4⟩:=Kp b E st' _ N;exact⟨n+n',e',ad,ae,λm hm=>by simp only[yaX,h1 m zaa,h3 m zaa],h4⟩
  |exit id=>exact⟨n,.exit id,E,st',λm hm=>by simp only[yaX,h1 m hm],N⟩
  |ret=>exact⟨n,.ret,E,st',λm hm=>by simp only[yaX,h1 m hm],N⟩
  |panic t d=>exact⟨n,.panic t d,E,st',λm hm=>by simp only[yaX,h1 m hm],N⟩
 |.cond c a b,fr,st,Q,h=>by
  simp only[W,Yh]at h
  split at h
  .rename_i v hv
   cases v with
   |true=>
    obtain⟨n,e,E,st',h1,N⟩:=Kp a fr st _ h;exact⟨n,e,E,st',λm hm=>by simp only[yaX,hv,h1 m hm],N⟩
   |false=>
    obtain⟨n,e,E,st',h1,N⟩:=Kp b fr st _ h;exact⟨n,e,E,st',λm hm=>by simp only[yaX,hv,h1 m hm],N⟩
  .exact h.elim
 |.block id c,fr,st,Q,h=>by
  obtain⟨n,e,E,st',h1,N⟩:=Kp c fr st _ h
  cases e with
  |next=>exact⟨n,.next,E,st',λm hm=>by simp only[yaX,h1 m hm],N⟩
  |ret=>exact⟨n,.ret,E,st',λm hm=>by simp only[yaX,h1 m hm],N⟩
  |panic t d=>exact⟨n,.panic t d,E,st',λm hm=>by simp only[yaX,h1 m hm],N⟩
  |exit a3=>
   simp only at N
   split at N
   .rename_i hi;exact⟨n,.next,E,st',λm hm=>by simp only[yaX,h1 m hm,hi,zaj],N⟩
   .rename_i hi;exact⟨n,.exit a3,E,st',λm hm=>by simp only[yaX,h1 m hm,hi,zam],N⟩
 |.loop keep c,fr,st,Q,h=>by
  obtain⟨k,h⟩:=h
  have key:∀(k:Nat)(s:PS),Nr (W G T c) (restrict keep st.length) k s Q->∃(n:Nat)(e:Ex)(E:Frame)(st':St),(∀m q,n<=m->k<=q->LA (c.exec G T m) (restrict keep st.length) q s=s_ (e,⟨E,st'⟩))/\Q e E st':=by
   intro k
   induction k with
   |zero=>intro s h;exact h.elim
   |succ k ih=>
    intro s h;obtain⟨n,e,E,st',h1,N⟩:=Kp c _ _ _ h;have ab:∀m,n<=m->c.exec G T m (restrict keep st.length s)=s_ (e,⟨E,st'⟩):=h1
    cases e with
    |next=>
     obtain⟨n',e',ad,ae,h3,h4⟩:=ih _ N;refine⟨n+n',e',ad,ae,λm q hm hq=>?_,h4⟩;obtain⟨q,rfl⟩:∃q',q=q'+1:=⟨q-1,zaa⟩;simp only[LA,ab m zaa];grind
    |exit id=>
     refine⟨n,.exit id,E,st',λm q hm hq=>?_,N⟩;obtain⟨q,rfl⟩:∃q',q=q'+1:=⟨q-1,zaa⟩;simp only[LA,ab m hm]
    |ret=>
     refine⟨n,.ret,E,st',λm q hm hq=>?_,N⟩;obtain⟨q,rfl⟩:∃q',q=q'+1:=⟨q-1,zaa⟩;simp only[LA,ab m hm]
    |panic t d=>
     refine⟨n,.panic t d,E,st',λm q hm hq=>?_,N⟩;obtain⟨q,rfl⟩:∃q',q=q'+1:=⟨q-1,zaa⟩;simp only[LA,ab m hm]
  obtain⟨n,e,E,st',h1,N⟩:=key k _ h;exact⟨n+k,e,E,st',λm hm=>by simp only[yaX];exact h1 m m zaa zaa,N⟩
 |.loopA keep c,fr,st,Q,h=>by
  obtain⟨k,h⟩:=h
  have key:∀(k:Nat)(s:PS),Nr (W G T c) (keepAll keep) k s Q->∃(n:Nat)(e:Ex)(E:Frame)(st':St),(∀m q,n<=m->k<=q->LA (c.exec G T m) (keepAll keep) q s=s_ (e,⟨E,st'⟩))/\Q e E st':=by
   intro k
   induction k with
   |zero=>intro s h;exact h.elim
   |succ k ih=>
    intro s h;obtain⟨n,e,E,st',h1,N⟩:=Kp c _ _ _ h;have ab:∀m,n<=m->c.exec G T m (keepAll keep s)=s_ (e,⟨E,st'⟩):=h1
    cases e with
    |next=>
     obtain⟨n',e',ad,ae,h3,h4⟩:=ih _ N;refine⟨n+n',e',ad,ae,λm q hm hq=>?_,h4⟩;obtain⟨q,rfl⟩:∃q',q=q'+1:=⟨q-1,zaa⟩;simp only[LA,ab m zaa];grind
    |exit id=>
     refine⟨n,.exit id,E,st',λm q hm hq=>?_,N⟩;obtain⟨q,rfl⟩:∃q',q=q'+1:=⟨q-1,zaa⟩;simp only[LA,ab m hm]
    |ret=>
     refine⟨n,.ret,E,st',λm q hm hq=>?_,N⟩;obtain⟨q,rfl⟩:∃q',q=q'+1:=⟨q-1,zaa⟩;simp only[LA,ab m hm]
    |panic t d=>
     refine⟨n,.panic t d,E,st',λm q hm hq=>?_,N⟩;obtain⟨q,rfl⟩:∃q',q=q'+1:=⟨q-1,zaa⟩;simp only[LA,ab m hm]
  obtain⟨n,e,E,st',h1,N⟩:=key k _ h;exact⟨n+k,e,E,st',λm hm=>by simp only[yaX];exact h1 m m zaa zaa,N⟩
 |.range x ps a b,fr,st,Q,h=>by
  obtain⟨n,st',e,h1,h3,N⟩:=h;exact⟨n,e,fr,_,λm hm=>by simp only[yaX,h1 m hm,Bj,h3,Ae],N⟩
 |.opsX l,fr,st,Q,h=>by
  rcases uc l fr st _ _ h with⟨E,st',h1,N⟩|⟨t,d,E,st',h1,N,h3⟩
  .exact⟨0,.next,E,st',λm _=>by simp only[yaX,h1],N⟩
  .exact⟨0,.panic t d,E,st',λm _=>by simp only[yaX,h1,N,Ae],h3⟩
 |.pan l d1 t x,fr,st,Q,h=>by
  obtain⟨E,st',h1,N⟩:=W1 l fr st _ h;unfold Ib at N
  split at N
  .rename_i hi;exact⟨0,.panic t (DJ G E x),E.set d1 .junk,st',λm _=>by simp only[yaX,h1,hi,zaj],N⟩
  .grind
 |.alt a b,fr,st,Q,h=>by
  rcases h with h|⟨_,h1,h⟩
  .obtain⟨n,e,E,st',h1,N⟩:=Kp a fr st _ h;exact⟨n,e,E,st',λm hm=>by simp only[yaX,h1 m hm],N⟩
  .obtain⟨n,e,E,st',N,h3⟩:=Kp b fr st _ h;exact⟨n,e,E,st',λm hm=>by simp only[yaX,h1 m,N m hm],h3⟩
 |.exit id,fr,st,Q,h=>⟨0,.exit id,fr,st,λ_ _=>rfl,h⟩
 |.ret,fr,st,Q,h=>⟨0,.ret,fr,st,λ_ _=>rfl,h⟩
 |.fail,_,_,_,h=>h.elim
theorem kQ{G:Dy}{T:Tbl}:∀(l:List PI)(fr:Frame)(st:St)(K E:Frame->St->Prop),Gw G T l fr st K->(∀fr st,K fr st->E fr st)->Gw G T l fr st E
 |[],_,_,_,_,h,hk=>hk _ _ h
 |i::l,fr,st,K,E,h,hk=>by
  have N:FJ T i.op (DJ G fr) st (λd st'=>Gw G T l (fr.put i.dst d) st' K)->FJ T i.op (DJ G fr) st (λd st'=>Gw G T l (fr.put i.dst d) st' E):=by
   unfold FJ on
   split
   .exact λh=>kQ l _ _ _ _ h hk
   .exact id
  have h2:Gw G T l (fr.put i.dst (.tup [])) st K->Gw G T l (fr.put i.dst (.tup [])) st E:=λh=>kQ l _ _ _ _ h hk;rw[Gw]at h⊢;unfold kG at h⊢
  split
  .simp_all
  .simp_all
   split
   .simp_all;rename_i b hb;rename_i want _ _
    revert h
    unfold Ib;grind
   .simp_all
   .simp_all
theorem LG{G:Dy}{T:Tbl}:∀(c:PC)(fr:Frame)(st:St)(Q N:Ex->Frame->St->Prop),W G T c fr st Q->(∀e fr st,Q e fr st->N e fr st)->W G T c fr st N
 |.skip,fr,st,Q,N,h,E=>E _ _ _ h
 |.ops l,fr,st,Q,N,h,E=>kQ l fr st _ _ h λfr st h=>E _ _ _ h
 |.any l,fr,st,Q,N,h,E=>Ze l [] fr st _ _ h λfr st h=>E _ _ _ h
 |.anyK l,fr,st,Q,N,h,E=>h.elim λs' h=>⟨s',h.1,E _ _ _ h.2⟩
 |.any2 keep l1 l2,fr,st,Q,N,h,E=>Ze l1 [] fr st _ _ h λfr1 st1 h=>Ze l2 [] fr st _ _ h λfr2 st2 h=>YDm h λs h=>E _ _ _ h
 |.seq a b,fr,st,Q,N,h,E=>by
  refine LG a fr st _ _ h λe aa st' h=>?_
  cases e with
  |next=>exact LG b _ _ _ _ h E
  |exit id=>exact E _ _ _ h
  |ret=>exact E _ _ _ h
  |panic t d=>exact E _ _ _ h
 |.cond c a b,fr,st,Q,N,h,E=>by
  simp only[W,Yh]at h⊢
  split
  .rename_i v hv;rw[hv]at h;simp only at h
   cases v with
   |true=>exact LG a _ _ _ _ h E
   |false=>exact LG b _ _ _ _ h E
  .grind
 |.block id c,fr,st,Q,N,h,E=>by
  refine LG c fr st _ _ h λe aa st' h=>?_;grind
 |.loop keep c,fr,st,Q,N,h,E=>by
  obtain⟨k,h⟩:=h;refine⟨k,?_⟩
  have key:∀(k:Nat)(s:PS),Nr (W G T c) (restrict keep st.length) k s Q->Nr (W G T c) (restrict keep st.length) k s N:=by
   intro k
   induction k with
   |zero=>intro s h;exact h
   |succ k ih=>
    intro s h;refine LG c _ _ _ _ h λe aa st' h=>?_;grind
  grind
 |.loopA keep c,fr,st,Q,N,h,E=>by
  obtain⟨k,h⟩:=h;refine⟨k,?_⟩
  have key:∀(k:Nat)(s:PS),Nr (W G T c) (keepAll keep) k s Q->Nr (W G T c) (keepAll keep) k s N:=by
   intro k
   induction k with
   |zero=>intro s h;exact h
   |succ k ih=>
    intro s h;refine LG c _ _ _ _ h λe aa st' h=>?_;grind
  grind
 |.range x ps a b,fr,st,Q,N,h,E=>by
  obtain⟨n,st',e,h1,h3,h2⟩:=h;exact⟨n,st',e,h1,h3,E _ _ _ h2⟩
 |.opsX l,fr,st,Q,N,h,E=>tU l fr st _ _ _ _ h (λ_ _ h=>E _ _ _ h) λ_ _ _ _ h=>E _ _ _ h
 |.pan l d1 t x,fr,st,Q,N,h,E=>kQ l fr st _ _ h λaa st' h=>by
  unfold Ib at h⊢;grind
 |.alt a b,fr,st,Q,N,h,E=>h.imp (λh=>LG a _ _ _ _ h E) λh=>⟨h.1,h.2.1,LG b _ _ _ _ h.2.2 E⟩
 |.exit id,fr,st,Q,N,h,E=>E _ _ _ h
 |.ret,fr,st,Q,N,h,E=>E _ _ _ h
 |.fail,_,_,_,_,h,_=>h.elim
variable{Q:Ex->Frame->St->Prop}{c:PC}{ι:Type}{G:Dy}
theorem YMw(hd:ι->List (Nat×D))(hs:ι->St)(P:ι->Prop)(μ:ι->Nat)(E:ι)
  (h0:restrict keep st.length ⟨fr,st⟩=⟨GU (hd E),hs E⟩) (hP:P E)
  (ab:∀i,P i->W G T c (GU (hd i)) (hs i) λe N st'=>match e with
   |.next=>∃j,P j/\μ j<μ i/\restrict keep st.length ⟨N,st'⟩=⟨GU (hd j),hs j⟩
   |e=>Q e N st'):W G T (.loop keep c) fr st Q:=by
 have key:∀(n:Nat)(i:ι)(s:PS),μ i<n->P i->restrict keep st.length s=⟨GU (hd i),hs i⟩->Nr (W G T c) (restrict keep st.length) n s Q:=by
  intro n
  induction n with
  |zero=>intro i s h _ _;exact absurd h (Nat.not_lt_zero _)
  |succ n ih=>
   intro i s hi ac hr;simp only[Nr,hr];refine LG c _ _ _ _ (ab i ac) λe N st' h=>?_;grind
 exact⟨μ E+1,key _ E _ (B0 _) hP h0⟩
theorem YDj(hd:ι->List (Nat×D))(hs:ι->St)(P:ι->Prop)(μ:ι->Nat)(E:ι)
  (h0:keepAll keep ⟨fr,st⟩=⟨GU (hd E),hs E⟩) (hP:P E)
  (ab:∀i,P i->W G T c (GU (hd i)) (hs i) λe N st'=>match e with
   |.next=>∃j,P j/\μ j<μ i/\keepAll keep ⟨N,st'⟩=⟨GU (hd j),hs j⟩
   |e=>Q e N st'):W G T (.loopA keep c) fr st Q:=by
 have key:∀(n:Nat)(i:ι)(s:PS),μ i<n->P i->keepAll keep s=⟨GU (hd i),hs i⟩->Nr (W G T c) (keepAll keep) n s Q:=by
  intro n
  induction n with
  |zero=>intro i s h _ _;exact absurd h (Nat.not_lt_zero _)
  |succ n ih=>
   intro i s hi ac hr;simp only[Nr,hr];refine LG c _ _ _ _ (ab i ac) λe N st' h=>?_;grind
 exact⟨μ E+1,key _ E _ (B0 _) hP h0⟩
variable{st':St}{ps:List Nat}
def Ys0{x:PA}{a b:PC}{e:Ex}(h:∀m,YQ T (DJ G fr x) (MH (a.exec G T m) (b.exec G T m) fr ps st.length) (st++[recO 0])=s_ st')(E:jW st' st.length=s_ e)(N:Q e fr (st'.set st.length (recO 2))):W G T (.range x ps a b) fr st Q:=
 ⟨0,st',e,λm _=>h m,E,N⟩
def wW(G:Dy)(T:Tbl)(c:PC)(fr:Frame)(st:St)[Q:QC]:Prop:=W G T c fr st Q.run
theorem Gr(h:@wW G T c fr st ⟨Q⟩):W G T c fr st Q:=h
theorem UP(h:W G T c fr st Q):@wW G T c fr st ⟨Q⟩:=h
theorem YMu(G:Dy)(T:Tbl)(fr:Frame)(st:St)(Q:Ex->Frame->St->Prop):@wW G T .skip fr st ⟨Q⟩=Q .next fr st:=(rfl)
theorem j9(G:Dy)(T:Tbl)(l:List PI)(fr:Frame)(st:St)(Q:Ex->Frame->St->Prop):@wW G T (.ops l) fr st ⟨Q⟩=@Ig G T l fr st ⟨Q .next⟩:=(rfl)
theorem ki(G:Dy)(T:Tbl)(l:List (PI×Bool×List Nat))(fr:Frame)(st:St)(Q:Ex->Frame->St->Prop):@wW G T (.any l) fr st ⟨Q⟩=@I8 G T l [] fr st ⟨Q .next⟩:=(rfl)
theorem YMz(G:Dy)(T:Tbl)(keep:List Nat)(l1 E:List (PI×Bool×List Nat))(fr:Frame)(st:St)(Q:Ex->Frame->St->Prop):@wW G T (.any2 keep l1 E) fr st ⟨Q⟩=
  @I8 G T l1 [] fr st ⟨λfr1 st1=>@I8 G T E [] fr st ⟨λfr2 st2=>@Ib (st1.length==st.length+2&&st2.length==st.length+2) ⟨@jZ (restrictAt keep st.length [st.length,st.length+1] ⟨fr1,st1⟩) (restrictAt keep st.length [st.length+1,st.length] ⟨fr2,st2⟩) ⟨λs=>Q .next s.fr s.st⟩⟩ ⟨False⟩⟩⟩:=(rfl)
def XI(G:Dy)(T:Tbl)(b:PC)[Q:QC](e:Ex)(fr:Frame)(st:St):Prop:=match e with
 |.next=>W G T b fr st Q.run
 |e=>Q.run e fr st
theorem j6(G:Dy)(T:Tbl)(a b:PC)(fr:Frame)(st:St)(Q:QC):@wW G T (.seq a b) fr st Q=@wW G T a fr st ⟨@XI G T b Q⟩:=(rfl)
theorem Yc0(G:Dy)(T:Tbl)(b:PC)(Q:QC)(fr:Frame)(st:St):@XI G T b Q .next fr st=@wW G T b fr st Q:=(rfl)
theorem Yc1(G:Dy)(T:Tbl)(b:PC)(Q:Ex->Frame->St->Prop)(E:Nat)(fr:Frame)(st:St):@XI G T b ⟨Q⟩ (.exit E) fr st=Q (.exit E) fr st:=(rfl)
theorem Ymf(G:Dy)(T:Tbl)(b:PC)(Q:Ex->Frame->St->Prop)(fr:Frame)(st:St):@XI G T b ⟨Q⟩ .ret fr st=Q .ret fr st:=(rfl)
theorem yYb(G:Dy)(T:Tbl)(b:PC)(Q:Ex->Frame->St->Prop)(t:Nat)(d:D)(fr:Frame)(st:St):@XI G T b ⟨Q⟩ (.panic t d) fr st=Q (.panic t d) fr st:=(rfl)
theorem YMv(G:Dy)(T:Tbl)(l:List PI)(fr:Frame)(st:St)(Q:Ex->Frame->St->Prop):@wW G T (.opsX l) fr st ⟨Q⟩=@To G T l fr st ⟨Q .next⟩ ⟨λt d=>Q (.panic t d)⟩:=(rfl)
theorem j8(G:Dy)(T:Tbl)(l:List PI)(d1 t:Nat)(x:PA)(fr:Frame)(st:St)(Q:Ex->Frame->St->Prop):@wW G T (.pan l d1 t x) fr st ⟨Q⟩=@Ig G T l fr st ⟨λE st'=>@Ib (Lz (DJ G E x)) ⟨Q (.panic t (DJ G E x)) (E.set d1 .junk) st'⟩ ⟨False⟩⟩:=(rfl)
theorem yxb{G:Dy}{T:Tbl}:∀(l:List PI)(s s':PS),Fq G T l s=s_ s'->Gw G T l s.fr s.st λ_ _=>True
 |[],_,_,_=>trivial
 |i::l,s,s',h=>by
  simp only[Fq]at h
  split at h
  case h_2=>cases h
  rename_i s1 E;have ih:=yxb l s1 s' h;unfold PI.exec at E;rw[Gw]
  split at E
  .cases E
  .rename_i hw;simp only[Dv]at E;subst E;unfold PI.wanted at hw
   split at hw
   .cases hw
   .rename_i q want N;rw[N];simp only[kG]
    split at hw
    .rename_i b hb;simp only[hb,Ib];simp only[Dv]at hw;rw[hw,zaf zac];exact ih
    .rename_i hb;simp only[hb];exact ih
    .cases hw
  .rename_i hw
   split at E
   case h_2=>cases E
   rename_i p hp;simp only[Dv]at E;subst E
   have ok:FJ T i.op (DJ G s.fr) s.st (λd st'=>Gw G T l (s.fr.put i.dst d) st' λ_ _=>True):=by
    unfold FJ on;rw[hp];exact ih
   unfold PI.wanted at hw
   split at hw
   .rename_i N;rw[N];exact ok
   .rename_i q want N;rw[N];simp only[kG]
    split at hw
    .rename_i b hb;simp only[hb,Ib];simp only[Dv]at hw;rw[hw,zae rfl];exact ok
    .cases hw
    .cases hw
def om{l:List (PI×Bool×List Nat)}(h:@Rz G T l [] fr st ⟨Q .next⟩):@wW G T (.anyK l) fr st ⟨Q⟩:=
 yD0 l [] [] fr st _ rfl (λ_ _ h=>by cases h) h
def pI{l:List (PI×Bool×List Nat)}{b:PC}{Q:QC}(N:¬@Ig G T (l.map (·.1)) fr st ⟨λ_ _=>True⟩)(h:@wW G T b fr st Q):@wW G T (.alt (.anyK l) b) fr st Q:=by
 have:∀m,(PC.anyK l).exec G T m ⟨fr,st⟩=n_:=λm=>by
  cases E:O0 G T l [] ⟨fr,st⟩with
  |none=>simp only[yaX,E]
  |some s'=>exact absurd (yxb _ _ _ (yFw l [] _ _ E)) N
 exact .inr ⟨this 0,this,h⟩
def oj{a b:PC}{Q:QC}(h:@wW G T a fr st Q):@wW G T (.alt a b) fr st Q:=.inl h
theorem YMy(G:Dy)(T:Tbl)(c:PA)(a b:PC)(fr:Frame)(st:St)(Q:QC):@wW G T (.cond c a b) fr st Q=@Yh (DJ G fr c) ⟨λv=>@Ib v ⟨@wW G T a fr st Q⟩ ⟨@wW G T b fr st Q⟩⟩:=(rfl)
def NZ(id:Nat)[Q:QC](e:Ex)(fr:Frame)(st:St):Prop:=match e with
 |.exit id'=>if id'=id then Q.run .next fr st else Q.run (.exit id') fr st
 |e=>Q.run e fr st
theorem YDk(G:Dy)(T:Tbl)(E:Nat)(c:PC)(fr:Frame)(st:St)(Q:QC):@wW G T (.block E c) fr st Q=@wW G T c fr st ⟨@NZ E Q⟩:=(rfl)
theorem Yop(E:Nat)(Q:Ex->Frame->St->Prop)(fr:Frame)(st:St):@NZ E ⟨Q⟩ .next fr st=Q .next fr st:=(rfl)
theorem Yyi(E:Nat)(Q:Ex->Frame->St->Prop)(fr:Frame)(st:St):@NZ E ⟨Q⟩ .ret fr st=Q .ret fr st:=(rfl)
theorem Yfc(E:Nat)(Q:Ex->Frame->St->Prop)(t:Nat)(d:D)(fr:Frame)(st:St):@NZ E ⟨Q⟩ (.panic t d) fr st=Q (.panic t d) fr st:=(rfl)
theorem YG6(N E:Nat)(Q:Ex->Frame->St->Prop)(fr:Frame)(st:St):@NZ N ⟨Q⟩ (.exit E) fr st=if E=N then Q .next fr st else Q (.exit E) fr st:=(rfl)
theorem YMx(G:Dy)(T:Tbl)(E:Nat)(fr:Frame)(st:St)(Q:Ex->Frame->St->Prop):@wW G T (.exit E) fr st ⟨Q⟩=Q (.exit E) fr st:=(rfl)
theorem j7(G:Dy)(T:Tbl)(fr:Frame)(st:St)(Q:Ex->Frame->St->Prop):@wW G T .ret fr st ⟨Q⟩=Q .ret fr st:=(rfl)
def DN(res:List PRes)(r:D)(e:Ex)(fr:Frame)(st:St):Prop:=match e with
 |.exit _ | .panic _ _=>False
 |_=>(E8 ⟨fr,st⟩ res).map DS=s_ r
theorem Ynd(E:List PRes)(r:D)(fr:Frame)(st:St):DN E r .ret fr st=((E8 ⟨fr,st⟩ E).map DS=s_ r):=(rfl)
theorem Yd8(E:List PRes)(r:D)(fr:Frame)(st:St):DN E r .next fr st=((E8 ⟨fr,st⟩ E).map DS=s_ r):=(rfl)
def Hx(res:List PRes)[R:Cont2 D St](e:Ex)(fr:Frame)(st:St):Prop:=match e with
 |.exit _ | .panic _ _=>False
 |_=>@on _ (Ed ⟨fr,st⟩ res) ⟨λl=>R.run (DS l) st⟩
theorem yUv(E:List PRes)(R:D->St->Prop)(fr:Frame)(st:St):@Hx E ⟨R⟩ .ret fr st=@on _ (Ed ⟨fr,st⟩ E) ⟨λl=>R (DS l) st⟩:=(rfl)
theorem yMm(E:List PRes)(R:D->St->Prop)(fr:Frame)(st:St):@Hx E ⟨R⟩ .next fr st=@on _ (Ed ⟨fr,st⟩ E) ⟨λl=>R (DS l) st⟩:=(rfl)
variable{ds:List D}{F:PF}
def yUr{r:D}(h:W G T F.code (Du ds) [] (DN F.res r)):∃fuel,F.run G T fuel ds=s_ r:=by
 obtain⟨n,e,aa,st',N,E⟩:=Kp _ _ _ _ h;refine⟨n,?_⟩;unfold PF.run;rw[N n (Au _)]
 cases e with
 |next=>exact E
 |ret=>exact E
 |exit id=>exact E.elim
 |panic t d=>exact E.elim
theorem la{R:D->St->Prop}(h:W G T F.code (Du ds) st (@Hx F.res ⟨R⟩)):∃fuel r st',(∀m,fuel<=m->F.runI G T m ds st=s_ (r,st'))/\R r st':=by
 obtain⟨n,e,N,st',h1,E⟩:=Kp _ _ _ _ h
 have key:∀(E:@on _ (Ed ⟨N,st'⟩ F.res) ⟨λl=>R (DS l) st'⟩) (he:e=.next\/e=.ret),∃fuel r st',(∀m,fuel<=m->F.runI G T m ds st=s_ (r,st'))/\R r st':=by
  intro E he;unfold on at E
  split at E
  .rename_i l hl;refine⟨n,DS l,st',λm hm=>?_,E⟩;unfold PF.runI;grind
  .grind
 cases e with
 |next=>exact key E (.inl rfl)
 |ret=>exact key E (.inr rfl)
 |exit id=>exact E.elim
 |panic t d=>exact E.elim
def Po[X:XC0](e:Ex)(_:Frame)(st:St):Prop:=match e with
 |.panic t d=>X.run t d st
 |_=>False
theorem yYr(X:Nat->D->St->Prop)(t:Nat)(d:D)(fr:Frame)(st:St):@Po ⟨X⟩ (.panic t d) fr st=X t d st:=(rfl)
def Yd1(h:W G T F.code (Du ds) st (@Po ⟨X⟩)):∃fuel t d st',(∀m,fuel<=m->F.runX G T m ds st=s_ (t,d,st'))/\X t d st':=by
 obtain⟨n,e,aa,st',N,E⟩:=Kp _ _ _ _ h
 cases e with
 |panic t d=>exact⟨n,t,d,st',λm hm=>by unfold PF.runX;rw[N m hm],E⟩
 |_=>exact E.elim
def RL(h:Nat->D->List D->St->Option St)(das:List D)(res:List PRes)[R:Cont2 D St](e:Ex)(fr:Frame)(st:St):Prop:=match e with
 |.exit _=>False
 |.panic t d=>@on _ (h t d das st) ⟨λst3=>@on _ (Ed ⟨fr,st3⟩ res) ⟨λl=>R.run (DS l) st3⟩⟩
 |_=>@on _ (Ed ⟨fr,st⟩ res) ⟨λl=>R.run (DS l) st⟩
theorem Yng(h:Nat->D->List D->St->Option St)(N:List D)(E:List PRes)(R:D->St->Prop)(fr:Frame)(st:St):@RL h N E ⟨R⟩ .ret fr st=@on _ (Ed ⟨fr,st⟩ E) ⟨λl=>R (DS l) st⟩:=(rfl)
theorem Yec(h:Nat->D->List D->St->Option St)(N:List D)(E:List PRes)(R:D->St->Prop)(fr:Frame)(st:St):@RL h N E ⟨R⟩ .next fr st=@on _ (Ed ⟨fr,st⟩ E) ⟨λl=>R (DS l) st⟩:=(rfl)
theorem yYt(h:Nat->D->List D->St->Option St)(E:List D)(N:List PRes)(R:D->St->Prop)(t:Nat)(d:D)(fr:Frame)(st:St):
  @RL h E N ⟨R⟩ (.panic t d) fr st=@on _ (h t d E st) ⟨λaa=>@on _ (Ed ⟨fr,aa⟩ N) ⟨λl=>R (DS l) aa⟩⟩:=(rfl)
def UN(h:Nat->D->List D->St->Option St)(das:List D)(res:List PRes)(r:D)(e:Ex)(fr:Frame)(st:St):Prop:=match e with
 |.exit _=>False
 |.panic t d=>@on _ (h t d das st) ⟨λst3=>(E8 ⟨fr,st3⟩ res).map DS=s_ r⟩
 |_=>(E8 ⟨fr,st⟩ res).map DS=s_ r
theorem Yed(h:Nat->D->List D->St->Option St)(N:List D)(E:List PRes)(r:D)(fr:Frame)(st:St):UN h N E r .ret fr st=((E8 ⟨fr,st⟩ E).map DS=s_ r):=(rfl)
theorem yYu(h:Nat->D->List D->St->Option St)(N:List D)(E:List PRes)(r:D)(fr:Frame)(st:St):UN h N E r .next fr st=((E8 ⟨fr,st⟩ E).map DS=s_ r):=(rfl)
theorem yQ3(h:Nat->D->List D->St->Option St)(E:List D)(N:List PRes)(r:D)(t:Nat)(d:D)(fr:Frame)(st:St):UN h E N r (.panic t d) fr st=@on _ (h t d E st) ⟨λaa=>(E8 ⟨fr,aa⟩ N).map DS=s_ r⟩:=(rfl)
def U8(G:Dy)(T:Tbl)(F:PFD)(H:HI)(ds:List D)(st:St)(K:(Nat->D->List D->St->Option St)->List D->Ex->Frame->St->Prop):Prop:=
 @Ig G T F.pre (Du ds) st ⟨λfr1 st1=>@on _ (OL (DJ G fr1 F.hf) (F.ha.map (DJ G fr1))) ⟨λp=>@on _ (H p.1) ⟨λh=>@wW G T F.code fr1 st1 ⟨K h p.2⟩⟩⟩⟩
def Yd3{F:PFD}{H:HI}{K:(Nat->D->List D->St->Option St)->List D->Ex->Frame->St->Prop}(h:U8 G T F H ds st K):
  ∃n s1 f ab h' e N st',Fq G T F.pre ⟨Du ds,st⟩=s_ s1/\OL (DJ G s1.fr F.hf) (F.ha.map (DJ G s1.fr))=s_ (f,ab)/\H f=s_ h'/\(∀m,n<=m->F.code.exec G T m s1=s_ (e,⟨N,st'⟩))/\K h' ab e N st':=by
 obtain⟨fr1,st1,h1,E⟩:=W1 _ _ _ _ h;simp only at E;unfold on at E
 split at E
 case h_2=>exact E.elim
 rename_i p hp;simp only at E
 split at E
 case h_2=>exact E.elim
 rename_i h' hh;obtain⟨n,e,N,st',h3,h4⟩:=Kp _ _ _ _ (show W G T F.code fr1 st1 (K h' p.2)from E);exact⟨n,⟨fr1,st1⟩,p.1,p.2,h',e,N,st',h1,hp,hh,h3,h4⟩
theorem YB5(fs:List (Option Foot))(g:Option Foot):QB fs g []=t_:=(rfl)
theorem Yrj(fs:List (Option Foot))(g:Option Foot)(j:Nat)(r:List Nat):QB fs g (j::r)=(ck1 fs[j]? g&&QB fs g r):=(rfl)
theorem YKz(f g:Foot):ck1 (s_ (s_ f)) (s_ g)=f.ok g:=(rfl)
theorem eX(r w N w':List Nat)(m E:Option Nat):Foot.ok ⟨r,w,m⟩ ⟨N,w',E⟩=(H5 w' r&&H5 w' w&&H5 w N&&Ly m N&&Ly m w'&&Ly E r&&Ly E w&&(m.isNone||E.isNone)):=(rfl)
theorem Ysl(b:List Nat):H5 [] b=t_:=(rfl)
def Yk5(k:Nat)(a b:List Nat):H5 (k::a) b=(!b.contains k&&H5 a b):=by simp[H5]
theorem Ycd(a:List Nat):Ly n_ a=t_:=(rfl)
theorem Ycc(n:Nat):Ly (s_ n) []=t_:=(rfl)
theorem yTj(n k:Nat)(a:List Nat):Ly (s_ n) (k::a)=(decide (k<n)&&Ly (s_ n) a):=(rfl)
theorem Yil:PW=⟨[],[],n_⟩:=(rfl)
theorem Yff:H3 (n_:Option α)=[]:=(rfl)
theorem Yfe(x:α):H3 (s_ x)=[x]:=(rfl)
section
variable(ρ:PA->D) (st:St)
theorem Yhx(n:Nat)(p x:PA):yaY ρ st (.stor n p x)=s_ ⟨hk (ρ x),hk (ρ p),n_⟩:=(rfl)
theorem Yqy(x:PA):yaY ρ st (.box x)=s_ ⟨[],[],s_ st.length⟩:=(rfl)
theorem Ya4(sz:Nat):yaY ρ st (.mkmap sz)=s_ ⟨[],[],s_ st.length⟩:=(rfl)
theorem Ya6(sz:Nat)(ks:List Nat)(m k v:PA):yaY ρ st (.mapup sz ks m k v)=s_ ⟨[],hk (ρ m),n_⟩:=(rfl)
theorem Ya3(a b:Nat)(z:D)(l c:PA):yaY ρ st (.mkslc a b z l c)=s_ ⟨[],[],s_ st.length⟩:=(rfl)
theorem Ya5(f:Nat)(l:List PA):yaY ρ st (.mcall f l)=s_ ⟨[],[],s_ st.length⟩:=(rfl)
def VM(st:St)(s x:D):Option Foot:=match s with
 |.row key _ _ _=>s_ ⟨hk x,[key],n_⟩
 |_=>s_ ⟨hk x,[],G8 x st.length⟩
theorem Yss(key tot off len:Nat)(x:D):VM st (.row key tot off len) x=s_ ⟨hk x,[key],n_⟩:=(rfl)
theorem Ysr(sz:Nat)(els:List D)(t:Bool)(x:D):VM st (.slc sz els t) x=s_ ⟨hk x,[],G8 x st.length⟩:=(rfl)
theorem Ysp(sz:Nat)(t:Bool)(n:Nat):G8 (.slc sz [] t) n=n_:=(rfl)
theorem Yla(sz:Nat)(a:D)(l:List D)(t:Bool)(n:Nat):G8 (.slc sz (a::l) t) n=s_ n:=(rfl)
theorem Yso(key tot off len n:Nat):G8 (.row key tot off len) n=s_ n:=(rfl)
theorem Ysq(key off m sz:Nat)(ag:Bool)(n:Nat):G8 (.bsl key off m sz ag) n=s_ n:=(rfl)
theorem Ysn(s:zLB)(n:Nat):G8 (.str s) n=s_ n:=(rfl)
theorem Yqz(a b:Nat)(s x:PA):yaY ρ st (.app a b s x)=VM st (ρ s) (ρ x):=(rfl)
def Yh0(n:Nat)(ag:Bool)(x:PA):yaY ρ st (.load n ag x)=s_ ⟨hk (ρ x),[],n_⟩:=by simp[yaY,yaV]
theorem Yhy(x:PA):yaY ρ st (.nilc x)=s_ ⟨MT (ρ x),[],n_⟩:=(rfl)
theorem Yxd(key off:Nat):MT (.ptr key off)=[]:=(rfl)
theorem Yna(E:D)(off:Nat):MT (.eptr E off)=[]:=(rfl)
theorem Ym9(key tot i off:Nat):MT (.rptr key tot i off)=[key]:=(rfl)
theorem Yqx(n:Nat)(x:PA):yaY ρ st (.fld n x)=s_ ⟨MT (ρ x),[],n_⟩:=(rfl)
def Yh5(b:Bool)(x:PA):yaY ρ st (.len b x)=s_ ⟨hk (ρ x),[],n_⟩:=by simp[yaY,yaV]
def Yh1(n:Nat)(x i:PA):yaY ρ st (.idxS n x i)=s_ ⟨hk (ρ x)++hk (ρ i),[],n_⟩:=by simp[yaY,yaV]
theorem Yh2(n m:Nat)(x i:PA):yaY ρ st (.idxA n m x i)=s_ ⟨MT (ρ x),[],n_⟩:=(rfl)
theorem Ya1(n:Nat)(x:PA)(a b c:Option PA):yaY ρ st (.slice n x a b c)=s_ ⟨((x::(H3 a++H3 b++H3 c)).map ρ).flatMap hk,[],n_⟩:=(rfl)
theorem Yh3(f:Nat)(l:List PA):yaY ρ st (.call f l)=s_ ⟨(l.map ρ).flatMap hk,[],n_⟩:=(rfl)
theorem Yh4(n:Nat)(l:List PA):yaY ρ st (.bslc n l)=s_ ⟨(l.map ρ).flatMap hk,[],n_⟩:=(rfl)
end
attribute [irreducible] kF G6 Ys Rz L6 gr RW wF I8 rT jZ on Yh Ib ev TE FJ kG kV Gw W XI NZ DN Hx wW Ig EB KC Ot To KZ Yg Po RL UN
def E2:D->Bool
 |.int _ _ | .bool _ | .str _ | .clo _ [] | .nilf | .nilp=>t_
 |.slc sz els t=>!t&&nz sz els==sz
 |_=>f_
def JE:D->Bool
 |.agg l=>l.all E2
 |d=>E2 d
variable{d:D}
theorem tH(st:St)(h:E2 d=t_):DO st d=s_ d:=by
 cases d with
 |clo f l=>cases l<;>simp_all [E2,DO,D.pure1]
 |slc sz els t=>simp_all [E2,DO]
 |_=>simp_all [E2,DO,D.pure1]
theorem Xd(st:St):∀{l:List D},l.all E2=t_->Ef st l=s_ l
 |[],_=>rfl
 |d::l,h=>by
  simp only[AQ,Af]at h;simp only[Ef,tH st h.1,Xd st h.2]
def SN(st:St)(h:JE d=t_):D2 st d=s_ d:=by
 cases d with
 |agg l=>simp only[D2,Xd st h,Ae]
 |tup l=>simp[JE,E2]at h
 |_=>exact tH st (by simpa only[JE]using h)
theorem tI(h:E2 d=t_):Fw d=[]:=by cases d<;>simp_all [E2,Fw]
def SU(h:JE d=t_):keys d=[]:=by
 cases d with
 |agg l=>
  simp only[keys,Bz];simp only[JE,Ad]at h;exact λd hd=>tI (h d hd)
 |_=>exact tI (by simpa only[JE]using h)
theorem yMc(h:E2 d=t_):DT d=[]:=by
 cases d with
 |clo f l=>cases l<;>simp_all [E2,DT]
 |_=>simp_all [E2,DT,Gk]
def qY(h:JE d=t_):hk d=[]:=by
 cases d with
 |agg l=>
  simp only[hk,Bz];simp only[JE,Ad]at h;exact λd hd=>yMc (h d hd)
 |_=>exact yMc (by simpa only[JE]using h)
theorem yGo(n:Nat)(σ:List Nat)(h:E2 d=t_):E5 n σ d=d:=by
 cases d with
 |clo f l=>cases l<;>simp_all [E2,E5]
 |_=>simp_all [E2,E5,Hy]
theorem Uf(n:Nat)(σ:List Nat)(h:JE d=t_):ED n σ d=d:=by
 cases d with
 |agg l=>
  simp only[ED,D.agg.injEq];simp only[JE,Ad]at h
  have:∀l:List D,(∀d∈l,E2 d=t_)->l.map (E5 n σ)=l:=by
   intro l
   induction l with
   |nil=>intro _;rfl
   |cons a l E=>intro h;simp only[Av,yGo n σ (h a zac),E λd hd=>h d (by simp[hd])]
  grind
 |tup l=>simp[JE,E2]at h
 |_=>exact yGo n σ (by simpa only[JE]using h)
structure Dig where
 bs:zLB
 len:bs.length=32
 deriving DecidableEq
def DX:Dig:=⟨C7 32 0,zac⟩
instance:Inhabited Dig:=⟨DX⟩
theorem Dig.ext'{a b:Dig}(h:a.bs=b.bs):a=b:=by cases a;cases b;simp_all
def Dr(d:Dig):List D:=d.bs.map DK
def Ds(d:Dig):D:=.agg (Dr d)
def En(d:Dig):(Dr d).length=32:=by simp[Dr,d.len]
def yPl{a b:UInt8}(h:DK a=DK b):a=b:=by simp only[DK,D.int.injEq,zal]at h;exact UInt8.toNat_inj.1 zaa
theorem Q1{α β:Type}{f:α->β}(E:∀a b,f a=f b->a=b):∀{l l':List α},l.map f=l'.map f->l=l'
 |[],[],_=>rfl
 |[],_::_,h=>by cases h
 |_::_,[],h=>by cases h
 |a::l,b::l',h=>by
  simp only[Av,Ab]at h;rw[E _ _ h.1,Q1 E h.2]
variable{b:zLB}
def T6{a:zLB}(h:a.map DK=b.map DK):a=b:=Q1 (λ_ _=>yPl) h
def yW5{a b:Dig}(h:Ds a=Ds b):a=b:=by simp only[Ds,Dr,D.agg.injEq]at h;exact Dig.ext' (T6 h)
def Ol{a b:Dig}(h:Dr a=Dr b):a=b:=Dig.ext' (T6 h)
theorem My{p:D->Bool}(E:∀b,p (DK b)=t_)(d:Dig):(Dr d).all p=t_:=by simp only[Dr,Ad,AR];grind
def IW(d:Dig):(Dr d).all yaa=t_:=My (λ_=>rfl) d
def lF(d:Dig):(Dr d).all E2=t_:=My (λ_=>rfl) d
def Uj(d:Dig):JE (Ds d)=t_:=lF d
theorem SS(d:Dig):(Ds d).cells=Dr d:=(rfl)
def Ybg(d:Dig):(Ds d).noRef=t_:=My (λ_=>rfl) d
theorem oJ(d:Dig):D.mk t_ (Dr d)=Ds d:=(rfl)
theorem Yyw(x:D)(l:List D):D.mk t_ (x::l)=.agg (x::l):=(rfl)
theorem YHi(x:D)(l:List D):D.mk f_ (x::l)=x:=(rfl)
theorem YDd(d:Dig):D.agg (Dr d)=Ds d:=(rfl)
theorem Ylj:[yaW .u8 0,.int .u8 0,.int .u8 0,.int .u8 0,.int .u8 0,.int .u8 0,.int .u8 0,.int .u8 0,.int .u8 0,.int .u8 0,.int .u8 0,.int .u8 0,.int .u8 0,.int .u8 0,.int .u8 0,.int .u8 0,.int .u8 0,.int .u8 0,.int .u8 0,.int .u8 0,.int .u8 0,.int .u8 0,.int .u8 0,.int .u8 0,.int .u8 0,.int .u8 0,.int .u8 0,.int .u8 0,.int .u8 0,.int .u8 0,.int .u8 0,.int .u8 0]=Dr DX:=(rfl)
def YZ(d:Dig):(Dr d).take 32=Dr d:=AE (by rw[En];exact Au _)
def mP(h:E2 d=t_):JE d=t_:=by
 cases d with
 |agg l=>simp[E2]at h
 |_=>exact h
theorem OW(n:Nat)(σ:List Nat):∀{l:List D},l.all E2=t_->l.map (ED n σ)=l
 |[],_=>rfl
 |d::l,h=>by
  simp only[AQ,Af]at h;simp only[Av,Uf n σ (mP h.1),OW n σ h.2]
theorem Qh:∀{l:List D},l.all E2=t_->l.flatMap hk=[]
 |[],_=>rfl
 |d::l,h=>by
  simp only[AQ,Af]at h;simp only[AA,qY (mP h.1),Qh h.2,Ai]
def Yns(n:Nat)(σ:List Nat)(d:Dig):(Dr d).map (ED n σ)=Dr d:=OW n σ (lF d)
def Yqk(d:Dig):(Dr d).flatMap hk=[]:=Qh (lF d)
def YAg(st:St)(d:Dig):D2 st (Ds d)=s_ (Ds d):=SN st (Uj d)
def yWa(d:Dig):keys (Ds d)=[]:=SU (Uj d)
def YJj(d:Dig):hk (Ds d)=[]:=qY (Uj d)
def yUz(n:Nat)(σ:List Nat)(d:Dig):ED n σ (Ds d)=Ds d:=Uf n σ (Uj d)
def YCx(d:Dig):DM (Ds d)=s_ (Dr d):=by simp only[DM,SS,IW,zaj]
theorem yAd:∀(n:Nat)(a b:zLB),a.length=n->b.length=n->Gs (C7 n 0) (a.map DK) (b.map DK)=s_ (decide (a=b))
 |0,[],[],_,_=>rfl
 |0,_::_,_,h,_=>by cases h
 |0,[],_::_,_,h=>by cases h
 |n+1,[],_,h,_=>by cases h
 |n+1,_::_,[],_,h=>by cases h
 |n+1,a::l,b::l',h,E=>by
  simp only[An,Nat.add_right_cancel_iff]at h E;simp only[B3,Av,Gs,yAd n l l' h E];simp only[Kb,DK,zaj]
  congr 1
  by_cases e:a=b
  .grind
  .have:¬((a.toNat:Int)=(b.toNat:Int)):=λh=>e (UInt8.toNat_inj.1 zaa);grind
theorem Ya9(a b:Dig):Gs (C7 32 0) (Dr a) (Dr b)=s_ (decide (a=b)):=by
 rw[Dr,Dr,yAd 32 a.bs b.bs a.len b.len]
 congr 1
 by_cases e:a=b
 .grind
 .have E:¬a.bs=b.bs:=λh=>e (Dig.ext' h);simp[e,E]
def Ylf(E:Bool)(a b:Dig):Jg [0,0,0,0,0,0,0,0,0,0,0,0,0,0,0,0,0,0,0,0,0,0,0,0,0,0,0,0,0,0,0,0] E (Ds a) (Ds b)=s_ (.bool (decide (a=b)!=E)):=by
 show(Gs (C7 32 0) (Dr a) (Dr b)).map _=_
 rw[Ya9];rfl
theorem getElem?_getD[Inhabited α](l:List α)(i:Nat)(h:i<l.length):l[i]?=s_ (l.getD i d_):=by grind
theorem yL4[Inhabited α](l:List α)(i:Nat)(h:i<l.length):l.take (i+1)=l.take i++[l.getD i d_]:=by simp_all
theorem yOq[Inhabited α](l:List α)(i:Nat)(h:i<l.length):l.drop i=l.getD i d_::l.drop (i+1):=by simp_all
def yGn(l xs:List D)(h:l.length=xs.length):FZ l 0 xs=xs:=by simp[FZ,h]
def yGm(a b:Dig):FZ (Dr a) 0 (Dr b)=Dr b:=yGn _ _ (by rw[En,En])
def yQb(x:D)(l ys:List D)(n:Nat):FZ (x::l) (n+1) ys=x::FZ l n ys:=by simp[FZ,Nat.add_right_comm]
def DB(o:Option Obj)(n:Nat)(ag:Bool)(off:Nat):Option D:=if !ag&&n !=1 then n_ else o.bind λo=>if !o.row&&decide (off+n<=o.els.length)then s_ (.mk ag ((o.els.drop off).take n))else n_
def DV(o:Option Obj)(n:Nat)(off:Nat)(x:D):Option Obj:=o.bind λo=>if !o.row&&!o.lent&&decide (off+n<=o.els.length)&&x.cells.length==n&&x.cells.all yaa then s_ {o with els:=FZ o.els off x.cells} else n_
theorem Yet(st:St)(n:Nat)(ag:Bool)(key off:Nat):Fa st n ag (.ptr key off)=DB st[key]? n ag off:=by simp only[Fa,DB];grind
theorem Yer(st:St)(n:Nat)(key off:Nat)(x:D):Le st n (.ptr key off) x=(DV st[key]? n off x).map λo=>st.set key o:=by simp only[Le,DV];grind
section
variable{α:Type} (sz:Nat) (lent:Bool)
theorem Wo(x:D)(l:List D):DB (s_ ⟨f_,sz,x::l,lent⟩) 1 f_ 0=s_ x:=zad
theorem yV7(x:D)(l:List D)(n:Nat)(ag:Bool)(off:Nat):DB (s_ ⟨f_,sz,x::l,lent⟩) n ag (off+1)=DB (s_ ⟨f_,sz,l,lent⟩) n ag off:=by simp only[DB,Bj,List.drop_succ_cons,An];grind
def Yzm(d:Dig):DB (s_ ⟨f_,sz,Dr d,lent⟩) 32 t_ 0=s_ (Ds d):=by simp[DB,En,YZ,oJ]
def tV(x:D)(d:Dig):DB (s_ ⟨f_,sz,x::Dr d,lent⟩) 33 t_ 0=s_ (.agg (x::Dr d)):=by simp[DB,En,YZ,D.mk]
def vu{α:Type}[Inhabited α](f:α->D)(ws:List α)(i:Nat)(h:i<ws.length):DB (s_ ⟨f_,sz,ws.map f,lent⟩) 1 f_ i=s_ (f (ws.getD i d_)):=by
 have E:i+1<=ws.length:=h
 have:(ws.map f).drop i=f (ws.getD i d_)::(ws.map f).drop (i+1):=by
  rw[<-Cx,yOq ws i h,Av,Cx]
 simp[DB,this,D.mk,E]
def Is(cs:List D)(n:Nat)(h:cs.length=n):DB (s_ ⟨f_,sz,cs,lent⟩) n t_ 0=s_ (.agg cs):=by subst h;simp[DB,D.mk]
def Yaa{α:Type}(f:α->D)(ws:List α)(n:Nat)(h:ws.length=n):DB (s_ ⟨f_,sz,ws.map f,lent⟩) n t_ 0=s_ (.agg (ws.map f)):=
 Is sz lent _ n (by simpa using h)
def Ydc(x v:D)(l:List D)(hv:v.isCell=t_):DV (s_ ⟨f_,sz,x::l,f_⟩) 1 0 v=s_ ⟨f_,sz,v::l,f_⟩:=by simp[DV,Uu hv,hv,FZ]
def Ywz(x:D)(k:IntKind)(n:Int)(l:List D):DV (s_ ⟨f_,sz,x::l,f_⟩) 1 0 (.int k n)=s_ ⟨f_,sz,.int k n::l,f_⟩:=Ydc sz _ _ _ rfl
def Ywy(x:D)(key tot off len:Nat)(l:List D):DV (s_ ⟨f_,sz,x::l,f_⟩) 1 0 (.row key tot off len)=s_ ⟨f_,sz,.row key tot off len::l,f_⟩:=Ydc sz _ _ _ rfl
def Yw0(d e:Dig):DV (s_ ⟨f_,sz,Dr d,f_⟩) 32 0 (Ds e)=s_ ⟨f_,sz,Dr e,f_⟩:=by simp[DV,En,SS,IW,yGm]
def Hs(cs ds:List D)(n:Nat)(h:cs.length=n)(E:ds.length=n)(hc:ds.all yaa=t_):DV (s_ ⟨f_,sz,cs,f_⟩) n 0 (.agg ds)=s_ ⟨f_,sz,ds,f_⟩:=by subst h;simp[DV,yaZ,E,hc,yGn _ _ E.symm]
def yYg(x:D)(k:IntKind)(m:Int)(d e:Dig):DV (s_ ⟨f_,sz,x::Dr d,f_⟩) 33 0 (.agg (.int k m::Dr e))=s_ ⟨f_,sz,.int k m::Dr e,f_⟩:=
 Hs sz _ _ 33 (by simp[En]) (by simp[En]) (by simp[IW,yaa])
def Ydb(f:α->D)(E:∀a,(f a).isCell=t_)(ws:List α)(i:Nat)(v:α)(h:i<ws.length):DV (s_ ⟨f_,sz,ws.map f,f_⟩) 1 i (f v)=s_ ⟨f_,sz,(ws.set i v).map f,f_⟩:=by
 have N:i+1<=ws.length:=h
 have h3:FZ (ws.map f) i [f v]=(ws.set i v).map f:=by
  rw[Ch,FZ,Cc];simp[h]
 simp[DV,Uu (E v),E v,N,h3]
def Ymr(ws:zLB)(i:Nat)(v:UInt8)(h:i<ws.length):DV (s_ ⟨f_,sz,ws.map DK,f_⟩) 1 i (DK v)=s_ ⟨f_,sz,(ws.set i v).map DK,f_⟩:=Ydb sz DK (λ_=>rfl) ws i v h
def Ymq(ws:List UInt32)(i:Nat)(v:UInt32)(h:i<ws.length):DV (s_ ⟨f_,sz,ws.map wD,f_⟩) 1 i (wD v)=s_ ⟨f_,sz,(ws.set i v).map wD,f_⟩:=Ydb sz wD (λ_=>rfl) ws i v h
theorem lj{α:Type}(f:α->D)(E:∀a,(f a).isCell=t_)(ws:List α):(ws.map f).all yaa=t_:=by grind
def Yms(ws vs:List UInt32)(n:Nat)(h:ws.length=n)(E:vs.length=n):DV (s_ ⟨f_,sz,ws.map wD,f_⟩) n 0 (.agg (vs.map wD))=s_ ⟨f_,sz,vs.map wD,f_⟩:=
 Hs sz _ _ n (by simpa using h) (by simpa using E) (lj wD (λ_=>rfl) vs)
def Ymt(ws vs:zLB)(n:Nat)(h:ws.length=n)(E:vs.length=n):DV (s_ ⟨f_,sz,ws.map DK,f_⟩) n 0 (.agg (vs.map DK))=s_ ⟨f_,sz,vs.map DK,f_⟩:=
 Hs sz _ _ n (by simpa using h) (by simpa using E) (lj DK (λ_=>rfl) vs)
end
theorem yY2(st:St)(n:Nat)(ag:Bool)(key tot i off:Nat):Fa st n ag (.rptr key tot i off)=if !ag&&n !=1 then n_ else(st[key]?).bind λo=>if o.row&&o.els.length==tot then(o.els[i]?).bind λel=>if off+n<=el.cells.length then s_ (.mk ag ((el.cells.drop off).take n))else n_ else n_:=by simp only[Fa];grind
def yY7(st:St)(d:Dig):Fa st 32 t_ (.eptr (Ds d) 0)=s_ (Ds d):=by simp[Fa,SS,En,YZ,oJ]
def Ua(k:IntKind)(n:Int)(h:0<=n):FA (.int k n)=s_ n.toNat:=by simp[FA,h]
theorem yZr(k:IntKind):FA (.int k 0)=s_ 0:=(rfl)
def Mz(st:St)(n key off:Nat)(k:IntKind)(i:Int)(E:0<=i)(h1:i<(n:Int)):J8 st n 1 (.ptr key off) (.int k i)=s_ (.ptr key (off+i.toNat)):=by
 have N:i.toNat<n:=zaa
 simp[J8,Ua k i E,N,FE]
def Yhi(st:St)(n off:Nat)(E:D)(k:IntKind)(i:Int)(N:0<=i)(h1:i<(n:Int)):J8 st n 1 (.eptr E off) (.int k i)=s_ (.eptr E (off+i.toNat)):=by
 have h2:i.toNat<n:=zaa
 simp[J8,Ua k i N,h2,FE]
def yY5[Inhabited α](st:St)(f:α->D)(ws:List α)(i:Nat)(h:i<ws.length):Fa st 1 f_ (.eptr (.agg (ws.map f)) i)=s_ (f (ws.getD i d_)):=by have:=vu 1 f_ f ws i h;simpa[Fa,DB,yaZ]using this
def xd(st:St)(x:D)(h:x.isCell=t_):Fa st 1 f_ (.eptr x 0)=s_ x:=by simp[Fa,Uu h,D.mk]
def uh(st:St)(b:UInt8):Fa st 1 f_ (.eptr (DK b) 0)=s_ (DK b):=xd st _ rfl
def yY6(st:St)(k:IntKind)(n:Int):Fa st 1 f_ (.eptr (.int k n) 0)=s_ (.int k n):=xd st _ rfl
def yWp[Inhabited α](st:St)(sz:Nat)(f:α->D)(l:List α)(t:Bool)(k:IntKind)(i:Int)(E:0<=i)(h1:i<(l.length:Int)):
  ER st sz (.slc sz (l.map f) t) (.int k i)=s_ (.eptr (f (l.getD i.toNat d_)) 0):=by
 have N:i.toNat<l.length:=zaa
 simp only[ER,Ua k i E,AI,getElem?_getD l i.toNat N,Ae,zas,zaj]
theorem Ypi(st:St)(sz:Nat)(els:List D)(t:Bool):E0 st f_ (.slc sz els t)=s_ (.int .i64 (els.length:Int)):=(rfl)
theorem Yph(st:St)(s:zLB):E0 st t_ (.str s)=s_ (.int .i64 (s.length:Int)):=(rfl)
theorem Ypj(st:St)(key tot off len:Nat):E0 st f_ (.row key tot off len)=if EY st key tot then s_ (.int .i64 (len:Int))else n_:=by simp only[E0,Kk,FB,zas,zaj];grind
theorem Yoh(st:St)(sz bytes key tot:Nat)(x:D)(o:Obj)(xs:List D)(E:Nat)(N:st[key]?=s_ o)(hr:o.row=t_)(hz:o.sz=sz)(ht:o.els.length=tot)
  (hx:H6 st x=s_ (E,xs)) (hs:E=sz\/xs=[]) (h0:sz≠0) (hb:(tot+xs.length)*bytes<=140737488355328) (hl:tot+xs.length<=4294967296):
  EW st sz bytes (.row key tot 0 tot) x=s_ (.row key (tot+xs.length) 0 (tot+xs.length),st.set key {o with els:=o.els++xs}):=by
 have e:(!(E==sz||xs.isEmpty)||sz==0)=f_:=by
  grind
 simp only[EW,hx,e,N,hr,hz,ht,hb,hl,zas,Bd,zah,zaj,Ao,zam]
theorem yVg(st:St)(sz bytes E:Nat)(els:List D)(x:D)(xs:List D)(N:Nat)(hx:H6 st x=s_ (N,xs))(hs:N=sz\/xs=[])(ad:E=sz\/els=[])(h0:sz≠0)(ae:xs≠[])
  (hb:(els.length+xs.length)*bytes<=140737488355328) (hl:els.length+xs.length<=4294967296):
  EW st sz bytes (.slc E els t_) x=s_ (.row st.length (els.length+xs.length) 0 (els.length+xs.length),st++[{row:=t_,sz,els:=els++xs,lent:=f_}]):=by
 have e2:xs.isEmpty=f_:=by cases xs<;>simp_all
 have e:(!(N==sz||false)||sz==0)=f_:=by
  grind
 have e3:(E==sz||els.isEmpty)=t_:=by
  grind
 simp only[EW,hx,e,e2,e3,hb,hl,Bd,zah,zaj,Ao,zam]
def yVf(st:St)(sz bytes E:Nat)(els:List D)(x:D)(N:Nat)(hx:H6 st x=s_ (N,[]))(h0:sz≠0):
  EW st sz bytes (.slc E els t_) x=s_ (.slc E els t_,st):=by simp[EW,hx,h0]
theorem yE8:∀(l:List D),KQ 1 f_ l l.length=l
 |[]=>rfl
 |a::l=>by simp[KQ,D.mk,yE8 l]
def EC(sz key:Nat)(els:List D):D:=if els.isEmpty then .slc sz [] t_ else .row key els.length 0 els.length
def D3(sz:Nat)(els:List D):St:=if els.isEmpty then []else [{row:=t_,sz,els,lent:=f_}]
theorem yXn(sz key:Nat):EC sz key []=.slc sz [] t_:=(rfl)
def Yoi(st:St)(sz sz0 bytes:Nat)(els xs:List D)(x:D)(E:Nat)(N:H6 (st++D3 sz els) x=s_ (E,xs))(hs:E=sz\/xs=[])(hs0:sz≠0)
  (hb:(els.length+xs.length)*bytes<=140737488355328) (hl:els.length+xs.length<=4294967296):
  EW (st++D3 sz els) sz bytes (EC sz0 st.length els) x=s_ (EC sz0 st.length (els++xs),st++D3 sz (els++xs)):=by
 cases els with
 |nil=>
  cases xs with
  |nil=>
   rw[yXn,yVf _ _ _ _ _ _ E N hs0];rfl
  |cons a l=>
   rw[yXn,yVg _ _ _ _ _ _ (a::l) E N hs (.inr rfl) hs0 zac (by simpa using hb) (by simpa using hl)];simp[EC,D3]
 |cons e r=>
  have hg:(st++D3 sz (e::r))[st.length]?=s_ {row:=t_,sz,els:=e::r,lent:=f_}:=by simp[D3]
  have:=Yoh (st++D3 sz (e::r)) sz bytes st.length (e::r).length x _ xs E hg rfl rfl rfl N hs hs0 hb hl;simp only[EC,List.isEmpty_cons,Ao,zam,Aj]at this⊢;rw[this];simp[D3,Nat.add_right_comm]
theorem YGm(fr:Frame)(s t:Nat)(d:D):(fr.set s d) t=if t=s then d else fr t:=(rfl)
theorem YHj(s t:Nat)(d:D)(r:List (Nat×D)):GU ((s,d)::r) t=if t=s then d else GU r t:=(rfl)
attribute [push_cast] Ycp yP1 yX7 Yzp Ypu YIm Yg0 Yn1 Yxy Yxw Yen Yem Yn2 Yxz Yn0 Yx0 Yxx
attribute [push_cast] Ya4 Ya6 YMz yYo ki Yl2 yX5 yX6 Fc Yv2 cQ YJ6 Yzz YB5 Yrj YKz eX Ysl Yk5 Ycd Ycc yTj Yil Yff Yfe Yhx Yqy Ya3 Ya5 Yss Ysr Ysp Yla Yso Ysq Ysn Yqz Yh0 Yhy Yqx Yh5 Yh1 Yh2 Ya1 Yh3 Yh4 Yxd Yna Ym9 Option.isNone_none Option.isNone_some
attribute [push_cast] Yfk Yyn Yow Yqh Yhh Yl0 yX2 yX3 Yz3 Yp3 YI2 Yzx Yz0 Yp2 gG gw YIr gH gI YI1 YIt YIq YIs gJ gL gN k_un YIz Yzw Yzu Yp1 gE YIy YIw YIx gz YIv gy YIu gM k_mm gx Yzv Yz1 Yz2 Yzy YI0 gF Yn5 Yn6 YGm eB eD YHj YMn YMm YMl YMk YMj YMi YMh YMg YMu j9 j6 Yc0 Yc1 Ymf YMy YDk Yop Yyi YG6 YMx j7 Ynd Yd8 yUv yMm Ylj
attribute [push_cast] YAi iY YKf yZe yRl yZf YKe YKd YKc YAg yWa YJj yUz En IW SS Ybg oJ YDd Yyw YHi YZ YCx Ylf yY7 Yet Yer Wo yV7 Yzm tV vu Yaa Ywz Ywy Yw0 yYg Ymr Ymq Yms Ymt uh yY6 yY5 Ypi Yph
theorem pT(st:St)(k:IntKind)(n:Int):D2 st (.int k n)=s_ (.int k n):=(rfl)
theorem Yqd(st:St)(b:Bool):D2 st (.bool b)=s_ (.bool b):=(rfl)
theorem YAc(st:St)(s:zLB):D2 st (.str s)=s_ (.str s):=(rfl)
theorem YAd(st:St)(sz:Nat)(els:List D)(t:Bool):D2 st (.slc sz els t)=s_ (.slc (nz sz els) els f_):=(rfl)
theorem YAe(st:St)(key tot off len:Nat):D2 st (.row key tot off len)=(I6 st key tot off len).map λp=>.slc (nz p.1 p.2) p.2 f_:=(rfl)
theorem Wn(st:St)(l:List D):D2 st (.agg l)=(Ef st l).map .agg:=(rfl)
theorem Yqf(st:St):Ef st []=s_ []:=(rfl)
def kM(st:St)(d:D)(l:List D):Ef st (d::l)=(DO st d).bind λx=>(Ef st l).map (x::·):=by
 simp only[Ef]
 cases DO st d with
 |none=>rfl
 |some x=>cases Ef st l<;>rfl
theorem yWj(st:St):Ey st []=s_ []:=(rfl)
def yN8(st:St)(d:D)(l:List D):Ey st (d::l)=(D2 st d).bind λx=>(Ey st l).map (x::·):=by
 simp only[Ey]
 cases D2 st d with
 |none=>rfl
 |some x=>cases Ey st l<;>rfl
def yWm(st:St)(d:Dig):Ef st (Dr d)=s_ (Dr d):=Xd st (lF d)
theorem Yqp(s:PS):E8 s []=s_ []:=(rfl)
def Yhs(s:PS)(r:PRes)(l:List PRes):E8 s (r::l)=(r.get s).bind λx=>(E8 s l).map (x::·):=by
 simp only[E8]
 cases r.get s with
 |none=>rfl
 |some x=>cases E8 s l<;>rfl
theorem YA6(fr:Frame)(st:St)(t:Nat):PRes.get ⟨fr,st⟩ (.tmp t)=D2 st (fr t):=(rfl)
theorem Yqs(fr:Frame)(st:St)(t n:Nat)(ag:Bool):PRes.get ⟨fr,st⟩ (.cell t n ag)=(Fa st n ag (fr t)).bind λd=>D2 st d:=by simp only[PRes.get];grind
theorem Yn4(s:PS):Ed s []=s_ []:=(rfl)
theorem Yn3(fr:Frame)(st:St)(t:Nat)(l:List PRes):Ed ⟨fr,st⟩ (.tmp t::l)=(Ed ⟨fr,st⟩ l).map (fr t::·):=(rfl)
theorem Yol(d:D):DS [d]=d:=(rfl)
theorem Yok(a b:D)(l:List D):DS (a::b::l)=.tup (a::b::l):=(rfl)
theorem Yom:DS []=.tup []:=(rfl)
theorem Yft(k:IntKind)(n:Int):(yaW k n).noRef=t_:=(rfl)
theorem yZo(b:Bool):(D.bool b).noRef=t_:=(rfl)
theorem Yfs(sz:Nat)(els:List D)(t:Bool):(D.slc sz els t).noRef=f_:=(rfl)
theorem qH(k:IntKind)(n:Int):keys (.int k n)=[]:=(rfl)
theorem Ygx(b:Bool):keys (.bool b)=[]:=(rfl)
theorem Ypv(s:zLB):keys (.str s)=[]:=(rfl)
theorem Ypw(sz:Nat)(els:List D)(t:Bool):keys (.slc sz els t)=[]:=(rfl)
theorem Ypx(key tot off len:Nat):keys (.row key tot off len)=[key]:=(rfl)
theorem YJi(k:IntKind)(n:Int):hk (.int k n)=[]:=(rfl)
theorem YAt(b:Bool):hk (.bool b)=[]:=(rfl)
theorem YJd(s:zLB):hk (.str s)=[]:=(rfl)
theorem YJe(sz:Nat)(els:List D)(t:Bool):hk (.slc sz els t)=[]:=(rfl)
theorem YJf(key tot off len:Nat):hk (.row key tot off len)=[key]:=(rfl)
theorem YJg(key off:Nat):hk (.ptr key off)=[key]:=(rfl)
theorem YJc(l:List D):hk (.tup l)=[]:=(rfl)
theorem YAq:hk .junk=[]:=(rfl)
theorem Yxj(n:Nat)(σ:List Nat)(k:IntKind)(m:Int):ED n σ (.int k m)=.int k m:=(rfl)
theorem Yno(n:Nat)(σ:List Nat)(b:Bool):ED n σ (.bool b)=.bool b:=(rfl)
theorem Yxf(n:Nat)(σ:List Nat)(s:zLB):ED n σ (.str s)=.str s:=(rfl)
theorem Yxg(n:Nat)(σ:List Nat)(sz:Nat)(els:List D)(t:Bool):ED n σ (.slc sz els t)=.slc sz els t:=(rfl)
theorem Yxh(n:Nat)(σ:List Nat)(key tot off len:Nat):ED n σ (.row key tot off len)=KI (λk=>.row k tot off len) (Fv n σ key):=(rfl)
theorem Yxi(n:Nat)(σ:List Nat)(key off:Nat):ED n σ (.ptr key off)=KI (λk=>.ptr k off) (Fv n σ key):=(rfl)
theorem yRp(f:Nat->D)(k:Nat):KI f (s_ k)=f k:=(rfl)
theorem Yse(k:IntKind)(n:Int):DM (.int k n)=s_ [.int k n]:=(rfl)
theorem Ykx(b:Bool):DM (.bool b)=s_ [.bool b]:=(rfl)
theorem Ysd(sz:Nat)(els:List D)(t:Bool):DM (.slc sz els t)=s_ [.slc sz els t]:=(rfl)
theorem Yjb(k:IntKind)(n:Int):(yaW k n).cells=[.int k n]:=(rfl)
theorem Ybs(b:Bool):(D.bool b).cells=[.bool b]:=(rfl)
theorem Yi8(sz:Nat)(els:List D)(t:Bool):(D.slc sz els t).cells=[.slc sz els t]:=(rfl)
theorem Yi9(key tot off len:Nat):(D.row key tot off len).cells=[.row key tot off len]:=(rfl)
theorem Yjc(l:List D):(D.agg l).cells=l:=(rfl)
theorem tT(k:IntKind)(n:Int):(yaW k n).isCell=t_:=(rfl)
theorem ySh(b:Bool):(D.bool b).isCell=t_:=(rfl)
theorem Yaj(sz:Nat)(els:List D)(t:Bool):(D.slc sz els t).isCell=t_:=(rfl)
theorem Yak(key tot off len:Nat):(D.row key tot off len).isCell=t_:=(rfl)
theorem YFa(b:Bool):Pq .not (.bool b)=s_ (.bool !b):=(rfl)
def YC3(k:IntKind)(a b:Int):DI .lss (.int k a) (.int k b)=s_ (.bool (decide (a<b))):=by simp only[DI,zaj,K4,Ae]
def YC4(k:IntKind)(a b:Int):DI .leq (.int k a) (.int k b)=s_ (.bool (decide (a<=b))):=by simp only[DI,zaj,K4,Ae]
def YC5(k:IntKind)(a b:Int):DI .gtr (.int k a) (.int k b)=s_ (.bool (decide (b<a))):=by simp only[DI,zaj,K4,Ae,gt_iff_lt]
def YC6(k:IntKind)(a b:Int):DI .geq (.int k a) (.int k b)=s_ (.bool (decide (b<=a))):=by simp only[DI,zaj,K4,Ae,ge_iff_le]
def Yk0(k:IntKind)(a b:Int):DI .eql (.int k a) (.int k b)=s_ (.bool (decide (a=b))):=by simp only[DI,zaj,K4,Ae];rfl
def YC2(k:IntKind)(a b:Int):DI .neq (.int k a) (.int k b)=s_ (.bool (!decide (a=b))):=by simp only[DI,zaj,K4,Ae];rfl
theorem Ysi(E a b:Bool):Pr E (.bool a) (.bool b)=s_ (.bool ((a==b)!=E)):=(rfl)
def YHg(k k':IntKind)(a b:Int):Yi t_ (.int k a) (.int k' b)=s_ (.int k (max a b)):=by
 simp only[Yi,zaj]
 congr 2
 omega
def YHf(k k':IntKind)(a b:Int):Yi f_ (.int k a) (.int k' b)=s_ (.int k (min a b)):=by
 simp only[Yi,Ao,zam]
 congr 2
 omega
def Yyu(k k' E:IntKind)(a b c:Int):RS t_ (.int k a) (.int k' b) (.int E c)=s_ (.int k (max (max a b) c)):=by
 simp only[RS,Pv,zaj]
 congr 2
 omega
theorem Yoc(st:St)(off key o:Nat):FE st off (.ptr key o)=s_ (.ptr key (o+off)):=(rfl)
theorem Ye5(st:St)(off:Nat)(E:D)(o:Nat):FE st off (.eptr E o)=s_ (.eptr E (o+off)):=(rfl)
theorem Ypg(st:St):lend [] st=st:=(rfl)
theorem Yge(k:Nat)(r:List Nat)(st:St):lend (k::r) st=lend r (st.modify k λo=>{o with lent:=t_}):=(rfl)
def ySg(b:Bool)(x:St):(if b=t_ then x else x)=x:=by cases b<;>rfl
def yGp(n sz:Nat)(ag:Bool)(key off:Nat)(h:0<n):Sv n sz ag (.ptr key off) n_ n_=s_ (.bsl key off n sz ag):=by
 have:¬0=n:=zaa
 simp[Sv,GV,this]
attribute [push_cast] pT Yqd YAc YAd YAe Wn Yqf kM yWj yN8 yWm Yqp Yhs YA6 Yqs Yn4 Yn3 Yol Yok Yom Yft yZo Yfs qH Ygx Ypv Ypw Ypx YJi YAt YJd YJe YJf YJg YJc YAq Yxj Yno Yxf Yxg Yxh Yxi yRp Yse Ykx Ysd Yjb Ybs Yi8 Yi9 Yjc tT ySh Yaj Yak YFa YC3 YC4 YC5 YC6 Yk0 YC2 Ysi YHg YHf Yyu Yoc Ye5 Ypg Yge ySg Option.map_some Option.map_none Option.bind_some Option.bind_none List.map_cons List.map_nil List.flatMap_cons List.flatMap_nil List.append_nil List.nil_append List.cons_append List.getElem?_cons_zero List.getElem?_cons_succ List.set_cons_zero List.set_cons_succ List.modify_zero_cons List.modify_succ_cons List.length_cons List.length_nil List.length_map List.take_zero List.take_succ_cons List.all_cons List.all_nil Nat.zero_add Nat.add_zero Bool.not_true Bool.not_false Bool.and_self Bool.true_and Bool.and_true Bool.false_and Bool.and_false Bool.or_false Bool.false_or Bool.true_or Bool.or_true Bool.not_not if_true if_false decide_true decide_false beq_self_eq_true Bool.false_eq_true Bool.true_eq_false ne_eq bne_self_eq_false Bool.bne_false Bool.bne_true Nat.lt_irrefl Nat.le_refl
def O5(fr:Frame):List Nat->List Nat
 |[]=>[]
 |k::r=>hk (fr k)++O5 fr r
def Lh(fr:Frame)(n:Nat)(σ:List Nat):List Nat->List (Nat×D)
 |[]=>[]
 |k::r=>(k,ED n σ (fr k))::Lh fr n σ r
def HG:St->List Nat
 |[]=>[]
 |o::r=>(if o.row then []else o.els.flatMap hk)++HG r
def Ow(n:Nat)(σ:List Nat)(st:St):List Nat->St
 |[]=>[]
 |k::r=>FD n σ (st.getD k d_)::Ow n σ st r
def K1(n:Nat)(σ:List Nat):St->St
 |[]=>[]
 |o::r=>FD n σ o::K1 n σ r
def Zg(keep:List Nat)(n m:Nat)(l:List Nat)(fr:Frame)(st:St):PS:=restrictAt keep n (FT n m l []) ⟨fr,st⟩
theorem wJ(fr:Frame):∀keep:List Nat,O5 fr keep=keep.flatMap λk=>hk (fr k)
 |[]=>rfl
 |k::r=>by rw[O5,AA,wJ fr r]
theorem Ykw:∀st:St,HG st=st.flatMap λo=>if o.row then []else o.els.flatMap hk
 |[]=>rfl
 |k::r=>by rw[HG,AA,Ykw r]
theorem YJ(fr:Frame)(n:Nat)(σ:List Nat):∀keep:List Nat,Lh fr n σ keep=keep.map λk=>(k,ED n σ (fr k))
 |[]=>rfl
 |k::r=>by rw[Lh,Av,YJ fr n σ r]
theorem xa(n:Nat)(σ:List Nat)(st:St):∀l:List Nat,Ow n σ st l=l.map λk=>FD n σ (st.getD k d_)
 |[]=>rfl
 |k::r=>by rw[Ow,Av,xa n σ st r]
theorem qb(n:Nat)(σ:List Nat):∀st:St,K1 n σ st=st.map (FD n σ)
 |[]=>rfl
 |k::r=>by rw[K1,Av,qb n σ r]
def yM(keep:List Nat)(n:Nat)(fr:Frame)(st:St):PS:=Zg keep n st.length (O5 fr keep++HG (st.take n)) fr st
def yQ5(keep:List Nat)(n:Nat)(fr:Frame)(st:St):restrict keep n ⟨fr,st⟩=yM keep (if n<=st.length then n else st.length) fr st:=by simp only[restrict,yM,Zg,aE,wJ,Ykw]
theorem yMq(keep:List Nat)(n:Nat)(fr:Frame)(st:St):yM keep n fr st=Zg keep n st.length (O5 fr keep++HG (st.take n)) fr st:=(rfl)
def Zh(keep:List Nat)(n:Nat)(σ:List Nat)(fr:Frame)(st:St):PS:=⟨GU (Lh fr n σ keep),K1 n σ (st.take n)++Ow n σ st σ⟩
def yMr(keep:List Nat)(n m:Nat)(l:List Nat)(fr:Frame)(st:St):Zg keep n m l fr st=Zh keep n (FT n m l []) fr st:=by simp only[Zg,restrictAt,Zh,YJ,picked,qb,xa]
def yJo(keep:List Nat)(n:Nat)(σ:List Nat)(fr:Frame)(st:St):restrictAt keep n σ ⟨fr,st⟩=Zh keep n σ fr st:=by simp only[restrictAt,Zh,YJ,picked,qb,xa]
theorem yMp(keep:List Nat)(n:Nat)(σ:List Nat)(fr:Frame)(st:St):Zh keep n σ fr st=⟨GU (Lh fr n σ keep),K1 n σ (st.take n)++Ow n σ st σ⟩:=(rfl)
theorem Yhn(fr:Frame):O5 fr []=[]:=(rfl)
theorem Yaw(fr:Frame)(k:Nat)(r:List Nat):O5 fr (k::r)=hk (fr k)++O5 fr r:=(rfl)
theorem Yho(fr:Frame)(n:Nat)(σ:List Nat):Lh fr n σ []=[]:=(rfl)
theorem Yax(fr:Frame)(n:Nat)(σ:List Nat)(k:Nat)(r:List Nat):Lh fr n σ (k::r)=(k,ED n σ (fr k))::Lh fr n σ r:=(rfl)
theorem Ysb:HG []=[]:=(rfl)
theorem Ysa(sz:Nat)(els:List D)(lent:Bool)(r:St):HG ({row:=t_,sz,els,lent}::r)=HG r:=(rfl)
theorem Ysc(sz:Nat)(els:List D)(lent:Bool)(r:St):HG ({row:=f_,sz,els,lent}::r)=els.flatMap hk++HG r:=(rfl)
theorem Ye2(n:Nat)(σ:List Nat)(st:St):Ow n σ st []=[]:=(rfl)
theorem yZd(n:Nat)(σ:List Nat)(st:St)(k:Nat)(r:List Nat):Ow n σ st (k::r)=FD n σ (st.getD k d_)::Ow n σ st r:=(rfl)
theorem Ynp(n:Nat)(σ:List Nat):K1 n σ []=[]:=(rfl)
theorem Yeh(n:Nat)(σ:List Nat)(o:Obj)(r:St):K1 n σ (o::r)=FD n σ o::K1 n σ r:=(rfl)
theorem Yl5(lo hi:Nat)(E:List Nat):FT lo hi [] E=E:=(rfl)
theorem Yct(lo hi k:Nat)(r E:List Nat):FT lo hi (k::r) E=FT lo hi r (if lo<=k/\k<hi/\E.contains k=f_ then E++[k]else E):=(rfl)
theorem Yxq(n:Nat)(σ:List Nat)(key:Nat):Fv n σ key=if key<n then s_ key else Tm σ n key:=(rfl)
theorem Yn8(k k':Nat)(r:List Nat)(b:Nat):Tm (k::r) b k'=if k'=k then s_ b else Tm r (b+1) k':=(rfl)
theorem Ynq(n:Nat)(σ:List Nat)(sz:Nat)(els:List D)(lent:Bool):FD n σ {row:=t_,sz,els,lent}={row:=t_,sz,els,lent}:=(rfl)
theorem Ynr(n:Nat)(σ:List Nat)(sz:Nat)(els:List D)(lent:Bool):FD n σ {row:=f_,sz,els,lent}={row:=f_,sz,els:=els.map (ED n σ),lent}:=(rfl)
theorem Ynw(n:Nat)(σ:List Nat)(k:IntKind)(m:Int):E5 n σ (.int k m)=.int k m:=(rfl)
theorem Yej(n:Nat)(σ:List Nat)(b:Bool):E5 n σ (.bool b)=.bool b:=(rfl)
theorem Ynu(n:Nat)(σ:List Nat)(sz:Nat)(els:List D)(t:Bool):E5 n σ (.slc sz els t)=.slc sz els t:=(rfl)
theorem Ynt(n:Nat)(σ:List Nat)(s:zLB):E5 n σ (.str s)=.str s:=(rfl)
theorem Ynv(n:Nat)(σ:List Nat)(key tot off len:Nat):E5 n σ (.row key tot off len)=KI (λk=>.row k tot off len) (Fv n σ key):=(rfl)
theorem YAx(k:IntKind)(m:Int):DT (.int k m)=[]:=(rfl)
theorem Yql(b:Bool):DT (.bool b)=[]:=(rfl)
theorem YAv(sz:Nat)(els:List D)(t:Bool):DT (.slc sz els t)=[]:=(rfl)
theorem YAu(s:zLB):DT (.str s)=[]:=(rfl)
theorem YAw(key tot off len:Nat):DT (.row key tot off len)=[key]:=(rfl)
theorem YJm(key off m sz:Nat)(ag:Bool):hk (.bsl key off m sz ag)=[key]:=(rfl)
theorem YAl(key tot i off:Nat):hk (.rptr key tot i off)=[key]:=(rfl)
theorem YAp(key:Nat):hk (.mapv key)=[key]:=(rfl)
theorem YAo:hk .nilf=[]:=(rfl)
theorem YAm:hk .nilp=[]:=(rfl)
theorem YAn:hk .nilm=[]:=(rfl)
theorem YAr(l:GT):hk (.gmap l)=[]:=(rfl)
theorem Ynn(n:Nat)(σ:List Nat)(l:GT):ED n σ (.gmap l)=.gmap l:=(rfl)
theorem Ynj(n:Nat)(σ:List Nat):ED n σ .nilm=.nilm:=(rfl)
theorem Ynm(n:Nat)(σ:List Nat)(key:Nat):ED n σ (.mapv key)=KI .mapv (Fv n σ key):=(rfl)
theorem Ynk(n:Nat)(σ:List Nat):ED n σ .nilf=.nilf:=(rfl)
theorem Yni(n:Nat)(σ:List Nat):ED n σ .nilp=.nilp:=(rfl)
def Xy(keep:List Nat)(n:Nat)[Inv:InvC][Q:QC](e:Ex)(fr:Frame)(st:St):Prop:=match e with
 |.next=>Inv.run (restrict keep n ⟨fr,st⟩)
 |e=>Q.run e fr st
def oo(s:PS)[Inv:InvC]:Prop:=Inv.run s
theorem yZy(keep:List Nat)(n:Nat)(E:PS->Prop)(Q:QC)(fr:Frame)(st:St):@Xy keep n ⟨E⟩ Q .next fr st=@oo (restrict keep n ⟨fr,st⟩) ⟨E⟩:=(rfl)
theorem yZz(keep:List Nat)(n:Nat)(E:InvC)(Q:Ex->Frame->St->Prop)(N:Nat)(fr:Frame)(st:St):@Xy keep n E ⟨Q⟩ (.exit N) fr st=Q (.exit N) fr st:=(rfl)
theorem Yf7(keep:List Nat)(n:Nat)(E:InvC)(Q:Ex->Frame->St->Prop)(fr:Frame)(st:St):@Xy keep n E ⟨Q⟩ .ret fr st=Q .ret fr st:=(rfl)
theorem yRz(keep:List Nat)(n:Nat)(E:InvC)(Q:Ex->Frame->St->Prop)(t:Nat)(d:D)(fr:Frame)(st:St):@Xy keep n E ⟨Q⟩ (.panic t d) fr st=Q (.panic t d) fr st:=(rfl)
theorem Gn(hd:ι->List (Nat×D))(E:ι->St)(P:ι->Prop)(μ:ι->Nat)(N:ι)
  (h0:restrict keep st.length ⟨fr,st⟩=⟨GU (hd N),E N⟩) (hP:P N)
  (aa:∀i,P i->@wW G T c (GU (hd i)) (E i) ⟨@Xy keep st.length ⟨λs=>∃j,(P j/\μ j<μ i)/\s=⟨GU (hd j),E j⟩⟩ ⟨Q⟩⟩):@wW G T (.loop keep c) fr st ⟨Q⟩:=by
 refine UP (YMw hd E P μ N h0 hP λi hi=>LG c _ _ _ _ (Gr (aa i hi)) λe ad st' h=>?_)
 cases e with
 |next=>
  obtain⟨j,⟨h1,h2⟩,h3⟩:=h;grind
 |exit id=>exact h
 |ret=>exact h
 |panic t d=>exact h
def EV{hd:ι->List (Nat×D)}{E:ι->St}{P m:ι->Prop}{s:PS}(j:ι)(N:P j)(h2:m j)(h3:s=⟨GU (hd j),E j⟩):@oo s ⟨λs=>∃j,(P j/\m j)/\s=⟨GU (hd j),E j⟩⟩:=⟨j,⟨N,h2⟩,h3⟩
def XU(keep:List Nat)[Inv:InvC][Q:QC](e:Ex)(fr:Frame)(st:St):Prop:=match e with
 |.next=>Inv.run (keepAll keep ⟨fr,st⟩)
 |e=>Q.run e fr st
theorem yR0(keep:List Nat)(E:PS->Prop)(Q:QC)(fr:Frame)(st:St):@XU keep ⟨E⟩ Q .next fr st=@oo (keepAll keep ⟨fr,st⟩) ⟨E⟩:=(rfl)
theorem yR1(keep:List Nat)(E:InvC)(Q:Ex->Frame->St->Prop)(N:Nat)(fr:Frame)(st:St):@XU keep E ⟨Q⟩ (.exit N) fr st=Q (.exit N) fr st:=(rfl)
theorem yZ0(keep:List Nat)(E:InvC)(Q:Ex->Frame->St->Prop)(fr:Frame)(st:St):@XU keep E ⟨Q⟩ .ret fr st=Q .ret fr st:=(rfl)
theorem yNl(keep:List Nat)(E:InvC)(Q:Ex->Frame->St->Prop)(t:Nat)(d:D)(fr:Frame)(st:St):@XU keep E ⟨Q⟩ (.panic t d) fr st=Q (.panic t d) fr st:=(rfl)
def Yt(fr:Frame):List Nat->List (Nat×D)
 |[]=>[]
 |k::l=>(k,fr k)::Yt fr l
theorem Yg1(fr:Frame):Yt fr []=[]:=(rfl)
theorem Yaf(fr:Frame)(k:Nat)(l:List Nat):Yt fr (k::l)=(k,fr k)::Yt fr l:=(rfl)
theorem yWd(fr:Frame):∀l,l.map (λk=>(k,fr k))=Yt fr l
 |[]=>rfl
 |k::l=>by rw[Av,yWd fr l];rfl
def Yah(keep:List Nat)(fr:Frame)(st:St):keepAll keep ⟨fr,st⟩=⟨GU (Yt fr keep),st⟩:=by rw[<-yWd];rfl
theorem NP(hd:ι->List (Nat×D))(E:ι->St)(P:ι->Prop)(μ:ι->Nat)(N:ι)
  (h0:keepAll keep ⟨fr,st⟩=⟨GU (hd N),E N⟩) (hP:P N)
  (aa:∀i,P i->@wW G T c (GU (hd i)) (E i) ⟨@XU keep ⟨λs=>∃j,(P j/\μ j<μ i)/\s=⟨GU (hd j),E j⟩⟩ ⟨Q⟩⟩):@wW G T (.loopA keep c) fr st ⟨Q⟩:=by
 refine UP (YDj hd E P μ N h0 hP λi hi=>LG c _ _ _ _ (Gr (aa i hi)) λe ad st' h=>?_)
 cases e with
 |next=>
  obtain⟨j,⟨h1,h2⟩,h3⟩:=h;grind
 |exit id=>exact h
 |ret=>exact h
 |panic t d=>exact h
def Nz:PC->Bool
 |.seq a b | .cond _ a b=>Nz a&&Nz b
 |.block _ c=>Nz c
 |.loop _ _ | .loopA _ _ | .range _ _ _ _ | .alt _ _=>f_
 |_=>t_
theorem yEu(m m':Nat):∀(c:PC),Nz c=t_->∀s,c.exec G T m s=c.exec G T m' s:=by
 intro c
 induction c with
 |seq a b E N=>
  intro h s;simp only[Nz,Af]at h;simp only[yaX,E h.1 s];grind
 |cond x a b E N=>
  intro h s;simp only[Nz,Af]at h;simp only[yaX,E h.1 s,N h.2 s]
 |block id c ih=>
  intro h s;simp only[Nz]at h;simp only[yaX,ih h s]
 |loop=>intro h;simp[Nz]at h
 |loopA=>intro h;simp[Nz]at h
 |range=>intro h;simp[Nz]at h
 |alt=>intro h;simp[Nz]at h
 |_=>intro _ s;rfl
def aM(k:Nat)(r:D)(st':St):Ex->St->Prop
 |.next,st2=>r=.bool t_/\st'=st2.set k (recO 0)
 |.ret,st2=>r=.bool f_/\st'=st2.set k (recO 1)
 |_,_=>False
def qU{a b:PC}(ha:Nz a=t_)(hb:Nz b=t_){k:Nat}{r:D}(hl:ds.length=ps.length)
  (h:@wW G T a (K0 fr ps ds) st ⟨λe fr1 st1=>e=.next/\recAt st1 k=s_ 0/\@wW G T b fr1 (st1.set k (recO 2)) ⟨λe _ st2=>aM k r st' e st2⟩⟩) (m:Nat):
  MH (a.exec G T m) (b.exec G T m) fr ps k ds st=s_ (r,st'):=by
 obtain⟨n,e,fr1,st1,h1,rfl,h0,h2⟩:=Kp _ _ _ _ (Gr h);obtain⟨N,e2,fr2,st2,h3,E⟩:=Kp _ _ _ _ (Gr h2);unfold MH;rw[zae hl,yEu m n a ha,h1 n (Au _)];simp only;rw[zae h0,yEu m N b hb,h3 N (Au _)]
 cases e2 with
 |next=>obtain⟨rfl,rfl⟩:=E;rfl
 |ret=>obtain⟨rfl,rfl⟩:=E;rfl
 |exit id=>exact E.elim
 |panic t d=>exact E.elim
def uJ{x:PA}{a b:PC}{f:Nat}{E:List D}{sp:(zsF)->zsF}{e:Ex}
  (N:DJ G fr x=.clo f E) (hf:f<5000000) (hT:T.r f=s_ sp) (h:∀m,sp (MH (a.exec G T m) (b.exec G T m) fr ps st.length) E (st++[recO 0])=s_ (d,st')) (he:jW st' st.length=s_ e) (hQ:Q e fr (st'.set st.length (recO 2))):@wW G T (.range x ps a b) fr st ⟨Q⟩:=by refine UP (Ys0 (λm=>?_) he hQ);simp only[YQ,N,zae hf,hT,h m,Ae]
theorem zb(T:Tbl)(l:Nat)(y:zsF):(Tp T l y).p=T.p:=(rfl)
theorem ze(T:Tbl)(l:Nat)(y:zsF):(Tp T l y).i=T.i:=(rfl)
theorem zc(T:Tbl)(l:Nat)(y:zsF):(Tp T l y).m=T.m:=(rfl)
def Yi0(T:Tbl)(f:Nat)(E:List D)(h:f<5000000):J3 T (.clo f E)=(T.i f).map λsp=>(sp,[],E):=by simp only[J3,zae h]
def SQ(T:Tbl)(f f':Nat)(E:List D)(h:f=f'+5000000)(N:f'<5000000):J3 T (.clo f E)=(T.i f').map λsp=>(sp,E,[]):=by subst h;simp only[J3,zaf (zaa:¬f'+5000000<5000000),zae (zaa:f'+5000000<10000000),B8]
def aU(f:Nat)(E ds:List D)(h:f<5000000):N3 (.clo f E) ds=s_ (f,ds++E):=by simp only[N3,zae h]
def Ybn(T:Tbl)(l:Nat)(y:zsF):J3 (Tp T l y) (.clo (10000000+l) [])=s_ (y,[],[]):=by
 unfold J3;have E:¬10000000+l<5000000:=zaa
 simp only[E,CY.2 (Nat.le_add_right 10000000 l),zam,CT,zaj,B7,Tp]
theorem Yg6(k:IntKind)(n:Int):Lz (.int k n)=t_:=(rfl)
theorem Yam(k:IntKind)(n:Int):Lz (.agg [.int k n])=t_:=(rfl)
attribute [push_cast] yYb YMv j8 Yfc Ycn yPz yP0 yX4 Yov Yfl yZu yZv yZs yZt yYr Yng Yec yYt Yed yYu yQ3 Yg6 Yam
attribute [irreducible] XU
attribute [push_cast] yR0 yR1 yZ0 Yg1 Yaf Yah zb ze zc Yi0 SQ Ybn aU Yv1
attribute [irreducible] Xy oo
attribute [push_cast] yZy yZz Yf7 yRz yNl
attribute [push_cast] YJm YAl YAp YAo YAm YAn YAr Ynn Ynj Ynm Ynk Yni Yns Yqk
attribute [push_cast] yJo yQ5 yMq yMr yMp Yhn Yaw Yho Yax Ysb Ysa Ysc Ye2 yZd Ynp Yeh Yl5 Yct Yxq Yn8 Ynq Ynr Ynw Yej Ynu Ynt Ynv YAx Yql YAv YAu YAw List.getD_cons_zero List.getD_cons_succ List.contains_nil List.contains_cons false_and and_false and_true true_and and_self Int.toNat_natCast Int.cast_ofNat_Int Int.toNat_zero Int.toNat_one
def DL{α:Type}(enc:α->List D)(pre:α->Prop)(f:α->D):zsP:=
 λds=>@dite _ (∃a,enc a=ds/\pre a) (Classical.propDecidable _) (λh=>s_ (f h.choose)) (λ_=>n_)
theorem xz{enc:α->List D}{pre:α->Prop}{f:α->D}(h:DL enc pre f ds=s_ d):∃a,enc a=ds/\pre a/\f a=d:=by
 unfold DL at h
 split at h
 .grind
 .cases h
theorem EL{enc:α->List D}{pre:α->Prop}{f:α->D}(E:∀a b,enc a=enc b->a=b)(a:α)(N:pre a):DL enc pre f (enc a)=s_ (f a):=by have hx:∃b,enc b=enc a/\pre b:=⟨a,rfl,N⟩;unfold DL;grind
def Fj{α:Type}:List (Nat×α)->Nat->Option α
 |[],_=>n_
 |(k,a)::r,n=>if n=k then s_ a else Fj r n
def tb(l:List (Nat×(zsP)))(li:List (Nat×(zsF)))(lm:List (Nat×(List D->Option ((Nat->D)×(Nat->List Obj)))):=[]):Tbl:={p:=Fj l,i:=Fj li,m:=Fj lm}
theorem zA(l:List (Nat×(zsP)))(li:List (Nat×(zsF)))(E:List (Nat×(List D->Option ((Nat->D)×(Nat->List Obj)))))(n:Nat):(tb l li E).p n=Fj l n:=(rfl)
theorem dB(l:List (Nat×(zsP)))(li:List (Nat×(zsF)))(E:List (Nat×(List D->Option ((Nat->D)×(Nat->List Obj)))))(n:Nat):(tb l li E).i n=Fj li n:=(rfl)
theorem zB(l:List (Nat×(zsP)))(li:List (Nat×(zsF)))(E:List (Nat×(List D->Option ((Nat->D)×(Nat->List Obj)))))(n:Nat):(tb l li E).m n=Fj E n:=(rfl)
theorem Ypd(n:Nat):Fj ([]:List (Nat×α)) n=n_:=(rfl)
theorem yNm(k:Nat)(a:α)(r:List (Nat×α))(n:Nat):Fj ((k,a)::r) n=if n=k then s_ a else Fj r n:=(rfl)
theorem Kf{α:Type}:∀{l:List (Nat×α)}{n:Nat}{a:α},Fj l n=s_ a->(n,a)∈l
 |[],_,_,h=>by cases h
 |(k,b)::r,n,a,h=>by
  simp only[Fj]at h
  split at h
  .grind
  .exact Ct _ (Kf h)
variable{li:List (Nat×(zsF))}{l:List (Nat×(zsP))}{P:Program}
def DP(h:∀x∈l,Contract P G x.1 x.2)(hi:∀x∈li,IContract P G x.1 x.2)(N:l.all (λx=>decide (x.1<50000000))=t_:=by rfl):TblOK P G (tb l li):=
 ⟨λ_ _ E=>.inl ⟨zat (Ad.1 N _ (Kf E)),h _ (Kf E)⟩,λ_ _ E=>hi _ (Kf E),λ_ _ E=>(by cases E),λ_ _ E=>(by cases E),λ_ _ E=>(by cases E),λ_ _ E=>(by cases E)⟩
def YFd{N:List (Nat×(List D->Option ((Nat->D)×(Nat->List Obj))))}(h:∀x∈l,Contract P G x.1 x.2)(hi:∀x∈li,IContract P G x.1 x.2)
  (hm:∀x∈N,IContract P G x.1 (λds st=>(x.2 ds).map λr=>(r.1 st.length,st++r.2 st.length))) (aa:l.all (λx=>decide (x.1<50000000))=t_:=by rfl):TblOK P G (tb l li N):=
 ⟨λ_ _ E=>.inl ⟨zat (Ad.1 aa _ (Kf E)),h _ (Kf E)⟩,λ_ _ E=>hi _ (Kf E),λ_ _ E=>hm _ (Kf E),λ_ _ E=>(by cases E),λ_ _ E=>(by cases E),λ_ _ E=>(by cases E)⟩
def YFe(h:∀x∈l,(x.1<50000000/\Contract P G x.1 x.2)\/∃f',x.1=f'+50000000/\rX P f' x.2)(hi:∀x∈li,IContract P G x.1 x.2):TblOK P G (tb l li):=
 ⟨λ_ _ E=>h _ (Kf E),λ_ _ E=>hi _ (Kf E),λ_ _ E=>(by cases E),λ_ _ E=>(by cases E),λ_ _ E=>(by cases E),λ_ _ E=>(by cases E)⟩
def Yd(l:List (Nat×(zsP)))(li:List (Nat×(zsF)))(lr:List (Nat×((zsF)->zsF))):Tbl:={p:=Fj l,i:=Fj li,m:=λ_=>n_,r:=Fj lr}
theorem dq(l:List (Nat×(zsP)))(li:List (Nat×(zsF)))(E:List (Nat×((zsF)->zsF)))(n:Nat):(Yd l li E).p n=Fj l n:=(rfl)
theorem du(l:List (Nat×(zsP)))(li:List (Nat×(zsF)))(E:List (Nat×((zsF)->zsF)))(n:Nat):(Yd l li E).i n=Fj li n:=(rfl)
theorem dn(l:List (Nat×(zsP)))(li:List (Nat×(zsF)))(E:List (Nat×((zsF)->zsF)))(n:Nat):(Yd l li E).r n=Fj E n:=(rfl)
def Yta{N:List (Nat×((zsF)->zsF))}(h:∀x∈l,Contract P G x.1 x.2)(hi:∀x∈li,IContract P G x.1 x.2)
  (hr:∀x∈N,Zs P G x.1 x.2) (aa:l.all (λx=>decide (x.1<50000000))=t_:=by rfl):TblOK P G (Yd l li N):=
 ⟨λ_ _ E=>.inl ⟨zat (Ad.1 aa _ (Kf E)),h _ (Kf E)⟩,λ_ _ E=>hi _ (Kf E),λ_ _ E=>(by cases E),λ_ _ E=>hr _ (Kf E),λ_ _ E=>(by cases E),λ_ _ E=>(by cases E)⟩
def Kw(l:List (Nat×(zsP)))(li:List (Nat×(zsF)))(lx:List (Nat×(zsX))):Tbl:={p:=Fj l,i:=Fj li,m:=λ_=>n_,x:=Fj lx}
theorem dj(l:List (Nat×(zsP)))(li:List (Nat×(zsF)))(E:List (Nat×(zsX)))(n:Nat):(Kw l li E).p n=Fj l n:=(rfl)
theorem dk(l:List (Nat×(zsP)))(li:List (Nat×(zsF)))(E:List (Nat×(zsX)))(n:Nat):(Kw l li E).i n=Fj li n:=(rfl)
theorem di(l:List (Nat×(zsP)))(li:List (Nat×(zsF)))(E:List (Nat×(zsX)))(n:Nat):(Kw l li E).x n=Fj E n:=(rfl)
def KV{N:List (Nat×(zsX))}(h:∀x∈l,Contract P G x.1 x.2)(hi:∀x∈li,IContract P G x.1 x.2)
  (hx:∀x∈N,SO P G x.1 x.2) (aa:l.all (λx=>decide (x.1<50000000))=t_:=by rfl):TblOK P G (Kw l li N):=
 ⟨λ_ _ E=>.inl ⟨zat (Ad.1 aa _ (Kf E)),h _ (Kf E)⟩,λ_ _ E=>hi _ (Kf E),λ_ _ E=>(by cases E),λ_ _ E=>(by cases E),λ_ _ E=>hx _ (Kf E),λ_ _ E=>(by cases E)⟩
def Tz(l:List (Nat×(zsP)))(li:List (Nat×(zsF)))(lq:List (Nat×(List D->List (Option (Bool×Nat×List D))->Option D))):Tbl:={p:=Fj l,i:=Fj li,m:=λ_=>n_,q:=Fj lq}
theorem dz(l:List (Nat×(zsP)))(li:List (Nat×(zsF)))(E:List (Nat×(List D->List (Option (Bool×Nat×List D))->Option D)))(n:Nat):(Tz l li E).p n=Fj l n:=(rfl)
theorem dA(l:List (Nat×(zsP)))(li:List (Nat×(zsF)))(E:List (Nat×(List D->List (Option (Bool×Nat×List D))->Option D)))(n:Nat):(Tz l li E).i n=Fj li n:=(rfl)
theorem dw(l:List (Nat×(zsP)))(li:List (Nat×(zsF)))(E:List (Nat×(List D->List (Option (Bool×Nat×List D))->Option D)))(n:Nat):(Tz l li E).q n=Fj E n:=(rfl)
def pF{N:List (Nat×(List D->List (Option (Bool×Nat×List D))->Option D))}(h:∀x∈l,Contract P G x.1 x.2)(hi:∀x∈li,IContract P G x.1 x.2)
  (hq:∀x∈N,IContract P G x.1 (λds st=>(I5 x.2 ds st).map (·,st))) (aa:l.all (λx=>decide (x.1<50000000))=t_:=by rfl):TblOK P G (Tz l li N):=
 ⟨λ_ _ E=>.inl ⟨zat (Ad.1 aa _ (Kf E)),h _ (Kf E)⟩,λ_ _ E=>hi _ (Kf E),λ_ _ E=>(by cases E),λ_ _ E=>(by cases E),λ_ _ E=>(by cases E),λ_ _ E=>hq _ (Kf E)⟩
def all_nil{p:α->Prop}:∀x∈([]:List α),p x:=λ_ h=>by cases h
theorem all_cons{p:α->Prop}{a:α}{l:List α}(h:p a)(hl:∀x∈l,p x):∀x∈a::l,p x:=by grind
variable{hints:List (List Nat)}{il:List Nat}
def EM{f:Nat}(E:IY P il f hints=s_ F)(N:TblOK P G T){enc:α->List D}{pre:α->Prop}{r:α->D}
  (h:∀a,pre a->@wW G T F.code (Du (enc a)) [] ⟨DN F.res (r a)⟩) (hy:T.y=λ_ _ _=>n_:=by rfl):Contract P G f (DL enc pre r):=by refine wH N hy E λds d hd=>?_;obtain⟨a,rfl,hp,rfl⟩:=xz hd;exact yUr (Gr (h a hp))
def MK{a b:List Dig}:a.map Ds=b.map Ds↔a=b:=⟨Q1 λ_ _=>yW5,λh=>by rw[h]⟩
def NG{a b:Dig}:Ds a=Ds b↔a=b:=⟨yW5,λh=>by rw[h]⟩
def Ng{a b:Dig}:Dr a=Dr b↔a=b:=⟨Ol,λh=>by rw[h]⟩
def xX{a:zLB}:a.map DK=b.map DK↔a=b:=⟨T6,λh=>by rw[h]⟩
def Yr7{a b:UInt8}:DK a=DK b↔a=b:=⟨yPl,λh=>by rw[h]⟩
def Jq(sz:Nat)(els:List D):nz (nz sz els) els=nz sz els:=by cases els<;>rfl
theorem YHa(sz:Nat):nz sz []=0:=(rfl)
theorem Yyp(sz:Nat)(a:D)(l:List D):nz sz (a::l)=sz:=(rfl)
def Yyo(sz:Nat)(els:List D):nz sz els=sz\/els=[]:=by cases els<;>simp[nz]
def Mr[Inhabited α](st:St)(sz:Nat)(f:α->D)(l:List α)(t:Bool)(k:IntKind)(i:Int)(E:0<=i)(N:i<(l.length:Int)):
  ER st sz (.slc (nz sz (l.map f)) (l.map f) t) (.int k i)=s_ (.eptr (f (l.getD i.toNat d_)) 0):=by
 have:nz sz (l.map f)=sz:=by
  rcases Yyo sz (l.map f)with h|h
  .exact h
  .have:l.length=0:=by simpa using congrArg List.length h
   omega
 rw[this];exact yWp st sz f l t k i E N
attribute [push_cast] Jq YHa Yyp zA dB zB dq du dn dj dk di dz dA dw Ypd yNm List.map_nil
variable{n:Int}
def yVq(h:n<=64):min n.toNat 64=n.toNat:=zaa
variable{x:Int}{k k':IntKind}
theorem YGi(hk:k=.i64\/k=.u64)(N:0<=n)(E:n<=64):DI .shr (.int k x) (.int k' n)=s_ (.int k (x/2^n.toNat)):=by
 have hb:k.bits=64:=by rcases hk with rfl|rfl<;>rfl
 simp only[DI,Oc,show ¬n<0 by omega,zam,Ae,hb,yVq E];grind
def Qu(E:0<=n)(N:n<=64):DI .shr (.int .u64 x) (.int k' n)=s_ (.int .u64 (x/2^n.toNat)):=YGi (.inr rfl) E N
def j3(E:0<=n)(N:n<=64):DI .shr (.int .i64 x) (.int k' n)=s_ (.int .i64 (x/2^n.toNat)):=YGi (.inl rfl) E N
def eg(h0:0<=n)(E:n<=64)(N:-9223372036854775808<=x*2^n.toNat)(h3:x*2^n.toNat<9223372036854775808):DI .shl (.int .i64 x) (.int k' n)=s_ (.int .i64 (x*2^n.toNat)):=by simp only[DI,Oc,show ¬n<0 by omega,zam,Ae,show yac .i64=64 from rfl,yVq E,Ni N h3]
theorem vG(E:0<=n)(N:n<=62):DI .shl (.int .i64 1) (.int k' n)=s_ (.int .i64 (2^n.toNat)):=by
 have h4:(2:Int)^n.toNat<=2^62:=by
  have h6:(2:Nat)^n.toNat<=2^62:=Cu zab zaa;grind
 have h5:(0:Int)<=2^n.toNat:=Int.pow_nonneg zab;have:=eg (x:=1) (k':=k') E zaa zaa (by rw[Int.one_mul];omega);grind
variable{a:Int}
def jV{b:Int}(hb:0<b)(E:0<=a)(h2:a<9223372036854775808):DI .quo (.int .i64 a) (.int .i64 b)=s_ (.int .i64 (a/b)):=by have N:a.tdiv b=a/b:=Bq E;have h4:a/b<=a:=B1 b E;have h5:0<=a/b:=BD E zaa;simp only[DI,zaj,Mo,show ¬b=0 by omega,zam,Ae,N,Ni (zaa:-9223372036854775808<=a/b) (zaa:a/b<9223372036854775808)]
def YGz{b:Int}(hb:0<b)(E:0<=a):DI .rem (.int .i64 a) (.int .i64 b)=s_ (.int .i64 (a%b)):=by have N:a.tmod b=a%b:=Int.tmod_eq_emod_of_nonneg E;simp only[DI,zaj,Mo,show ¬b=0 by omega,zam,Ae,N]
theorem toNat_ofInt(E:0<=a)(N:a<9223372036854775808):(C8 64 a).toNat=a.toNat:=by grind
def YDc(E:0<=a)(N:a<9223372036854775808):DI .and (.int .i64 a) (.int .i64 1)=s_ (.int .i64 (a%2)):=by
 have h:(C8 (yac .i64) a &&& C8 (yac .i64) 1).toNat=(a%2).toNat:=by
  show(C8 64 a &&& C8 64 1).toNat=_
  rw[CU,toNat_ofInt E N,show(C8 64 1).toNat=2^1-1 from rfl,BL];omega
 simp only[DI,zaj,MB,Ae,h];rw[Ni zaa zaa]
 congr 2
 omega
theorem Ycg(E:0<=a)(N:a<9223372036854775808):DI .xor (.int .i64 a) (.int .i64 1)=s_ (.int .i64 (if a%2=0 then a+1 else a-1)):=by
 have hx:∀n:Nat,n ^^^ 1=if n%2=0 then n+1 else n-1:=by
  intro n
  have h2:(n ^^^ 1)%2=(n+1)%2:=by
   have:=Nat.testBit_xor n 1 0;grind
  have h3:(n ^^^ 1)/2=n/2:=by
   apply Nat.eq_of_testBit_eq;grind
  grind
 have h:(C8 (yac .i64) a ^^^ C8 (yac .i64) 1).toNat=(if a%2=0 then a+1 else a-1).toNat:=by
  show(C8 64 a ^^^ C8 64 1).toNat=_
  rw[BitVec.toNat_xor,toNat_ofInt E N,show(C8 64 1).toNat=1 from rfl,hx];grind
 simp only[DI,zaj,MB,Ae,h];rw[Ni (by split<;>omega) (by split<;>omega)]
 congr 2
 omega
def pZ(st:St)(E:0<=a)(N:a<9223372036854775808):Gm st (.int .u64) (.int .i64 a)=s_ (.int .u64 a):=by
 obtain⟨n,rfl⟩:=Be E;simp only[Gm,Y5]
 congr 2
 omega
def Yiu(st:St)(N:0<=a)(E:a<9223372036854775808):Gm st (.int .i64) (.int k a)=s_ (.int .i64 a):=by simp only[Gm,Ni (zaa:-9223372036854775808<=a) E]
def P4(st:St)(E:0<=a):Gm st (.int .u8) (.int k a)=s_ (DK (De a.toNat)):=by obtain⟨n,rfl⟩:=Be E;rfl
def Sx(st:St)(b:UInt8):Gm st (.int .i64) (DK b)=s_ (.int .i64 (b.toNat:Int)):=by have:=b.toNat_lt;simp only[DK];exact Yiu st zaa zaa
def NJ(s:zLB)(k:IntKind)(i:Int)(E:0<=i)(h1:i<(s.length:Int)):Jf (.str s) (.int k i)=s_ (DK (s.getD i.toNat d_)):=by
 have N:i.toNat<s.length:=zaa
 simp only[Jf,Ua k i E,getElem?_getD s i.toNat N]
def Yqi(s:zLB)(b:UInt8)(h:b.toNat<s.length):Jf (.str s) (DK b)=s_ (DK (s.getD b.toNat d_)):=by have:=NJ s .u8 (b.toNat:Int) zaa zaa;simpa[DK]using this
def W7{s:zLB}{h:Int}(E:0<=h)(N:h<=(s.length:Int)):GS st 0 (.str s) n_ (s_ (.int k h)) n_=s_ (.str (s.take h.toNat)):=by simp[GS,GV,Ua k h E];omega
theorem Ykj(st:St)(b:UInt8):D2 st (DK b)=s_ (DK b):=(rfl)
theorem Yb7(b:UInt8):keys (DK b)=[]:=(rfl)
theorem Yr8(b:UInt8):hk (DK b)=[]:=(rfl)
theorem Yki(n:Nat)(σ:List Nat)(b:UInt8):ED n σ (DK b)=DK b:=(rfl)
theorem yTg(b:UInt8):(DK b).cells=[DK b]:=(rfl)
theorem yPk(b:UInt8):(DK b).isCell=t_:=(rfl)
theorem yTf(b:UInt8):(DK b).noRef=t_:=(rfl)
theorem Ykk(b:UInt8):DM (DK b)=s_ [DK b]:=(rfl)
theorem yJ6(b:UInt8):EZ 1 [DK b]=s_ (.slc 1 [DK b] t_):=(rfl)
def yNo(d:Dig):EZ 32 [Ds d]=s_ (.slc 32 [Ds d] t_):=by simp[EZ,SS,En]
theorem Ybm(st:St)(s:zLB):Gm st .bytes (.str s)=s_ (.slc 1 (s.map DK) f_):=(rfl)
theorem Yga(a:Nat)(l:List D)(t:Bool):EZ 1 [.slc a l t]=s_ (.slc 1 [.slc a l t] t_):=(rfl)
theorem Yf9(a b:Nat)(l m:List D)(t u:Bool):EZ 1 [.slc a l t,.slc b m u]=s_ (.slc 1 [.slc a l t,.slc b m u] t_):=(rfl)
theorem Yf8(a b c:Nat)(l m n:List D)(t u v:Bool):EZ 1 [.slc a l t,.slc b m u,.slc c n v]=s_ (.slc 1 [.slc a l t,.slc b m u,.slc c n v] t_):=(rfl)
theorem Ygb:EZ 1 []=s_ (.slc 1 [] t_):=(rfl)
theorem yZ3:EZ 32 []=s_ (.slc 32 [] t_):=(rfl)
def ML(k:IntKind)(n:Int)(d:Dig):DM (.agg (.int k n::Dr d))=s_ (.int k n::Dr d):=by simp[DM,yaZ,IW,yaa]
theorem ySr(k k':IntKind)(n m:Int)(z d:Dig):Ec (.int k n::Dr z) [(0,1,.int k' m),(1,32,Ds d)]=s_ (.int k' m::Dr d):=by
 have N:FZ (.int k n::Dr z) 0 [.int k' m]=.int k' m::Dr z:=rfl
 have h2:FZ (.int k' m::Dr z) 1 (Dr d)=.int k' m::Dr d:=by
  rw[show(1:Nat)=0+1 from rfl,yQb,yGm]
 have E:(Dr d).length=32:=En d;have h4:(Dr z).length=32:=En z;simp only[Ec,SS,IW,E];have e1:(yaW k' m).cells=[.int k' m]:=rfl;have e2:(([yaW k' m].length==1)&&decide (0+1<=(yaW k n::Dr z).length) && [yaW k' m].all yaa)=t_:=by simp[yaa]
 grind
attribute [push_cast] ML ySr
theorem wM(st:St)(k:IntKind)(n:Int):DO st (.int k n)=s_ (.int k n):=(rfl)
theorem Yhg(st:St)(b:Bool):DO st (.bool b)=s_ (.bool b):=(rfl)
theorem Yqg(st:St)(s:zLB):DO st (.str s)=s_ (.str s):=(rfl)
theorem wN(st:St)(sz:Nat)(els:List D)(t:Bool):DO st (.slc sz els t)=s_ (.slc (nz sz els) els f_):=(rfl)
attribute [push_cast] wM Yhg Yqg wN Nat.zero_le
attribute [push_cast] Ygb yZ3 Ybm Yga Yf9 Yf8
theorem yNh(f:α->D)(E:∀a,E2 (f a)=t_)(l:List α):(l.map f).all E2=t_:=by grind
def tW(l:zLB):(l.map DK).all E2=t_:=yNh DK (λ_=>rfl) l
def uo(l:List UInt32):(l.map wD).all E2=t_:=yNh wD (λ_=>rfl) l
def Yan(st:St)(l:List UInt32):Ef st (l.map wD)=s_ (l.map wD):=Xd st (uo l)
def Yap(st:St)(l:zLB):Ef st (l.map DK)=s_ (l.map DK):=Xd st (tW l)
def yYv(n:Nat)(σ:List Nat)(l:List UInt32):(l.map wD).map (ED n σ)=l.map wD:=OW n σ (uo l)
def yYw(n:Nat)(σ:List Nat)(l:zLB):(l.map DK).map (ED n σ)=l.map DK:=OW n σ (tW l)
def Yhk(l:List UInt32):(l.map wD).flatMap hk=[]:=Qh (uo l)
def Yhm(l:zLB):(l.map DK).flatMap hk=[]:=Qh (tW l)
attribute [push_cast] yYv yYw Yhk Yhm
def yRs(l:List UInt32):(D.agg (l.map wD)).noRef=t_:=by simp only[D.noRef,Ad,AR];rintro x ⟨a,_,rfl⟩;rfl
def Ykt(l:List UInt32):DM (.agg (l.map wD))=s_ (l.map wD):=by simp only[DM,yaZ,lj wD (λ_=>rfl),zaj]
def Ys6{a b:UInt32}(h:wD a=wD b):a=b:=by simp only[wD,D.int.injEq,zal]at h;exact UInt32.toNat_inj.1 zaa
def yTq{a b:UInt32}:wD a=wD b↔a=b:=⟨Ys6,λh=>by rw[h]⟩
def yLt{a b:List UInt32}:a.map wD=b.map wD↔a=b:=⟨Q1 λ_ _=>Ys6,λh=>by rw[h]⟩
theorem YE5(st:St)(b:UInt32):D2 st (wD b)=s_ (wD b):=(rfl)
theorem Yv3(b:UInt32):keys (wD b)=[]:=(rfl)
theorem Yl1(b:UInt32):(wD b).noRef=t_:=(rfl)
theorem cR(b:UInt32):hk (wD b)=[]:=(rfl)
theorem YE4(n:Nat)(σ:List Nat)(b:UInt32):ED n σ (wD b)=wD b:=(rfl)
def zW(n:Nat):List UInt32:=C7 n 0
theorem Yu1(n:Nat):yaW .u32 0::(zW n).map wD=(zW (n+1)).map wD:=(rfl)
theorem Yu2:[yaW .u32 0,.int .u32 0,.int .u32 0,.int .u32 0,.int .u32 0,.int .u32 0,.int .u32 0,.int .u32 0]=(zW 8).map wD:=(rfl)
def SL(f:α->D)(E:∀a,(f a).isCell=t_)(ws:List α)(i:Nat)(v:α)(r:List (Nat×Nat×D))(h:i<ws.length):Ec (ws.map f) ((i,1,f v)::r)=Ec ((ws.set i v).map f) r:=by
 have N:i+1<=ws.length:=h
 have h3:FZ (ws.map f) i [f v]=(ws.set i v).map f:=by
  rw[Ch,FZ,Cc];simp[h]
 simp[Ec,Uu (E v),E v,N,h3]
theorem SB(cs:List D):Ec cs []=s_ cs:=(rfl)
def iK(a b c d e f g h:UInt32):Ec ((zW 8).map wD) [(0,1,wD a),(1,1,wD b),(2,1,wD c),(3,1,wD d),(4,1,wD e),(5,1,wD f),(6,1,wD g),(7,1,wD h)]=s_ ([a,b,c,d,e,f,g,h].map wD):=by have hf:∀a,(wD a).isCell=t_:=λ_=>rfl;rw[SL wD hf _ _ _ _ (by simp[zW]),SL wD hf _ _ _ _ (by simp[zW]),SL wD hf _ _ _ _ (by simp[zW]),SL wD hf _ _ _ _ (by simp[zW]),SL wD hf _ _ _ _ (by simp[zW]),SL wD hf _ _ _ _ (by simp[zW]),SL wD hf _ _ _ _ (by simp[zW]),SL wD hf _ _ _ _ (by simp[zW]),SB];rfl
def YGj(x:UInt32)(k:IntKind)(z:Int)(E:0<=z)(h:z<32):DI .shl (wD x) (.int k z)=s_ (wD (x <<< UInt32.ofNat z.toNat)):=by obtain⟨n,rfl⟩:=Be E;exact YGk x k n zaa
def Ytk(x:UInt32)(k:IntKind)(z:Int)(E:0<=z)(h:z<32):DI .shr (wD x) (.int k z)=s_ (wD (x >>> UInt32.ofNat z.toNat)):=by obtain⟨n,rfl⟩:=Be E;exact YGg x k n zaa
def YGh(x:UInt64)(k:IntKind)(z:Int)(E:0<=z)(h:z<64):DI .shr (qD x) (.int k z)=s_ (qD (x >>> Dq z.toNat)):=by obtain⟨n,rfl⟩:=Be E;exact ef x k n zaa
def Nq(s:zLB):D:=.slc (nz 1 (s.map DK)) (s.map DK) f_
def YCu{a:zLB}(h:Nq a=Nq b):a=b:=by simp only[Nq,D.slc.injEq]at h;exact T6 h.2.1
def Ykp{a b:List (zLB)}:a.map Nq=b.map Nq↔a=b:=⟨Q1 λ_ _=>YCu,λh=>by rw[h]⟩
def Yeu(st:St)(s:zLB):Fa st 1 f_ (.eptr (Nq s) 0)=s_ (.slc (nz 1 (s.map DK)) (s.map DK) f_):=xd st _ rfl
def dP(sz:Nat)(E N x2 x3 x4 x5 x6 x7:D)(a b c d e f g h:UInt32):DV (s_ ⟨f_,sz,[E,N,x2,x3,x4,x5,x6,x7],f_⟩) 8 0 (.agg [wD a,wD b,wD c,wD d,wD e,wD f,wD g,wD h])=s_ ⟨f_,sz,[wD a,wD b,wD c,wD d,wD e,wD f,wD g,wD h],f_⟩:=Hs sz _ _ 8 rfl rfl rfl
attribute [push_cast] dP Yan Yap yRs Ykt YE5 Yv3 Yl1 cR YE4 Yu1 Yu2 iK SB Yeu
attribute [push_cast] Ykj Yb7 Yr8 Yki yTg yPk yTf Ykk yJ6 yNo
section
variable{P:Program}{G:Dy}{T:Tbl}{il:List Nat}
theorem RepV.empty{w:World}{g:Ghost}{sz E:Nat}{t:Bool}{v:Value}(h:RepV w g st (.slc sz [] t) v):RepV w g st (.slc E [] f_) v:=by
 cases h with
 |slcE _ _ a cap h=>exact .slcE _ _ a cap (λh=>by cases h)
 |slc _ _ b off cap _ val N=>exact absurd rfl N
end
def Gq(n:Nat)(els:List D):List Nat:=if els.isEmpty then []else [n]
def aS(sz key:Nat)(els:List D)(h:els≠[]):EC sz key els=.row key els.length 0 els.length:=by
 cases els with
 |nil=>exact absurd rfl h
 |cons a l=>rfl
def V7(sz:Nat)(els:List D)(h:els≠[]):D3 sz els=[{row:=t_,sz,els,lent:=f_}]:=by
 cases els with
 |nil=>exact absurd rfl h
 |cons a l=>rfl
def YJl(sz n:Nat)(els:List D):hk (EC sz n els)=Gq n els:=by cases els<;>rfl
def Yxl(sz n:Nat)(els:List D):ED n (Gq n els) (EC sz n els)=EC sz n els:=by
 cases els with
 |nil=>rfl
 |cons a l=>simp[Gq,EC,ED,E5,Hy,Fv,Tm,KI]
def yTw(n hi sz:Nat)(els:List D)(r:List Nat)(h:hi=(D3 sz els).length+n):FT n hi (Gq n els++r) []=FT n hi r (Gq n els):=by
 cases els with
 |nil=>rfl
 |cons a l=>
  have:n<hi:=by rw[h];simp[D3]
  simp[Gq,FT,this]
def Ycv(sz:Nat)(els:List D)(r:List Nat):FT 1 ((D3 sz els).length+1) (Gq 1 els++r) []=FT 1 ((D3 sz els).length+1) r (Gq 1 els):=yTw 1 _ sz els r zac
def Yv7(sz:Nat)(els:List D):FT 1 ((D3 sz els).length+1) (Gq 1 els) []=Gq 1 els:=by have:=Ycv sz els [];rwa [Ai]at this
def Ycu(sz:Nat)(els:List D)(r:List Nat):FT 2 ((D3 sz els).length+1+1) (Gq 2 els++r) []=FT 2 ((D3 sz els).length+1+1) r (Gq 2 els):=yTw 2 _ sz els r zac
def Yv6(sz:Nat)(els:List D):FT 2 ((D3 sz els).length+1+1) (Gq 2 els) []=Gq 2 els:=by have:=Ycu sz els [];rwa [Ai]at this
def yVa(l:St)(sz:Nat)(els:List D):Ow l.length (Gq l.length els) (l++D3 sz els) (Gq l.length els)=D3 sz els:=by
 cases els with
 |nil=>rfl
 |cons a r=>simp[Gq,D3,Ow,FD]
def Ye1(a:Obj)(sz:Nat)(els:List D):Ow 1 (Gq 1 els) (a::D3 sz els) (Gq 1 els)=D3 sz els:=yVa [a] sz els
def Ye0(a b:Obj)(sz:Nat)(els:List D):Ow 2 (Gq 2 els) (a::b::D3 sz els) (Gq 2 els)=D3 sz els:=yVa [a,b] sz els
def Yfb(l:St)(sz sz0 E bytes:Nat)(els xs:List D)(t:Bool)(N:E=sz\/xs=[])(hs0:sz≠0)(hb:(els.length+xs.length)*bytes<=140737488355328)(hl:els.length+xs.length<=4294967296):
  EW (l++D3 sz els) sz bytes (EC sz0 l.length els) (.slc E xs t)=s_ (EC sz0 l.length (els++xs),l++D3 sz (els++xs)):=
 Yoi l sz sz0 bytes els xs _ E rfl N hs0 hb hl
section
variable{α:Type} (f:α->D) (a b c d:Obj) (sz sz0 bytes:Nat) (A B:List α) (t:Bool) (hs0:sz≠0) (hb:(A.length+B.length)*bytes<=140737488355328) (hl:A.length+B.length<=4294967296)
include hs0 hb hl
def kZ(l:St)(E:Nat)(N:E=sz\/B.map f=[]):EW (l++D3 sz (A.map f)) sz bytes (EC sz0 l.length (A.map f)) (.slc E (B.map f) t)=s_ (EC sz0 l.length ((A++B).map f),l++D3 sz ((A++B).map f)):=by rw[Yfb l sz sz0 E bytes (A.map f) (B.map f) t N hs0 (by simpa using hb) (by simpa using hl),A1]
def Yyc:EW (a::D3 sz (A.map f)) sz bytes (EC sz0 1 (A.map f)) (.slc (nz sz (B.map f)) (B.map f) t)=s_ (EC sz0 1 ((A++B).map f),a::D3 sz ((A++B).map f)):=kZ f sz sz0 bytes A B t hs0 hb hl [a] _ (Yyo _ _)
end
section
variable{α:Type} (f:α->D) (a b c d:Obj) (sz sz0 bytes:Nat) (A:List α) (x:α) (t:Bool) (hs0:sz≠0) (hb:(A.length+1)*bytes<=140737488355328) (hl:A.length+1<=4294967296)
include hs0 hb hl
def yVe(l:St):EW (l++D3 sz (A.map f)) sz bytes (EC sz0 l.length (A.map f)) (.slc sz [f x] t)=s_ (EC sz0 l.length ((A++[x]).map f),l++D3 sz ((A++[x]).map f)):=
 kZ f sz sz0 bytes A [x] t hs0 hb hl l sz (.inl rfl)
def Yyb:EW (a::D3 sz (A.map f)) sz bytes (EC sz0 1 (A.map f)) (.slc sz [f x] t)=s_ (EC sz0 1 ((A++[x]).map f),a::D3 sz ((A++[x]).map f)):=yVe f sz sz0 bytes A x t hs0 hb hl [a]
def Ye9:EW (a::b::D3 sz (A.map f)) sz bytes (EC sz0 2 (A.map f)) (.slc sz [f x] t)=s_ (EC sz0 2 ((A++[x]).map f),a::b::D3 sz ((A++[x]).map f)):=yVe f sz sz0 bytes A x t hs0 hb hl [a,b]
end
def yZj(f:α->D)(st:St)(sz sz0 bytes:Nat)(B:List α)(t:Bool)(hs0:sz≠0)(hb:B.length*bytes<=140737488355328)(hl:B.length<=4294967296):
  EW st sz bytes (.slc sz0 [] t_) (.slc (nz sz (B.map f)) (B.map f) t)=s_ (EC sz0 st.length (B.map f),st++D3 sz (B.map f)):=by have:=kZ f sz sz0 bytes [] B t hs0 (by simpa using hb) (by simpa using hl) st _ (Yyo _ _);simpa[D3,EC]using this
def yRo(f:α->D)(st:St)(sz sz0 bytes:Nat)(x:α)(t:Bool)(hs0:sz≠0)(hb:bytes<=140737488355328):
  EW st sz bytes (.slc sz0 [] t_) (.slc sz [f x] t)=s_ (.row st.length 1 0 1,st++[⟨t_,sz,[f x],f_⟩]):=by have:=kZ f sz sz0 bytes [] [x] t hs0 (by simpa using hb) zac st sz (.inl rfl);simpa[D3,EC]using this
def Yfo(f:α->D)(sz:Nat)(A:List α)(h:Nat):nz (nz sz (A.map f)) ((A.take h).map f)=nz sz ((A.take h).map f):=by
 cases A with
 |nil=>simp[nz]
 |cons a r=>rfl
def Yfp(f:α->D)(sz:Nat)(A:List α)(l:Nat):nz (nz sz (A.map f)) ((A.drop l).map f)=nz sz ((A.drop l).map f):=by
 cases A with
 |nil=>simp[nz]
 |cons a r=>rfl
def Yfa(st:St)(sz bytes E N:Nat)(els:List D)(t:Bool)(hs0:sz≠0):EW st sz bytes (.slc E els t_) (.slc N [] t)=s_ (.slc E els t_,st):=yVf st sz bytes E els _ N rfl hs0
attribute [push_cast] Yfo Yfp
def YAh(l:St)(sz sz0:Nat)(els:List D):D2 (l++D3 sz els) (EC sz0 l.length els)=s_ (.slc (nz sz els) els f_):=by
 cases els with
 |nil=>rfl
 |cons a r=>simp[EC,D3,D2,DO,I6]
def Yt7(a b:Obj)(sz sz0:Nat)(els:List D):D2 (a::b::D3 sz els) (EC sz0 2 els)=s_ (.slc (nz sz els) els f_):=YAh [a,b] sz sz0 els
def Ypk(l:St)(sz sz0:Nat)(els:List D):E0 (l++D3 sz els) f_ (EC sz0 l.length els)=s_ (.int .i64 (els.length:Int)):=by
 cases els with
 |nil=>rfl
 |cons a r=>simp[EC,D3,E0,Kk,FB,EY]
def Yza(a:Obj)(sz sz0:Nat)(els:List D):E0 (a::D3 sz els) f_ (EC sz0 1 els)=s_ (.int .i64 (els.length:Int)):=Ypk [a] sz sz0 els
def YHx(n m:Nat):n<=m+n:=Nat.le_add_left n m
theorem Yoz(key:Nat):D.slc 0 [] t_=EC 0 key []:=(rfl)
def TH(o:Option Obj)(sz bytes tot:Nat)(xs:Option (Nat×List D)):Option Obj:=match o,xs with
 |some o,s_ (szx,xs)=>if !(szx==sz||xs.isEmpty)||sz==0 then n_
  else if o.row&&o.sz==sz&&o.els.length==tot&&decide ((tot+xs.length)*bytes<=140737488355328)&&decide (tot+xs.length<=4294967296)then s_ {o with els:=o.els++xs} else n_
 |_,_=>n_
theorem yG(st:St)(sz bytes key tot:Nat)(x:D):EW st sz bytes (.row key tot 0 tot) x=(TH st[key]? sz bytes tot (H6 st x)).map λo=>(.row key o.els.length 0 o.els.length,st.set key o):=by simp only[EW,TH];grind
theorem uK(f:α->D)(sz bytes:Nat)(A B:List α)(lent:Bool)(hs0:sz≠0)(hb:(A.length+B.length)*bytes<=140737488355328)(hl:A.length+B.length<=4294967296)(E:Nat)(N:E=sz\/B.map f=[]):
  TH (s_ ⟨t_,sz,A.map f,lent⟩) sz bytes A.length (s_ (E,B.map f))=s_ ⟨t_,sz,(A++B).map f,lent⟩:=by
 have e:(!(E==sz||(B.map f).isEmpty)||sz==0)=f_:=by
  grind
 simp only[TH,e,Ao,zam];grind
def Ylb(f:α->D)(sz bytes:Nat)(A:List α)(x:α)(lent t:Bool)(st:St)(hs0:sz≠0)(hb:(A.length+1)*bytes<=140737488355328)(hl:A.length+1<=4294967296):
  TH (s_ ⟨t_,sz,A.map f,lent⟩) sz bytes A.length (H6 st (.slc sz [f x] t))=s_ ⟨t_,sz,(A++[x]).map f,lent⟩:=uK f sz bytes A [x] lent hs0 hb hl _ (.inl rfl)
def Ye(o:Option Obj)(tot off len:Nat):Option (Nat×List D):=o.bind λo=>if o.row&&o.els.length==tot&&decide (off+len<=tot)then s_ (o.sz,(o.els.drop off).take len)else n_
def yMk(st:St)(key tot off len:Nat):I6 st key tot off len=Ye st[key]? tot off len:=by unfold I6 Ye;cases st[key]?<;>rfl
def Yel(f:α->D)(sz:Nat)(A:List α)(lent:Bool):Ye (s_ ⟨t_,sz,A.map f,lent⟩) A.length 0 A.length=s_ (sz,A.map f):=by simp[Ye];rw[AE zac]
def Ynz(f:α->D)(sz:Nat)(A:List α)(lent:Bool)(off len:Nat)(h:off+len<=A.length):Ye (s_ ⟨t_,sz,A.map f,lent⟩) A.length off len=s_ (sz,((A.drop off).take len).map f):=by simp[Ye,h,Cx,BW]
def Vs(o:Option Obj)(tot:Nat):Bool:=match o with
 |some o=>o.row&&o.els.length==tot
 |none=>f_
theorem Yy8(st:St)(key tot:Nat):EY st key tot=Vs st[key]? tot:=(rfl)
def Yy9(f:α->D)(sz:Nat)(A:List α)(lent:Bool):Vs (s_ ⟨t_,sz,A.map f,lent⟩) A.length=t_:=by simp[Vs]
def TC(o:Option Obj)(sz key tot off len:Nat)(j:Int):Option D:=if 0<=j then o.bind λo=>if o.row&&o.sz==sz&&o.els.length==tot&&decide (j.toNat<len)then s_ (.rptr key tot (off+j.toNat) 0)else n_ else n_
theorem yWq(st:St)(sz key tot off len:Nat)(k:IntKind)(j:Int):ER st sz (.row key tot off len) (.int k j)=TC st[key]? sz key tot off len j:=by simp only[ER,TC,FA];grind
def Yg4(f:α->D)(sz:Nat)(A:List α)(lent:Bool)(key off len:Nat)(j:Int)(E:0<=j)(N:j<(len:Int)):TC (s_ ⟨t_,sz,A.map f,lent⟩) sz key A.length off len j=s_ (.rptr key A.length (off+j.toNat) 0):=by
 have:j.toNat<len:=zaa
 simp[TC,E,this]
def N2(o:Option Obj)(n:Nat)(ag:Bool)(tot i off:Nat):Option D:=if !ag&&n !=1 then n_ else o.bind λo=>if o.row&&o.els.length==tot then(o.els[i]?).bind λel=>if off+n<=el.cells.length then s_ (.mk ag ((el.cells.drop off).take n))else n_ else n_
def yC4(st:St)(n:Nat)(ag:Bool)(key tot i off:Nat):Fa st n ag (.rptr key tot i off)=N2 st[key]? n ag tot i off:=yY2 st n ag key tot i off
def Yzl(sz:Nat)(A:List Dig)(lent:Bool)(i:Nat)(h:i<A.length):N2 (s_ ⟨t_,sz,A.map Ds,lent⟩) 32 t_ A.length i 0=s_ (Ds (A.getD i d_)):=by simp[N2,h,SS,En,YZ,oJ,Am]
def Ypr[Inhabited α](f:α->D)(E:∀a,(f a).isCell=t_)(sz:Nat)(A:List α)(lent:Bool)(i:Nat)(h:i<A.length):N2 (s_ ⟨t_,sz,A.map f,lent⟩) 1 f_ A.length i 0=s_ (f (A.getD i d_)):=by have:(f A[i]).cells=[f A[i]]:=Uu (E _);simp[N2,h,this,D.mk,Am]
def TA(o:Option Obj)(sz:Nat)(x:D)(key tot off len l h:Nat):Option D:=o.bind λo=>if o.row&&o.sz==sz&&o.els.length==tot&&sz !=0 then(if l<=h/\h<=len then(if l=0/\h=len then s_ x else if l=h then s_ (.slc sz [] f_)else s_ (.row key tot (off+l) (h-l)))else n_)else n_
theorem yY0(st:St)(sz key tot off len:Nat)(lo hi:Option D):GS st sz (.row key tot off len) lo hi n_=(GV lo 0).bind λl=>(GV hi len).bind λh=>TA st[key]? sz (.row key tot off len) key tot off len l h:=by
 simp only[GS,TA]
 cases st[key]? with
 |none=>cases GV lo 0<;>cases GV hi len<;>rfl
 |some o=>
  simp only[Bj]
  split
  .cases GV lo 0<;>cases GV hi len<;>rfl
  .simp_all
def Ydg(f:α->D)(sz:Nat)(A:List α)(lent:Bool)(x:D)(key off len l h:Nat)(E:sz≠0)(N:l<=h)(h2:h<=len):TA (s_ ⟨t_,sz,A.map f,lent⟩) sz x key A.length off len l h=(if l=0/\h=len then s_ x else if l=h then s_ (.slc sz [] f_)else s_ (.row key A.length (off+l) (h-l))):=by simp[TA,E,N,h2]
theorem Ysg(d:Nat):GV n_ d=s_ d:=(rfl)
def YC1(k:IntKind)(n:Int)(d:Nat)(h:0<=n):GV (s_ (.int k n)) d=s_ n.toNat:=by simp[GV,FA,h]
def yG8(sz bytes:Nat)(E:D)(k k':IntKind)(c:Int)(N:0<=c)(h1:c<=4294967296)(h2:c.toNat*bytes<=140737488355328)(h3:0<sz)(h4:E.cells.length=sz)(h5:E.cells.all D.pure1=t_):
  Sm sz bytes E (.int k 0) (.int k' c)=s_ (0,⟨t_,sz,[],f_⟩):=by
 have:c.toNat<=4294967296:=zaa
 simp[Sm,Ua k' c N,yZr,this,h2,h3,h4,h5]
def bm(k k':IntKind)(c:Int)(z:Dig)(E:0<=c)(N:c<=4294967296):Sm 32 32 (Ds z) (.int k 0) (.int k' c)=s_ (0,⟨t_,32,([]:List Dig).map Ds,f_⟩):=
 yG8 32 32 _ k k' c E N zaa zab (by rw[SS,En]) (My (λ_=>rfl) z)
def Yo4(k k' E:IntKind)(n c:Int)(N:0<=c)(h1:c<=4294967296):Sm 1 1 (.int E n) (.int k 0) (.int k' c)=s_ (0,⟨t_,1,([]:zLB).map DK,f_⟩):=
 yG8 1 1 _ k k' c N h1 zaa zab rfl rfl
def jI(f:α->D)(sz bytes E:Nat)(B:List α)(lent:Bool)(N:E=sz\/B.map f=[])(hs0:sz≠0)(hb:B.length*bytes<=140737488355328)(hl:B.length<=4294967296):
  TH (s_ ⟨t_,sz,[],lent⟩) sz bytes 0 (s_ (E,B.map f))=s_ ⟨t_,sz,B.map f,lent⟩:=uK f sz bytes [] B lent hs0 (by simpa using hb) (by simpa using hl) E N
def YMo(B:zLB)(lent:Bool)(hl:B.length<=4294967296):TH (s_ ⟨t_,1,[],lent⟩) 1 1 0 (s_ (1,B.map DK))=s_ ⟨t_,1,B.map DK,lent⟩:=jI DK 1 1 1 B lent (.inl rfl) zab zaa hl
def YDa(A B:zLB)(lent:Bool)(hl:A.length+B.length<=4294967296):TH (s_ ⟨t_,1,A.map DK,lent⟩) 1 1 A.length (s_ (1,B.map DK))=s_ ⟨t_,1,(A++B).map DK,lent⟩:=uK DK 1 1 A B lent zab zaa hl 1 (.inl rfl)
def jb(o:Option Obj):Option (Nat×List D):=o.bind λo=>if !o.row&&decide (32<=o.els.length)&&(KQ 1 f_ o.els 32).all purA then s_ (1,KQ 1 f_ o.els 32)else n_
theorem yE0(st:St)(key:Nat):H6 st (.bsl key 0 32 1 f_)=jb st[key]?:=by simp only[H6,ND,jb];grind
def YBq(sz:Nat)(d:Dig)(lent:Bool):jb (s_ ⟨f_,sz,Dr d,lent⟩)=s_ (1,d.bs.map DK):=by
 have E:KQ 1 f_ (Dr d) 32=Dr d:=by
  have:=yE8 (Dr d);rwa [En]at this
 have N:(Dr d).all purA=t_:=My (λ_=>rfl) d;simp only[jb,Bj,En,E,N];rfl
attribute [push_cast] yE0 YBq YMo YDa
attribute [push_cast] List.drop_zero List.take_length
attribute [push_cast] yG Ylb yMk Yel Ynz Ypj Yy8 Yy9 yWq Yg4 yC4 Yzl yY0 Ysg YC1
attribute [push_cast] YJl Yxl Ycv Yv7 Ycu Yv6 Ye1 Ye0 Yyc Yyb Ye9 Yt7 Yza YHx
def H2{α:Type}(enc:α->List D×St)(pre:α->Prop)(f:α->D×St):zsF:=
 λds st=>@dite _ (∃a,enc a=(ds,st)/\pre a) (Classical.propDecidable _) (λh=>s_ (f h.choose)) (λ_=>n_)
def yUl{enc:α->List D×St}{pre:α->Prop}{f:α->D×St}{r:D×St}(h:H2 enc pre f ds st=s_ r):∃a,enc a=(ds,st)/\pre a/\f a=r:=by
 unfold H2 at h
 split at h
 .rename_i E;simp only[Dv]at h;exact⟨E.choose,E.choose_spec.1,E.choose_spec.2,h⟩
 .cases h
def OS{enc:α->List D×St}{pre:α->Prop}{f:α->D×St}(E:∀a b,enc a=enc b->f a=f b)(a:α)(hp:pre a)(N:enc a=(ds,st)):H2 enc pre f ds st=s_ (f a):=by have hx:∃b,enc b=(ds,st)/\pre b:=⟨a,N,hp⟩;unfold H2;rw[zbf hx];rw[E _ _ (hx.choose_spec.1.trans N.symm)]
def yOj{f:Nat}(N:TblOK P G T)(ht:IY P il f hints=s_ F){sp:zsF}
  (h:∀ds st r,sp ds st=s_ r->∃fuel,dropped (F.runI G T fuel) ds st=s_ r) (hy:T.y=λ_ _ _=>n_:=by rfl):IContract P G f sp:=by refine⟨(Rb N hy ht 0).1,?_⟩;intro base w g st st' ds vs d ac hS hG hl E;obtain⟨fuel,hf⟩:=h ds st _ ac;exact(Rb N hy ht fuel).dropped.2 base w g st st' ds vs d hf hS hG hl E
def Ut{f:Nat}(ht:IY P il f hints=s_ F)(hT:TblOK P G T){enc:α->List D×St}{pre:α->Prop}{r:α->D×St}
  (h:∀a,pre a->@wW G T F.code (Du (enc a).1) (enc a).2 ⟨@Hx F.res ⟨λd st'=>(Ji (enc a).2.length d,cut (enc a).2.length st')=r a⟩⟩) (hy:T.y=λ_ _ _=>n_:=by rfl):IContract P G f (H2 enc pre r):=by refine yOj hT ht (λds st x hx=>?_) hy;obtain⟨a,ha,hp,rfl⟩:=yUl hx;obtain⟨fuel,d,st',E,N⟩:=la (Gr (h a hp));rw[ha]at E N;refine⟨fuel,?_⟩;unfold dropped;rw[E fuel (Au _)];exact congrArg s_ N
def PK(k:Nat)(o:Obj):Obj:={o with els:=if o.row then o.els else o.els.map (Ia k)}
def KD(k:Nat):Nat->St->St
 |0,_=>[]
 |_+1,[]=>[]
 |n+1,o::st=>PK k o::KD k n st
theorem Yir(k:Nat):∀(n:Nat)(st:St),KD k n st=(st.take n).map (PK k)
 |0,_=>by simp[KD]
 |n+1,[]=>by simp[KD]
 |n+1,o::st=>by simp[KD,Yir k n st]
def YKp(k:Nat)(st:St):cut k st=KD k k st:=by rw[Yir];rfl
def Yip(k:Nat)(st:St):KD k 0 st=[]:=by simp[KD]
theorem Yiq(k n:Nat)(o:Obj)(st:St):KD k (n+1) (o::st)=PK k o::KD k n st:=(rfl)
theorem Yrf(k sz:Nat)(els:List D)(lent:Bool):PK k ⟨t_,sz,els,lent⟩=⟨t_,sz,els,lent⟩:=(rfl)
theorem Yrg(k sz:Nat)(els:List D)(lent:Bool):PK k ⟨f_,sz,els,lent⟩=⟨f_,sz,els.map (Ia k),lent⟩:=(rfl)
theorem Ypc(n:Nat)(k:IntKind)(m:Int):Hi n (.int k m)=.int k m:=(rfl)
theorem Yf6(n:Nat)(b:Bool):Hi n (.bool b)=.bool b:=(rfl)
theorem Ypa(n sz:Nat)(els:List D)(t:Bool):Hi n (.slc sz els t)=.slc sz els t:=(rfl)
theorem Ypb(n key tot off len:Nat):Hi n (.row key tot off len)=if key<n then .row key tot off len else .junk:=(rfl)
theorem Yy7(n:Nat)(k:IntKind)(m:Int):Ia n (.int k m)=.int k m:=(rfl)
theorem Yo6(n:Nat)(b:Bool):Ia n (.bool b)=.bool b:=(rfl)
theorem Yy4(n sz:Nat)(els:List D)(t:Bool):Ia n (.slc sz els t)=.slc sz els t:=(rfl)
theorem Yy5(n key tot off len:Nat):Ia n (.row key tot off len)=if key<n then .row key tot off len else .junk:=(rfl)
theorem Yy6(n key off:Nat):Ia n (.ptr key off)=if key<n then .ptr key off else .junk:=(rfl)
theorem Yo5(n key:Nat):Ia n (.mapv key)=if key<n then .mapv key else .junk:=(rfl)
def Yo9(n:Nat)(d:Dig):(Dr d).map (Ia n)=Dr d:=by simp only[Dr,Bf];apply AY;intro b _;rfl
theorem Yf5(n:Nat):Ji n (.tup [])=.tup []:=(rfl)
theorem YJk(f:Nat)(l:List D):hk (.clo f l)=l.flatMap Gk:=(rfl)
theorem YAy(key off:Nat):Gk (.ptr key off)=[key]:=(rfl)
theorem Yxk(n:Nat)(σ:List Nat)(f:Nat)(l:List D):ED n σ (.clo f l)=.clo f (l.map (Hy n σ)):=(rfl)
theorem Ynx(n:Nat)(σ:List Nat)(key off:Nat):Hy n σ (.ptr key off)=KI (λk=>.ptr k off) (Fv n σ key):=(rfl)
attribute [push_cast] Yy7 Yo6 Yy4 Yy5 Yy6 Yo5 Yo9
attribute [push_cast] YKp Yip Yiq Yrf Yrg Ypc Yf6 Ypa Ypb Yf5 YJk YAy Yxk Ynx
open Go Go.RowKit
variable{v:Value}{ds:List D}{sp:zsF}{f:Nat}{hints:List (List Nat)}{il:List Nat}{F:PF}{dst:Option Tmp}{a:Act}{x:Operand}{u:TypeDesc}{T1:TypeId}
section
variable{P:Program}{G:Dy}{T:Tbl}{base n:Nat}{w:World}{g:Ghost}{st:St}
def Yon(h:RepV w g st (DS ds) v):∃us:List Value,v=sI us/\ds.length=us.length/\∀(i:Nat)d u,ds[i]?=s_ d->us[i]?=s_ u->RepV w g st d u:=by
 match ds with
 |[d]=>
  refine⟨[v],rfl,rfl,λi d' u E N=>?_⟩
  cases i with
  |zero=>
   simp only[Ay,Dv]at E N;subst E;subst N;exact h
  |succ i=>simp at E
 |[]=>
  cases h with
  |tup _ vs E N=>
   obtain rfl:vs=[]:=AW E.symm;exact⟨[],rfl,rfl,N⟩
 |a::b::l=>
  cases h with
  |tup _ vs E N=>
   match vs,E with
   |x::y::r,E=>exact⟨x::y::r,rfl,E,N⟩
def yE7(h:IContract P G f sp){xs ys:List D}{st':St}(h1:sp ds []=s_ (DS xs,st'))(h2:Ey st' xs=s_ ys):
  ∀(w:World)(g:Ghost)(vs:List Value),GlobOK G w g->(∀b o,g.Im b o->(w.cell? ⟨b,o,n_⟩).isSome=t_)->ds.length=vs.length->
  (∀(i:Nat)d v,ds[i]?=s_ d->vs[i]?=s_ v->RepV w g [] d v)->
  Calls P f vs.toArray w λe w'=>∃v g',e=.returned v/\RepV w' g' [] (DS ys) v/\purR (DS ys)=t_/\ImLe w g w' g'/\(∀b o,g'.Im b o->g.Im b o\/w.heap.size<=b)/\
   (∀b o,g'.Im b o->(w'.cell? ⟨b,o,n_⟩).isSome=t_)/\Below w.heap.size w w':=by intro w g vs hG ab hlen aa;have hS:SR w.heap.size w g []:=⟨λk o h=>by simp at h,λk o h=>by simp at h,λk k' o o' h=>by simp at h,ab,λk o x h=>by simp at h,Au _⟩;refine(h.2 w.heap.size w g [] st' ds vs _ h1 hS hG hlen aa).mono ?_;rintro e w' ⟨v,g1,rfl,N,hr⟩;obtain⟨us,rfl,e1,e2⟩:=Yon hr;obtain⟨g2,ac,_,e5,e6,e7⟩:=WO N.sr h2;have E:=N.trans ac;refine⟨_,g2,rfl,?_,qP e6,E.im,E.new,E.sr.im,E.below⟩;have h8:=WK (g:=g2) (w:=w') (ds:=ys) (vs:=us) zaa λi y v hy hv=>e7 i y v hy λx hx=>e2 i x v hx hv;exact h8.purR (ImLe.refl _ _) (qP e6)
def yOv{F:PFD}{H:HI}(ht:RB P il f hints=s_ F)(hT:TblOK P G T)(hH:∀f h,H f=s_ h->Rg P G f h){α:Type}{enc:α->List D}{pre:α->Prop}{r:α->D}
  (h:∀a,pre a->U8 G T F H (enc a) [] λh ab=>UN h ab F.res (r a)) (hy:T.y=λ_ _ _=>n_:=by rfl):Contract P G f (DL enc pre r):=by
 intro w g ds vs d hd hG a1 hlen ad _;obtain⟨a,rfl,hp,rfl⟩:=xz hd;obtain⟨k,s1,f',ab,h',e,ac,st',h1,h2,h3,h4,N⟩:=Yd3 (h a hp);have hI:=Yqw hT hy ht hH k
 have fin:∀(E:St),(E8 ⟨ac,E⟩ F.res).map DS=s_ (r a)->(∀xs,Ed ⟨ac,E⟩ F.res=s_ xs->F.runI G T H k (enc a) []=s_ (DS xs,E))->Calls P f vs.toArray w λe w'=>∃v g',e=.returned v/\RepV w' g' [] (r a) v/\purR (r a)=t_/\ImLe w g w' g'/\(∀b o,g'.Im b o->g.Im b o\/w.heap.size<=b)/\
   (∀b o,g'.Im b o->(w'.cell? ⟨b,o,n_⟩).isSome=t_)/\Below w.heap.size w w':=by
  intro E hg hx;simp only[D1]at hg;obtain⟨ys,a3,a4⟩:=hg;obtain⟨xs,q1,q2⟩:=kL a3;rw[<-a4];exact yE7 hI (hx xs q1) q2 w g vs hG a1 hlen ad
 unfold UN at N
 cases e with
 |next=>exact fin st' N λxs hx=>by simp only[PFD.runI,h1,h2,h3,h4 k (Au _),hx,Ae]
 |ret=>exact fin st' N λxs hx=>by simp only[PFD.runI,h1,h2,h3,h4 k (Au _),hx,Ae]
 |exit id=>exact N.elim
 |panic t dd=>
  simp only at N;unfold on at N
  split at N
  case h_2=>exact N.elim
  rename_i E h6;exact fin E N λxs hx=>by simp only[PFD.runI,h1,h2,h3,h4 k (Au _),h6,hx,Ae]
def yLs(N:IY P il f hints=s_ F)(hT:TblOK P G T){sx:zsX}
  (h:∀ds st r,sx ds st=s_ r->@wW G T F.code (Du ds) st ⟨@Po ⟨λt d st'=>(t,d,st')=r⟩⟩) (hy:T.y=λ_ _ _=>n_:=by rfl):SO P G f sx:=by refine⟨(YH hT hy N 0).1,?_⟩;intro base w g st st' ds vs t d ad hS hG hl E;obtain⟨k,t1,d1,st1,h1,h2⟩:=Yd1 (Gr (h ds st _ ad));cases h2;exact(YH hT hy N k).2 base w g st _ ds vs _ _ (h1 k (Au _)) hS hG hl E
theorem mO(E:IY P il f hints=s_ F)(N:TblOK P G T)
  (h:∀ds st r,sp ds st=s_ r->@wW G T F.code (Du ds) st ⟨@Hx F.res ⟨λd st'=>(Ji st.length d,cut st.length st')=r⟩⟩) (hy:T.y=λ_ _ _=>n_:=by rfl):IContract P G f sp:=by refine yOj N E (λds st x hx=>?_) hy;obtain⟨fuel,d,st',h1,h2⟩:=la (Gr (h ds st x hx));refine⟨fuel,?_⟩;unfold dropped;grind
def Kg(N:IY P il f hints=s_ F)(hT:TblOK P G T)
  (h:∀ds st r,sp ds st=s_ r->@wW G T F.code (Du ds) st ⟨@Hx F.res ⟨λd st'=>(d,st')=r⟩⟩) (hy:T.y=λ_ _ _=>n_:=by rfl):IContract P G f sp:=by refine⟨(Rb hT hy N 0).1,?_⟩;intro base w g st st' ds vs d ac hS hG hl E;obtain⟨k,d1,st1,h1,h2⟩:=la (Gr (h ds st _ ac));cases h2;exact(Rb hT hy N k).2 base w g st _ ds vs _ (h1 k (Au _)) hS hG hl E
theorem Contract.or{sp E N:zsP}(h1:Contract P G f E)(h2:Contract P G f N)(h:∀ds d,sp ds=s_ d->E ds=s_ d\/N ds=s_ d):Contract P G f sp:=by
 intro w g ds vs d hd;rcases h ds d hd with h|h
 .exact h1 w g ds vs d h
 .exact h2 w g ds vs d h
theorem IContract.or{E N:zsF}(h1:IContract P G f E)(h2:IContract P G f N)(h:∀ds st r,sp ds st=s_ r->E ds st=s_ r\/N ds st=s_ r):IContract P G f sp:=by
 refine⟨h1.1,?_⟩;intro base w g st st' ds vs d ac;rcases h ds st _ ac with h3|h3
 .exact h1.2 base w g st st' ds vs d h3
 .exact h2.2 base w g st st' ds vs d h3
def HW(sp:zsP)(ds:List D)(st:St):Option (D×St):=match Ey st ds with
 |some vs=>match sp vs with
  |some r=>s_ (r,if r.noRef then st else PI.lend (ds.flatMap keys) st)
  |none=>n_
 |none=>n_
theorem Contract.toI{sp:zsP}(h:Contract P G f sp){fn:Func}(hfn:P.funcs[f]?=s_ fn)(hb:fn.body.isSome=t_)(hname:(fn.name == "runtime.NumGoroutine")=f_):IContract P G f (HW sp):=by
 refine⟨⟨fn,hfn,hb,hname⟩,?_⟩;intro base w g st st' ds vs d hsp hS hG hl hrep;unfold HW at hsp
 split at hsp
 case h_2=>cases hsp
 rename_i ys hi
 split at hsp
 case h_2=>cases hsp
 rename_i r hr;simp only[Dv,D4]at hsp;obtain⟨rfl,rfl⟩:=hsp;obtain⟨g1,hgo,_,hyl,hpure,hyr⟩:=WO hS hi;have hc:=h w g1 ys vs r hr (hG.mono hgo.im) hgo.sr.im (hyl.trans hl) (λi y v hy hv=>(hyr i y v hy (λd hd=>hrep i d v hd hv)).purA (ImLe.refl _ _) (hpure y (Ak hy))) hpure;refine hc.mono ?_;rintro e w' ⟨v,g',rfl,h1,h2,h3,h4,h5,h6⟩;have hbes:Beside w w':=⟨h6.os,h6.tape,h6.output,h6.size⟩
 by_cases hnr:r.noRef=t_
 .refine⟨v,{g with Im:=g.Im},rfl,?_,by rw[zae hnr];exact yNe h1 hnr⟩;rw[zae hnr];refine hS.more hbes h6.block (λ_ _ h=>h) (λ_ _ h=>.inl h) (λb o hb=>?_);have:w'.cell? ⟨b,o,n_⟩=w.cell? ⟨b,o,n_⟩:=by simp only[World.cell?,h6.block b (hS.im_lt hb)]
  rw[this];exact hS.im b o hb
 .refine⟨v,{g1 with Im:=g'.Im},rfl,?_,?_⟩
  .rw[zaf hnr];exact hgo.trans (hgo.sr.more hbes h6.block (λb o h=>(h3.im b o h).1) (λb o h=>h4 b o h) h5)
  .exact RepV.purR (g:=g') (g':={g1 with Im:=g'.Im}) ⟨λb o h=>⟨h,rfl⟩,λ_ _ h _=>h⟩ h1 h2
def No:Tbl:={p:=λ_=>n_,i:=λ_=>n_,m:=λ_=>n_}
def Ytq:TblOK P G No:=⟨λ_ _ h=>(by cases h),λ_ _ h=>(by cases h),λ_ _ h=>(by cases h),λ_ _ h=>(by cases h),λ_ _ h=>(by cases h),λ_ _ h=>(by cases h)⟩
structure PH where
 t:Nat
 js:List Nat
 vs:Nat
 l:List PI
 deriving Inhabited
def Qs(fr:Frame):List Nat->Frame
 |[]=>fr
 |s::l=>Qs (fr.set s .junk) l
def PH.run(G:Dy)(F:PH):Nat->D->List D->St->Option St:=λt d das st=>
 if t=F.t/\Lz d=t_ then(Fq G No F.l ⟨(Qs (Du das) F.js).set F.vs d,st⟩).map (·.st)else n_
def LI(P:Program)(n:Nat):Code->Option (List PI)
 |.region _ ops f_=>F5 P [] n ops ops.toList
 |.seq a b=>match LI P n a,LI P n b with
  |some x,s_ y=>s_ (x++y)
  |_,_=>n_
 |.skip=>s_ []
 |_=>n_
theorem wj{w0:World}{g0:Ghost}{st0:St}{dl:List Deferred}:∀(c:Code)(l:List PI)(s s':PS)(a:Act)(w:World)(Q:Exit->Act->World->Prop),LI P n c=s_ l->Fq G No l s=s_ s'->R G base n w0 g0 st0 dl s a w->
  (∀a' w',R G base n w0 g0 st0 dl s' a' w'->a'.defers=a.defers->Q .normal a' w')->c.wpIn Fence.wide 0 P Q a w
 |.region id ops draw,l,s,s',a,w,Q,E,N,hR,hQ=>by
  cases draw with
  |true=>simp[LI]at E
  |false=>exact wpIn_region_list (yNq (r:=n_) Ytq YOK.none _ _ s s' a w E N hR hQ)
 |.seq x y,l,s,s',a,w,Q,E,N,hR,hQ=>by
  simp only[LI]at E
  split at E
  case h_2=>cases E
  rename_i lx ly h1 h2;cases E;rw[uu,AD]at N;obtain⟨s1,ab,ac⟩:=N;refine wpIn_seq (wj x lx s s1 a w _ h1 ab hR λa' w' ad ae=>?_);exact wj y ly s1 s' a' w' _ h2 ac ad λa2 w2 af ah=>hQ a2 w2 af (ah.trans ae)
 |.skip,l,s,s',a,w,Q,E,N,hR,hQ=>by
  simp only[LI,Dv]at E;subst E;simp only[Fq,Dv]at N;subst N;exact wpIn_skip (hQ a w hR rfl)
 |.cond _ _ _,_,_,_,_,_,_,E,_,_,_=>by simp[LI]at E
 |.block _ _,_,_,_,_,_,_,E,_,_,_=>by simp[LI]at E
 |.loop _,_,_,_,_,_,_,E,_,_,_=>by simp[LI]at E
 |.exit _,_,_,_,_,_,_,E,_,_,_=>by simp[LI]at E
 |.ret,_,_,_,_,_,_,E,_,_,_=>by simp[LI]at E
 |.rangeFunc _ _ _ _,_,_,_,_,_,_,E,_,_,_=>by simp[LI]at E
 |.scope _,_,_,_,_,_,_,E,_,_,_=>by simp[LI]at E
 |.label _,_,_,_,_,_,_,E,_,_,_=>by simp[LI]at E
 |.goto _,_,_,_,_,_,_,E,_,_,_=>by simp[LI]at E
 |.refuse _,_,_,_,_,_,_,E,_,_,_=>by simp[LI]at E
def yMi(E:P.underlying T1=s_ u)(hn:∀m,u≠.interface m)(N:a.eval x=.iface T1 v){ty xt:TypeId}{pos:String}{after:Array Edge}{guard:Option (Nat×Bool)}(w:World):
  (execOp a.eval {dst:=dst,op:=.typeAssert x xt T1 t_,type:=ty,pos:=pos,after:=after,guard:=guard}).run P w=.ok (.value (.tuple #[v,.bool t_])) w:=by simp only[execOp,N,ya0,Sem.run_bind,run_underlying E,yaz];rfl
theorem yMh(E:P.underlying T1=s_ u)(hn:∀m,u≠.interface m){i:TypeInfo}{z:Value}(hi:P.info? T1=s_ i)(N:i.zero=s_ z)(hx:a.eval x=.nilIface){ty xt:TypeId}{pos:String}{after:Array Edge}{guard:Option (Nat×Bool)}(w:World):
  (execOp a.eval {dst:=dst,op:=.typeAssert x xt T1 t_,type:=ty,pos:=pos,after:=after,guard:=guard}).run P w=.ok (.value (.tuple #[z,.bool f_])) w:=by
 have ab:(zeroValue T1).run P w=.ok z w:=by simp[zeroValue,typeInfo,hi,N]
 simp only[execOp,hx,ya0,Sem.run_bind,run_underlying E,yaz];simp_all
def Ycs{d:D}(h:RY d=t_):RepV w g st d (Pj d):=by
 cases d with
 |int k m=>exact .int k m
 |_=>simp[RY]at h
def yGd{d:D}(h:Lz d=t_):RepV w g st d (GX d):=by
 cases d with
 |int k m=>exact .int k m
 |agg l=>
  refine .agg l _ zac λi d v hd hv=>?_;rw[AI,hd]at hv;simp only[Ae,Dv]at hv;subst hv;exact Ycs (Ad.1 h _ (Ak hd))
 |_=>simp[Lz,RY]at h
def JJ{r:Nat}(h:r<a.tmps.size):(a.put (s_ r) v).eval (.tmp r)=v:=by simp[Act.put,Act.eval,h]
def Rp{r s:Nat}(h:r≠s):(a.put (s_ s) v).eval (.tmp r)=a.eval (.tmp r):=by have E:¬s=r:=λe=>h e.symm;simp[Act.put,Act.eval,Array.getD_eq_getD_getElem?,E]
def It(a:Act)(r:Nat)(v:Value):(a.put (s_ r) v).tmps.size=a.tmps.size:=by simp[Act.put]
def mq{o:Oper}{w:World}(h:o.op=.call {callee:=.builtin .recover,args:=#[],argTypes:=#[]}):(execOp a.eval o).run P w=.ok .recover w:=by simp only[execOp,h];rfl
theorem yT4{vs:List Value}{m:Nat}(ab:ds.length=vs.length)(E:∀(i:Nat)d v,ds[i]?=s_ d->vs[i]?=s_ v->RepV w g st d v):
  FR w g st (Du ds) {tmps:=vs.toArray++Dc (m-vs.toArray.size) undef,defers:=[]}/\m<=(vs.toArray++Dc (m-vs.toArray.size) undef).size:=by
 refine⟨?_,by simp;omega⟩;intro s;simp only[Du];rcases Bg s ds.length with N|N
 .have h2:s<vs.length:=zaa
  have h3:(vs.toArray++Dc (m-vs.toArray.size) undef).getD s undef=vs[s]:=by
   simp[Array.getD,h2];omega
  rw[h3];have:=E s ds[s] vs[s] (by simp[N]) (by simp[h2]);grind
 .simp[Am,Bh N];exact .junk _
def oD(P:Program)(t:TypeId):Bool:=match P.underlying t with
 |some (.interface _)|none=>f_
 |some _=>t_
theorem yD4{t:TypeId}(h:oD P t=t_):∃u,P.underlying t=s_ u/\∀m,u≠.interface m:=by unfold oD at h;grind
end
open Go Go.RowKit
attribute [push_cast] eq_self iff_self
structure PFE where
 init:PC
 tail:PFD
 deriving Inhabited
def PFD.from(G:Dy)(T:Tbl)(H:HI)(F:PFD)(fuel:Nat)(s:PS):Option (D×St):=
 match Fq G T F.pre s with
 |some s1=>match OL (DJ G s1.fr F.hf) (F.ha.map (DJ G s1.fr))with
  |some (f,das)=>match H f with
   |some h=>match F.code.exec G T fuel s1 with
    |some (.next,s)|some (.ret,s)=>(Ed s F.res).map λl=>(DS l,s.st)
    |some (.panic t d,s)=>match h t d das s.st with
     |some st3=>(Ed ⟨s.fr,st3⟩ F.res).map λl=>(DS l,st3)
     |none=>n_
    |_=>n_
   |none=>n_
  |none=>n_
 |none=>n_
def PFE.runI(G:Dy)(T:Tbl)(H:HI)(F:PFE)(fuel:Nat)(ds:List D)(st:St):Option (D×St):=
 match F.init.exec G T fuel {fr:=Du ds,st} with
 |some (.next,s)=>F.tail.from G T H fuel s
 |some (.ret,s)=>(Ed s F.tail.res).map λl=>(DS l,s.st)
 |_=>n_
section
variable{P:Program}{G:Dy}{T:Tbl}{il:List Nat}
def XH(G:Dy)(T:Tbl)(F:PFD)(H:HI)(Kr:Frame->St->Prop)(K:(Nat->D->List D->St->Option St)->List D->Ex->Frame->St->Prop)(e:Ex)(fr:Frame)(st:St):Prop:=match e with
 |.next=>@Ig G T F.pre fr st ⟨λfr1 st1=>@on _ (OL (DJ G fr1 F.hf) (F.ha.map (DJ G fr1))) ⟨λp=>@on _ (H p.1) ⟨λh=>@wW G T F.code fr1 st1 ⟨K h p.2⟩⟩⟩⟩
 |.ret=>Kr fr st
 |_=>False
theorem yGh(G:Dy)(T:Tbl)(F:PFD)(H:HI)(E:Frame->St->Prop)(K:(Nat->D->List D->St->Option St)->List D->Ex->Frame->St->Prop)(fr:Frame)(st:St):
  XH G T F H E K .next fr st=@Ig G T F.pre fr st ⟨λfr1 st1=>@on _ (OL (DJ G fr1 F.hf) (F.ha.map (DJ G fr1))) ⟨λp=>@on _ (H p.1) ⟨λh=>@wW G T F.code fr1 st1 ⟨K h p.2⟩⟩⟩⟩:=(rfl)
theorem yL3(G:Dy)(T:Tbl)(F:PFD)(H:HI)(E:Frame->St->Prop)(K:(Nat->D->List D->St->Option St)->List D->Ex->Frame->St->Prop)(fr:Frame)(st:St):XH G T F H E K .ret fr st=E fr st:=(rfl)
def zp(G:Dy)(T:Tbl)(F:PFE)(H:HI)(ds:List D)(st:St)(Kr:Frame->St->Prop)(K:(Nat->D->List D->St->Option St)->List D->Ex->Frame->St->Prop):Prop:=
 @wW G T F.init (Du ds) st ⟨XH G T F.tail H Kr K⟩
end
attribute [irreducible] XH
attribute [push_cast] yGh yL3
open Go
def Yu(tys:List Ty):zsP:=λxs=>@ite _ (HasAll tys xs) (Classical.propDecidable _) (s_ (.bool t_)) n_
variable{xs:List D}{tys:List Ty}
def lawSp_true(h:HasAll tys xs):Yu tys xs=s_ (.bool t_):=by unfold Yu;rw[zae h]
variable{d:D}
theorem Ygo(h:Yu tys xs=s_ d):HasAll tys xs/\d=.bool t_:=by unfold Yu at h;grind
def lawC{P:Program}{G:Dy}{T:Tbl}{il:List Nat}{f:Nat}{hints:List (List Nat)}{F:PF}(E:IY P il f hints=s_ F)(N:TblOK P G T)
  (h:∀xs,HasAll tys xs->@wW G T F.code (Du xs) [] ⟨DN F.res (.bool t_)⟩) (hy:T.y=λ_ _ _=>n_:=by rfl):Contract P G f (Yu tys):=by refine wH N hy E λds d hd=>?_;obtain⟨hx,rfl⟩:=Ygo hd;exact yUr (Gr (h ds hx))
def Xa{t:Ty}{E:List Ty}(h:HasAll (t::E) xs):∃x r,xs=x::r/\Has t x/\HasAll E r:=by
 cases h with
 |cons N h2=>exact⟨_,_,rfl,N,h2⟩
def Ya0(h:HasAll [] xs):xs=[]:=by cases h;rfl
def KK(h:Has (.int .i64) d):∃n:Int,d=.int .i64 n/\-9223372036854775808<=n/\n<9223372036854775808:=by
 cases h with
 |int k n hw=>
  refine⟨n,rfl,?_⟩;simp[Lit.wf,ya1,ya2,ya3,yac]at hw;omega
def YJr(h:Has (.int .u8) d):∃b:UInt8,d=DK b:=by
 cases h with
 |int k n hw=>
  simp[Lit.wf,ya1,ya2,ya3,yac]at hw;refine⟨De n.toNat,?_⟩;simp[DK];omega
def YA1(h:Has .str d):∃s,d=.str s/\s.length<=maxLen:=by
 cases h with
 |str s E=>exact⟨s,rfl,E⟩
theorem qL{α:Type}{f:α->D}:∀{els:List D},(∀x∈els,∃a,x=f a)->∃l:List α,els=l.map f
 |[],_=>⟨[],rfl⟩
 |e::r,h=>by
  obtain⟨a,ha⟩:=h e zac;obtain⟨l,hl⟩:=qL (f:=f) (els:=r) λx E=>h x (by simp[E]);exact⟨a::l,by rw[ha,hl];rfl⟩
theorem uS{α:Type}{f:α->D}{e:Ty}(N:∀x,Has e x->∃a,x=f a)(h:Has (.slc e) d):∃l:List α,d=.slc (nz e.size (l.map f)) (l.map f) f_/\l.length<=maxLen:=by
 cases h with
 |slc _ els h1 h2=>
  obtain⟨l,rfl⟩:=qL (f:=f) (els:=els) λx E=>by
   obtain⟨i,hi⟩:=Cv E;grind
  grind
theorem Wm(h:Has (.agg (C7 32 (.int .u8))) d):∃x,d=Ds x:=by
 cases h with
 |agg _ xs h1 N=>
  obtain⟨l,rfl⟩:=qL (f:=DK) (els:=xs) λx hx=>by
   obtain⟨i,hi⟩:=Cv hx
   have E:i<32:=by
    grind
   exact YJr (N i (.int .u8) x (by rw[List.getElem?_replicate,zae E]) hi)
  have hl:l.length=32:=by
   grind
  refine⟨⟨l,hl⟩,?_⟩
  have:∀l:zLB,(l.map DK).flatMap yaZ=l.map DK:=by
   intro l
   induction l with
   |nil=>rfl
   |cons a r ih=>simp only[Av,AA,ih];rfl
  rw[this];rfl
def YI{t u:Ty}(h:Has (.agg [t,u]) d):∃x y,d=.agg (x.cells++y.cells)/\Has t x/\Has u y:=by
 cases h with
 |agg _ xs N E=>
  match xs,N with
  |[x,y],_=>exact⟨x,y,zac,E 0 t x rfl rfl,E 1 u y rfl rfl⟩
def Yaz(h:Has (.agg [.int .i64,.agg (C7 32 (.int .u8))]) d):∃c:Int×Dig,d=.agg (.int .i64 c.1::Dr c.2):=by obtain⟨x,y,rfl,E,N⟩:=YI h;obtain⟨n,rfl,_⟩:=KK E;obtain⟨r,rfl⟩:=Wm N;exact⟨(n,r),rfl⟩
