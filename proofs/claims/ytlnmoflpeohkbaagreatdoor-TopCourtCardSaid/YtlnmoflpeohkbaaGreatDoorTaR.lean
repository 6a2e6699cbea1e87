/-
  The parser: what a source comes to.
  Conditions: none; these are definitions and lemmas.
-/
import Derived.Test.YtlnmoflpeohkbaaGreatDoorCtA
import Derived.Test.YtlnmoflpeohkbaaGreatDoorFnsP
import Derived.Test.YtlnmoflpeohkbaaGreatDoorFnsL
import Derived.Test.YtlnmoflpeohkbaaGreatDoorFnsM
import Derived.Laws.Externs
import Derived.Test.YtlnmoflpeohkbaaGreatDoorEngLaw
import Derived.KernelRfl
import Derived.Test.YtlnmoflpeohkbaaGreatDoorEngHf
import Derived.Test.YtlnmoflpeohkbaaGreatDoorFnsQ
open Inhabited renaming default->d_
open Bool renaming false->f_,true->t_
open Option renaming some->s_,none->n_
open Array renaming replicate->Dc
open ByteArray renaming mk->Dk,size->Dg
open Int renaming reduceNatCast'->C5
open List renaming range->C9
set_option maxHeartbeats 8000000
set_option maxRecDepth 20000
set_option linter.unusedSimpArgs false
set_option linter.unusedVariables false
set_option linter.defProp false
noncomputable section
namespace Go.Proofs.YtlnmoflpeohkbaaGreatDoor.PI
open Go
open D renaming int->I,slc->O,agg->U,bool->V,ptr->Y
open Go.IntKind renaming i64->J
open Go.Act renaming put->ybE
open D renaming cells->yaZ,isCell->yaa,pure1->ybD,str->ybC
open Go.Fence renaming wide->yau
open Go.Instr renaming alloc->ybG
open Go.Oper renaming uponIn_value->ybF
open Go.Region renaming wanted->yaw
structure Tk where
 k:Int
 s:zLB
 n:Int
 a:Int
def FO(t:Tk):D:=U [I J t.k,.str t.s,I J t.n,I J t.a]
def Ywi{a b:Tk}(h:FO a=FO b):a=b:=by cases a;cases b;simp only[FO,D.agg.injEq,Ab,D.int.injEq,D.str.injEq,zal,zag]at h;simp[h]
def Nn(en:Int)(c:Nat)(l:List Tk):PI.Obj:=(zzB [O c (l.map FO) f_,I J en])
def DR(l:List Tk):Nat:=(l.map λt=>t.s.length).sum
def T4(t:Tk)(r:List Tk):DR (t::r)=t.s.length+DR r:=by simp[DR]
def pk(c:Nat)(l:List Tk):Prop:=(c=4\/l=[])/\∀t∈l,0<t.s.length
variable{r:List Tk}{t:Tk}{c:Nat}
theorem pk.c4(h:pk c (t::r)):c=4:=h.1.resolve_right zac
theorem pk.tl(h:pk c (t::r)):pk 4 r:=⟨.inl rfl,λx E=>h.2 x (Ct _ E)⟩
theorem pk.pos(h:pk c (t::r)):0<t.s.length:=h.2 t (List.mem_cons_self ..)
def EE(st:St)(k:Nat)(en:Int)(c:Nat)(l:List Tk):Prop:=st[k]?=s_ (Nn en c l)/\pk c l
def Ev(k:Nat)(st st':St):Prop:=st.length<=st'.length/\∀j,j<st.length->j≠k->st'[j]?=st[j]?
theorem Ev.refl(k:Nat)(st:St):Ev k st st:=⟨Au _,λ_ _ _=>rfl⟩
variable{k:Nat}
theorem Ev.trans{a b c:St}(h:Ev k a b)(E:Ev k b c):Ev k a c:=⟨AT h.1 E.1,λj hj hk=>by rw[E.2 j (AX hj h.1) hk,h.2 j hj hk]⟩
theorem Ev.app(k:Nat)(st E:St):Ev k st (st++E):=⟨zac,λj hj _=>Aw hj⟩
theorem Ev.set(k:Nat)(st:St)(o:PI.Obj):Ev k st (st.set k o):=⟨zac,λj hj hk=>Ac (Ne.symm hk)⟩
variable{o:PI.Obj}{st:St}
theorem Ev.at{j:Nat}{st':St}(h:Ev k st st')(hj:st[j]?=s_ o)(hk:j≠k):st'[j]?=s_ o:=by rw[h.2 j (Aa.1 hj).1 hk,hj]
def rP(ds:List D)(st:St)(k:Nat):Prop:=ds.head?=s_ (Y k 0)\/∃b,ds.head?=s_ (Y b 0)/\st[b]?=s_ (zzB [Y k 0])
abbrev VT:=List D->St->Nat->D->St->Nat->Prop
def PO(X:Prop)(k:Nat)(en:Int)(l:List Tk)(st:St)(V:D->St->Nat->Prop):Rs->Prop
 |.inl (d,st')=>∃c l',Ev k st st'/\EE st' k en c l'/\DR l'<=DR l/\V d st' (DR l')
 |.inr (t,x,st')=>X/\t=114/\(∃a e,x=U [I J a,I J e]/\e≠0)/\Ev k st st'
def QM(X:Prop)(V:VT)(ds:List D)(st:St)(o:Rs):Prop:=∀k en c l,rP ds st k->EE st k en c l->PO X k en l st (V ds st (DR l)) o
variable{l l':List Tk}{c':Nat}{en en':Int}
def Yya(h:EE st k en c l)(E:EE st k en' c' l'):en=en'/\c=c'/\l=l':=by have:=h.1.symm.trans E.1;simp only[Nn,AG,PI.Obj.mk.injEq,Ab,D.slc.injEq,D.int.injEq,zal,zag]at this;exact⟨this.2,this.1.1,Q1 (λ_ _=>Ywi) this.1.2⟩
variable{ds:List D}
theorem Yz8{k':Nat}(h:rP ds st k)(E:rP ds st k')(hp:EE st k en c l)(N:EE st k' en' c' l'):k=k':=by
 have no:∀{k k' en c l},st[k]?=s_ (zzB [Y k' 0])->EE st k en c l->False:=λa b=>by
  have:=a.symm.trans b.1;simp[Nn]at this
 rcases h with h|⟨b,h,hb⟩<;>rcases E with E|⟨b',E,aa⟩<;>rw[h]at E<;>simp only[AG,D.ptr.injEq,zag]at E<;>subst E
 .rfl
 .grind
 .grind
 .grind
def Mth(X:Prop)(si:zsF)(sx:zsX)(V:VT)(ds:List D)(st:St)(k:Nat)(en:Int)(n:Nat):Prop:=
 (∃d st' c l,si ds st=s_ (d,st')/\Ev k st st'/\EE st' k en c l/\DR l<=n/\V ds st n d st' (DR l))\/
 (X/\si ds st=n_/\∃a e st',sx ds st=s_ (114,U [I J a,I J e],st')/\e≠0/\Ev k st st')
variable{T:Tbl}
theorem KE{X:Prop}{F:PF}{V:VT}(hi:rP ds st k)(N:EE st k en c l)
  (h:@wW GG T F.code (Du ds) st ⟨Eu F.res (PO X k en l st (V ds st (DR l)))⟩):Mth X (GF T F (QM X V)) (KM T F (QM X V)) V ds st k en (DR l):=by
 have hq:∀o,PO X k en l st (V ds st (DR l)) o->QM X V ds st o:=by
  intro o ho k' en' c' l' ae aa;obtain rfl:=Yz8 hi ae N aa;obtain⟨rfl,_,rfl⟩:=Yya N aa;exact ho
 have hw:@wW GG T F.code (Du ds) st ⟨Eu F.res (QM X V ds st)⟩:=UP (LG _ _ _ _ _ (Gr h) λx fr st' E=>by
  cases x with
  |exit i=>unfold Eu at E;exact E.elim
  |panic t y=>rw[yGy]at E⊢;exact hq _ E
  |next=>
   rw[yMo]at E⊢;unfold on at E⊢;grind
  |ret=>
   rw[yUx]at E⊢;unfold on at E⊢;grind)
 rcases sU hw with⟨d,st',h1,h2⟩|⟨h0,t,d,st',h1,h2⟩
 .obtain⟨c',l',h3,h4,h5,h6⟩:=h2 k en c l hi N;exact .inl ⟨d,st',c',l',h1,h3,h4,h5,h6⟩
 .obtain⟨E,rfl,⟨a,e,rfl,he⟩,h3⟩:=h2 k en c l hi N;exact .inr ⟨E,h0,a,e,st',h1,he,h3⟩
theorem Fs{E:St}(h:st[k]?=s_ o):(st++E)[k]?=s_ o:=by grind
def GA(st l:St)(o:PI.Obj):(st++o::l)[st.length]?=s_ o:=zac
def MQ(st l:St)(o q:PI.Obj):(st++o::l).set st.length q=st++q::l:=zac
def OD(st l:St)(o p:PI.Obj):(st++o::p::l)[st.length+1]?=s_ p:=by simp[AF]
def RJ(st l:St)(o p q:PI.Obj):(st++o::p::l).set (st.length+1) q=st++o::q::l:=by simp[Ck]
def ap0s(st l:St)(k:Nat)(o p:PI.Obj):(st.set k p++o::l)[st.length]?=s_ o:=zac
def Yds(h:k<st.length)(E:St)(o:PI.Obj):(st++E).set k o=st.set k o++E:=BI _ _ h
attribute [push_cast] GA MQ OD RJ ap0s
variable{n:Nat}
theorem Mth.ok{si:zsF}{E:zsX}{V:VT}(h:Mth False si E V ds st k en n):
  ∃d st' c l,si ds st=s_ (d,st')/\Ev k st st'/\EE st' k en c l/\DR l<=n/\V ds st n d st' (DR l):=h.resolve_right λh=>h.1
section
variable(st:St) (en:Int) (c:Nat) (l r:List Tk) (t:Tk)
theorem fN:DB (s_ (Nn en c l)) 1 f_ 0=s_ (O c (l.map FO) f_):=rfl
theorem fO:DB (s_ (Nn en c l)) 1 f_ 1=s_ (I J en):=rfl
theorem dG(b:Nat):DV (s_ (Nn en c l)) 1 0 (O b (r.map FO) f_)=s_ (Nn en b r):=rfl
theorem gP:ER st 4 (O 4 (FO t::r.map FO) f_) (I J 0)=s_ (.eptr (FO t) 0):=rfl
def dW:GS st 4 (O 4 (FO t::r.map FO) f_) (s_ (I J 1)) n_ n_=s_ (O 4 (r.map FO) f_):=by simp[GS,GV,FA,AE]
theorem zx:Fa st 1 f_ (.eptr (FO t) 0)=s_ (I J t.k):=rfl
theorem zv:Fa st 1 f_ (.eptr (FO t) 1)=s_ (.str t.s):=rfl
theorem zw:Fa st 1 f_ (.eptr (FO t) 2)=s_ (I J t.n):=rfl
theorem zy:Fa st 1 f_ (.eptr (FO t) 3)=s_ (I J t.a):=rfl
def Yys(a b:zLB):DI .neq (.str a) (.str b)=s_ (V (decide (¬a=b))):=by by_cases h:a=b<;>simp[DI,XG,h]
def YBp(a b:zLB):DI .eql (.str a) (.str b)=s_ (V (decide (a=b))):=by by_cases h:a=b<;>simp[DI,XG,h]
theorem Yyq(key off:Nat):sH st (Y key off)=s_ (Y key off):=rfl
end
attribute [push_cast] Yys YBp fN fO dG gP dW zx zv zw zy Yyq
def kx(ds:List D)(_:St)(n:Nat)(d:D)(_:St)(m:Nat):Prop:=∃(b:Bool)(s:zLB),d=V b/\ds.getLast?=s_ (.str s)/\(b=t_->m+s.length<=n)
def cP(s:zLB)(hp:EE st k en c l):@wW GG (tb [] []) Z8.1.code (Du [Y k 0,.str s]) st ⟨Eu Z8.1.res (PO False k en l st (kx [Y k 0,.str s] st (DR l)))⟩:=by
 obtain⟨E,hc⟩:=hp;unfold Z8
 cases l with
 |nil=>
  push_cast(disch:=lia)[E,As]
  exact⟨c,[],.refl _ _,⟨E,hc⟩,Au _,f_,_,rfl,rfl,λh=>by cases h⟩
 |cons t r=>
  obtain rfl:=hc.c4;have hn:¬((r.length:Int)+1=0):=zaa
  have hk:=(Aa.1 E).1
  by_cases N:t.k=2
  .push_cast(disch:=lia)[E,hn,N]
   exact⟨4,_,.refl _ _,⟨E,hc⟩,Au _,f_,_,rfl,rfl,λh=>by cases h⟩
  .by_cases h2:t.s=s
   .push_cast(disch:=lia)[E,hn,N,h2,zai,zau]
    exact⟨4,r,.set _ _ _,⟨by simp[hk],hc.tl⟩,by rw[T4];omega,t_,_,rfl,rfl,λ_=>by rw[T4,h2];omega⟩
   .push_cast(disch:=lia)[E,hn,N,h2,zah,zai,zak]
    exact⟨4,_,.refl _ _,⟨E,hc⟩,Au _,f_,_,rfl,rfl,λh=>by cases h⟩
abbrev sA:zsF:=GF (tb [] []) Z8.1 (QM False kx)
theorem O1(s:zLB)(E:EE st k en c l):∃b st' c' l',sA [Y k 0,.str s] st=s_ (V b,st')/\Ev k st st'/\EE st' k en c' l'/\DR l'<=DR l/\(b=t_->DR l'+s.length<=DR l):=by obtain⟨_,st',c',l',N,h2,h3,h4,b,s',rfl,h6,h5⟩:=(KE (.inl rfl) E (cP s E)).ok;grind
def ku(_:List D)(_:St)(_:Nat)(d:D)(_:St)(_:Nat):Prop:=∃a:Int,d=I J a
def YEr(N:EE st k en c l):@wW GG (tb [] []) Z4.1.code (Du [Y k 0]) st ⟨Eu Z4.1.res (PO False k en l st (ku [Y k 0] st (DR l)))⟩:=by
 obtain⟨E,hc⟩:=N;unfold Z4
 cases l with
 |nil=>
  push_cast(disch:=lia)[E,As]
  exact⟨c,[],.refl _ _,⟨E,hc⟩,Au _,_,rfl⟩
 |cons t r=>
  obtain rfl:=hc.c4;have hn:(0:Int)<(r.length:Int)+1:=zaa
  push_cast(disch:=lia)[E,hn]
  exact⟨4,_,.refl _ _,⟨E,hc⟩,Au _,_,rfl⟩
abbrev Yo:zsF:=GF (tb [] []) Z4.1 (QM False ku)
theorem XN(E:EE st k en c l):∃a st' c' l',Yo [Y k 0] st=s_ (I J a,st')/\Ev k st st'/\EE st' k en c' l'/\DR l'<=DR l:=by obtain⟨_,st',c',l',N,h2,h3,h4,a,rfl⟩:=(KE (.inl rfl) E (YEr E)).ok;grind
def VNo(_:List D)(_:St)(_:Nat)(_:D)(_:St)(_:Nat):Prop:=False
theorem YBg(a b:Int):Ec [I J 0,I J 0] [(0,1,I J a),(1,1,I J b)]=s_ [I J a,I J b]:=rfl
theorem Yz9(a b:Int):Lz (U [I J a,I J b])=t_:=rfl
attribute [push_cast] YBg Yz9
abbrev TWr:Tbl:=tb [] [(45,Yo)]
def Yu6(E:EE st k en c l):@wW GG TWr Xl.1.code (Du [Y k 0]) st ⟨Eu Xl.1.res (PO True k en l st (VNo [Y k 0] st (DR l)))⟩:=by
 obtain⟨a,st',c',l',N,h2,_⟩:=XN E;unfold Xl
 push_cast(disch:=lia)[N]
 exact⟨trivial,rfl,⟨_,_,rfl,zab⟩,h2⟩
abbrev UW:zsF:=GF TWr Xl.1 (QM True VNo)
abbrev U6:zsX:=KM TWr Xl.1 (QM True VNo)
def aY(E:EE st k en c l):UW [Y k 0] st=n_/\∃a e st',U6 [Y k 0] st=s_ (114,U [I J a,I J e],st')/\e≠0/\Ev k st st':=by
 rcases KE (.inl rfl) E (Yu6 E)with⟨_,_,_,_,_,_,_,_,h⟩|⟨_,h⟩
 .exact h.elim
 .exact h
def kn(_:List D)(_:St)(_:Nat)(d:D)(_:St)(m:Nat):Prop:=∃(t:Tk)(b:Bool),d=.tup [FO t,V b]/\(b=t_->0<m)
def YA:Tk:=⟨0,[],0,0⟩
def Jb(t:Tk):List D:=[I J t.k,.str t.s,I J t.n,I J t.a]
section
variable(st:St) (t u:Tk) (z:Nat) (x:Bool)
theorem YLy:DM (FO t)=s_ (Jb t):=rfl
theorem tp:D.agg [I J 0,.str [],I J 0,I J 0]=FO YA:=rfl
theorem Yz:[D.int J 0,.str [],I J 0,I J 0]=Jb YA:=rfl
theorem a_tk:D.agg (Jb t)=FO t:=rfl
theorem iJ:Ec (Jb t) []=s_ (Jb t):=rfl
theorem dU:DV (s_ ⟨f_,z,Jb t,f_⟩) 4 0 (FO u)=s_ ⟨f_,z,Jb u,f_⟩:=rfl
theorem fE:DB (s_ ⟨f_,z,Jb t,x⟩) 4 t_ 0=s_ (FO t):=rfl
theorem fC:DB (s_ ⟨f_,z,Jb t,x⟩) 1 f_ 1=s_ (.str t.s):=rfl
theorem fD:DB (s_ ⟨f_,z,Jb t,x⟩) 1 f_ 2=s_ (I J t.n):=rfl
theorem fF:DB (s_ ⟨f_,z,Jb t,x⟩) 1 f_ 3=s_ (I J t.a):=rfl
theorem eN:Fa st 4 t_ (.eptr (FO t) 0)=s_ (FO t):=rfl
theorem gW:D2 st (FO t)=s_ (FO t):=rfl
theorem gk:keys (FO t)=[]:=rfl
theorem gY:hk (FO t)=[]:=rfl
end
attribute [push_cast] YLy tp Yz a_tk iJ dU fE fC fD fF eN gW gk gY
def YEk(q:Int)(hp:EE st k en c l):@wW GG (tb [] []) Z5.1.code (Du [Y k 0,I J q]) st ⟨Eu Z5.1.res (PO False k en l st (kn [Y k 0,I J q] st (DR l)))⟩:=by
 obtain⟨hg,hc⟩:=hp;have E:∀N,(st++N)[k]?=s_ (Nn en c l):=λN=>Fs hg;unfold Z5
 cases l with
 |nil=>
  push_cast(disch:=lia)[E,As]
  exact⟨c,[],.app _ _ _,⟨E _,hc⟩,Au _,_,f_,rfl,λh=>by cases h⟩
 |cons t r=>
  obtain rfl:=hc.c4;have hn:¬((r.length:Int)+1=0):=zaa
  by_cases h1:t.k=q
  .push_cast(disch:=lia)[E,hn,h1]
   exact⟨4,_,.app _ _ _,⟨E _,hc⟩,Au _,_,t_,rfl,λ_=>by have:=hc.pos;rw[T4];omega⟩
  .push_cast(disch:=lia)[E,hn,h1]
   exact⟨4,_,.app _ _ _,⟨E _,hc⟩,Au _,_,f_,rfl,λh=>by cases h⟩
abbrev Yq:zsF:=GF (tb [] []) Z5.1 (QM False kn)
theorem oA(q:Int)(E:EE st k en c l):∃t b st' c' l',Yq [Y k 0,I J q] st=s_ (.tup [FO t,V b],st')/\Ev k st st'/\EE st' k en c' l'/\DR l'<=DR l/\(b=t_->0<DR l'):=by obtain⟨_,st',c',l',N,h2,h3,h4,t,b,rfl,h5⟩:=(KE (.inl rfl) E (YEk q E)).ok;grind
def tc(ds:List D)(_:St)(n:Nat)(_:D)(_:St)(m:Nat):Prop:=∃s:zLB,ds.getLast?=s_ (.str s)/\m+s.length<=n
abbrev VS:Tbl:=Kw [] [(46,sA),(48,UW)] [(48,U6)]
def cG(s:zLB)(hp:EE st k en c l):@wW GG VS Xn.1.code (Du [Y k 0,.str s]) st ⟨Eu Xn.1.res (PO True k en l st (tc [Y k 0,.str s] st (DR l)))⟩:=by
 obtain⟨b,S,c',l',E,N,h3,h4,h5⟩:=O1 s hp;obtain⟨g0,a,e,S',g1,g2,g3⟩:=aY h3;unfold Xn
 cases b with
 |true=>
  push_cast(disch:=first|omega|decide)[E]
  exact⟨c',l',N,h3,h4,_,rfl,h5 rfl⟩
 |false=>
  push_cast(disch:=first|omega|decide)[E,g0,g1]
  exact⟨trivial,rfl,⟨_,_,rfl,g2⟩,N.trans g3⟩
abbrev MY:zsF:=GF VS Xn.1 (QM True tc)
abbrev MN:zsX:=KM VS Xn.1 (QM True tc)
def O2(s:zLB)(E:EE st k en c l):Mth True MY MN tc [Y k 0,.str s] st k en (DR l):=KE (.inl rfl) E (cG s E)
def td(_:List D)(_:St)(n:Nat)(d:D)(_:St)(m:Nat):Prop:=m<n/\∃a:Int,d=I J a
abbrev VR:Tbl:=Kw [] [(82,Yq),(48,UW)] [(48,U6)]
def cw(hp:EE st k en c l):@wW GG VR Xs.1.code (Du [Y k 0]) st ⟨Eu Xs.1.res (PO True k en l st (td [Y k 0] st (DR l)))⟩:=by
 obtain⟨t,b,S,c',l',N,h2,h3,h4,h5⟩:=oA 2 hp;obtain⟨hg,hc⟩:=id h3;have E:∀ob,(S++ob)[k]?=s_ (Nn en c' l'):=λob=>Fs hg;have hk:=(Aa.1 hg).1;unfold Xs
 cases b with
 |true=>
  cases l' with
  |nil=>exact absurd (h5 rfl) (by simp[DR])
  |cons u r=>
   obtain rfl:=hc.c4
   push_cast(disch:=first|omega|decide)[N,E,Yds hk]
   have:=hc.pos;rw[T4]at h4;exact⟨4,r,h2.trans ((Ev.set _ _ _).trans (.app _ _ _)),⟨Fs (by rw[Ap hk]),hc.tl⟩,zaa,zaa,_,rfl⟩
 |false=>
  obtain⟨g0,a,e,S',g1,g2,g3⟩:=aY (st:=S++[zzB (Jb t)]) ⟨E _,hc⟩
  push_cast(disch:=first|omega|decide)[N,g0,g1]
  exact⟨trivial,rfl,⟨_,_,rfl,g2⟩,(h2.trans (.app _ _ _)).trans g3⟩
abbrev RZ:zsF:=GF VR Xs.1 (QM True td)
abbrev RA:zsX:=KM VR Xs.1 (QM True td)
def r7(E:EE st k en c l):Mth True RZ RA td [Y k 0] st k en (DR l):=KE (.inl rfl) E (cw E)
abbrev QIx(ds:List D)(r:D):Prop:=∀c(els:List D)t s,ds=[O c els t,s]->∃i:Int,r=I J i/\-1<=i/\i<els.length
theorem ck(l:List (zLB))(s:zLB)(h:l.length<=4294967296):@wW GG (tb [] []) aq.1.code (Du [O (nz 1 (l.map ybC)) (l.map ybC) f_,.str s]) [] ⟨FP aq.1.res (QIx [O (nz 1 (l.map ybC)) (l.map ybC) f_,.str s])⟩:=by
 have fin:∀i:Int,-1<=i->i<l.length->QIx [O (nz 1 (l.map ybC)) (l.map ybC) f_,.str s] (I J i):=by
  grind
 unfold aq
 push_cast(disch:=lia)
 refine Gn (λi:Nat=>[(0,O (nz 1 (l.map ybC)) (l.map ybC) f_),(1,.str s),(7,I J (l.length:Int)),(8,I J (i:Int))]) (λ_=>[]) (λi=>i<=l.length) (λi=>l.length-i) 0 (by push_cast [↓C5]<;>rfl) (AS _) ?_;intro i hi
 push_cast(disch:=lia)
 refine Fm (λh2=>?_) (λh2=>?_)
 .have N:i<l.length:=zaa
  have E:∀st:St,ER st 1 (O (nz 1 (l.map ybC)) (l.map ybC) f_) (I J (i:Int))=s_ (.eptr (.str (l.getD i d_)) 0):=λst=>by
   have:=Mr st 1 ybC l f_ J (i:Int) zaa zaa;grind
  have hl:∀(st:St)b,Fa st 1 f_ (.eptr (.str b) 0)=s_ (.str b):=λ_ _=>rfl;generalize l.getD i d_=x at*
  by_cases hx:s=x
  .push_cast(disch:=lia)[E,hl,zap hx,zah]
   grind
  .push_cast(disch:=lia)[E,hl,hx,zai,D5]
   refine EV (i+1) N zaa ?_;rfl
 .push_cast(disch:=lia)
  grind
abbrev Vm:zsP:=Ii (tb [] []) aq.1 QIx
def sL:zsP:=yrv.1.run GG (tb [] []) 400
def jq:zCC 126 sL:=pS (T:=tb [] []) (DP all_nil all_nil) rfl yrv.2 400
def wU:zLB:=[109,111,110,101,121,32,109,105,110,117,116,101,32,107,109,32,107,103]
def wC:zLB:=[109,105,110,32,109,97,120,32,100,111,119,110,32,117,112,32,104,97,108,102]
def lU:List (zLB):=[[109,111,110,101,121],[109,105,110,117,116,101],[107,109],[107,103]]
def e_fU:sL [.str wU]=s_ (O 1 (lU.map ybC) f_):=by kernel_rfl
theorem iA(l:List (zLB))(s:zLB)(h:l.length<=4294967296):∃i:Int,Vm [O (nz 1 (l.map ybC)) (l.map ybC) f_,.str s]=s_ (I J i)/\-1<=i/\i<l.length:=by obtain⟨r,E,N⟩:=I2 (ck l s h);grind
def OB(ws:zLB)(l:List (zLB)):Prop:=sL [.str ws]=s_ (O 1 (l.map ybC) f_)/\l.length<=16
def isU:OB wU lU:=⟨e_fU,zab⟩
def VCh(ds:List D)(_:St)(n:Nat)(d:D)(_:St)(m:Nat):Prop:=∃(i:Int)(b:Bool),d=.tup [I J i,V b]/\(b=t_->m<n/\0<=i/\∀x ws l,ds=[x,.str ws]->OB ws l->i<l.length)
abbrev TCh:Tbl:=tb [(126,sL),(125,Vm)] [(82,Yq)]
variable{L:List (zLB)}{ws:zLB}
def cM(N:OB ws L)(hp:EE st k en c l):@wW GG TCh Z9.1.code (Du [Y k 0,.str ws]) st ⟨Eu Z9.1.res (PO False k en l st (VCh [Y k 0,.str ws] st (DR l)))⟩:=by
 obtain⟨t,b,S,c',l',h1,h2,h3,h4,h5⟩:=oA 1 hp;obtain⟨i,q1,q2,q3⟩:=iA L t.s (by have:=N.2;omega);have hf:=N.1;obtain⟨hg,hc⟩:=id h3;have E:∀ob,(S++ob)[k]?=s_ (Nn en c' l'):=λob=>Fs hg;have hk:=(Aa.1 hg).1;unfold Z9
 cases b with
 |false=>
  push_cast(disch:=lia)[h1,hf,q1]
  exact⟨c',l',h2.trans (.app _ _ _),⟨E _,hc⟩,h4,_,f_,rfl,λh=>by cases h⟩
 |true=>
  by_cases hi:i<0
  .push_cast(disch:=lia)[h1,hf,q1,hi]
   exact⟨c',l',h2.trans (.app _ _ _),⟨E _,hc⟩,h4,_,f_,rfl,λh=>by cases h⟩
  .cases l' with
   |nil=>exact absurd (h5 rfl) (by simp[DR])
   |cons u r=>
    obtain rfl:=hc.c4;have a3:=hc.pos;rw[T4]at h4
    push_cast(disch:=lia)[h1,hf,q1,hi,E,Yds hk]
    refine⟨4,r,h2.trans ((Ev.set _ _ _).trans (.app _ _ _)),⟨Fs (by rw[Ap hk]),hc.tl⟩,zaa,i,t_,rfl,λ_=>⟨zaa,zaa,λx a4 l' e ah=>?_⟩⟩;simp only[Ab,D.str.injEq,zag]at e;obtain⟨_,rfl⟩:=e;have e:=N.1.symm.trans ah.1;simp only[AG,D.slc.injEq,zal,zag]at e;have e:=congrArg List.length e;simp only[Az]at e;omega
abbrev PB:zsF:=GF TCh Z9.1 (QM False VCh)
def YA9(N:OB ws L)(hp:EE st k en c l):∃i b st' c' l',PB [Y k 0,.str ws] st=s_ (.tup [I J i,V b],st')/\Ev k st st'/\EE st' k en c' l'/\DR l'<=DR l/\(b=t_->DR l'<DR l/\0<=i/\i<L.length):=by obtain⟨_,st',c',l',h1,h2,h3,h4,i,b,rfl,E⟩:=(KE (.inl rfl) hp (cM N hp)).ok;exact⟨i,b,st',c',l',h1,h2,h3,h4,λh=>⟨(E h).1,(E h).2.1,(E h).2.2 _ _ _ rfl N⟩⟩
def ta(ds:List D)(_:St)(n:Nat)(d:D)(_:St)(m:Nat):Prop:=m<n/\∃(i:Int),d=I J i/\0<=i/\∀x ws l,ds=[x,.str ws]->OB ws l->i<l.length
def Yz7{l l':List (zLB)}(h:OB ws l)(E:OB ws l'):l.length=l'.length:=by have e:=h.1.symm.trans E.1;simp only[AG,D.slc.injEq,zal,zag]at e;simpa using congrArg List.length e
abbrev TMu:Tbl:=Kw [] [(84,PB),(48,UW)] [(48,U6)]
def YEn(N:OB ws L)(hp:EE st k en c l):@wW GG TMu Xp.1.code (Du [Y k 0,.str ws]) st ⟨Eu Xp.1.res (PO True k en l st (ta [Y k 0,.str ws] st (DR l)))⟩:=by
 obtain⟨i,b,S,c',l',h1,h2,h3,h4,E⟩:=YA9 N hp;obtain⟨g0,a,e,S',g1,g2,g3⟩:=aY h3;unfold Xp
 cases b with
 |true=>
  push_cast(disch:=first|omega|decide)[h1]
  refine⟨c',l',h2,h3,h4,(E rfl).1,i,rfl,(E rfl).2.1,λx a0 l2 e ad=>?_⟩;simp only[Ab,D.str.injEq,zag]at e;obtain⟨_,rfl⟩:=e;rw[Yz7 ad N];exact(E rfl).2.2
 |false=>
  push_cast(disch:=first|omega|decide)[h1,g0,g1]
  exact⟨trivial,rfl,⟨_,_,rfl,g2⟩,h2.trans g3⟩
abbrev Yp:zsF:=GF TMu Xp.1 (QM True ta)
abbrev XK:zsX:=KM TMu Xp.1 (QM True ta)
def oz(N:OB ws L)(E:EE st k en c l):Mth True Yp XK ta [Y k 0,.str ws] st k en (DR l):=KE (.inl rfl) E (YEn N E)
def J1(a b c d:Int):D:=U [I J a,I J b,I J c,I J d]
def QA(a b c d:Int):List D:=[I J a,I J b,I J c,I J d]
def N7(_:List D)(_:St)(_:Nat)(d:D)(_:St)(_:Nat):Prop:=∃a b c e,d=J1 a b c e
def K9(lo hi a b c d:Int):Prop:=(lo<=a/\a<=hi)/\(lo<=b/\b<=hi)/\(lo<=c/\c<=hi)/\lo<=d/\d<=hi
def J0(a b c d:Int):PI.Obj:=(zzB (QA a b c d))
def YKm{lo hi a b c d:Int}(h:K9 lo hi a b c d){i:Int}(h0:0<=i)(h4:i<4):∃x,(lo<=x/\x<=hi)/\DB (s_ (J0 a b c d)) 1 f_ i.toNat=s_ (I J x)/\
  ∀v E N,E<=lo->hi<=N->E<=v->v<=N->∃a' b' c' d',DV (s_ (J0 a b c d)) 1 i.toNat (I J v)=s_ (J0 a' b' c' d')/\K9 E N a' b' c' d':=by
 obtain⟨h1,h2,h3,h5⟩:=h;obtain rfl|rfl|rfl|rfl:i=0\/i=1\/i=2\/i=3:=zaa
 .exact⟨a,h1,rfl,λv E N p q r s=>⟨v,b,c,d,rfl,by unfold K9;omega⟩⟩
 .exact⟨b,h2,rfl,λv E N p q r s=>⟨a,v,c,d,rfl,by unfold K9;omega⟩⟩
 .exact⟨c,h3,rfl,λv E N p q r s=>⟨a,b,v,d,rfl,by unfold K9;omega⟩⟩
 .exact⟨d,h5,rfl,λv E N p q r s=>⟨a,b,c,v,rfl,by unfold K9;omega⟩⟩
section
variable(a b c d a' b' c' d':Int)
theorem YL2:DM (U [I J 0,I J 0,I J 0,I J 0])=s_ (QA 0 0 0 0):=rfl
theorem zM:((zzB (QA a b c d)):PI.Obj)=J0 a b c d:=rfl
theorem fG:DB (s_ (J0 a b c d)) 4 t_ 0=s_ (J1 a b c d):=rfl
theorem dV:DV (s_ (J0 a b c d)) 4 0 (J1 a' b' c' d')=s_ (J0 a' b' c' d'):=rfl
end
attribute [push_cast] YL2 zM fG dV
abbrev TUn:Tbl:=Kw [] [(84,PB),(46,sA),(44,Yp)] [(44,XK)]
theorem YD6(hp:EE st k en c l):@wW GG TUn Ta.1.code (Du [Y k 0]) st ⟨Eu Ta.1.res (PO True k en l st (N7 [Y k 0] st (DR l)))⟩:=by
 have c8:=(Aa.1 hp.1).1;have b8:EE (st++[J0 0 0 0 0]) k en c l:=⟨Fs hp.1,hp.2⟩;obtain⟨i,b,S,c',l',E,h2,h3,h4,h5⟩:=YA9 isU b8;have hb:S[st.length]?=s_ (J0 0 0 0 0):=h2.at (GA _ _ _) zaa;have hl:st.length<S.length:=(Aa.1 hb).1
 obtain⟨x,N,a3,aa⟩:∃x,(b=t_->0<=x/\x<=1)/\(b=t_->DB (s_ (J0 0 0 0 0)) 1 f_ i.toNat=s_ (I J x))/\∃a' b' d' e',(b=t_->DV (s_ (J0 0 0 0 0)) 1 i.toNat (I J (x+1))=s_ (J0 a' b' d' e'))/\K9 0 2 a' b' d' e'/\(b=f_->J0 a' b' d' e'=J0 0 0 0 0):=by
  cases b with
  |false=>exact⟨0,λh=>(by cases h),λh=>(by cases h),0,0,0,0,λh=>(by cases h),by unfold K9;omega,λ_=>rfl⟩
  |true=>
   obtain⟨x,N,E,h2⟩:=YKm (lo:=0) (hi:=1) (a:=0) (b:=0) (c:=0) (d:=0) (by unfold K9;omega) (h5 rfl).2.1 (h5 rfl).2.2;obtain⟨a',b',d',e',h3,h4⟩:=h2 (x+1) 0 2 zaa zaa zaa zaa;exact⟨x,λ_=>N,λ_=>E,a',b',d',e',λ_=>h3,h4,λh=>(by cases h)⟩
 obtain⟨a1,b1,d1,e1,aa,ca,hz⟩:=aa;have p2:EE (S.set st.length (J0 a1 b1 d1 e1)) k en c' l':=⟨by rw[Ac zaa];exact h3.1,h3.2⟩
 have cb:b=f_->S.set st.length (J0 a1 b1 d1 e1)=S:=λh=>by
  rw[hz h];refine A2 λj=>?_
  by_cases e:j=st.length
  .simp_all
  .rw[Ac zaa]
 obtain⟨b2,S3,c3,l3,k1,k2,k3,k4,k5⟩:=O1 [112,101,114] p2;have ab:S3[st.length]?=s_ (J0 a1 b1 d1 e1):=k2.at (by rw[Ap hl]) zaa;have c9:st.length<S3.length:=(Aa.1 ab).1
 have ad:∀S',Ev k S3 S'->∀c r a b d e,EE S' k en c r->DR r<=DR l->PO True k en l st (N7 [Y k 0] st (DR l)) (.inl (J1 a b d e,S'.set st.length (J0 a b d e))):=λS' g c r a b d e g2 g3=>
  ⟨c,r,⟨by have:=g.1;simp;omega,λj hj hk=>by
   rw[Ac zaa,g.2 j zaa hk,k2.2 j (by simp;omega) hk,Ac zaa,h2.2 j (by simp;omega) hk,Aw hj]⟩,⟨by rw[Ac zaa];exact g2.1,g2.2⟩,g3,_,_,_,_,rfl⟩
 have be:∀o,(S3.set st.length o)[st.length]?=s_ o:=λo=>Ap (Aa.1 ab).1;have hS:b=f_->sA [Y k 0,.str [112,101,114]] S=s_ (V b2,S3):=λh=>by rw[<-k1,cb h]
 have hi:b=t_->0<=i/\i<4:=λh=>(h5 h).2;have eU:([109,111,110,101,121,32,109,105,110,117,116,101,32,107,109,32,107,103]:zLB)=wU:=rfl
 cases b2 with
 |false=>
  unfold Ta
  cases b with
  |false=>
   push_cast(disch:=first|omega|decide)[eU,E,hS rfl,ab,be]
   exact ad S3 (.refl _ _) c3 l3 _ _ _ _ k3 zaa
  |true=>
   have hi:=hi rfl;have N:=N rfl
   push_cast(disch:=first|omega|decide)[eU,E,k1,ab,Mz,hb,a3 rfl,aa rfl,D5,be]
   exact ad S3 (.refl _ _) c3 l3 _ _ _ _ k3 zaa
 |true=>
  rcases oz isU k3 with⟨_,S4,c4,l4,m1,m2,m3,m4,m5,i4,rfl,m6,m7⟩|⟨_,m0,a4,e4,S4,m1,m2,m3⟩
  .have a9:S4[st.length]?=s_ (J0 a1 b1 d1 e1):=m2.at ab zaa;have bf:∀o,(S4.set st.length o)[st.length]?=s_ o:=λo=>Ap (Aa.1 a9).1;have cg:i4<4:=m7 _ _ _ rfl isU;obtain⟨y,hy,bg,ae⟩:=YKm ca m6 cg;obtain⟨a2,b2,d2,e2,ae,_⟩:=ae (y-1) (-1) 2 zaa zaa zaa zaa;unfold Ta
   cases b with
   |false=>
    push_cast(disch:=first|omega|decide)[eU,E,hS rfl,m1,Mz,a9,bg,ae,FL,bf,CX]
    exact ad S4 m2 c4 l4 _ _ _ _ m3 zaa
   |true=>
    have hi:=hi rfl;have N:=N rfl
    push_cast(disch:=first|omega|decide)[eU,E,k1,Mz,hb,a3 rfl,aa rfl,D5,m1,a9,bg,ae,FL,bf,CX]
    exact ad S4 m2 c4 l4 _ _ _ _ m3 zaa
  .have fx:PO True k en l st (N7 [Y k 0] st (DR l)) (.inr (114,U [I J a4,I J e4],S4)):=
    ⟨trivial,rfl,⟨_,_,rfl,m2⟩,by have:=m3.1;omega,λj hj hk=>by
     rw[m3.2 j zaa hk,k2.2 j (by simp;omega) hk,Ac zaa,h2.2 j (by simp;omega) hk,Aw hj]⟩
   unfold Ta
   cases b with
   |false=>
    push_cast(disch:=first|omega|decide)[eU,E,hS rfl,m0,m1]
    exact fx
   |true=>
    have hi:=hi rfl;have N:=N rfl
    push_cast(disch:=first|omega|decide)[eU,E,k1,Mz,hb,a3 rfl,aa rfl,D5,m0,m1]
    exact fx
abbrev YAk:zsF:=GF TUn Ta.1 (QM True N7)
abbrev Yu4:zsX:=KM TUn Ta.1 (QM True N7)
def YJz(E:EE st k en c l):Mth True YAk Yu4 N7 [Y k 0] st k en (DR l):=KE (.inl rfl) E (YD6 E)
theorem Vw(a b:zLB):Gb 2 [2] (.str a) (.str b)=s_ (a==b):=rfl
theorem jd(x:zLB):DE 2 (U [.str x,V t_])=.str x:=rfl
theorem ft(s:zLB):∀(es:List (zLB))(i:Nat),Hv 2 [2] (.str s) (GT.b es).els i=s_ n_\/∃j,Hv 2 [2] (.str s) (GT.b es).els i=s_ (s_ (i+j))/\(GT.b es).els[j]?=s_ (U [.str s,V t_])
 |[],i=>.inl rfl
 |x::r,i=>by
  have E:=ft s r (i+1);simp only[GT.els,Av,Hv,jd,Vw]at E⊢
  cases h:(s==x)with
  |true=>exact .inr ⟨0,rfl,by rw[eq_of_beq h];rfl⟩
  |false=>
   rcases E with N|⟨j,N,h2⟩
   .grind
   .exact .inr ⟨j+1,by rw[N,Cw,B6 1],h2⟩
theorem mg_b(s:zLB)(es:List (zLB))(st:St):∃b,JH st 2 [2] f_ (V f_) (.gmap (.b es)) (.str s)=s_ (V b):=by
 have hm:Ff 2 [2] (.str s) (GT.b es).els=t_:=by
  simp[Ff,GT.els,jd,Vw]
 simp only[JH,GT.sz,zaj,O7,show mS 2=2 from rfl,Vw,hm,BF,Bd];rcases ft s es 0 with h|⟨j,h,E⟩
 .simp_all
 .rw[h,Ar];simp only[E];exact⟨_,rfl⟩
theorem GG_r:GG 1=s_ (.gmap (.b resT)):=rfl
theorem po(st:St)(t:GT):Fa st 1 f_ (.eptr (.gmap t) 0)=s_ (.gmap t):=rfl
abbrev QRe(_:List D)(r:D):Prop:=∃b,r=V b
theorem bR(s:zLB):@wW GG (tb [] []) ZS.1.code (Du [.str s]) [] ⟨FP ZS.1.res (QRe [.str s])⟩:=by
 obtain⟨b,hb⟩:=mg_b s resT [];unfold ZS
 push_cast(disch:=lia)[J9 _ _ _ _ GG_r,po,hb]
 grind
abbrev RN:zsP:=Ii (tb [] []) ZS.1 QRe
theorem YA7(s:zLB):∃b,RN [.str s]=s_ (V b):=by obtain⟨_,h,b,rfl⟩:=I2 (bR s);grind
def R9(_:List D)(_:St)(n:Nat)(d:D)(_:St)(m:Nat):Prop:=m<n/\∃s,d=.str s
abbrev TNa:Tbl:=Kw [(83,RN)] [(82,Yq),(48,UW)] [(48,U6)]
def YEm(hp:EE st k en c l):@wW GG TNa Xj.1.code (Du [Y k 0]) st ⟨Eu Xj.1.res (PO True k en l st (R9 [Y k 0] st (DR l)))⟩:=by
 obtain⟨t,b,S,c',l',N,h2,h3,h4,h5⟩:=oA 1 hp;obtain⟨hg,hc⟩:=id h3;have E:∀ob,(S++ob)[k]?=s_ (Nn en c' l'):=λob=>Fs hg;have hk:=(Aa.1 hg).1;obtain⟨x,hx⟩:=YA7 t.s;unfold Xj
 cases b with
 |true=>
  cases l' with
  |nil=>exact absurd (h5 rfl) (by simp[DR])
  |cons u r=>
   obtain rfl:=hc.c4;have a2:=hc.pos;rw[T4]at h4
   cases x with
   |false=>
    push_cast(disch:=first|omega|decide)[N,E,Yds hk,hx]
    exact⟨4,r,h2.trans ((Ev.set _ _ _).trans (.app _ _ _)),⟨Fs (by rw[Ap hk]),hc.tl⟩,zaa,zaa,_,rfl⟩
   |true=>
    push_cast(disch:=first|omega|decide)[N,hx]
    exact⟨trivial,rfl,⟨_,_,rfl,zab⟩,h2.trans (.app _ _ _)⟩
 |false=>
  obtain⟨g0,a,e,S',g1,g2,g3⟩:=aY (st:=S++[zzB (Jb t)]) ⟨E _,hc⟩
  push_cast(disch:=first|omega|decide)[N,g0,g1]
  exact⟨trivial,rfl,⟨_,_,rfl,g2⟩,(h2.trans (.app _ _ _)).trans g3⟩
abbrev r8:zsF:=GF TNa Xj.1 (QM True R9)
abbrev sX:zsX:=KM TNa Xj.1 (QM True R9)
def Yud(E:EE st k en c l):Mth True r8 sX R9 [Y k 0] st k en (DR l):=KE (.inl rfl) E (YEm E)
def wA:zLB:=[116,121,112,101,32,111,119,110,101,114,32,114,97,105,108,119,97,121,32,115,104,105,112,112,101,114,32,99,108,97,115,115,32,119,101,105,103,104,116,32,107,109,32,109,105,110,117,116,101,115,32,119,111,114,107,105,110,103,32,99,111,100,101,32,119,111,114,116,104,32,99,111,115,116,32,109,111,110,116,104,32,98,101,103,105,110,32,112,97,114,116,115,32,112,97,114,116]
def lA:List (zLB):=[[116,121,112,101],[111,119,110,101,114],[114,97,105,108,119,97,121],[115,104,105,112,112,101,114],[99,108,97,115,115],[119,101,105,103,104,116],[107,109],[109,105,110,117,116,101,115],[119,111,114,107,105,110,103],[99,111,100,101],[119,111,114,116,104],[99,111,115,116],[109,111,110,116,104],[98,101,103,105,110],[112,97,114,116,115],[112,97,114,116]]
def Vz:OB wA lA:=⟨by kernel_rfl,zab⟩
def wK:zLB:=[104,105,114,101,32,100,101,109,117,114,114,97,103,101,32,102,114,101,105,103,104,116,32,114,101,112,97,105,114,32,108,111,115,115,32,99,108,101,97,110,105,110,103]
def lK:List (zLB):=[[104,105,114,101],[100,101,109,117,114,114,97,103,101],[102,114,101,105,103,104,116],[114,101,112,97,105,114],[108,111,115,115],[99,108,101,97,110,105,110,103]]
def gQ:OB wK lK:=⟨by kernel_rfl,zab⟩
def lC:List (zLB):=[[109,105,110],[109,97,120],[100,111,119,110],[117,112],[104,97,108,102]]
def isWC:OB wC lC:=⟨by kernel_rfl,zab⟩
inductive Gx where
 |num (n a b c d:Int)
 |att (n:Nat)
 |bin (o:Nat) (x y:Gx)
 |ite (x y z w:Gx)
def Jy(o n a b c d:Int)(l:List D):D:=U [I J o,I J n,I J a,I J b,I J c,I J d,O (nz 7 l) l f_]
def gD:Gx->D
 |.num n a b c d=>Jy 1 n a b c d []
 |.att n=>Jy 2 n 0 0 0 0 []
 |.bin o x y=>Jy ((3+o:Nat):Int) 0 0 0 0 0 [gD x,gD y]
 |.ite x y z w=>Jy 11 0 0 0 0 0 [gD x,gD y,gD z,gD w]
def Gx.ok:Gx->Prop
 |.num _ _ _ _ _=>True
 |.att n=>n<16
 |.bin o x y=>o<8/\x.ok/\y.ok
 |.ite x y z w=>x.ok/\y.ok/\z.ok/\w.ok
def Gx.sz:Gx->Nat
 |.num _ _ _ _ _=>1
 |.att _=>1
 |.bin _ x y=>x.sz+y.sz+1
 |.ite x y z w=>x.sz+y.sz+z.sz+w.sz+1
def TD(d:D)(a b:Nat):Prop:=∀q∈hk d,a<=q/\q<b
def IZ:VT:=λ_ st n d st' m=>∃x:Gx,x.ok/\D2 st' d=s_ (gD x)/\TD d st.length st'.length/\x.sz+m<=n
def oy(x:Gx):∃l,gD x=U l/\l.length=7:=by cases x<;>exact⟨_,rfl,rfl⟩
theorem yq{st:St}:∀{l m:List D},Ef st l=s_ m->m.length=l.length/\l.all yaa=t_
 |[],m,h=>by
  simp only[Ef,AG]at h;subst h;exact⟨rfl,rfl⟩
 |d::l,m,h=>by
  simp only[Ef]at h
  split at h
  case h_2=>cases h
  rename_i x y E N;simp only[AG]at h;subst h;obtain⟨h1,h2⟩:=yq N;refine⟨by simp[h1],?_⟩;rw[AQ,h2,B9];cases d<;>first|rfl|simp[DO,ybD]at E
variable{x:Gx}{d:D}
def UX(h:D2 st d=s_ (gD x)):∃l,d=U l/\l.length=7/\l.all yaa=t_:=by
 obtain⟨m,hm,hl⟩:=oy x;rw[hm]at h
 have no:∀d,DO st d≠s_ (U m):=λd e=>by
  unfold DO at e
  split at e<;>simp at e
  obtain⟨E,rfl⟩:=e;cases E
 cases d with
 |agg l=>
  simp only[D2,A8,D.agg.injEq]at h;obtain⟨q,E,rfl⟩:=h;exact⟨l,rfl,by rw[<- (yq E).1,hl],(yq E).2⟩
 |tup l=>cases h
 |_=>simp only[D2]at h;exact(no _ h).elim
theorem qI{q:Nat}(h:q∈keys d):q∈hk d:=by
 have one:∀d q,q∈Fw d->q∈DT d:=λd q h=>by
  cases d<;>first|exact h|(simp[Fw]at h)
 cases d with
 |agg l=>
  simp only[keys,hk,Bk]at h⊢;grind
 |_=>simp only[keys,hk]at h⊢;exact one _ _ h
variable{S:St}
def SE{E:St}{g:D}{a:Nat}(hi:D2 S d=s_ g)(N:TD d a S.length)(he:Ev k S E)(hk:k<a):D2 E d=s_ g:=by rw[wP (st:=S) λq hq=>Like.of_eq (he.2 q (N q hq).2 (by have:=(N q hq).1;omega))];exact hi
variable{ks:List Nat}
def Yih(E:Ev k st S)(h:∀q∈ks,st.length<=q):Ev k st (lend ks S):=
 ⟨by rw[Rq];exact E.1,λj hj hk=>by
  have:j∉ks:=λhm=>absurd (h j hm) zaa;rw[Q0,E.2 j hj hk];simp[this]⟩
def Gl:List D:=[I J 0,I J 0,I J 0,I J 0,I J 0,I J 0,O 0 [] t_]
theorem JF:DM (U [I J 0,I J 0,I J 0,I J 0,I J 0,I J 0,O 0 [] t_])=s_ Gl:=rfl
theorem Yq6(a:Int)(x y:D):Ec [I J 0,I J 0,I J 0,I J 0,I J 0,I J 0,O 0 [] t_] [(0,1,I J a),(6,1,O 7 [x,y] t_)]=s_ [I J a,I J 0,I J 0,I J 0,I J 0,I J 0,O 7 [x,y] t_]:=rfl
def Y1{j:Nat}(h:j∉ks):(lend ks S)[j]?=S[j]?:=by rw[Q0];simp[h]
def nB(a:Int)(x y:Gx):List D:=[I J a,I J 0,I J 0,I J 0,I J 0,I J 0,O 7 [gD x,gD y] t_]
theorem fi(a:Int)(x y:Gx):[I J a,I J 0,I J 0,I J 0,I J 0,I J 0,O 7 [gD x,gD y] t_]=nB a x y:=rfl
theorem zT(a:Int)(x y:Gx):(nB a x y).length=7:=rfl
def YF5(cs:List D)(a:Int)(x y:Gx)(h:cs.length=7):DV (s_ (zzB cs)) 7 0 (U (nB a x y))=s_ (zzB (nB a x y)):=Hs 1 _ _ 7 h rfl rfl
theorem YHc(S:St)(o:Nat)(x y:Gx):D2 S (U (nB ((3+o:Nat):Int) x y))=s_ (gD (.bin o x y)):=zad
theorem fg(a:Int)(x y:Gx):hk (U (nB a x y))=[]:=rfl
def YHs(x y:Gx):EZ 7 [gD x,gD y]=s_ (O 7 [gD x,gD y] t_):=by obtain⟨l,E,N⟩:=oy x;obtain⟨m,h3,h4⟩:=oy y;rw[E,h3];simp[EZ,yaZ,N,h4]
def VO:VT:=λ_ _ n d _ m=>∃a:Int,d=I J a/\(a=0\/3<=a/\a<=5/\m<n)
theorem Yck{co cp:D}{fo fp:Nat}{o1 o2 p1 p2:List D}{so sp:zsF}{xo xp:zsX}(hp:EE st k en c l)
  (ho:N3 co []=s_ (fo,o1++o2)) (bc:J3 T co=s_ (so,o1,o2)) (a3:T.i fo=s_ so) (a4:T.x fo=s_ xo)
  (E:N3 cp []=s_ (fp,p1++p2)) (af:T.i fp=s_ sp) (ah:T.x fp=s_ xp)
  (HO:∀S c' l',Ev k st S->EE S k en c' l'->DR l'<=DR l->Mth True so xo IZ (o1++o2) S k en (DR l'))
  (HP:∀S c' l',Ev k st S->EE S k en c' l'->DR l'<=DR l->Mth True sp xp VO (p1++p2) S k en (DR l')):
  @wW GG T UC.1.code (Du [Y k 0,co,cp]) st ⟨Eu UC.1.res (PO True k en l st (IZ [Y k 0,co,cp] st (DR l)))⟩:=by
 have d8:=(Aa.1 hp.1).1;unfold UC
 push_cast(disch:=first|omega|decide)[JF]
 rw[SV (f:=fo) (ds:=o1++o2) (h:=by push_cast(disch:=first|omega|decide)[ho])];have e0:Ev k st (st++[zzB Gl]):=.app _ _ _;rcases HO _ c l e0 ⟨Fs hp.1,hp.2⟩ (Au _)with⟨d,N,c1,l1,h1,h2,h3,h4,x,ce,bd,be,d9⟩|⟨_,h0,a,e,N,h1,h2,h3⟩
 case inr=>
  push_cast(disch:=first|omega|decide)[a3,a4,h0,h1]
  exact⟨trivial,rfl,⟨_,_,rfl,h2⟩,e0.trans h3⟩
 obtain⟨dl,rfl,cf,cg⟩:=UX bd
 push_cast(disch:=first|omega|decide)[a3,a4,h1,JF,Hs]
 have bf:N[st.length]?=s_ (zzB Gl):=h2.at (GA _ _ _) zaa;have hd:st.length<N.length:=(Aa.1 bf).1;have e1:Ev k st (N++[zzB dl]):=(e0.trans h2).trans (.app _ _ _);rw[SV (f:=fp) (ds:=p1++p2) (h:=by push_cast(disch:=first|omega|decide)[E])];rcases HP _ c1 l1 e1 ⟨Fs h3.1,h3.2⟩ h4 with⟨_,S2,c2,l2,g1,g2,g3,g4,a,rfl,ga⟩|⟨_,g0,a,e,S2,g1,g2,g3⟩
 case inr=>
  push_cast(disch:=first|omega|decide)[af,ah,g0,g1]
  exact⟨trivial,rfl,⟨_,_,rfl,g2⟩,e1.trans g3⟩
 push_cast(disch:=first|omega|decide)[af,ah,g1]
 refine NP (λi:Int×St×Nat=>[(1,co),(2,cp),(6,Y st.length 0),(7,Y N.length 0),(8,I J i.1)]) (λi=>i.2.1)
  (λi=>∃c l' ld x,(Ev k st i.2.1/\i.2.1[st.length]?=s_ (zzB Gl)/\i.2.1[N.length]?=s_ (zzB ld)/\ld.length=7)/\(EE i.2.1 k en c l'/\DR l'=i.2.2)/\(x.ok/\D2 i.2.1 (U ld)=s_ (gD x)/\TD (U ld) (st.length+1) N.length)/\x.sz+i.2.2<=DR l/\(i.1=0\/3<=i.1/\i.1<=5/\x.sz+i.2.2+1<=DR l))
  (λi=>2*i.2.2+(if i.1=0 then 0 else 1)) (a,S2,DR l2) (by push_cast<;>rfl) ⟨c2,l2,dl,x,⟨e1.trans g2,g2.at (Fs bf) zaa,g2.at (GA _ _ _) zaa,cf⟩,⟨g3,rfl⟩,⟨ce,SE bd be ((Ev.app k _ _).trans g2) (by simp;omega),λq E=>by have:=be q E;simp at this;omega⟩,by dsimp only;omega,by dsimp only;omega⟩ ?_
 rintro⟨a,S,w⟩ ⟨c,l',ld,x,⟨q1,q2,q3,q4⟩,⟨q5,rfl⟩,⟨q6,q7,q8⟩,q9,c6⟩;dsimp only at q1 q2 q3 q5 q7 q9 c6;have he:=(Aa.1 q3).1
 by_cases ha:a=0
 .have c7:∀o,(S.set st.length o)[st.length]?=s_ o:=λo=>Ap zaa;obtain⟨_,c8,_,cg⟩:=UX q7;cases c8
  push_cast(disch:=first|omega|decide)[ha,q3,q2,Is,Hs,c7]
  have ev:Ev st.length S (S.set st.length (zzB ld)):=.set _ _ _;refine⟨c,l',⟨by have:=q1.1;simpa using this,λj hj hk=>by rw[Ac zaa];exact q1.2 j hj hk⟩,⟨by rw[Ac zaa];exact q5.1,q5.2⟩,zaa,x,q6,?_,λq E=>by have:=q8 q E;simp;omega,zaa⟩;exact SE (k:=st.length) q7 (a:=st.length+1) (λq E=>by have:=q8 q E;omega) ev zaa
 rcases HO S c l' q1 q5 zaa with⟨d,S3,c3,l3,r1,r2,r3,r4,y,y1,y2,y3,y4⟩|⟨_,r0,a',e',S3,r1,r2,r3⟩
 case inr=>
  push_cast(disch:=first|omega|decide)[ha]
  refine pI (by push_cast(disch:=first|omega|decide)[q3,Is,bc,r0,zak]) ?_
  push_cast(disch:=first|omega|decide)[↓Fc,q3,Is]
  rw[SV (f:=fo) (ds:=o1++o2) (h:=by push_cast(disch:=first|omega|decide)[ho])]
  push_cast(disch:=first|omega|decide)[a3,a4,r0,r1]
  exact⟨trivial,rfl,⟨_,_,rfl,r2⟩,q1.trans r3⟩
 push_cast(disch:=first|omega|decide)[ha]
 refine oj (om ?_);have db:S3[N.length]?=s_ (zzB ld):=r2.at q3 zaa
 have dc:Tl [N.length] S S3:=λq E=>by
  grind
 have dd:Option.map D.agg (Ef S3 ld)=s_ (gD x):=by
  rw[<-Wn];exact SE q7 (λq E=>by have:=q8 q E;omega) r2 (a:=st.length+1) zaa
 push_cast(disch:=first|omega|decide)[q3,Is,bc,r1,zap dc,dd,y2,YHs,Yq6]
 have ac:∀q∈keys (U ld)++keys d,st.length<q/\q≠N.length:=λq E=>by
  rcases AK.1 E with h|h
  .have:=q8 q (qI h);omega
  .have:=y3 q (qI h);omega
 generalize keys (U ld)++keys d=ks at ac;have e3:Ev k st (lend ks S3):=Yih (q1.trans r2) λq E=>by have:=(ac q E).1;omega
 have L1:(lend ks S3)[N.length]?=s_ (zzB ld):=(Y1 λh=>(ac _ h).2 rfl).trans db;have L0:(lend ks S3)[st.length]?=s_ (zzB Gl):=(Y1 λh=>absurd (ac _ h).1 zaa).trans (r2.at q2 zaa);have Lk:EE (lend ks S3) k en c3 l3:=⟨(Y1 λh=>absurd (ac _ h).1 zaa).trans r3.1,r3.2⟩;generalize lend ks S3=L at e3 L1 L0 Lk;obtain⟨o,rfl⟩:∃o:Nat,a=((3+o:Nat):Int):=⟨(a-3).toNat,zaa⟩;have df:=(Aa.1 L1).1
 push_cast(disch:=first|omega|decide)[↓C5,fi,L1,YF5]
 have e4:Ev k st (L.set N.length (zzB (nB (3+(o:Int)) x y))):=⟨by have:=e3.1;simpa using this,λj hj hk=>by rw[Ac zaa];exact e3.2 j hj hk⟩;rw[SV (f:=fp) (ds:=p1++p2) (h:=by push_cast(disch:=first|omega|decide)[E])];rcases HP _ c3 l3 e4 ⟨by rw[Ac zaa];exact Lk.1,Lk.2⟩ zaa with⟨_,S4,c4,l4,g1,g2,g3,g4,b,rfl,gb⟩|⟨_,g0,a',e',S4,g1,g2,g3⟩
 case inr=>
  push_cast(disch:=first|omega|decide)[af,ah,g0,g1]
  exact⟨trivial,rfl,⟨_,_,rfl,g2⟩,e4.trans g3⟩
 push_cast(disch:=first|omega|decide)[af,ah,g1]
 refine EV (b,S4,DR l4) ⟨c4,l4,nB (3+(o:Int)) x y,.bin o x y,⟨e4.trans g2,g2.at (by rw[Ac zaa];exact L0) zaa,g2.at (Ap df) zaa,zT _ _ _⟩,⟨g3,rfl⟩,
  ⟨⟨zaa,q6,y1⟩,by have:=YHc S4 o x y;rwa [Int.natCast_add]at this,λq E=>by rw[fg]at E;cases E⟩,?_,?_⟩ ?_ ?_
 .simp only[Gx.sz];omega
 .simp only[Gx.sz];omega
 .grind
 .rfl
def RF(gs:List Gx):Nat:=(gs.map Gx.sz).sum
def Ywq(gs:List Gx)(y:Gx):RF (gs++[y])=RF gs+y.sz:=by simp[RF]
def N6:VT:=λds st n d st' m=>∀p op(ss:List (zLB)),ds=[p,I J op,O 1 (ss.map ybC) t_]->∃gs:List Gx,(∀x∈gs,x.ok)/\D2 st' d=s_ (Jy op 0 0 0 0 0 (gs.map gD))/\gs.length=ss.length/\TD d st.length st'.length/\RF gs+m<n
def D0(kr:Nat)(els:List D):D:=if els=[]then O 0 [] t_ else .row kr els.length 0 els.length
def FC(sz:Nat)(els:List D):PI.Obj:=⟨t_,sz,els,f_⟩
def Lv(op:Int)(L:D):List D:=[I J op,I J 0,I J 0,I J 0,I J 0,I J 0,L]
section
variable(op:Int) (kr:Nat) (gs:List D) (L M:D)
def R7:(D0 kr gs).isCell=t_:=by unfold D0;split<;>rfl
theorem YBd:Ec [I J 0,I J 0,I J 0,I J 0,I J 0,I J 0,O 0 [] t_] [(0,1,I J op)]=s_ (Lv op (O 0 [] t_)):=rfl
theorem dD:DV (s_ (zzB Gl)) 7 0 (U (Lv op (O 0 [] t_)))=s_ (zzB (Lv op (O 0 [] t_))):=rfl
def YFt:DV (s_ (zzB Gl)) 7 0 (U (Lv op (D0 kr gs)))=s_ (zzB (Lv op (D0 kr gs))):=by unfold D0;split<;>rfl
theorem Yzh:DB (s_ (zzB (Lv op L))) 1 f_ 6=s_ L:=rfl
theorem YH6:DB (s_ (zzB (Lv op L))) 7 t_ 0=s_ (U (Lv op L)):=rfl
def dH:DV (s_ (zzB (Lv op M))) 1 6 (D0 kr gs)=s_ (zzB (Lv op (D0 kr gs))):=by unfold D0;split<;>rfl
def fK(y:Gx):EZ 7 [gD y]=s_ (O 7 [gD y] t_):=by obtain⟨m,E,N⟩:=oy y;rw[E];simp[EZ,yaZ,N]
end
variable{els:List D}{kr:Nat}
def XL{sz by':Nat}(y:D)(hz:0<sz/\by'<=4096)(h:els≠[]->S[kr]?=s_ (FC sz els))(hl:els.length<=4096):∃E N,EW S sz by' (D0 kr els) (O sz [y] t_)=s_ (D0 E (els++[y]),N)/\N[E]?=s_ (FC sz (els++[y]))/\S.length<=N.length/\
  (∀j,j<S.length->(els≠[]->j≠kr)->N[j]?=S[j]?)/\(els=[]->E=S.length)/\(els≠[]->E=kr):=by
 obtain⟨hz,hb⟩:=hz;have aa:sz≠0:=zaa
 cases els with
 |nil=>
  refine⟨S.length,S++[FC sz [y]],?_,zac,zac,λj hj _=>Aw hj,λ_=>rfl,λh=>absurd rfl h⟩;have h2:by'<=140737488355328:=zaa
  simp[EW,D0,H6,FC,aa,h2]
 |cons x r=>
  have h:=h zac;refine⟨kr,S.set kr (FC sz (x::r++[y])),?_,Ap (Aa.1 h).1,zac,λj _ hk=>Ac (Ne.symm (hk zac)),λe=>(by cases e),λ_=>rfl⟩;have h1:r.length+1<=4096:=by simpa using hl
  have h2:(r.length+1+1)*by'<=140737488355328:=AT (Nat.mul_le_mul (zaa:r.length+1+1<=4097) hb) zab
  have h3:r.length+1+1<=4294967296:=zaa
  simp[EW,D0,H6,FC,h,h2,h3,aa]
def V4{sz:Nat}(h:els≠[]->S[kr]?=s_ (FC sz els)):DO S (D0 kr els)=s_ (O (nz sz els) els f_):=by
 cases els with
 |nil=>rfl
 |cons x r=>
  have h:=h zac;simp[D0,DO,nz,I6,h,FC,AE]
def YL8(op:Int)(h:els≠[]->S[kr]?=s_ (FC 7 els)):D2 S (U (Lv op (D0 kr els)))=s_ (Jy op 0 0 0 0 0 els):=by have:=V4 h;simp[Lv,Jy,D2,Ef,this];rfl
def YL9{q:Nat}(h:q∈DT (D0 kr els)):els≠[]/\q=kr:=by
 cases els with
 |nil=>cases h
 |cons x r=>simpa[D0,DT,Gk]using h
theorem bU{op:Int}{E:List (zLB)}{se:zsF}{xe:zsX}(hp:EE st k en c l)(hs0:E≠[])(d9:E.length<=64)
  (af:T.i 42=s_ MY) (ah:T.x 42=s_ MN) (a4:T.i 88=s_ se) (b9:T.x 88=s_ xe)
  (HE:∀S c' l',Ev k st S->EE S k en c' l'->DR l'<DR l->Mth True se xe IZ [Y k 0] S k en (DR l')):
  @wW GG T UA.1.code (Du [Y k 0,I J op,O 1 (E.map ybC) t_]) st ⟨Eu UA.1.res (PO True k en l st (N6 [Y k 0,I J op,O 1 (E.map ybC) t_] st (DR l)))⟩:=by
 have ha:=(Aa.1 hp.1).1;unfold UA;have e0:Ev k st (st++[zzB Gl]):=.app _ _ _;rcases O2 [40] (st:=st++[zzB Gl]) ⟨Fs hp.1,hp.2⟩with⟨_,N,c1,l1,h1,h2,h3,h4,s,hs,h5⟩|⟨_,h0,a,e,N,h1,h2,h3⟩
 case inr=>
  push_cast(disch:=first|omega|decide)[JF,af,ah,h0,h1]
  exact⟨trivial,rfl,⟨_,_,rfl,h2⟩,e0.trans h3⟩
 cases hs;have bb:N[st.length]?=s_ (zzB Gl):=h2.at (GA _ _ _) zaa;have hd:st.length<N.length:=(Aa.1 bb).1;have e1:Ev k st (N++[zzB (Lv op (O 0 [] t_))]):=(e0.trans h2).trans (.app _ _ _)
 push_cast(disch:=first|omega|decide)[JF,af,ah,h1,YBd,dD]
 refine NP (λi:Nat×St=>[(0,Y k 0),(6,Y st.length 0),(7,Y N.length 0),(14,O 1 (E.map ybC) t_),(15,I J (E.length:Int)),(16,I J (i.1:Int))]) (λi=>i.2)
  (λi=>∃kr gs c l',(Ev k st i.2/\i.2[st.length]?=s_ (zzB Gl)/\i.2[N.length]?=s_ (zzB (Lv op (D0 kr (gs.map gD)))))/\EE i.2 k en c l'/\((gs.map gD≠[]->N.length<kr/\i.2[kr]?=s_ (FC 7 (gs.map gD)))/\(∀x∈gs,x.ok)/\gs.length=i.1/\i.1<=E.length)/\RF gs+DR l'<DR l)
  (λi=>E.length-i.1) (0,_) (by push_cast<;>rfl) ⟨0,[],c1,l1,⟨e1,Fs bb,GA _ _ _⟩,⟨Fs h3.1,h3.2⟩,⟨λh=>absurd rfl h,λx hx=>(by cases hx),rfl,AS _⟩,by simp at h5;simp[RF];omega⟩ ?_
 rintro⟨i,S⟩ ⟨kr,gs,c,l',⟨q1,q2,q3⟩,q5,⟨q6,q7,q8,q9⟩,cd⟩;dsimp only at q1 q2 q3 q5 q6 q8 q9;have ce:=(Aa.1 q3).1
 by_cases hi:i<E.length
 case neg=>
  have ab:¬(i:Int)<E.length:=zaa
  have cf:∀o,(S.set st.length o)[st.length]?=s_ o:=λo=>Ap zaa
  push_cast(disch:=first|omega|decide)[ab,q3,q2,YH6,YFt,cf]
  refine⟨c,l',⟨by have:=q1.1;simpa using this,λj hj hk=>by rw[Ac zaa];exact q1.2 j hj hk⟩,⟨by rw[Ac zaa];exact q5.1,q5.2⟩,zaa,λp he hf e=>?_⟩;simp only[Ab,D.int.injEq,D.slc.injEq,zal,zag]at e;obtain⟨_,rfl,e⟩:=e;have e:=congrArg List.length e;simp only[Az]at e;refine⟨gs,q7,YL8 _ λh=>?_,zaa,λq hq=>?_,cd⟩
  .have:=(q6 h).1;rw[Ac zaa];exact(q6 h).2
  .obtain⟨h,rfl⟩:=YL9 (kr:=kr) (els:=gs.map gD) (by simpa[Lv,hk,DT,Gk]using hq);have:=(Aa.1 (q6 h).2).1;have:=(q6 h).1;simp;omega
 have ab:(i:Int)<E.length:=zaa
 have a5:∀S:St,ER S 1 (O 1 (E.map ybC) t_) (I J (i:Int))=s_ (.eptr (.str (E.getD i d_)) 0):=λS=>by
  have:=yWp S 1 ybC E t_ J (i:Int) zaa ab;simp_all
 have bc:∀(S:St)s,Fa S 1 f_ (.eptr (.str s) 0)=s_ (.str s):=λ_ _=>rfl;generalize E.getD i d_=s at a5;rcases HE S c l' q1 q5 zaa with⟨d,S3,c3,l3,r1,r2,r3,r4,y,y1,y2,y3,y4⟩|⟨_,r0,a',e',S3,r1,r2,r3⟩
 case inr=>
  push_cast(disch:=first|omega|decide)[ab,a5,bc]
  refine pI (by push_cast(disch:=first|omega|decide)[q3,Yzh,a4,r0,zak]) ?_
  push_cast(disch:=first|omega|decide)[↓Fc,q3,Yzh,a4,b9,r0,r1]
  exact⟨trivial,rfl,⟨_,_,rfl,r2⟩,q1.trans r3⟩
 have cg:S3[N.length]?=s_ (zzB (Lv op (D0 kr (gs.map gD)))):=r2.at q3 zaa
 have ch:Tl [N.length] S S3:=λq hq=>by
  simp_all
 have bd:∀q∈keys d,S.length<=q:=λq hq=>(y3 q (qI hq)).1;have e3:Ev k st (lend (keys d) S3):=Yih (q1.trans r2) λq hq=>by have:=bd q hq;omega
 have old:∀j<S.length,(lend (keys d) S3)[j]?=S3[j]?:=λj hj=>Y1 λh=>absurd (bd _ h) zaa;have c0:k<S.length:=by have:=q1.1;omega
 have L1:=(old _ ce).trans cg;have L0:=(old st.length zaa).trans (r2.at q2 zaa);have Lk:EE (lend (keys d) S3) k en c3 l3:=⟨(old k c0).trans r3.1,r3.2⟩
 have Lr:gs.map gD≠[]->(lend (keys d) S3)[kr]?=s_ (FC 7 (gs.map gD)):=λh=>by
  have h6:=q6 h;have:=(Aa.1 h6.2).1;exact(old kr this).trans (r2.at h6.2 zaa)
 push_cast(disch:=first|omega|decide)[ab,a5,bc]
 refine oj (om ?_)
 push_cast(disch:=first|omega|decide)[q3,Yzh,a4,r1,zap ch,y2,fK]
 generalize lend (keys d) S3=L at e3 L1 L0 Lk Lr;obtain⟨a0,L',m1,m2,m3,m4,m5,m6⟩:=XL (by':=72) (gD y) zab Lr (by simp;omega);have a1:∀j,j<L.length->j<=N.length->L'[j]?=L[j]?:=λj hj hg=>m4 j hj λh=>by have:=(q6 h).1;omega
 have c7:=(Aa.1 L1).1;have be:=(a1 _ c7 (Au _)).trans L1;have b5:=(Aa.1 be).1
 push_cast(disch:=first|omega|decide)[m1,be,dH]
 have e4:Ev k st (L'.set N.length (zzB (Lv op (D0 a0 (gs.map gD++[gD y]))))):=⟨by have:=e3.1;simp;omega,λj hj hk=>by rw[Ac zaa,a1 j (by have:=e3.1;omega) zaa];exact e3.2 j hj hk⟩
 have c9:N.length<a0:=by
  by_cases h:gs.map gD=[]
  .simp_all
  .simp_all
 rcases O2 s (st:=L'.set N.length (zzB (Lv op (D0 a0 (gs.map gD++[gD y]))))) (k:=k) (en:=en) ⟨by rw[Ac zaa,a1 k zaa zaa];exact Lk.1,Lk.2⟩with⟨_,S4,c4,l4,g1,g2,g3,g4,s',hh,g5⟩|⟨_,g0,a',e',S4,g1,g2,g3⟩
 case inr=>
  push_cast(disch:=first|omega|decide)[af,ah,g0,g1]
  exact⟨trivial,rfl,⟨_,_,rfl,g2⟩,e4.trans g3⟩
 push_cast(disch:=first|omega|decide)[af,ah,g1,D5]
 refine EV (i+1,S4) ⟨a0,gs++[y],c4,l4,⟨e4.trans g2,g2.at (by rw[Ac zaa,a1 _ zaa zaa];exact L0) zaa,g2.at (by rw[A1];exact Ap b5) zaa⟩,g3,
  ⟨λ_=>⟨c9,g2.at (by rw[Ac zaa,A1];exact m2) zaa⟩,λx hx=>?_,by simp[q8],by dsimp only;omega⟩,by rw[Ywq];omega⟩ (by dsimp only;omega) ?_
 .rcases AK.1 hx with h|h
  .exact q7 x h
  .simp_all
 .rfl
abbrev SI:=zsF
abbrev SX:=zsX
def Oz(k:Nat):PI.Obj:=(zzB [Y k 0])
theorem Yut(k:Nat):DM (Y k 0)=s_ [Y k 0]:=rfl
theorem QQ(k:Nat):DB (s_ (Oz k)) 1 f_ 0=s_ (Y k 0):=rfl
abbrev Yv:Tbl:=tb [] [(46,sA)]
variable{b:Nat}
def bW(hb:st[b]?=s_ (Oz k))(hp:EE st k en c l):@wW GG Yv Xq.1.code (Du [Y b 0]) st ⟨Eu Xq.1.res (PO True k en l st (VO [Y b 0] st (DR l)))⟩:=by
 obtain⟨x,S,c',l',N,h2,h3,h4,E⟩:=O1 [42] hp;unfold Xq
 cases x with
 |true=>
  have E:DR l'+1<=DR l:=E rfl
  push_cast(disch:=lia)[hb,QQ,N]
  exact⟨c',l',h2,h3,h4,5,rfl,.inr ⟨zab,zab,E⟩⟩
 |false=>
  push_cast(disch:=lia)[hb,QQ,N]
  exact⟨c',l',h2,h3,h4,0,rfl,.inl rfl⟩
def bV(hb:st[b]?=s_ (Oz k))(ae:b≠k)(hp:EE st k en c l):@wW GG Yv Xo.1.code (Du [Y b 0]) st ⟨Eu Xo.1.res (PO True k en l st (VO [Y b 0] st (DR l)))⟩:=by
 obtain⟨x,S,c',l',h1,N,h3,h4,h5⟩:=O1 [43] hp;unfold Xo
 cases x with
 |true=>
  have h5:DR l'+1<=DR l:=h5 rfl
  push_cast(disch:=lia)[hb,QQ,h1]
  exact⟨c',l',N,h3,h4,3,rfl,.inr ⟨zab,zab,h5⟩⟩
 |false=>
  have aa:=N.at hb ae;obtain⟨x,S',ab,E,g1,g2,g3,g4,g5⟩:=O1 [45] h3
  cases x with
  |true=>
   have g5:DR E+1<=DR l':=g5 rfl
   push_cast(disch:=lia)[hb,aa,QQ,h1,g1]
   exact⟨ab,E,N.trans g2,g3,zaa,4,rfl,.inr ⟨zab,zab,zaa⟩⟩
  |false=>
   push_cast(disch:=lia)[hb,aa,QQ,h1,g1]
   exact⟨ab,E,N.trans g2,g3,zaa,0,rfl,.inl rfl⟩
abbrev iO1:SI:=GF Yv Xq.1 (QM True VO)
abbrev xO1:SX:=KM Yv Xq.1 (QM True VO)
abbrev iO2:SI:=GF Yv Xo.1 (QM True VO)
abbrev xO2:SX:=KM Yv Xo.1 (QM True VO)
def bH{dl:List D}(E:Ev k st S)(af:k<st.length)(hb:st.length<=b)(ah:b<S.length)(N:EE S k en c l')(hl:DR l'<=DR l)(h1:x.ok)(h2:D2 S (U dl)=s_ (gD x))(h3:TD (U dl) (b+1) S.length)(h4:x.sz+DR l'<=DR l)(o:PI.Obj)(ds:List D):
  PO True k en l st (IZ ds st (DR l)) (.inl (U dl,S.set b o)):=
 ⟨c,l',⟨by have:=E.1;simpa using this,λj hj hk=>by rw[Ac zaa];exact E.2 j hj hk⟩,⟨by rw[Ac zaa];exact N.1,N.2⟩,hl,x,h1,
  SE h2 h3 (Ev.set b S o) zaa,λq hq=>by have:=h3 q hq;simp;omega,h4⟩
def YEa{sc:SI}{xc:SX}(hb:st[b]?=s_ (Oz k))(hp:EE st k en c l)(E:T.i 130=s_ sc)(N:T.x 130=s_ xc)
  (HC:∀S,Ev k st S->EE S k en c l->Mth True sc xc IZ [Y k 0,.clo (131+5000000) [Y k 0],.clo 132 [Y b 0]] S k en (DR l)):
  @wW GG T Uy.1.code (Du [Y b 0]) st ⟨Eu Uy.1.res (PO True k en l st (IZ [Y b 0] st (DR l)))⟩:=by
 have a4:=(Aa.1 hp.1).1;have ab:∀ob,(st++ob)[b]?=s_ (Oz k):=λob=>Fs hb;unfold Uy;rcases HC (st++[zzB Gl]) (.app _ _ _) ⟨Fs hp.1,hp.2⟩with⟨d,S1,c1,l1,h1,h2,h3,h4,x,a6,ac,a7,a8⟩|⟨_,h0,a,e,S1,h1,h2,h3⟩
 case inr=>
  push_cast(disch:=first|omega|decide)[JF,ab,QQ,E,N,h0,h1]
  exact⟨trivial,rfl,⟨_,_,rfl,h2⟩,(Ev.app _ _ _).trans h3⟩
 obtain⟨dl,rfl,be,bf⟩:=UX ac;have ad:S1[st.length]?=s_ (zzB Gl):=h2.at (GA _ _ _) zaa;have ae:=(Aa.1 ad).1;have a9:∀o,(S1.set st.length o)[st.length]?=s_ o:=λo=>Ap ae
 push_cast(disch:=first|omega|decide)[JF,ab,QQ,E,N,h1,ad,Hs,a9,Is]
 exact bH ((Ev.app _ _ _).trans h2) a4 (Au _) ae h3 h4 a6 ac (λq hq=>by have:=a7 q hq;simp at this;omega) a8 _ _
def YEt{sc:SI}{xc:SX}(hp:EE st k en c l)(E:T.i 130=s_ sc)(N:T.x 130=s_ xc)
  (HC:∀S b,Ev k st S->S[b]?=s_ (Oz k)->b≠k->EE S k en c l->Mth True sc xc IZ [Y k 0,.clo 129 [Y b 0],.clo 133 [Y b 0]] S k en (DR l)):
  @wW GG T UB.1.code (Du [Y k 0]) st ⟨Eu UB.1.res (PO True k en l st (IZ [Y k 0] st (DR l)))⟩:=by
 have a4:=(Aa.1 hp.1).1;have ab:((zzB [Y k 0]):PI.Obj)=Oz k:=rfl;have hlen:(st++[Oz k]).length=st.length+1:=zac
 unfold UB;rcases HC (st++[Oz k,zzB Gl]) st.length (.app _ _ _) (GA _ _ _) zaa ⟨Fs hp.1,hp.2⟩with⟨d,S1,c1,l1,h1,h2,h3,h4,x,a5,ac,a6,a7⟩|⟨_,h0,a,e,S1,h1,h2,h3⟩
 case inr=>
  push_cast(disch:=first|omega|decide)[Al,Aj,Aq,JF,Yut,ab,hlen,QQ,E,N,h0,h1]
  exact⟨trivial,rfl,⟨_,_,rfl,h2⟩,(Ev.app _ _ _).trans h3⟩
 obtain⟨dl,rfl,bd,be⟩:=UX ac;have ad:S1[st.length+1]?=s_ (zzB Gl):=h2.at (OD _ _ _ _) zaa;have ae:=(Aa.1 ad).1;have a8:∀o,(S1.set (st.length+1) o)[st.length+1]?=s_ o:=λo=>Ap ae
 push_cast(disch:=first|omega|decide)[Al,Aj,Aq,JF,Yut,ab,hlen,QQ,E,N,h1,ad,Hs,a8,Is]
 exact bH ((Ev.app _ _ _).trans h2) a4 (Nat.le_succ _) ae h3 h4 a5 ac (λq hq=>by have:=a6 q hq;simp at this;omega) a7 _ _
abbrev TP(e:Nat->SI×SX):Tbl:=Kw [] [(82,Yq),(46,sA),(84,PB),(42,MY),(128,RZ),(157,YAk),(44,Yp),
  (132,iO1),(133,iO2),(88,(e 0).1),(129,(e 1).1),(130,(e 2).1),(131,(e 3).1),(158,(e 4).1)]
 [(42,MN),(128,RA),(157,Yu4),(44,XK),(132,xO1),(133,xO2),
  (88,(e 0).2),(129,(e 1).2),(130,(e 2).2),(131,(e 3).2),(158,(e 4).2)]
theorem Yq3(n a b c d:Int):Ec [I J 0,I J 0,I J 0,I J 0,I J 0,I J 0,O 0 [] t_] [(0,1,I J 1),(1,1,I J n),(2,4,J1 a b c d)]=s_ [I J 1,I J n,I J a,I J b,I J c,I J d,O 0 [] t_]:=rfl
theorem Yq7(n:Int):Ec [I J 0,I J 0,I J 0,I J 0,I J 0,I J 0,O 0 [] t_] [(0,1,I J 2),(1,1,I J n)]=s_ [I J 2,I J n,I J 0,I J 0,I J 0,I J 0,O 0 [] t_]:=rfl
def YF2(o n a b c d:Int)(L:D)(E:L.isCell=t_):DV (s_ (zzB Gl)) 7 0 (U [I J o,I J n,I J a,I J b,I J c,I J d,L])=s_ (zzB [I J o,I J n,I J a,I J b,I J c,I J d,L]):=Hs 1 _ _ 7 rfl rfl (by simp only[AQ,Cj,E];rfl)
theorem YH7(o n a b c d:Int)(L:D):DB (s_ (zzB [I J o,I J n,I J a,I J b,I J c,I J d,L])) 7 t_ 0=s_ (U [I J o,I J n,I J a,I J b,I J c,I J d,L]):=rfl
theorem Yqa(S:St)(n a b c d:Int):D2 S (U [I J 1,I J n,I J a,I J b,I J c,I J d,O 0 [] t_])=s_ (gD (.num n a b c d)):=zad
theorem Yqe(S:St)(n:Nat):D2 S (U [I J 2,I J (n:Int),I J 0,I J 0,I J 0,I J 0,O 0 [] t_])=s_ (gD (.att n)):=zad
def Ylq{e:Nat->SI×SX}(hp:EE st k en c l)
  (HE:∀S c' l',Ev k st S->EE S k en c' l'->DR l'<DR l->Mth True (e 0).1 (e 0).2 IZ [Y k 0] S k en (DR l'))
  (HO:∀S c' l' op(ss:List (zLB)),Ev k st S->EE S k en c' l'->DR l'<DR l->ss≠[]->ss.length<=64->Mth True (e 4).1 (e 4).2 N6 [Y k 0,I J op,O 1 (ss.map ybC) t_] S k en (DR l')):
  @wW GG (TP e) Uz.1.code (Du [Y k 0]) st ⟨Eu Uz.1.res (PO True k en l st (IZ [Y k 0] st (DR l)))⟩:=by
 have ba:=(Aa.1 hp.1).1;unfold Uz;obtain⟨t,b,S1,c1,l1,a1,a2,a3,a4,a5⟩:=oA 2 (st:=st++[zzB Gl]) (k:=k) ⟨Fs hp.1,hp.2⟩;have cg:S1[st.length]?=s_ (zzB Gl):=a2.at (GA _ _ _) zaa;have d9:=(Aa.1 cg).1;have e1:Ev k st (S1++[zzB (Jb t)]):=((Ev.app _ _ _).trans a2).trans (.app _ _ _);have z1:(S1++[zzB (Jb t)])[st.length]?=s_ (zzB Gl):=Fs cg;have p1:EE (S1++[zzB (Jb t)]) k en c1 l1:=⟨Fs a3.1,a3.2⟩
 have fin:∀{S:St}{c':Nat}{l':List Tk}{o n a b c d:Int}{L:D}{x:Gx},Ev k st S->S[st.length]?=s_ (zzB Gl)->EE S k en c' l'->DR l'<=DR l->x.ok->D2 S (U [I J o,I J n,I J a,I J b,I J c,I J d,L])=s_ (gD x)->TD (U [I J o,I J n,I J a,I J b,I J c,I J d,L]) (st.length+1) S.length->x.sz+DR l'<=DR l->
   (∀o,(S.set st.length o)[st.length]?=s_ o)/\PO True k en l st (IZ [Y k 0] st (DR l)) (.inl (U [I J o,I J n,I J a,I J b,I J c,I J d,L],S.set st.length (zzB [I J o,I J n,I J a,I J b,I J c,I J d,L]))):=
  λhS hz bc hl hx hi hf hs=>⟨λo=>Ap (Aa.1 hz).1,bH hS ba (Au _) (Aa.1 hz).1 bc hl hx hi hf hs _ _⟩
 cases b with
 |true=>
  rcases r7 p1 with⟨_,S2,c2,l2,b1,b2,b3,b4,b5,n,rfl⟩|⟨_,b0,a,e,S2,b1,b2,b3⟩
  case inr=>
   push_cast(disch:=first|omega|decide)[JF,a1,b0,b1]
   exact⟨trivial,rfl,⟨_,_,rfl,b2⟩,e1.trans b3⟩
  rcases YJz b3 with⟨_,S3,c3,l3,d1,d2,d3,d4,u,v,w,z,rfl⟩|⟨_,d0,a,e,S3,d1,d2,d3⟩
  case inr=>
   push_cast(disch:=first|omega|decide)[JF,a1,b1,d0,d1]
   exact⟨trivial,rfl,⟨_,_,rfl,d2⟩,(e1.trans b2).trans d3⟩
  have z3:=(d2.at (b2.at z1 zaa) zaa);obtain⟨f1,f2⟩:=fin (x:=.num n u v w z) ((e1.trans b2).trans d2) z3 d3 zaa trivial (Yqa S3 n u v w z) (λq hq=>by cases hq) (by simp only[Gx.sz];omega)
  push_cast(disch:=first|omega|decide)[JF,a1,b1,d1,Yq3,z3,YF2,f1,YH7]
  exact f2
 |false=>
 obtain⟨b,S2,c2,l2,b1,b2,b3,b4,b5⟩:=O1 [40] p1;have z2:=b2.at z1 zaa;have e2:=e1.trans b2
 cases b with
 |true=>
  have b5:DR l2+1<=DR l1:=b5 rfl;rcases HE S2 c2 l2 e2 b3 zaa with⟨d,S3,c3,l3,E,N,h3,h4,x,he,ch,c0,k3⟩|⟨_,h0,a,e,S3,E,N,h3⟩
  case inr=>
   push_cast(disch:=first|omega|decide)[JF,a1,b1,h0,E]
   exact⟨trivial,rfl,⟨_,_,rfl,N⟩,e2.trans h3⟩
  obtain⟨dl,rfl,c6,c7⟩:=UX ch;rcases O2 [41] (st:=S3++[zzB dl]) (k:=k) ⟨Fs h3.1,h3.2⟩with⟨_,S4,c4,l4,g1,g2,g3,g4,s,hs,g5⟩|⟨_,g0,a,e,S4,g1,g2,g3⟩
  case inr=>
   push_cast(disch:=first|omega|decide)[JF,a1,b1,E,Hs,g0,g1]
   exact⟨trivial,rfl,⟨_,_,rfl,g2⟩,((e2.trans N).trans (.app _ _ _)).trans g3⟩
  have z4:=g2.at (Fs (N.at z2 zaa)) zaa;have hg:S4[S3.length]?=s_ (zzB dl):=g2.at (GA _ _ _) (by have:=(Aa.1 h3.1).1;omega);have c8:=(Aa.1 z4).1;have be:∀o,(S4.set st.length o)[st.length]?=s_ o:=λo=>Ap c8;have k4:=(Aa.1 z2).1
  push_cast(disch:=first|omega|decide)[JF,a1,b1,E,Hs,g1,hg,Is,z4,be]
  exact bH (((e2.trans N).trans (.app _ _ _)).trans g2) ba (Au _) c8 g3 zaa he (SE ch c0 ((Ev.app k _ _).trans g2) (by have:=e2.1;omega)) (λq hq=>by have:=c0 q hq;have:=g2.1;simp at this;omega) zaa _ _
 |false=>
 obtain⟨b,S3,c3,l3,d1,d2,d3,d4,d5⟩:=O1 [105,102] b3;have z3:=d2.at z2 zaa;have e3:=e2.trans d2
 have bf:∀{S S':St}{c':Nat}{l' l0:List Tk}{op:Int}{ss:List (zLB)}{d:D},Ev k st S->S[st.length]?=s_ (zzB Gl)->Ev k S S'->EE S' k en c' l'->DR l'<=DR l0->DR l0<=DR l->N6 [Y k 0,I J op,O 1 (ss.map ybC) t_] S (DR l0) d S' (DR l')->
   (op=11/\ss.length=4\/6<=op/\op<=10/\ss.length=2)->∃dl,d=U dl/\dl.length=7/\dl.all yaa=t_/\S'[st.length]?=s_ (zzB Gl)/\(∀o,(S'.set st.length o)[st.length]?=s_ o)/\PO True k en l st (IZ [Y k 0] st (DR l)) (.inl (U dl,S'.set st.length (zzB dl))):=by
  intro S S' c' l' l0 op ss d hS hz hE bc d9 k5 hv h8;obtain⟨gs,v1,v2,v3,v4,v5⟩:=hv _ _ _ rfl;have bg:=hE.at hz zaa;have k6:=(Aa.1 hz).1
  have key:∃x:Gx,x.ok/\D2 S' d=s_ (gD x)/\x.sz<=RF gs+1:=by
   rcases h8 with⟨rfl,h4⟩|⟨h6,k7,N⟩
   .match gs,v3.trans h4 with
    |[x,y,z,w],_=>
     have q:=λx hx=>v1 x hx;exact⟨.ite x y z w,⟨v1 x zac,v1 y zac,v1 z zac,v1 w zac⟩,v2,by simp[Gx.sz,RF];omega⟩
   .match gs,v3.trans N with
    |[x,y],_=>
     refine⟨.bin (op-3).toNat x y,⟨zaa,v1 x zac,v1 y zac⟩,?_,by simp[Gx.sz,RF]⟩;rw[v2];simp only[gD];rw[show((3+(op-3).toNat:Nat):Int)=op by omega];rfl
  obtain⟨x,x1,x2,x3⟩:=key;obtain⟨dl,rfl,h7,hc⟩:=UX x2;exact⟨dl,rfl,h7,hc,bg,λo=>Ap (Aa.1 bg).1,bH (hS.trans hE) ba (Au _) (Aa.1 bg).1 bc zaa x1 x2 (λq hq=>by have:=v4 q hq;omega) zaa _ _⟩
 cases b with
 |true=>
  have d5:DR l3+2<=DR l2:=d5 rfl;have kc:=HO S3 c3 l3 11 [[60],[44],[44],[41]] e3 d3 zaa zac zac;have lit:EZ 1 [.str [60],.str [44],.str [44],.str [41]]=s_ (O 1 [.str [60],.str [44],.str [44],.str [41]] t_):=rfl;rcases kc with⟨d,S4,c4,l4,E,N,h3,h4,hv⟩|⟨_,h0,a,e,S4,E,N,h3⟩
  case inr=>
   simp only[Av,Bc]at h0 E
   push_cast(disch:=first|omega|decide)[JF,a1,b1,d1,lit,h0,E]
   exact⟨trivial,rfl,⟨_,_,rfl,N⟩,e3.trans h3⟩
  obtain⟨dl,rfl,c6,c7,z4,be,f2⟩:=bf e3 z3 N h3 h4 zaa hv (.inl ⟨rfl,rfl⟩);simp only[Av,Bc]at E
  push_cast(disch:=first|omega|decide)[JF,a1,b1,d1,lit,E,z4,Hs,be,Is]
  exact f2
 |false=>
 obtain⟨i,b,S4,c4,l4,f1,f2,f3,f4,f5⟩:=YA9 isWC d3;have z4:=f2.at z3 zaa;have e4:=e3.trans f2;have eC:([109,105,110,32,109,97,120,32,100,111,119,110,32,117,112,32,104,97,108,102]:zLB)=wC:=rfl
 cases b with
 |true=>
  obtain⟨f5,f6,f7⟩:=f5 rfl;have f7:i<5:=f7;have lit:EZ 1 [.str [44],.str [41]]=s_ (O 1 [.str [44],.str [41]] t_):=rfl;rcases HO S4 c4 l4 (6+i) [[44],[41]] e4 f3 zaa zac zac with⟨d,S5,c5,l5,E,N,h3,h4,hv⟩|⟨_,h0,a,e,S5,E,N,h3⟩
  case inr=>
   simp only[Av,Bc]at h0 E
   push_cast(disch:=first|omega|decide)[JF,a1,b1,d1,eC,f1,D5,lit,h0,E]
   exact⟨trivial,rfl,⟨_,_,rfl,N⟩,e4.trans h3⟩
  obtain⟨dl,rfl,c6,c7,z5,kd,g2⟩:=bf e4 z4 N h3 h4 zaa hv (.inr ⟨zaa,zaa,rfl⟩);simp only[Av,Bc]at E
  push_cast(disch:=first|omega|decide)[JF,a1,b1,d1,eC,f1,D5,lit,E,z5,Hs,kd,Is]
  exact g2
 |false=>
 have eA:([116,121,112,101,32,111,119,110,101,114,32,114,97,105,108,119,97,121,32,115,104,105,112,112,101,114,32,99,108,97,115,115,32,119,101,105,103,104,116,32,107,109,32,109,105,110,117,116,101,115,32,119,111,114,107,105,110,103,32,99,111,100,101,32,119,111,114,116,104,32,99,111,115,116,32,109,111,110,116,104,32,98,101,103,105,110,32,112,97,114,116,115,32,112,97,114,116]:zLB)=wA:=rfl;rcases oz Vz f3 with⟨_,S5,c5,l5,E,N,h3,h4,h5,i',rfl,h6,h7⟩|⟨_,h0,a,e,S5,E,N,h3⟩
 case inr=>
  push_cast(disch:=first|omega|decide)[JF,a1,b1,d1,eC,f1,eA,h0,E]
  exact⟨trivial,rfl,⟨_,_,rfl,N⟩,e4.trans h3⟩
 have h7:i'<16:=h7 _ _ _ rfl Vz;obtain⟨i',rfl⟩:=Be h6;have z5:=N.at z4 zaa;obtain⟨g1,g2⟩:=fin (x:=.att i') (e4.trans N) z5 h3 zaa (by show i'<16;omega) (Yqe S5 i') (λq hq=>by cases hq) (by simp only[Gx.sz];omega)
 push_cast(disch:=first|omega|decide)[JF,a1,b1,d1,eC,f1,eA,E,Yq7,z5,YF2,g1,YH7]
 exact g2
def lv:Nat->Nat->SI×SX
 |0=>λ_=>(λ_ _=>n_,λ_ _=>n_)
 |n+1=>λj=>match j with
  |0=>(GF (TP (lv n)) UB.1 (QM True IZ),KM (TP (lv n)) UB.1 (QM True IZ))
  |1=>(GF (TP (lv n)) Uy.1 (QM True IZ),KM (TP (lv n)) Uy.1 (QM True IZ))
  |2=>(GF (TP (lv n)) UC.1 (QM True IZ),KM (TP (lv n)) UC.1 (QM True IZ))
  |3=>(GF (TP (lv n)) Uz.1 (QM True IZ),KM (TP (lv n)) Uz.1 (QM True IZ))
  |_=>(GF (TP (lv n)) UA.1 (QM True N6),KM (TP (lv n)) UA.1 (QM True N6))
def Ob(n j:Nat)(V:VT)(ds:List D)(st:St)(k:Nat)(en:Int)(w:Nat):Prop:=Mth True (lv n j).1 (lv n j).2 V ds st k en w
structure LvOK (n:Nat):Prop where
 ex:∀st k en c l,EE st k en c l->10*DR l+8<=n->Ob n 0 IZ [.ptr k 0] st k en (DR l)
 te:∀st k en c l b,EE st k en c l->st[b]?=s_ (Oz k)->b≠k->10*DR l+4<=n->Ob n 1 IZ [.ptr b 0] st k en (DR l)
 c1:∀st k en c l b,EE st k en c l->st[b]?=s_ (Oz k)->b≠k->10*DR l+3<=n->Ob n 2 IZ [.ptr k 0,.clo (131+5000000) [.ptr k 0],.clo 132 [.ptr b 0]] st k en (DR l)
 c2:∀st k en c l b,EE st k en c l->st[b]?=s_ (Oz k)->b≠k->10*DR l+6<=n->Ob n 2 IZ [.ptr k 0,.clo 129 [.ptr b 0],.clo 133 [.ptr b 0]] st k en (DR l)
 fa:∀st k en c l,EE st k en c l->10*DR l+1<=n->Ob n 3 IZ [.ptr k 0] st k en (DR l)
 op:∀st k en c l op(ss:List (zLB)),EE st k en c l->ss≠[]->ss.length<=64->10*DR l+1<=n->Ob n 4 N6 [.ptr k 0,.int .i64 op,.slc 1 (ss.map ybC) t_] st k en (DR l)
theorem YHm:∀n,LvOK n
 |0=>⟨λ_ _ _ _ _ _ h=>zaa,λ_ _ _ _ _ _ _ _ _ h=>zaa,λ_ _ _ _ _ _ _ _ _ h=>zaa,λ_ _ _ _ _ _ _ _ _ h=>zaa,λ_ _ _ _ _ _ h=>zaa,λ_ _ _ _ _ _ _ _ _ _ h=>zaa⟩
 |n+1=>by
  have ih:=YHm n
  refine⟨λst k en c l hp h=>KE (.inl rfl) hp (YEt hp rfl rfl λS b _ hb N E=>ih.c2 S k en c l b E hb N zaa),
   λst k en c l b hp hb N h=>KE (.inr ⟨b,rfl,hb⟩) hp (YEa hb hp rfl rfl λS he E=>ih.c1 S k en c l b E (he.at hb N) N zaa),
   λst k en c l b hp hb N h=>KE (.inl rfl) hp (Yck (fo:=131) (fp:=132) (o1:=[Y k 0]) (o2:=[]) (p1:=[]) (p2:=[Y b 0]) hp rfl rfl rfl rfl rfl rfl rfl
    (λS c' l' he E hl=>ih.fa S k en c' l' E zaa) (λS c' l' he E hl=>KE (.inr ⟨b,rfl,he.at hb N⟩) E (bW (he.at hb N) E))),
   λst k en c l b hp hb N h=>KE (.inl rfl) hp (Yck (fo:=129) (fp:=133) (o1:=[]) (o2:=[Y b 0]) (p1:=[]) (p2:=[Y b 0]) hp rfl rfl rfl rfl rfl rfl rfl
    (λS c' l' he E hl=>ih.te S k en c' l' b E (he.at hb N) N zaa) (λS c' l' he E hl=>KE (.inr ⟨b,rfl,he.at hb N⟩) E (bV (he.at hb N) N E))),
   λst k en c l hp h=>KE (.inl rfl) hp (Ylq hp (λS c' l' he E hl=>ih.ex S k en c' l' E zaa) λS c' l' op ss he E hl h0 h1=>ih.op S k en c' l' op ss E h0 h1 zaa),
   λst k en c l op ss hp h0 h1 h=>KE (.inl rfl) hp (bU hp h0 h1 rfl rfl rfl rfl λS c' l' he E hl=>ih.ex S k en c' l' E zaa)⟩
abbrev CI(f:Nat)(si:SI):Prop:=zIC f si
def Tt:CI 46 sA:=(HJ _ Z8.2 (DP all_nil all_nil)).1
def pN:CI 45 Yo:=(HJ _ Z4.2 (DP all_nil all_nil)).1
def P9:CC 48 UW U6:=HJ _ Xl.2 (DP all_nil (all_cons pN all_nil))
def pP:CI 82 Yq:=(HJ _ Z5.2 (DP all_nil all_nil)).1
def Tu:CC 42 MY MN:=HJ _ Xn.2 (KV all_nil (all_cons Tt (all_cons P9.1 all_nil)) (all_cons P9.2 all_nil))
def ox:CC 128 RZ RA:=HJ _ Xs.2 (KV all_nil (all_cons pP (all_cons P9.1 all_nil)) (all_cons P9.2 all_nil))
def YKw:zCC 125 Vm:=I0 _ aq.2 (DP all_nil all_nil)
def Yjh:CI 84 PB:=(HJ (T:=TCh) _ Z9.2 (DP (all_cons jq (all_cons YKw all_nil)) (all_cons pP all_nil))).1
def Sw:CC 44 Yp XK:=HJ _ Xp.2 (KV all_nil (all_cons Yjh (all_cons P9.1 all_nil)) (all_cons P9.2 all_nil))
def Yjd:CC 157 YAk Yu4:=HJ _ Ta.2 (KV all_nil (all_cons Yjh (all_cons Tt (all_cons Sw.1 all_nil))) (all_cons Sw.2 all_nil))
def Yuh:zCC 83 RN:=I0 _ ZS.2 (DP all_nil all_nil)
def pO:CC 43 r8 sX:=HJ _ Xj.2 (KV (all_cons Yuh all_nil) (all_cons pP (all_cons P9.1 all_nil)) (all_cons P9.2 all_nil))
def YLb:CC 132 iO1 xO1:=HJ _ Xq.2 (DP all_nil (all_cons Tt all_nil))
def YLa:CC 133 iO2 xO2:=HJ _ Xo.2 (DP all_nil (all_cons Tt all_nil))
structure LvC (n:Nat):Prop where
 ex:CC 88 (lv n 0).1 (lv n 0).2
 te:CC 129 (lv n 1).1 (lv n 1).2
 ch:CC 130 (lv n 2).1 (lv n 2).2
 fa:CC 131 (lv n 3).1 (lv n 3).2
 op:CC 158 (lv n 4).1 (lv n 4).2
def cY(h:LvC n):TblOK Tryz.prog GG (TP (lv n)):=
 KV all_nil (all_cons pP (all_cons Tt (all_cons Yjh (all_cons Tu.1 (all_cons ox.1 (all_cons Yjd.1 (all_cons Sw.1 (all_cons YLb.1 (all_cons YLa.1 (all_cons h.ex.1 (all_cons h.te.1 (all_cons h.ch.1 (all_cons h.fa.1 (all_cons h.op.1 all_nil))))))))))))))
  (all_cons Tu.2 (all_cons ox.2 (all_cons Yjd.2 (all_cons Sw.2 (all_cons YLb.2 (all_cons YLa.2 (all_cons h.ex.2 (all_cons h.te.2 (all_cons h.ch.2 (all_cons h.fa.2 (all_cons h.op.2 all_nil)))))))))))
theorem fy:∀n,LvC n
 |0=>by
  have no:∀{f:Nat}{h:List (List Nat)}{F:PF}{il:List Nat}(j:Nat),IY Tryz.prog il f h=s_ F->CC f (lv 0 j).1 (lv 0 j).2:=λj E=>
   ⟨⟨(Rb (G:=GG) (T:=tb [] []) (DP all_nil all_nil) rfl E 0).1,λ_ _ _ _ _ _ _ _ h=>by cases h⟩,⟨(YH (G:=GG) (T:=tb [] []) (DP all_nil all_nil) rfl E 0).1,λ_ _ _ _ _ _ _ _ _ h=>by cases h⟩⟩
  exact⟨no 0 UB.2,no 1 Uy.2,no 2 UC.2,no 3 Uz.2,no 4 UA.2⟩
 |n+1=>by
  have E:=cY (fy n);exact⟨HJ _ UB.2 E,HJ _ Uy.2 E,HJ _ UC.2 E,HJ _ Uz.2 E,HJ _ UA.2 E⟩
def iEx:SI:=(lv 4010 0).1
def yZ:SX:=(lv 4010 0).2
def YLc:CC 88 iEx yZ:=(fy 4010).ex
def g_ex(E:EE st k en c l)(hl:DR l<=400):Mth True iEx yZ IZ [Y k 0] st k en (DR l):=(YHm 4010).ex st k en c l E zaa
def gC(x:Gx):List D:=(gD x).cells
def D7:Gx->List Gx
 |.num _ _ _ _ _=>[]
 |.att _=>[]
 |.bin _ x y=>[x,y]
 |.ite x y z w=>[x,y,z,w]
def bl{y:Gx}(h:y∈D7 x):y.sz<x.sz:=by
 cases x<;>simp[D7]at h
 .rcases h with rfl|rfl<;>simp[Gx.sz]<;>omega
 .rcases h with rfl|rfl|rfl|rfl<;>simp[Gx.sz]<;>omega
def Ygt{y:Gx}(E:x.ok)(h:y∈D7 x):y.ok:=by
 cases x<;>simp[D7]at h
 .rcases h with rfl|rfl
  .exact E.2.1
  .exact E.2.2
 .rcases h with rfl|rfl|rfl|rfl
  .exact E.1
  .exact E.2.1
  .exact E.2.2.1
  .exact E.2.2.2
def PD(x:Gx):(gC x).length=7:=by cases x<;>rfl
def VF(x:Gx):(gC x).all yaa=t_:=by cases x<;>rfl
def Mh(x:Gx):gD x=U (gC x):=by cases x<;>rfl
section
variable(x:Gx) (st:St) (b:Bool) (z:Nat)
def Vd:DV (s_ (zzB Gl)) 7 0 (gD x)=s_ (zzB (gC x)):=by rw[Mh];exact Hs 1 _ _ 7 rfl (PD x) (VF x)
def RU:DB (s_ ⟨f_,z,gC x,b⟩) 7 t_ 0=s_ (gD x):=by rw[Mh];exact Is _ _ _ _ (PD x)
def jR:DB (s_ ⟨f_,z,gC x,b⟩) 1 f_ 6=s_ (O (nz 7 ((D7 x).map gD)) ((D7 x).map gD) f_):=by cases x<;>rfl
def U4:Fa st 7 t_ (.eptr (gD x) 0)=s_ (gD x):=by rw[Mh];simp[Fa,yaZ,PD,D.mk,AE]
def UH:D2 st (gD x)=s_ (gD x):=by cases x<;>simp[gD,Jy,D2,Ef,DO,nz,ybD]
def YIp:keys (gD x)=[]:=by cases x<;>rfl
def YJq:List.flatMap hk (gC x)=[]:=by cases x<;>rfl
def Ytm(n:Nat)(l:List Nat):List.map (ED n l) (gC x)=gC x:=by cases x<;>rfl
def Qp:DM (gD x)=s_ (gC x):=by rw[Mh];simp[DM,yaZ,VF]
end
attribute [push_cast] YJq Ytm
theorem Nh(a b:Int):DI .add (I J a) (I J b)=s_ (I J (IntKind.i64.wrap (a+b))):=rfl
abbrev Yx(_:List D)(r:D):Prop:=∃i:Int,r=I J i
theorem YEl{pn:zsP}(hT:T.p 89=s_ pn)(hp:∀y∈D7 x,∃i:Int,pn [gD y]=s_ (I J i)):@wW GG T ZX.1.code (Du [gD x]) [] ⟨FP ZX.1.res (Yx [gD x])⟩:=by
 unfold ZX;have hlen:(D7 x).length<=4:=by cases x<;>simp[D7]
 push_cast(disch:=lia)[Qp,jR]
 generalize af:D7 x=ks at hp hlen;refine Gn (λi:Nat×Int=>[(3,I J i.2),(7,O (nz 7 (ks.map gD)) (ks.map gD) f_),(8,I J (ks.length:Int)),(9,I J (i.1:Int))]) (λ_=>[zzB (gC x)]) (λi=>i.1<=ks.length) (λi=>ks.length-i.1) (0,0) (by push_cast<;>rfl) (AS _) ?_;rintro⟨i,m⟩ hi;dsimp only at hi
 by_cases N:i<ks.length
 .have E:(i:Int)<ks.length:=zaa
  have ab:∀st:St,ER st 7 (O (nz 7 (ks.map gD)) (ks.map gD) f_) (I J (i:Int))=s_ (.eptr (gD ks[i]) 0):=λst=>by
   have ac:nz 7 (ks.map gD)=7:=by unfold nz;rw[zaf];cases ks<;>simp at N⊢
   have ad:0<=(i:Int):=zaa
   simp[ER,ac,FA,ad,N]
  obtain⟨v,hv⟩:=hp ks[i] (A6 N)
  push_cast(disch:=lia)[E,ab,U4,JF,Vd,RU,UH,hT,hv,D5]
  refine EV (i+1,max m v) N (by dsimp only;omega) ?_;rfl
 .have E:¬(i:Int)<ks.length:=zaa
  push_cast(disch:=lia)[E,Nh]
  grind
def pn:Nat->zsP
 |0=>λ_=>n_
 |n+1=>Ii (tb [(89,pn n)] []) ZX.1 Yx
theorem Yx5:∀(n:Nat)(x:Gx),x.sz<=n->∃i:Int,pn n [gD x]=s_ (I J i)
 |0,x,h=>by cases x<;>simp[Gx.sz]at h
 |n+1,x,h=>by
  have hk:∀y∈D7 x,y.sz<=n:=λy E=>Cd (AX (bl E) h);obtain⟨_,N,i,rfl⟩:=I2 (T:=tb [(89,pn n)] []) (YEl (pn:=pn n) rfl λy E=>Yx5 n y (hk y E));exact⟨i,N⟩
theorem YBz:∀n,zCC 89 (pn n)
 |0=>λ_ _ _ _ _ h=>by cases h
 |n+1=>I0 _ ZX.2 (DP (all_cons (YBz n) all_nil) all_nil)
def GD(t:Int×Int×Int):List D:=[I J t.1,I J t.2.1,I J t.2.2]
def FN(t:Int×Int×Int):D:=U (GD t)
def kj:VT:=λ_ _ n d _ m=>m<n/\∃t,d=FN t
section
variable(a b c v:Int) (z:Bool)
theorem OH:DM (U [I J 0,I J 0,I J 0])=s_ (GD (0,0,0)):=rfl
theorem Sq:Ec [I J 0,I J 0,I J 0] [(0,1,I J a)]=s_ (GD (a,0,0)):=rfl
theorem Tq:DV (s_ (zzB (GD (0,0,0)))) 3 0 (U (GD (a,b,c)))=s_ (zzB (GD (a,b,c))):=rfl
theorem pD:DV (s_ (zzB (GD (a,b,c)))) 1 1 (I J v)=s_ (zzB (GD (a,v,c))):=rfl
theorem Ytg:DV (s_ (zzB (GD (a,b,c)))) 1 2 (I J v)=s_ (zzB (GD (a,b,v))):=rfl
theorem YH2:DB (s_ ⟨f_,1,GD (a,b,c),z⟩) 1 f_ 1=s_ (I J b):=rfl
theorem Ytw:DB (s_ ⟨f_,1,GD (a,b,c),z⟩) 3 t_ 0=s_ (U (GD (a,b,c))):=rfl
end
abbrev TTs:Tbl:=Kw [] [(45,Yo),(44,Yp),(46,sA),(128,RZ),(42,MY)]
 [(44,XK),(128,RA),(42,MN)]
def YD9(q:Int)(hp:EE st k en c l):@wW GG TTs Xk.1.code (Du [Y k 0,I J q]) st ⟨Eu Xk.1.res (PO True k en l st (kj [Y k 0,I J q] st (DR l)))⟩:=by
 have d8:=(Aa.1 hp.1).1;unfold Xk;have e0:Ev k st (st++[zzB (GD (0,0,0))]):=.app _ _ _;obtain⟨a0,S1,c1,l1,a1,a2,a3,a4⟩:=XN (st:=st++[zzB (GD (0,0,0))]) (k:=k) ⟨Fs hp.1,hp.2⟩;have z1:S1[st.length]?=s_ (zzB (GD (0,0,0))):=a2.at (GA _ _ _) zaa;have e1:=e0.trans a2;have N:([116,121,112,101,32,111,119,110,101,114,32,114,97,105,108,119,97,121,32,115,104,105,112,112,101,114,32,99,108,97,115,115,32,119,101,105,103,104,116,32,107,109,32,109,105,110,117,116,101,115,32,119,111,114,107,105,110,103,32,99,111,100,101,32,119,111,114,116,104,32,99,111,115,116,32,109,111,110,116,104,32,98,101,103,105,110,32,112,97,114,116,115,32,112,97,114,116]:zLB)=wA:=rfl;rcases oz Vz a3 with⟨_,E,c2,l2,b1,b2,b3,b4,b5,i,rfl,_⟩|⟨_,b0,a,e,E,b1,b2,b3⟩
 case inr=>
  push_cast(disch:=first|omega|decide)[OH,a1,N,b0,b1]
  exact⟨trivial,rfl,⟨_,_,rfl,b2⟩,e1.trans b3⟩
 have z2:=b2.at z1 zaa;have d9:=(Aa.1 z2).1;have e2:=e1.trans b2;have ba:Ev k st (E++[zzB (GD (i,0,0))]):=e2.trans (.app _ _ _)
 by_cases h8:q=8
 .push_cast(disch:=first|omega|decide)[OH,a1,N,b1,Sq,Tq,h8]
  exact⟨trivial,rfl,⟨_,_,rfl,zab⟩,ba⟩
 obtain⟨b,S3,c3,l3,d1,d2,d3,d4,d5⟩:=O1 [105,115] (st:=E++[zzB (GD (i,0,0))]) (k:=k) ⟨Fs b3.1,b3.2⟩;have dd:=(Aa.1 b3.1).1;have z3:=d2.at (Fs z2) zaa;have y3:S3[E.length]?=s_ (zzB (GD (i,0,0))):=d2.at (GA _ _ _) zaa;have e3:=ba.trans d2
 have fin:∀{S:St}{c':Nat}{l':List Tk}{t:Int×Int×Int},Ev k st S->S[st.length]?=s_ (zzB (GD (0,0,0)))->EE S k en c' l'->DR l'<DR l->
   (∀o,(S.set st.length o)[st.length]?=s_ o)/\PO True k en l st (kj [Y k 0,I J q] st (DR l)) (.inl (U (GD t),S.set st.length (zzB (GD t)))):=
  λ{S c' l' t}hS hz ab hl=>⟨λo=>Ap (Aa.1 hz).1,c',l',⟨by have:=hS.1;simpa using this,λj hj hk=>by rw[Ac zaa];exact hS.2 j hj hk⟩,⟨by rw[Ac zaa];exact ab.1,ab.2⟩,zaa,hl,t,rfl⟩
 have put:∀{S:St}{c':Nat}{l':List Tk}{t t':Int×Int×Int},Ev k st S->S[st.length]?=s_ (zzB (GD (0,0,0)))->S[E.length]?=s_ (zzB (GD t))->EE S k en c' l'->
   Ev k st (S.set E.length (zzB (GD t')))/\(S.set E.length (zzB (GD t')))[st.length]?=s_ (zzB (GD (0,0,0)))/\(S.set E.length (zzB (GD t')))[E.length]?=s_ (zzB (GD t'))/\EE (S.set E.length (zzB (GD t'))) k en c' l':=
  λ{S c' l' t t'}hS hz hy ab=>⟨⟨by have:=hS.1;simpa using this,λj hj hk=>by rw[Ac zaa];exact hS.2 j hj hk⟩,by rw[Ac zaa];exact hz,Ap (Aa.1 hy).1,⟨by rw[Ac zaa];exact ab.1,ab.2⟩⟩
 cases b with
 |true=>
  rcases r7 d3 with⟨_,S4,c4,l4,f1,f2,f3,f4,f5,n,rfl⟩|⟨_,f0,a,e,S4,f1,f2,f3⟩
  case inr=>
   push_cast(disch:=first|omega|decide)[OH,a1,N,b1,Sq,Tq,h8,d1,f0,f1]
   exact⟨trivial,rfl,⟨_,_,rfl,f2⟩,e3.trans f3⟩
  have y4:=f2.at y3 zaa;obtain⟨p1,p2,p3,p4⟩:=put (t':=(i,n,0)) (e3.trans f2) (f2.at z3 zaa) y4 f3;obtain⟨r1,r2,r3,r4⟩:=put (t':=(i,n,n)) p1 p2 p3 p4;obtain⟨g1,g2⟩:=fin (t:=(i,n,n)) r1 r2 r4 zaa
  push_cast(disch:=first|omega|decide)[OH,a1,N,b1,Sq,Tq,h8,d1,f1,y4,pD,p3,YH2,Ytg,r3,Ytw,r2,g1]
  exact g2
 |false=>
 rcases O2 [105,110] d3 with⟨_,S4,c4,l4,f1,f2,f3,f4,f5⟩|⟨_,f0,a,e,S4,f1,f2,f3⟩
 case inr=>
  push_cast(disch:=first|omega|decide)[OH,a1,N,b1,Sq,Tq,h8,d1,f0,f1]
  exact⟨trivial,rfl,⟨_,_,rfl,f2⟩,e3.trans f3⟩
 have e4:=e3.trans f2;rcases r7 f3 with⟨_,S5,c5,l5,g1,g2,g3,g4,g5,n,rfl⟩|⟨_,g0,a,e,S5,g1,g2,g3⟩
 case inr=>
  push_cast(disch:=first|omega|decide)[OH,a1,N,b1,Sq,Tq,h8,d1,f1,g0,g1]
  exact⟨trivial,rfl,⟨_,_,rfl,g2⟩,e4.trans g3⟩
 have y5:=g2.at (f2.at y3 zaa) zaa;obtain⟨p1,p2,p3,p4⟩:=put (t':=(i,n,0)) (e4.trans g2) (g2.at (f2.at z3 zaa) zaa) y5 g3;rcases O2 [46,46] p4 with⟨_,S6,c6,l6,m1,m2,m3,m4,m5⟩|⟨_,m0,a,e,S6,m1,m2,m3⟩
 case inr=>
  push_cast(disch:=first|omega|decide)[OH,a1,N,b1,Sq,Tq,h8,d1,f1,g1,y5,pD,m0,m1]
  exact⟨trivial,rfl,⟨_,_,rfl,m2⟩,p1.trans m3⟩
 have e6:=p1.trans m2;rcases r7 m3 with⟨_,S7,c7,l7,u1,u2,u3,u4,u5,n',rfl⟩|⟨_,u0,a,e,S7,u1,u2,u3⟩
 case inr=>
  push_cast(disch:=first|omega|decide)[OH,a1,N,b1,Sq,Tq,h8,d1,f1,g1,y5,pD,m1,u0,u1]
  exact⟨trivial,rfl,⟨_,_,rfl,u2⟩,e6.trans u3⟩
 have y7:=u2.at (m2.at p3 zaa) zaa;obtain⟨r1,r2,r3,r4⟩:=put (t':=(i,n,n')) (e6.trans u2) (u2.at (m2.at p2 zaa) zaa) y7 u3;obtain⟨v1,v2⟩:=fin (t:=(i,n,n')) r1 r2 r4 zaa
 push_cast(disch:=first|omega|decide)[OH,a1,N,b1,Sq,Tq,h8,d1,f1,g1,y5,pD,m1,u1,y7,Ytg,r3,Ytw,r2,v1]
 exact v2
abbrev iTs:SI:=GF TTs Xk.1 (QM True kj)
abbrev yY:SX:=KM TTs Xk.1 (QM True kj)
def YJ2(q:Int)(E:EE st k en c l):Mth True iTs yY kj [Y k 0,I J q] st k en (DR l):=KE (.inl rfl) E (YD9 q E)
def YK7:CC 87 iTs yY:=HJ _ Xk.2 (KV all_nil (all_cons pN (all_cons Sw.1 (all_cons Tt (all_cons ox.1 (all_cons Tu.1 all_nil))))) (all_cons Sw.2 (all_cons ox.2 (all_cons Tu.2 all_nil))))
def QG(V:List D->D->Prop)(ds:List D)(st:St)(o:Rs):Prop:=∃d ob,o=.inl (d,st++ob)/\V ds d
theorem UO{F:PF}{V:List D->D->Prop}(h:@wW GG T F.code (Du ds) st ⟨Eu F.res (QG V ds st)⟩):∃d E,GF T F (QG V) ds st=s_ (d,st++E)/\V ds d:=by
 rcases sU h with⟨d,st',N,d',E,e,h2⟩|⟨_,t,d,st',_,d',E,e,_⟩
 .grind
 .cases e
structure Cl where
 name:zLB
 ws:List (Int×Int×Int)
 pay:Gx
def IM(c:Cl):List D:=.str c.name::O (nz 3 (c.ws.map FN)) (c.ws.map FN) f_::gC c.pay
def Ea(c:Cl):D:=U (IM c)
def VB(_:List D)(d:D):Prop:=∃b:Bool,d=V b
def jP(c:Cl):(IM c).length=9:=by simp[IM,PD]
def YKy(c:Cl):(IM c).all yaa=t_:=by simp only[IM,AQ,VF];rfl
section
variable(c:Cl) (s:zLB) (l:List D) (b:Bool) (z:Nat)
def Yuw:DM (Ea c)=s_ (IM c):=by simp[DM,Ea,yaZ,YKy]
theorem XO:DB (s_ ⟨f_,z,IM c,b⟩) 1 f_ 0=s_ (.str c.name):=rfl
theorem YH5(s:zLB)(l:List D):DB (s_ ⟨f_,z,.str s::l,b⟩) 1 f_ 0=s_ (.str s):=rfl
end
variable{s:zLB}{z:Nat}
def cK(c:Cl){l:List D}{x:Bool}(hb:st[b]?=s_ ⟨f_,z,.str s::l,x⟩):@wW GG (tb [] []) ao.1.code (Du [Ea c,Y b 0]) st ⟨Eu ao.1.res (QG VB [Ea c,Y b 0] st)⟩:=by
 have E:∀N,(st++N)[b]?=s_ ⟨f_,z,.str s::l,x⟩:=λN=>Fs hb;unfold ao
 push_cast(disch:=lia)[Yuw,XO,E,YH5]
 exact⟨_,_,rfl,_,rfl⟩
abbrev iC1:SI:=GF (tb [] []) ao.1 (QG VB)
def jx:CI 86 iC1:=(HJ _ ao.2 (DP all_nil all_nil)).1
section
variable{S:St}{kr sz:Nat}{els:List D}
def QO(h:els≠[]->S[kr]?=s_ (FC sz els)):E0 S f_ (D0 kr els)=s_ (I J (els.length:Int)):=by
 cases els with
 |nil=>rfl
 |cons x r=>
  have h:=h zac;simp[D0,E0,Kk,FB,EY,h,FC]
def oq{i:Nat}(h:els≠[]->S[kr]?=s_ (FC sz els))(hz:0<sz)(hi:i<els.length):ER S sz (D0 kr els) (I J (i:Int))=s_ (.rptr kr els.length i 0):=by
 cases els with
 |nil=>cases hi
 |cons x r=>
  have h:=h zac;have E:0<=(i:Int):=zaa
  have N:i<r.length+1:=hi;simp[D0,ER,FA,E,h,FC,N]
def jH{i:Nat}{l:List D}(hi:els[i]?=s_ (U l))(hn:l.length=n):N2 (s_ (FC sz els)) n t_ els.length i 0=s_ (U l):=by subst hn;simp[N2,FC,hi,yaZ,D.mk]
end
abbrev TIx:Tbl:=tb [] [(86,iC1)]
def VIx(_:List D)(d:D):Prop:=∃i:Int,d=I J i
theorem bZ{l:List D}{x:Bool}(cls:List Cl)(hb:st[b]?=s_ ⟨f_,z,.str s::l,x⟩)(hr:cls.map Ea≠[]->st[kr]?=s_ (FC 9 (cls.map Ea)))(hl:cls.length<=4096):
  @wW GG TIx ax.1.code (Du [D0 kr (cls.map Ea),.clo 86 [Y b 0]]) st ⟨Eu ax.1.res (QG VIx [D0 kr (cls.map Ea),.clo 86 [Y b 0]] st)⟩:=by
 unfold ax
 push_cast(disch:=lia)[QO hr,Az]
 refine NP (λi:Nat×St=>[(0,D0 kr (cls.map Ea)),(1,.clo 86 [Y b 0]),(7,I J (cls.length:Int)),(8,I J (i.1:Int))]) (λi=>st++i.2) (λi=>i.1<=cls.length) (λi=>cls.length-i.1) (0,[]) (by push_cast [Ai]<;>rfl) (AS _) ?_;rintro⟨i,E⟩ hi;dsimp only at hi
 by_cases h2:i<cls.length
 .have N:(i:Int)<cls.length:=zaa
  have ah:cls.map Ea≠[]:=by cases cls<;>simp at h2⊢
  have aa:(st++E)[kr]?=s_ (FC 9 (cls.map Ea)):=Fs (hr ah);have h3:i<(cls.map Ea).length:=by simpa using h2
  have ab:=oq (λ_=>aa) zab h3;have ac:=jH (sz:=9) (els:=cls.map Ea) (i:=i) (l:=IM cls[i]) (by simp[Ea,h2]) (jP _);rw[Az]at ab ac;obtain⟨_,ad,g1,v,rfl⟩:=UO (cK cls[i] (st:=st++E) (b:=b) (Fs hb));have g1:iC1 [U (IM cls[i]),Y b 0] (st++E)=s_ (V v,st++E++ad):=g1
  cases v with
  |true=>
   push_cast(disch:=lia)[N,ab,aa,ac,g1]
   exact⟨_,E++ad,by rw[Al],_,rfl⟩
  |false=>
   push_cast(disch:=lia)[N,ab,aa,ac,g1,D5]
   refine EV (i+1,E++ad) h2 (by dsimp only;omega) ?_;grind
 .have N:¬(i:Int)<cls.length:=zaa
  push_cast(disch:=lia)[N]
  exact⟨_,E,rfl,_,rfl⟩
abbrev iIx:SI:=GF TIx ax.1 (QG VIx)
abbrev TCo:Tbl:=tb [] [(127,iIx)]
abbrev rR:SI:=GF TCo uH.1 (QG VB)
theorem iE{l:List D}{x:Bool}(cls:List Cl)(hb:st[b]?=s_ ⟨f_,z,.str s::l,x⟩)(N:cls.map Ea≠[]->st[kr]?=s_ (FC 9 (cls.map Ea)))(hl:cls.length<=4096):
  ∃v E,rR [D0 kr (cls.map Ea),.clo 86 [Y b 0]] st=s_ (V v,st++E):=by
 have:∃d E,rR [D0 kr (cls.map Ea),.clo 86 [Y b 0]] st=s_ (d,st++E)/\VB [D0 kr (cls.map Ea),.clo 86 [Y b 0]] d:=by
  refine UO ?_;obtain⟨_,E,g1,i,rfl⟩:=UO (bZ cls hb N hl);unfold uH
  push_cast(disch:=lia)[g1]
  exact⟨_,E,rfl,_,rfl⟩
 obtain⟨_,E,h1,v,rfl⟩:=this;simp_all
def YLd:CI 85 rR:=
 (HJ (T:=TCo) _ uH.2 (DP all_nil (all_cons (HJ (T:=TIx) _ ax.2 (DP all_nil (all_cons jx all_nil))).1 all_nil))).1
def bC(nm:zLB)(W:D)(P:List D):List D:=.str nm::W::P
def th:VT:=λ_ st n d st' m=>∃c:Cl,c.pay.ok/\D2 st' d=s_ (Ea c)/\TD d st.length st'.length/\c.ws.length+c.pay.sz+m+5<=n
section
variable(nm:zLB) (W:D) (P:List D) (kr:Nat) (els:List D) (b:Bool)
theorem PN:DM (U [.str [],O 0 [] t_,I J 0,I J 0,I J 0,I J 0,I J 0,I J 0,O 0 [] t_])=s_ (bC [] (D0 0 []) Gl):=rfl
theorem Yh9:Ec [.str [],O 0 [] t_,I J 0,I J 0,I J 0,I J 0,I J 0,I J 0,O 0 [] t_] [(0,1,.str nm)]=s_ (bC nm (D0 0 []) Gl):=rfl
theorem YFu:DV (s_ (zzB (bC [] (D0 0 []) Gl))) 9 0 (U (bC nm (D0 0 []) Gl))=s_ (zzB (bC nm (D0 0 []) Gl)):=rfl
def dM(h:P.length=7)(hc:P.all yaa=t_):DV (s_ (zzB (bC [] (D0 0 []) Gl))) 9 0 (U (bC nm (D0 kr els) P))=s_ (zzB (bC nm (D0 kr els) P)):=
 Hs 1 _ _ 9 rfl (by simp[bC,h]) (by simp only[bC,AQ,hc,R7];rfl)
def fW(h:P.length=7):DB (s_ ⟨f_,1,bC nm W P,b⟩) 9 t_ 0=s_ (U (bC nm W P)):=Is _ _ _ _ (by simp[bC,h])
def Yzj:DB (s_ ⟨f_,1,bC nm (D0 kr els) P,b⟩) 1 f_ 1=s_ (D0 kr els):=by simp[DB,bC,D.mk]
def dN:DV (s_ (zzB (bC nm W P))) 1 1 (D0 kr els)=s_ (zzB (bC nm (D0 kr els) P)):=by
 have:(D0 kr els).cells=[D0 kr els]:=by unfold D0;split<;>rfl
 simp[DV,bC,this,R7,FZ]
def Ywx(h:P.length=7)(hc:P.all yaa=t_):DV (s_ (zzB (bC nm W Gl))) 7 2 (U P)=s_ (zzB (bC nm W P)):=by have E:=hc;simp only[Ad]at E;simp[DV,bC,yaZ,h,FZ,Gl];exact E
def Yzk(h:P.length=7):DB (s_ ⟨f_,1,bC nm W P,b⟩) 7 t_ 2=s_ (U P):=by simp[DB,bC,D.mk,h,AE]
theorem YHq(t:Int×Int×Int):EZ 3 [FN t]=s_ (O 3 [FN t] t_):=rfl
def YI5(st:St)(t:Int×Int×Int):D2 st (FN t)=s_ (FN t):=by simp[FN,GD,D2,Ef,DO,ybD]
theorem Yzr(t:Int×Int×Int):keys (FN t)=[]:=rfl
end
abbrev tj:Tbl:=Kw [(89,pn 400)] [(45,Yo),(43,r8),(85,rR),(46,sA),(87,iTs),(42,MY),(88,iEx)]
 [(43,sX),(87,yY),(42,MN),(88,yZ)]
variable{cls:List Cl}{kr0:Nat}
theorem Ylr(hp:EE st k en c l)(hw:DR l<=400)(hr:cls.map Ea≠[]->kr0≠k/\st[kr0]?=s_ (FC 9 (cls.map Ea)))(dg:cls.length<=4096):
  @wW GG tj Xm.1.code (Du [Y k 0,D0 kr0 (cls.map Ea)]) st ⟨Eu Xm.1.res (PO True k en l st (th [Y k 0,D0 kr0 (cls.map Ea)] st (DR l)))⟩:=by
 have m9:=(Aa.1 hp.1).1;unfold Xm;have e0:Ev k st (st++[zzB (bC [] (D0 0 []) Gl)]):=.app _ _ _;obtain⟨a0,S1,c1,l1,a1,a2,a3,a4⟩:=XN (st:=st++[zzB (bC [] (D0 0 []) Gl)]) (k:=k) ⟨Fs hp.1,hp.2⟩;have z1:S1[st.length]?=s_ (zzB (bC [] (D0 0 []) Gl)):=a2.at (GA _ _ _) zaa;have e1:=e0.trans a2;rcases Yud a3 with⟨_,E,c2,l2,b1,b2,b3,b4,b5,nm,rfl⟩|⟨_,b0,a,e,E,b1,b2,b3⟩
 case inr=>
  push_cast(disch:=first|omega|decide)[PN,a1,b0,b1]
  exact⟨trivial,rfl,⟨_,_,rfl,b2⟩,e1.trans b3⟩
 have z2:=b2.at z1 zaa;have na:=(Aa.1 z2).1;have k3:=(Aa.1 b3.1).1;have e2:Ev k st (E++[zzB (bC nm (D0 0 []) Gl)]):=(e1.trans b2).trans (.app _ _ _);obtain⟨v,ob,d1⟩:=iE (st:=E++[zzB (bC nm (D0 0 []) Gl)]) (b:=E.length) (kr:=kr0) cls (GA _ _ _) (λh=>e2.at (hr h).2 (hr h).1) dg
 cases v with
 |true=>
  push_cast(disch:=first|omega|decide)[PN,a1,b1,Yh9,YFu,d1]
  exact⟨trivial,rfl,⟨_,_,rfl,zab⟩,e2.trans (.app _ _ _)⟩
 |false=>
 have e3:=e2.trans (.app k _ ob);obtain⟨v,S3,c3,l3,d2,d3,d4,d5,_⟩:=O1 [119,104,101,110] (st:=E++[zzB (bC nm (D0 0 []) Gl)]++ob) (k:=k) ⟨Fs (Fs b3.1),b3.2⟩
 push_cast(disch:=first|omega|decide)[PN,a1,b1,Yh9,YFu,d1,d2]
 refine NP (λi:Bool×St×Nat=>[(0,Y k 0),(4,Y st.length 0),(6,Y E.length 0),(7,V i.1)]) (λi=>i.2.1)
  (λi=>∃kr ws c l',(Ev k st i.2.1/\i.2.1[st.length]?=s_ (zzB (bC [] (D0 0 []) Gl))/\i.2.1[E.length]?=s_ (zzB (bC nm (D0 kr (ws.map FN)) Gl)))/\(EE i.2.1 k en c l'/\DR l'=i.2.2)/\(ws.map FN≠[]->E.length<kr/\i.2.1[kr]?=s_ (FC 3 (ws.map FN)))/\ws.length+i.2.2<DR l)
  (λi=>i.2.2) (v,S3,DR l3) (by push_cast<;>rfl) ⟨0,[],c3,l3,⟨e3.trans d3,d3.at (Fs (Fs z2)) zaa,d3.at (Fs (GA _ _ _)) zaa⟩,⟨d4,rfl⟩,λh=>absurd rfl h,by simp;omega⟩ ?_
 rintro⟨v,S,w⟩ ⟨kr,ws,c,l',⟨q1,q2,q3⟩,⟨q4,rfl⟩,q5,q6⟩;dsimp only at q1 q2 q3 q4 q5 q6;have nb:=(Aa.1 q3).1;have nc:=q1.1
 cases v with
 |true=>
  rcases YJ2 (ws.length:Int) q4 with⟨_,S4,c4,l4,f1,f2,f3,f4,f5,t,rfl⟩|⟨_,f0,a,e,S4,f1,f2,f3⟩
  case inr=>
   push_cast(disch:=first|omega|decide)
   refine pI (by push_cast(disch:=first|omega|decide)[q3,Yzj,QO λh=>(q5 h).2,Az,f0,zak]) ?_
   push_cast(disch:=first|omega|decide)[↓Fc,q3,Yzj,QO λh=>(q5 h).2,Az,f0,f1]
   exact⟨trivial,rfl,⟨_,_,rfl,f2⟩,q1.trans f3⟩
  have y4:=f2.at q3 zaa
  have ha:Tl [E.length] S S4:=λq hq=>by
   simp_all
  obtain⟨af,L,m1,N,m3,m4,m5,m6⟩:=XL (S:=S4) (kr:=kr) (els:=ws.map FN) (by':=24) (FN t) (zab:0<3/\24<=4096) (λh=>f2.at (q5 h).2 (by have:=(q5 h).1;omega)) (by simp;omega);have ah:∀j,j<S4.length->j<=E.length->L[j]?=S4[j]?:=λj hj nd=>m4 j hj λh=>by have:=(q5 h).1;omega
  have he:=(Aa.1 y4).1;have yL:=(ah _ he (Au _)).trans y4;have hg:=(Aa.1 yL).1
  have hh:E.length<af:=by
   by_cases h:ws.map FN=[]
   .simp_all
   .simp_all
  have e4:=q1.trans f2;have c9:=(Aa.1 f3.1).1;have e5:Ev k st (L.set E.length (zzB (bC nm (D0 af (ws.map FN++[FN t])) Gl))):=⟨by have:=e4.1;simp;omega,λj hj hk=>by rw[Ac zaa,ah j (by have:=e4.1;omega) zaa];exact e4.2 j hj hk⟩;obtain⟨v,S5,c5,l5,g1,g2,g3,g4,_⟩:=O1 [97,110,100] (st:=L.set E.length (zzB (bC nm (D0 af (ws.map FN++[FN t])) Gl))) (k:=k) ⟨by rw[Ac zaa,ah k c9 zaa];exact f3.1,f3.2⟩
  push_cast(disch:=first|omega|decide)
  refine oj (om ?_)
  push_cast(disch:=first|omega|decide)[q3,Yzj,QO λh=>(q5 h).2,Az,f1,zap ha,YI5,YHq,Yzr,m1,yL,dN,g1]
  refine EV (v,S5,DR l5) ⟨af,ws++[t],c5,l5,⟨e5.trans g2,g2.at (by rw[Ac zaa,ah _ zaa zaa];exact f2.at q2 zaa) zaa,g2.at (by rw[A1];exact Ap hg) zaa⟩,⟨g3,rfl⟩,λ_=>⟨hh,g2.at (by rw[Ac zaa,A1];exact N) zaa⟩,by simp;omega⟩ (by dsimp only;omega) ?_;rfl
 |false=>
 rcases O2 [112,97,121] q4 with⟨_,S4,c4,l4,f1,f2,f3,f4,s,hs,f5⟩|⟨_,f0,a,e,S4,f1,f2,f3⟩
 case inr=>
  push_cast(disch:=first|omega|decide)[f0,f1]
  exact⟨trivial,rfl,⟨_,_,rfl,f2⟩,q1.trans f3⟩
 cases hs;have f5:DR l4+3<=DR l':=f5;obtain⟨a5,S5,c5,l5,g1,g2,g3,g4⟩:=XN f3;have e5:=(q1.trans f2).trans g2;rcases g_ex g3 zaa with⟨d,S6,c6,l6,h1,h2,h3,h4,x,x1,x2,x3,x4⟩|⟨_,h0,a,e,S6,h1,h2,h3⟩
 case inr=>
  push_cast(disch:=first|omega|decide)[f1,g1,h0,h1]
  exact⟨trivial,rfl,⟨_,_,rfl,h2⟩,e5.trans h3⟩
 obtain⟨dl,rfl,ne,nf⟩:=UX x2;have b6:∀{j:Nat}{o:PI.Obj},S[j]?=s_ o->j≠k->S6[j]?=s_ o:=λh hj=>h2.at (g2.at (f2.at h hj) hj) hj;have y6:=b6 q3 zaa;have ka:=(Aa.1 y6).1;have ng:=(Aa.1 h3.1).1;have nh:S.length<=S5.length:=AT f2.1 g2.1;obtain⟨i,hi⟩:=Yx5 400 x zaa;have b7:D2 (S6.set E.length (zzB (bC nm (D0 kr (ws.map FN)) dl))) (U dl)=s_ (gD x):=SE x2 x3 (Ev.set E.length _ _) zaa;have ab:Option.map D.agg (Ef (S6.set E.length (zzB (bC nm (D0 kr (ws.map FN)) dl))) dl)=s_ (gD x):=by rw[<-Wn];exact b7
 have a6:∀o,(S6.set E.length o)[E.length]?=s_ o:=λo=>Ap ka;have e6:Ev k st (S6.set E.length (zzB (bC nm (D0 kr (ws.map FN)) dl))):=⟨by have:=(e5.trans h2).1;simpa using this,λj hj hk=>by rw[Ac zaa];exact(e5.trans h2).2 j hj hk⟩
 by_cases b8:24<i
 .push_cast(disch:=first|omega|decide)[f1,g1,h1,y6,Ywx,a6,Yzk,ab,hi,b8]
  exact⟨trivial,rfl,⟨_,_,rfl,zab⟩,e6⟩
 have L4:(S6.set E.length (zzB (bC nm (D0 kr (ws.map FN)) dl)))[st.length]?=s_ (zzB (bC [] (D0 0 []) Gl)):=by rw[Ac zaa];exact b6 q2 zaa
 have Lk:EE (S6.set E.length (zzB (bC nm (D0 kr (ws.map FN)) dl))) k en c6 l6:=⟨by rw[Ac zaa];exact h3.1,h3.2⟩
 have Lr:ws.map FN≠[]->E.length<kr/\kr<S5.length/\(S6.set E.length (zzB (bC nm (D0 kr (ws.map FN)) dl)))[kr]?=s_ (FC 3 (ws.map FN)):=λh=>by
  have h5:=q5 h;have:=(Aa.1 h5.2).1;exact⟨h5.1,zaa,by rw[Ac zaa];exact b6 h5.2 zaa⟩
 have Ll:S6.length=(S6.set E.length (zzB (bC nm (D0 kr (ws.map FN)) dl))).length:=zac
 rcases O2 [59] Lk with⟨_,S7,c7,l7,m1,N,m3,m4,s,hs,m5⟩|⟨_,m0,a,e,S7,m1,N,m3⟩
 case inr=>
  push_cast(disch:=first|omega|decide)[f1,g1,h1,y6,Ywx,a6,Yzk,ab,hi,b8,m0,m1]
  exact⟨trivial,rfl,⟨_,_,rfl,N⟩,e6.trans m3⟩
 cases hs;have m5:DR l7+1<=DR l6:=m5;have z7:=N.at L4 zaa;have y7:=N.at (a6 _) zaa;have ke:=(Aa.1 z7).1;have kf:∀o,(S7.set st.length o)[st.length]?=s_ o:=λo=>Ap ke
 push_cast(disch:=first|omega|decide)[f1,g1,h1,y6,Ywx,a6,Yzk,ab,hi,b8,m1,y7,fW,z7,dM,kf]
 have e7:=e6.trans N;have b9:TD (U dl) S5.length (S6.set E.length (zzB (bC nm (D0 kr (ws.map FN)) dl))).length:=λq hq=>by have:=x3 q hq;simp;omega
 refine⟨c7,l7,⟨by have:=e7.1;simpa using this,λj hj hk=>by rw[Ac zaa];exact e7.2 j hj hk⟩,⟨by rw[Ac zaa];exact m3.1,m3.2⟩,zaa,⟨nm,ws,x⟩,x1,?_,?_,by dsimp only;omega⟩
 .have i7:D2 (S7.set st.length (zzB (bC nm (D0 kr (ws.map FN)) dl))) (U dl)=s_ (gD x):=SE (SE b7 b9 N zaa) (a:=S5.length) (λq hq=>by have:=b9 q hq;have:=N.1;omega) (Ev.set st.length _ _) zaa;rw[Wn,Mh]at i7;simp only[A8,D.agg.injEq]at i7;obtain⟨q,i7,rfl⟩:=i7
  have iw:=V4 (S:=S7.set st.length (zzB (bC nm (D0 kr (ws.map FN)) dl))) (kr:=kr) (els:=ws.map FN) (sz:=3) λh=>by
   have:=Lr h;rw[Ac zaa];exact N.at this.2.2 zaa
  rw[Wn]
  show Option.map D.agg (Ef _ (.str nm::D0 kr (ws.map FN)::dl))=_
  rw[kM,kM,iw,i7];rfl
 .intro q hq;have kh:q∈DT (D0 kr (ws.map FN))\/q∈hk (U dl):=by simpa[bC,hk,DT,Gk]using hq
  rcases kh with h|h
  .obtain⟨h',rfl⟩:=YL9 h;have a1:=Lr h';have a2:=N.1;have a3:=h2.1;simp only[BE]at a2⊢;omega
  .have a1:=b9 q h;have a2:=N.1;have a3:=e5.1;simp only[BE]at a1 a2⊢;omega
abbrev iCl:SI:=GF tj Xm.1 (QM True th)
abbrev za:SX:=KM tj Xm.1 (QM True th)
def YLf:CC 47 iCl za:=HJ (T:=tj) _ Xm.2 (KV (all_cons (YBz 400) all_nil) (all_cons pN (all_cons pO.1 (all_cons YLd (all_cons Tt (all_cons YK7.1 (all_cons Tu.1 (all_cons YLc.1 all_nil))))))) (all_cons pO.2 (all_cons YK7.2 (all_cons Tu.2 (all_cons YLc.2 all_nil)))))
def g_cl(E:EE st k en c l)(hw:DR l<=400)(hr:cls.map Ea≠[]->kr0≠k/\st[kr0]?=s_ (FC 9 (cls.map Ea)))(N:cls.length<=4096):
  Mth True iCl za th [Y k 0,D0 kr0 (cls.map Ea)] st k en (DR l):=KE (.inl rfl) E (Ylr E hw hr N)
def K3(lo hi a:Int):Bool:=decide (lo<=a)&&decide (a<=hi)
def Yy(P:Int->Bool)(ds:List D)(r:D):Prop:=∀a,ds=[I .u8 a]->r=V (P a)
theorem PL(b:UInt8):DK b=I .u8 (b.toNat:Int):=rfl
def bY(a:Int):@wW GG (tb [] []) ZJ.1.code (Du [I .u8 a]) [] ⟨FP ZJ.1.res (Yy (K3 97 122) [I .u8 a])⟩:=by
 unfold ZJ
 by_cases h:97<=a
 .push_cast(disch:=lia)[h]
  intro b e;simp at e;subst e;simp[K3,h]
 .push_cast(disch:=lia)[h]
  intro b e;simp at e;subst e;simp[K3,h]
def cI(a:Int):@wW GG (tb [] []) ZC.1.code (Du [I .u8 a]) [] ⟨FP ZC.1.res (Yy (K3 48 57) [I .u8 a])⟩:=by
 unfold ZC
 by_cases h:48<=a
 .push_cast(disch:=lia)[h]
  intro b e;simp at e;subst e;simp[K3,h]
 .push_cast(disch:=lia)[h]
  intro b e;simp at e;subst e;simp[K3,h]
abbrev RO:zsP:=Ii (tb [] []) ZJ.1 (Yy (K3 97 122))
abbrev NY:zsP:=Ii (tb [] []) ZC.1 (Yy (K3 48 57))
def YJ3(a:Int):RO [I .u8 a]=s_ (V (K3 97 122 a)):=by obtain⟨r,h,e⟩:=I2 (bY a);rw[<-e a rfl];exact h
def YA8(a:Int):NY [I .u8 a]=s_ (V (K3 48 57 a)):=by obtain⟨r,h,e⟩:=I2 (cI a);rw[<-e a rfl];exact h
abbrev TT1:Tbl:=tb [(119,RO),(122,NY)] []
def Yk(a:Int):Bool:=K3 97 122 a||K3 48 57 a
def bN(a:Int):@wW GG TT1 ZP.1.code (Du [I .u8 a]) [] ⟨FP ZP.1.res (Yy Yk [I .u8 a])⟩:=by have N:=YJ3 a;have h2:=YA8 a;have E:Yk a=(K3 97 122 a||K3 48 57 a):=rfl;unfold ZP;generalize K3 97 122 a=x at N E;generalize K3 48 57 a=y at h2 E;cases x<;>push_cast(disch:=lia)[N,h2]<;>(intro b e;simp at e;subst e;simp[E])
abbrev RM:zsP:=Ii TT1 ZP.1 (Yy Yk)
def ir(a:Int):RM [I .u8 a]=s_ (V (Yk a)):=by obtain⟨r,h,e⟩:=I2 (bN a);rw[<-e a rfl];exact h
def Pf(f:Nat):Int->Bool:=if f=121 then Yk else K3 48 57
abbrev TSp:Tbl:=tb [] [(121,HW RM),(122,HW NY)]
def QSp(ds:List D)(r:D):Prop:=∀s f,ds=[.str s,.clo f []]->∃n:Nat,r=I J (n:Int)/\n<=s.length/\(∀b l,s=b::l->Pf f (b.toNat:Int)=t_->0<n)
def YEh(s:zLB)(f:Nat)(hf:f=121\/f=122)(hs:s.length<=4096):@wW GG TSp Zx.1.code (Du [.str s,.clo f []]) [] ⟨FP Zx.1.res (QSp [.str s,.clo f []])⟩:=by
 have hc:∃sp,J3 TSp (.clo f [])=s_ (sp,[],[])/\∀a,sp [I .u8 a] []=s_ (V (Pf f a),[]):=by
  rcases hf with rfl|rfl
  .exact⟨HW RM,rfl,λa=>by simp[HW,Ey,D2,DO,ybD,ir,Pf,keys,Fw,lend]⟩
  .exact⟨HW NY,rfl,λa=>by simp[HW,Ey,D2,DO,ybD,YA8,Pf,keys,Fw,lend]⟩
 obtain⟨sp,hc,N⟩:=hc;unfold Zx
 push_cast(disch:=lia)
 refine Gn (λi:Nat=>[(0,.str s),(1,.clo f []),(7,I J (s.length:Int)),(8,I J (i:Int))]) (λ_=>[]) (λi=>i<=s.length) (λi=>s.length-i) 0 (by push_cast [↓C5]<;>rfl) (AS _) ?_;intro i hi
 by_cases h2:i<s.length
 .have E:(i:Int)<s.length:=zaa
  have hv:=N ((s.getD i d_).toNat:Int)
  cases hb:Pf f ((s.getD i d_).toNat:Int)with
  |true=>
   rw[hb]at hv
   push_cast(disch:=lia)[E,NJ,AH,PL,hc,hv,D5]
   refine EV (i+1) h2 zaa ?_;rfl
  |false=>
   rw[hb]at hv
   push_cast(disch:=lia)[E,NJ,AH,PL,hc,hv]
   intro s' f' e;simp only[Ab,D.str.injEq,D.clo.injEq,zag]at e;obtain⟨rfl,rfl⟩:=e;refine⟨i,rfl,hi,λb l e h=>?_⟩
   cases i with
   |zero=>subst e;simp[h]at hb
   |succ n=>omega
 .have E:¬(i:Int)<s.length:=zaa
  push_cast(disch:=lia)[E]
  intro s' f' e;simp only[Ab,D.str.injEq,zag]at e;obtain⟨rfl,_⟩:=e;exact⟨s.length,rfl,Au _,λb l e _=>by rw[e];simp⟩
abbrev Yyh:zsP:=Ii TSp Zx.1 QSp
def Yuc(s:zLB)(f:Nat)(E:f=121\/f=122)(N:s.length<=4096):∃n:Nat,Yyh [.str s,.clo f []]=s_ (I J (n:Int))/\n<=s.length/\(∀b l,s=b::l->Pf f (b.toNat:Int)=t_->0<n):=by obtain⟨r,h1,h2⟩:=I2 (YEh s f E N);obtain⟨n,rfl,h3⟩:=h2 s f rfl;exact⟨n,h1,h3⟩
def QNu(_:List D)(r:D):Prop:=∃n e:Int,r=.tup [I J n,I J e]
theorem yVc(a b:Int):DI .mul (I J a) (I J b)=s_ (I J (IntKind.i64.wrap (a*b))):=rfl
theorem yM7(a b:Int):DI .sub (I .u8 a) (I .u8 b)=s_ (I .u8 (IntKind.u8.wrap (a-b))):=rfl
theorem Ye8(st:St)(a:Int):Gm st (.int J) (I .u8 a)=s_ (I J (IntKind.i64.wrap a)):=rfl
def bX(s:zLB)(hs:s.length<=4096):@wW GG (tb [] []) ZK.1.code (Du [.str s]) [] ⟨FP ZK.1.res (QNu [.str s])⟩:=by
 unfold ZK
 by_cases hx:1<s.length/\((s.getD 0 d_).toNat:Int)=48
 .obtain⟨h1,h0⟩:=hx;have E:(1:Int)<s.length:=zaa
  push_cast(disch:=lia)[E,NJ,Int.toNat_zero,PL,h0]
  exact⟨_,_,rfl⟩
 rcases(zaa:(1<s.length/\¬((s.getD 0 d_).toNat:Int)=48)\/¬1<s.length)with⟨h1,h0⟩|h1
 case' inl=>
  have E:(1:Int)<s.length:=zaa
  push_cast(disch:=lia)[E,NJ,Int.toNat_zero,PL,h0]
 case' inr=>
  have E:¬(1:Int)<s.length:=zaa
  push_cast(disch:=lia)[E]
 all_goals
  refine Gn (λi:Nat×Int=>[(0,.str s),(4,I J i.2),(15,I J (s.length:Int)),(16,I J (i.1:Int))]) (λ_=>[]) (λi=>i.1<=s.length) (λi=>s.length-i.1) (0,0) (by push_cast<;>rfl) (AS _) ?_;rintro⟨i,n⟩ hi;dsimp only at hi
  by_cases h2:i<s.length
  .have N:(i:Int)<s.length:=zaa
   have hw:=Ni (n:=(i:Int)+1) zaa zaa;obtain⟨m,hm⟩:∃m,m=IntKind.i64.wrap (IntKind.i64.wrap (10*n)+IntKind.i64.wrap (IntKind.u8.wrap (((s.getD i d_).toNat:Int)-48))):=⟨_,rfl⟩
   by_cases h3:1099511627776<m
   .push_cast(disch:=lia)[N,NJ,AH,PL,yVc,yM7,Ye8,Nh,<-hm,h3]
    exact⟨_,_,rfl⟩
   .push_cast(disch:=lia)[N,NJ,AH,PL,yVc,yM7,Ye8,Nh,<-hm,h3,hw]
    refine EV (i+1,m) h2 (by dsimp only;omega) ?_;rfl
  .have N:¬(i:Int)<s.length:=zaa
   push_cast(disch:=lia)[N]
   exact⟨_,_,rfl⟩
abbrev Vl:zsP:=Ii (tb [] []) ZK.1 QNu
theorem iy(s:zLB)(E:s.length<=4096):∃n e:Int,Vl [.str s]=s_ (.tup [I J n,I J e]):=by obtain⟨_,h,n,e,rfl⟩:=I2 (bX s E);grind
def kD(ds:List D)(r:D):Prop:=∀s t,ds=[.str s,.str t]->∃b:Bool,r=V b/\(b=t_->t.length<=s.length)
theorem cz(s t:zLB):@wW GG (tb [] []) ar.1.code (Du [.str s,.str t]) [] ⟨FP ar.1.res (kD [.str s,.str t])⟩:=by
 have fin:∀b:Bool,(b=t_->t.length<=s.length)->kD [.str s,.str t] (V b):=λb h s' t' e=>by
  grind
 unfold ar
 by_cases h:t.length<=s.length
 .have E:(t.length:Int)<=s.length:=zaa
  push_cast(disch:=lia)[E,W7]
  grind
 .have E:¬(t.length:Int)<=s.length:=zaa
  push_cast(disch:=lia)[E]
  grind
abbrev zH:zsP:=Ii (tb [] []) ar.1 kD
abbrev THp:Tbl:=tb [(154,zH)] []
abbrev rO:zsP:=Ii THp uE.1 kD
theorem g_hp(s t:zLB):∃b:Bool,rO [.str s,.str t]=s_ (V b)/\(b=t_->t.length<=s.length):=by
 obtain⟨r,N,E⟩:=I2 (cz s t);obtain⟨b,rfl,h3⟩:=E s t rfl
 have:∃r,rO [.str s,.str t]=s_ r/\kD [.str s,.str t] r:=by
  refine I2 ?_;unfold uE
  push_cast(disch:=lia)[N]
  exact E
 obtain⟨r,h4,h5⟩:=this;obtain⟨b,rfl,h6⟩:=h5 s t rfl;simp_all
def Vy(s:zLB)(c:Int):Int:=match(C9 (Dk s.toArray).size).find? λi=>(Dk s.toArray)[i]! == c.toNat.toUInt8 with
 |some i=>i
 |none=>-1
def Yz5(s:zLB)(c:Int):-1<=Vy s c/\Vy s c<s.length:=by
 unfold Vy
 split
 .rename_i i h;have:=List.mem_of_find?_eq_some h;rw[AP]at this;have e:(Dk s.toArray).size=s.length:=by simp[Dg]
  omega
 .omega
def RK:zsP
 |[.str s,I .u8 c]=>s_ (I J (Vy s c))
 |_=>n_
def YDu:rX Tryz.prog 153 RK:=by
 intro ys r E w g st vs hl N;unfold RK at E
 split at E
 case h_2=>cases E
 rename_i s c;simp only[AG]at E;subst E
 match vs,hl with
 |[v1,v2],_=>
  obtain rfl:=NH (N 0 _ _ rfl rfl);obtain rfl:=Kc (N 1 _ _ rfl rfl);refine⟨.int .i64 (Vy s c),?_,λg st=>.int _ _⟩;rw[show [Value.string ⟨s.toArray⟩,.int .u8 c].toArray=#[.string ⟨s.toArray⟩,.int .u8 c]from rfl,run_callFunc_extern Tryz.func153 (by kernel_rfl) (by kernel_rfl) (by kernel_rfl) (e:=Go.Extern.BytealgIndexByte.indexByte) (by kernel_rfl)];unfold Vy
  change ((Sem.run Tryz.prog (match(C9 (Dk s.toArray).size).find? λi=>(Dk s.toArray)[i]! == c.toNat.toUInt8 with
   |some i=>pure (Value.int .i64 (i:Int))
   |none=>pure (Value.int .i64 (-1))) w).andThen _)=_
  generalize (C9 (Dk s.toArray).size).find? (λi=>(Dk s.toArray)[i]! == c.toNat.toUInt8)=o;cases o<;>rfl
def tk(ds:List D)(r:D):Prop:=∀s c,ds=[.str s,I .u8 c]->∃i:Int,r=I J i/\-1<=i/\i<(s.length:Int)
abbrev TI1:Tbl:=tb [(153+50000000,RK)] []
abbrev pI1:zsP:=Ii TI1 uG.1 tk
abbrev TI2:Tbl:=tb [(118,pI1)] []
abbrev rN:zsP:=Ii TI2 uF.1 tk
theorem iz(s:zLB)(c:Int):∃i:Int,rN [.str s,I .u8 c]=s_ (I J i)/\-1<=i/\i<(s.length:Int):=by
 have hb:=Yz5 s c;have h0:RK [.str s,I .u8 c]=s_ (I J (Vy s c)):=rfl
 have E:∃r,pI1 [.str s,I .u8 c]=s_ r/\tk [.str s,I .u8 c] r:=by
  refine I2 ?_;unfold uG
  push_cast(disch:=lia)[h0]
  intro s' c' e;grind
 obtain⟨r,E,N⟩:=E;obtain⟨i,rfl,h3⟩:=N s c rfl
 have h4:∃r,rN [.str s,I .u8 c]=s_ r/\tk [.str s,I .u8 c] r:=by
  refine I2 ?_;unfold uF
  push_cast(disch:=lia)[E]
  exact N
 obtain⟨r,h4,h5⟩:=h4;obtain⟨i,rfl,h6⟩:=h5 s c rfl;simp_all
theorem Vv(a b:Int):Gb 2 [0] (I .u8 a) (I .u8 b)=s_ (a==b):=rfl
theorem jc(a:Int)(x:zLB):DE 2 (U [I .u8 a,.str x])=I .u8 a:=rfl
theorem fq(a:Int):∀(es:List (Int×zLB))(i:Nat),Hv 2 [0] (I .u8 a) (GT.s es).els i=s_ n_\/∃j b x,Hv 2 [0] (I .u8 a) (GT.s es).els i=s_ (s_ (i+j))/\(GT.s es).els[j]?=s_ (U [I .u8 b,.str x])
 |[],i=>.inl rfl
 |x::r,i=>by
  have E:=fq a r (i+1);simp only[GT.els,Av,Hv,jc,Vv]at E⊢
  cases h:(a==x.1)with
  |true=>exact .inr ⟨0,x.1,x.2,rfl,rfl⟩
  |false=>
   rcases E with N|⟨j,b,y,N,h2⟩
   .grind
   .exact .inr ⟨j+1,b,y,by rw[N,Cw,B6 1],h2⟩
theorem mg_s(a:Int)(es:List (Int×zLB))(st:St):∃x,JH st 2 [0] f_ (.str []) (.gmap (.s es)) (I .u8 a)=s_ (.str x):=by
 have hm:Ff 2 [0] (I .u8 a) (GT.s es).els=t_:=by simp[Ff,GT.els,jc,Vv]
 simp only[JH,GT.sz,zaj,O7,show mS 2=2 from rfl,Vv,hm,BF,Bd];rcases fq a es 0 with h|⟨j,b,x,h,E⟩
 .simp_all
 .rw[h,Ar];simp only[E];exact⟨_,rfl⟩
theorem V2:GG 0=s_ (.gmap (.s sigT)):=rfl
theorem Yqc(st:St)(f:Nat):D2 st (.clo f [])=s_ (.clo f []):=rfl
theorem Ygw(f:Nat):keys (.clo f [])=[]:=rfl
attribute [push_cast] Yqc Ygw
theorem Yue(k:Int)(w:zLB):Ec (Jb YA) [(0,1,I J k),(1,1,.str w)]=s_ (Jb ⟨k,w,0,0⟩):=rfl
theorem YJ8(k n:Int)(w:zLB):Ec (Jb YA) [(0,1,I J k),(1,1,.str w),(2,1,I J n)]=s_ (Jb ⟨k,w,n,0⟩):=rfl
def QTk(ds:List D)(r:D):Prop:=∀s,ds=[.str s]->∃(t:Tk)(e:Int),r=.tup [FO t,I J e]/\(e=0->0<t.s.length/\t.s.length<=s.length)
abbrev TTk:Tbl:=tb [(119,RO),(120,Yyh),(122,NY),(123,Vl),(124,rO)] []
theorem bM(b:UInt8)(l:zLB)(hs:(b::l).length<=4096):@wW GG TTk ZD.1.code (Du [.str (b::l)]) [] ⟨FP ZD.1.res (QTk [.str (b::l)])⟩:=by
 have fin:∀(t:Tk)(e:Int),(e=0->0<t.s.length/\t.s.length<=(b::l).length)->QTk [.str (b::l)] (.tup [FO t,I J e]):=λt e h s' q=>by
  grind
 have N:Jf (.str (b::l)) (I J 0)=s_ (I .u8 (b.toNat:Int)):=rfl;have g1:=YJ3 (b.toNat:Int);have g2:=YA8 (b.toNat:Int);unfold ZD
 cases h1:K3 97 122 (b.toNat:Int)with
 |true=>
  rw[h1]at g1;obtain⟨n,n1,n2,n3⟩:=Yuc (b::l) 121 (.inl rfl) hs;have n3:=n3 b l rfl (by simp[Pf,Yk,h1]);have ab:min n (l.length+1)=n:=BU n2
  by_cases h3:n<=32
  .have ac:¬(32:Int)<n:=zaa
   push_cast(disch:=lia)[N,g1,n1,W7,AH,AJ,ab,ac,Yue]
   simp_all
  .have ac:(32:Int)<n:=zaa
   push_cast(disch:=lia)[N,g1,n1,W7,AH,AJ,ab,ac]
   simp_all
 |false=>
 rw[h1]at g1
 cases h2:K3 48 57 (b.toNat:Int)with
 |true=>
  rw[h2]at g2;obtain⟨n,n1,n2,n3⟩:=Yuc (b::l) 122 (.inr rfl) hs;have n3:=n3 b l rfl (by simp[Pf,h2]);obtain⟨m,e,n4⟩:=iy ((b::l).take n) (by rw[AJ];omega)
  push_cast(disch:=lia)[N,g1,g2,n1,W7,AH,n4,YJ8]
  simp_all
 |false=>
 rw[h2]at g2;obtain⟨x,hx⟩:=mg_s (b.toNat:Int) sigT [zzB (Jb YA)];obtain⟨v,hv,a1⟩:=g_hp (b::l) x
 by_cases E:x=[]
 .subst E
  push_cast(disch:=lia)[N,g1,g2,J9 _ _ _ _ V2,po,hx,zai,zau]
  simp_all
 .cases v with
  |true=>
   push_cast(disch:=lia)[N,g1,g2,J9 _ _ _ _ V2,po,hx,E,zah,zak,hv,Yue]
   exact fin ⟨3,x,0,0⟩ 0 λ_=>⟨Cz.2 E,a1 rfl⟩
  |false=>
   push_cast(disch:=lia)[N,g1,g2,J9 _ _ _ _ V2,po,hx,E,zah,zak,hv]
   simp_all
abbrev Vj:zsP:=Ii TTk ZD.1 QTk
def iq(b:UInt8)(l:zLB)(E:(b::l).length<=4096):∃(t:Tk)(e:Int),Vj [.str (b::l)]=s_ (.tup [FO t,I J e])/\(e=0->0<t.s.length/\t.s.length<=(b::l).length):=by obtain⟨r,N,h2⟩:=I2 (bM b l E);obtain⟨t,e,rfl,h3⟩:=h2 _ rfl;exact⟨t,e,N,h3⟩
abbrev TTo:Tbl:=tb [(80,rN),(81,Vj)] []
def QTo(ds:List D)(r:D):Prop:=∀s,ds=[.str s]->∃(ts:List Tk)(a e:Int),r=.tup [O (nz 4 (ts.map FO)) (ts.map FO) f_,I J a,I J e]/\(e=0->(∀t∈ts,0<t.s.length)/\DR ts<=s.length)
def qR(s:zLB)(st:St){a:Int}(E:0<=a)(N:a<=(s.length:Int)):GS st 0 (.str s) (s_ (I J a)) n_ n_=s_ (.str (s.drop a.toNat)):=by simp[GS,GV,FA,E,N]
theorem YFv(t:Tk)(a:Int):DV (s_ (zzB (Jb t))) 1 3 (I J a)=s_ (zzB (Jb ⟨t.k,t.s,t.n,a⟩)):=rfl
theorem YHr(t:Tk):EZ 4 [FO t]=s_ (O 4 [FO t] t_):=rfl
def Ywh(E:List Tk)(t:Tk):DR (E++[t])=DR E+t.s.length:=by simp[DR]
def Ywg{E:List Tk}(h:∀t∈E,0<t.s.length):E.length<=DR E:=by
 induction E with
 |nil=>exact AS _
 |cons t r N=>
  have h1:=h t zac;have h2:=N λx hx=>h x (by simp[hx]);rw[T4,An];omega
theorem Yk1{sz:Nat}(h:els≠[]->S[kr]?=s_ (FC sz els)):D2 S (D0 kr els)=s_ (O (nz sz els) els f_):=by
 have:=V4 h;unfold D0 at this⊢
 split<;>simp_all [D2]
theorem YD8(s:zLB)(hs:s.length<=400):@wW GG TTo ZI.1.code (Du [.str s]) [] ⟨FP ZI.1.res (QTo [.str s])⟩:=by
 have fin:∀(E:List Tk)(a e:Int),(e=0->(∀t∈E,0<t.s.length)/\DR E<=s.length)->QTo [.str s] (.tup [O (nz 4 (E.map FO)) (E.map FO) f_,I J a,I J e]):=λE a e h s' q=>by
  grind
 have ae:¬(2000:Int)<s.length:=zaa
 unfold ZI
 push_cast(disch:=lia)[ae]
 refine NP (λi:Nat×St×List Tk×Nat=>[(0,.str s),(5,D0 i.2.2.2 (i.2.2.1.map FO)),(6,I J (i.1:Int))]) (λi=>i.2.1)
  (λi=>(i.1<=s.length/\DR i.2.2.1<=i.1/\∀t∈i.2.2.1,0<t.s.length)/\(i.2.2.1.map FO≠[]->i.2.1[i.2.2.2]?=s_ (FC 4 (i.2.2.1.map FO)))) (λi=>s.length-i.1) (0,[],[],0) (by push_cast<;>rfl) ⟨⟨AS _,Au _,λt ht=>by cases ht⟩,λh=>absurd rfl h⟩ ?_
 rintro⟨i,S,E,kr⟩ ⟨⟨q1,q2,q3⟩,q4⟩;dsimp only at q1 q2 q3 q4
 by_cases h2:i<s.length
 case neg=>
  have N:¬(i:Int)<s.length:=zaa
  have hi:=Yk1 q4
  push_cast(disch:=lia)[N,hi]
  grind
 have N:(i:Int)<s.length:=zaa
 obtain⟨a,ha⟩:∃a:Int,((s.getD i d_).toNat:Int)=a:=⟨_,rfl⟩
 by_cases hw:a=32\/a=9\/a=13\/a=10
 .rcases hw with rfl|rfl|rfl|rfl<;>
   (push_cast(disch:=lia)[N,NJ,AH,PL,ha,D5]
    refine EV (i+1,S,E,kr) ⟨⟨h2,by dsimp only;omega,q3⟩,q4⟩ (by dsimp only;omega) ?_;rfl)
 have n1:¬a=32:=λe=>hw (.inl e);have n2:¬a=9:=λe=>hw (.inr (.inl e));have n3:¬a=13:=λe=>hw (.inr (.inr (.inl e)));have n4:¬a=10:=λe=>hw (.inr (.inr (.inr e)));have aa:(s.drop i).length=s.length-i:=AL
 by_cases ab:a=35
 .obtain⟨n,g1,g2,g3⟩:=iz (s.drop i) 10;rw[aa]at g3
  by_cases hn:n<0
  .have hi:=Yk1 q4
   push_cast(disch:=lia)[N,NJ,AH,PL,ha,ab,qR,g1,hn,hi]
   exact fin E 0 0 λ_=>⟨q3,zaa⟩
  .push_cast(disch:=lia)[N,NJ,AH,PL,ha,ab,qR,g1,hn,D5]
   refine EV (i+n.toNat+1,S,E,kr) ⟨⟨by dsimp only;omega,by dsimp only;omega,q3⟩,q4⟩ (by dsimp only;omega) ?_;have e:((i+n.toNat+1:Nat):Int)=(i:Int)+(n+1):=zaa
   simp_all
 match af:s.drop i,aa with
 |[],aa=>simp at aa;omega
 |b::l,aa=>
 obtain⟨t,e,g1,g2⟩:=iq b l (by simp at aa⊢;omega);rw[aa]at g2
 by_cases he:e=0
 case neg=>
  push_cast(disch:=lia)[N,NJ,AH,PL,ha,n1,n2,n3,n4,ab,qR,af,g1,he]
  exact fin [] _ e λh=>absurd h he
 obtain⟨g3,g4⟩:=g2 he;have hr:E.map FO≠[]->(S++[zzB (Jb ⟨t.k,t.s,t.n,(i:Int)⟩)])[kr]?=s_ (FC 4 (E.map FO)):=λh=>Fs (q4 h);have be:=Ywg q3;obtain⟨a3,L,m1,m2,m3,m4,m5,m6⟩:=XL (by':=40) (FO ⟨t.k,t.s,t.n,(i:Int)⟩) (zab:0<4/\40<=4096) hr (by simp;omega)
 have hL:L[S.length]?=s_ (zzB (Jb ⟨t.k,t.s,t.n,(i:Int)⟩)):=by
  rw[m4 S.length zac λh e=>by
   simp_all]
  exact GA _ _ _
 push_cast(disch:=lia)[N,NJ,AH,PL,ha,n1,n2,n3,n4,ab,qR,af,g1,he,YFv,YHr,m1,hL,D5]
 refine EV (i+t.s.length,L,E++[⟨t.k,t.s,t.n,(i:Int)⟩],a3) ⟨⟨by dsimp only;omega,by dsimp only;rw[Ywh];dsimp only;omega,λx hx=>?_⟩,λ_=>by dsimp only;rw[A1];exact m2⟩ (by dsimp only;omega) ?_
 .rcases AK.1 hx with h|h
  .exact q3 x h
  .simp_all
 .simp_all
abbrev Yyg:zsP:=Ii TTo ZI.1 QTo
def YJ1(s:zLB)(N:s.length<=400):∃(E:List Tk)(a e:Int),Yyg [.str s]=s_ (.tup [O (nz 4 (E.map FO)) (E.map FO) f_,I J a,I J e])/\(e=0->(∀t∈E,0<t.s.length)/\DR E<=s.length):=by obtain⟨r,h1,h2⟩:=I2 (YD8 s N);obtain⟨E,a,e,rfl,h3⟩:=h2 s rfl;exact⟨E,a,e,h1,h3⟩
abbrev CP(f:Nat)(sp:zsP):Prop:=zCC f sp
def Yuj:CP 119 RO:=I0 _ ZJ.2 (DP all_nil all_nil)
def Yit:CP 122 NY:=I0 _ ZC.2 (DP all_nil all_nil)
def YKs:CP 121 RM:=I0 _ ZP.2 (DP (all_cons Yuj (all_cons Yit all_nil)) all_nil)
def YBy:CP 120 Yyh:=I0 _ Zx.2 (DP all_nil (all_cons (YKs.toI Tryz.func121 rfl rfl) (all_cons (Yit.toI Tryz.func122 rfl rfl) all_nil)))
def YKu:CP 123 Vl:=I0 _ ZK.2 (DP all_nil all_nil)
def jl:CP 124 rO:=I0 (T:=THp) _ uE.2 (DP (all_cons (I0 _ ar.2 (DP all_nil all_nil)) all_nil) all_nil)
def YKv:CP 80 rN:=I0 (T:=TI2) _ uF.2 (DP (all_cons (I0 (T:=TI1) _ uG.2 (YFe (all_cons (.inr ⟨_,rfl,YDu⟩) all_nil) all_nil)) all_nil) all_nil)
def YKr:CP 81 Vj:=I0 (T:=TTk) _ ZD.2 (DP (all_cons Yuj (all_cons YBy (all_cons Yit (all_cons YKu (all_cons jl all_nil))))) all_nil)
def YBx:CP 40 Yyg:=I0 (T:=TTo) _ ZI.2 (DP (all_cons YKv (all_cons YKr all_nil)) all_nil)
open Go Go.RowKit
open D renaming int->I,slc->O,agg->U,bool->V,ptr->Y
open Go.IntKind renaming i64->J
variable{u v:Value}{x:Operand}{w:World}{a:Act}{o:Oper}
section
variable{P:Program}{G:Dy}
structure PH2 where
 t:Nat
 js:List Nat
 vs:Nat
 js2:List Nat
 l:List PI
def PH2.run(G:Dy)(F:PH2):Nat->D->List D->St->Option St:=λt d das st=>
 if t=F.t/\Lz d=t_ then(Fq G No F.l ⟨Qs ((Qs (Du das) F.js).set F.vs d) F.js2,st⟩).map (·.st)else n_
section
variable{n:Nat}{ops:Array Oper}{Q:Exit->Act->List Go.Frame->World->Prop}{i:Nat}{rest:List Nat}{a:Act}{cs:List Go.Frame}{w:World}{o:Oper}
def Ls(E:ops[i]?=s_ o)(N:o.guard=n_)(hr:(execOp a.eval o).run P w=.ok (.value v) w)(h:wpOpsSIn yau n P ops Q rest (a.put o.dst v) cs w):wpOpsSIn yau n P ops Q (i::rest) a cs w:=by
 have hw:yaw o (yielded ops a.tmps)=t_:=by simp[yaw,N]
 simp only[wpOpsSIn,E,hw,zaj,hr];exact⟨λ_ _=>trivial,h⟩
def yNb(E:ops[i]?=s_ o)(N:o.guard=n_)(hr:(execOp a.eval o).run P w=.ok .recover w)(hc:recoverD cs=n_)(h:wpOpsSIn yau n P ops Q rest (a.put o.dst .nilIface) cs w):wpOpsSIn yau n P ops Q (i::rest) a cs w:=by
 have hw:yaw o (yielded ops a.tmps)=t_:=by simp[yaw,N]
 simp only[wpOpsSIn,E,hw,zaj,hr,hc];exact⟨λ_ _=>trivial,h⟩
def yNa{cs':List Go.Frame}(E:ops[i]?=s_ o)(N:o.guard=n_)(hr:(execOp a.eval o).run P w=.ok .recover w)(hc:recoverD cs=s_ (v,cs'))(h:wpOpsSIn yau n P ops Q rest (a.put o.dst v) cs' w):wpOpsSIn yau n P ops Q (i::rest) a cs w:=by
 have hw:yaw o (yielded ops a.tmps)=t_:=by simp[yaw,N]
 simp only[wpOpsSIn,E,hw,zaj,hr,hc];exact⟨λ_ _=>trivial,h⟩
end
def OP(h:o.op=.move x\/o.op=.assign x):(execOp a.eval o).run P w=.ok (.value (a.eval x)) w:=by
 rcases h with h|h
 .simp only[execOp,h];rfl
 .simp only[execOp,h];rfl
def xu(h:o.op=.extract x 0)(E:a.eval x=.tuple #[u,v]):(execOp a.eval o).run P w=.ok (.value u) w:=by simp only[execOp,h,E];rfl
def xw(h:o.op=.extract x 1)(E:a.eval x=.tuple #[u,v]):(execOp a.eval o).run P w=.ok (.value v) w:=by simp only[execOp,h,E];rfl
def Yqn{f i0 i1 r d d2 v k vs ok c t1 xt:Nat}{fn:Func}{o0 o1 o2 o3 o4 o5 o6 o7:Oper}{body:Code}{l:List PI}{z:Value}
  (hfn:P.funcs[f]?=s_ fn) (hname:(fn.name == "runtime.NumGoroutine")=f_) (hres:fn.results=#[])
  (hc:fn.body=s_ (.seq (.region i0 #[o0,o1,o2,o3,o4,o5,o6] f_) (.seq (.region i1 #[o7] f_) (.cond (.tmp c) body .skip))))
  (h0:o0.op=.call {callee:=.builtin .recover,args:=#[],argTypes:=#[]}/\o0.dst=s_ r/\o0.guard=n_)
  (h1:o1.op=.typeAssert (.tmp r) xt t1 t_/\o1.dst=s_ d/\o1.guard=n_)
  (h2:o2.op=.move (.tmp d)/\o2.dst=s_ d2/\o2.guard=n_)
  (h3:o3.op=.extract (.tmp d2) 0/\o3.dst=s_ v/\o3.guard=n_)
  (h4:o4.op=.extract (.tmp d2) 1/\o4.dst=s_ k/\o4.guard=n_)
  (h5:o5.op=.assign (.tmp v)/\o5.dst=s_ vs/\o5.guard=n_)
  (h6:o6.op=.assign (.tmp k)/\o6.dst=s_ ok/\o6.guard=n_)
  (h7:o7.op=.move (.tmp ok)/\o7.dst=s_ c/\o7.guard=n_)
  (hlt:(r<fn.ntmps/\d<fn.ntmps/\d2<fn.ntmps/\v<fn.ntmps)/\k<fn.ntmps/\vs<fn.ntmps/\ok<fn.ntmps/\c<fn.ntmps)
  (hne:d2≠v/\v≠k/\k≠vs)
  (ht1:oD P t1=t_) (hiz:((P.info? t1).bind λi=>i.zero)=s_ z) (hb:LI P fn.ntmps body=s_ l):
  Rg P G f (PH2.run G ⟨t1,[r,d,d2,v,k],vs,[ok,c],l⟩):=by
 refine⟨⟨fn,hfn,by rw[hc];rfl,hname⟩,?_⟩;obtain⟨u,ht1,hu1⟩:=yD4 ht1;obtain⟨zi,hi,hz⟩:=AD.1 hiz;intro base w g st das ws hS hG hlen hrep;obtain⟨hF0,hs0⟩:=yT4 (m:=fn.ntmps) hlen hrep;obtain⟨h0a,h0b,h0c⟩:=h0;obtain⟨h1a,h1b,h1c⟩:=h1;obtain⟨h2a,h2b,h2c⟩:=h2;obtain⟨h3a,h3b,h3c⟩:=h3;obtain⟨h4a,h4b,h4c⟩:=h4;obtain⟨h5a,h5b,h5c⟩:=h5;obtain⟨h6a,h6b,h6c⟩:=h6;obtain⟨h7a,h7b,h7c⟩:=h7;obtain⟨⟨l1,l2,l3,l4⟩,l5,l6,l7,l8⟩:=hlt;obtain⟨n1,n2,n3⟩:=hne
 have hresults:∀(tm:Array Value)(w':World),(results fn tm).run P w'=.ok (.tuple #[]) w':=by
  intro tm w';simp[results,hres]
 generalize ha0:({tmps:=ws.toArray++Dc (fn.ntmps-ws.toArray.size) undef,defers:=[]}:Act)=a0 at*;have hd0:a0.defers=[]:=by rw[<-ha0]
 have hs0':fn.ntmps<=a0.tmps.size:=by rw[<-ha0];exact hs0
 have ho1:({dst:=o1.dst,op:=.typeAssert (.tmp r) xt t1 t_,type:=o1.type,pos:=o1.pos,after:=o1.after,guard:=o1.guard}:Oper)=o1:=by rw[<-h1a]
 refine⟨?_,?_⟩
 .refine callsDIn_of_wpSIn hfn hc trivial λc₀ cs hu=>?_;rw[ha0];refine wpSIn_seq (wpSIn_region ?_);have hr:recoverD (c₀::cs)=n_:=by simp[recoverD,hu]
  show wpOpsSIn _ _ _ _ _ [0,1,2,3,4,5,6] _ _ _
  refine yNb (o:=o0) rfl h0c (mq h0a) hr ?_;rw[h0b];have e1:(a0.put (s_ r) .nilIface).eval (.tmp r)=.nilIface:=JJ zaa;have he1:=yMh (P:=P) ht1 hu1 hi hz (x:=.tmp r) e1 (dst:=o1.dst) (ty:=o1.type) (xt:=xt) (pos:=o1.pos) (after:=o1.after) (guard:=o1.guard) w;rw[ho1]at he1;generalize hA1:a0.put (s_ r) .nilIface=a1 at*;have s1:fn.ntmps<=a1.tmps.size:=by rw[<-hA1,It];exact hs0'
  have f1:a1.defers=[]:=by rw[<-hA1];simp[ybE,hd0]
  refine Ls (o:=o1) rfl h1c he1 ?_;rw[h1b];have e2:(a1.put (s_ d) (.tuple #[z,.bool f_])).eval (.tmp d)=.tuple #[z,.bool f_]:=JJ zaa;generalize hA2:a1.put (s_ d) (.tuple #[z,.bool f_])=a2 at*;have s2:fn.ntmps<=a2.tmps.size:=by rw[<-hA2,It];exact s1
  have f2:a2.defers=[]:=by rw[<-hA2];simp[ybE,f1]
  refine Ls (o:=o2) rfl h2c (OP (.inl h2a)) ?_;rw[h2b,e2];have e3:(a2.put (s_ d2) (.tuple #[z,.bool f_])).eval (.tmp d2)=.tuple #[z,.bool f_]:=JJ zaa;generalize hA3:a2.put (s_ d2) (.tuple #[z,.bool f_])=a3 at*;have s3:fn.ntmps<=a3.tmps.size:=by rw[<-hA3,It];exact s2
  have f3:a3.defers=[]:=by rw[<-hA3];simp[ybE,f2]
  refine Ls (o:=o3) rfl h3c (xu h3a e3) ?_;rw[h3b];have e4:(a3.put (s_ v) z).eval (.tmp d2)=.tuple #[z,.bool f_]:=by rw[Rp n1];exact e3
  generalize hA4:a3.put (s_ v) z=a4 at*;have s4:fn.ntmps<=a4.tmps.size:=by rw[<-hA4,It];exact s3
  have f4:a4.defers=[]:=by rw[<-hA4];simp[ybE,f3]
  refine Ls (o:=o4) rfl h4c (xw h4a e4) ?_;rw[h4b];have e5:(a4.put (s_ k) (.bool f_)).eval (.tmp k)=.bool f_:=JJ zaa;generalize hA5:a4.put (s_ k) (.bool f_)=a5 at*;have s5:fn.ntmps<=a5.tmps.size:=by rw[<-hA5,It];exact s4
  have f5:a5.defers=[]:=by rw[<-hA5];simp[ybE,f4]
  refine Ls (o:=o5) rfl h5c (OP (.inr h5a)) ?_;rw[h5b];have e6:(a5.put (s_ vs) (a5.eval (.tmp v))).eval (.tmp k)=.bool f_:=by rw[Rp n3];exact e5
  generalize hA6:a5.put (s_ vs) (a5.eval (.tmp v))=a6 at*;have s6:fn.ntmps<=a6.tmps.size:=by rw[<-hA6,It];exact s5
  have f6:a6.defers=[]:=by rw[<-hA6];simp[ybE,f5]
  refine Ls (o:=o6) rfl h6c (OP (.inr h6a)) ?_;rw[h6b,e6];have e7:(a6.put (s_ ok) (.bool f_)).eval (.tmp ok)=.bool f_:=JJ zaa;generalize hA7:a6.put (s_ ok) (.bool f_)=a7 at*;have s7:fn.ntmps<=a7.tmps.size:=by rw[<-hA7,It];exact s6
  have f7:a7.defers=[]:=by rw[<-hA7];simp[ybE,f6]
  refine wpSIn_of_wpIn rfl (wpIn_seq (wpIn_region_list ?_));simp only[wpListIn,yaw,h7c,zaj];refine⟨λ_ _=>trivial,?_⟩
  show o7.uponIn _ _ _ _ _ _ ((execOp a7.eval o7).run P w)
  rw[OP (.inl h7a),ybF,h7b,e7]
  show Code.wpIn _ _ _ _ _ _ _
  refine wpIn_cond_false (JJ zaa) (wpIn_skip ?_);refine⟨by simp[ybE,f7],.returning,by rw[<-hu],_,hresults _ _,rfl,rfl,g,Go1.refl hS⟩
 .intro t dv st' hrun;unfold PH2.run at hrun
  split at hrun
  case isFalse=>cases hrun
  rename_i hcnd;obtain⟨rfl,hi'⟩:=hcnd;simp only[A8]at hrun;obtain⟨s',hx,rfl⟩:=hrun;refine callsDIn_of_wpSIn hfn hc trivial λc₀ cs hu=>?_;rw[ha0];refine wpSIn_seq (wpSIn_region ?_);have hr:recoverD (c₀::cs)=s_ (.iface t (GX dv),{c₀ with mode:=.panicking (TT t dv)}::cs):=by simp[recoverD,hu,MJ,TT]
  show wpOpsSIn _ _ _ _ _ [0,1,2,3,4,5,6] _ _ _
  refine yNa (o:=o0) rfl h0c (mq h0a) hr ?_;rw[h0b];have e1:(a0.put (s_ r) (.iface t (GX dv))).eval (.tmp r)=.iface t (GX dv):=JJ zaa;have he1:=yMi (P:=P) ht1 hu1 (x:=.tmp r) e1 (dst:=o1.dst) (ty:=o1.type) (xt:=xt) (pos:=o1.pos) (after:=o1.after) (guard:=o1.guard) w;rw[ho1]at he1;have g1:FR w g st ((Du das).set r .junk) (a0.put (s_ r) (.iface t (GX dv))):=hF0.put (dst:=s_ r) (λt e=>by cases e;omega) (.junk _);generalize hA1:a0.put (s_ r) (.iface t (GX dv))=a1 at*;have s1:fn.ntmps<=a1.tmps.size:=by rw[<-hA1,It];exact hs0'
  have f1:a1.defers=[]:=by rw[<-hA1];simp[ybE,hd0]
  refine Ls (o:=o1) rfl h1c he1 ?_;rw[h1b];have e2:(a1.put (s_ d) (.tuple #[GX dv,.bool t_])).eval (.tmp d)=.tuple #[GX dv,.bool t_]:=JJ zaa;have g2:FR w g st (((Du das).set r .junk).set d .junk) (a1.put (s_ d) (.tuple #[GX dv,.bool t_])):=g1.put (dst:=s_ d) (λt e=>by cases e;omega) (.junk _);generalize hA2:a1.put (s_ d) (.tuple #[GX dv,.bool t_])=a2 at*;have s2:fn.ntmps<=a2.tmps.size:=by rw[<-hA2,It];exact s1
  have f2:a2.defers=[]:=by rw[<-hA2];simp[ybE,f1]
  refine Ls (o:=o2) rfl h2c (OP (.inl h2a)) ?_;rw[h2b,e2];have e3:(a2.put (s_ d2) (.tuple #[GX dv,.bool t_])).eval (.tmp d2)=.tuple #[GX dv,.bool t_]:=JJ zaa;have g3:FR w g st ((((Du das).set r .junk).set d .junk).set d2 .junk) (a2.put (s_ d2) (.tuple #[GX dv,.bool t_])):=g2.put (dst:=s_ d2) (λt e=>by cases e;omega) (.junk _);generalize hA3:a2.put (s_ d2) (.tuple #[GX dv,.bool t_])=a3 at*;have s3:fn.ntmps<=a3.tmps.size:=by rw[<-hA3,It];exact s2
  have f3:a3.defers=[]:=by rw[<-hA3];simp[ybE,f2]
  refine Ls (o:=o3) rfl h3c (xu h3a e3) ?_;rw[h3b];have e4:(a3.put (s_ v) (GX dv)).eval (.tmp d2)=.tuple #[GX dv,.bool t_]:=by rw[Rp n1];exact e3
  have q4:(a3.put (s_ v) (GX dv)).eval (.tmp v)=GX dv:=JJ zaa;have g4:FR w g st (((((Du das).set r .junk).set d .junk).set d2 .junk).set v .junk) (a3.put (s_ v) (GX dv)):=g3.put (dst:=s_ v) (λt e=>by cases e;omega) (.junk _);generalize hA4:a3.put (s_ v) (GX dv)=a4 at*;have s4:fn.ntmps<=a4.tmps.size:=by rw[<-hA4,It];exact s3
  have f4:a4.defers=[]:=by rw[<-hA4];simp[ybE,f3]
  refine Ls (o:=o4) rfl h4c (xw h4a e4) ?_;rw[h4b];have e5:(a4.put (s_ k) (.bool t_)).eval (.tmp k)=.bool t_:=JJ zaa;have q5:(a4.put (s_ k) (.bool t_)).eval (.tmp v)=GX dv:=by rw[Rp n2];exact q4
  have g5:FR w g st ((((((Du das).set r .junk).set d .junk).set d2 .junk).set v .junk).set k .junk) (a4.put (s_ k) (.bool t_)):=g4.put (dst:=s_ k) (λt e=>by cases e;omega) (.junk _);generalize hA5:a4.put (s_ k) (.bool t_)=a5 at*;have s5:fn.ntmps<=a5.tmps.size:=by rw[<-hA5,It];exact s4
  have f5:a5.defers=[]:=by rw[<-hA5];simp[ybE,f4]
  refine Ls (o:=o5) rfl h5c (OP (.inr h5a)) ?_;rw[h5b,q5];have e6:(a5.put (s_ vs) (GX dv)).eval (.tmp k)=.bool t_:=by rw[Rp n3];exact e5
  have g6:FR w g st (((((((Du das).set r .junk).set d .junk).set d2 .junk).set v .junk).set k .junk).set vs dv) (a5.put (s_ vs) (GX dv)):=g5.put (dst:=s_ vs) (λt e=>by cases e;omega) (yGd hi');generalize hA6:a5.put (s_ vs) (GX dv)=a6 at*;have s6:fn.ntmps<=a6.tmps.size:=by rw[<-hA6,It];exact s5
  have f6:a6.defers=[]:=by rw[<-hA6];simp[ybE,f5]
  refine Ls (o:=o6) rfl h6c (OP (.inr h6a)) ?_;rw[h6b,e6];have e7:(a6.put (s_ ok) (.bool t_)).eval (.tmp ok)=.bool t_:=JJ zaa;have g7:FR w g st ((((((((Du das).set r .junk).set d .junk).set d2 .junk).set v .junk).set k .junk).set vs dv).set ok .junk) (a6.put (s_ ok) (.bool t_)):=g6.put (dst:=s_ ok) (λt e=>by cases e;omega) (.junk _);generalize hA7:a6.put (s_ ok) (.bool t_)=a7 at*;have s7:fn.ntmps<=a7.tmps.size:=by rw[<-hA7,It];exact s6
  have f7:a7.defers=[]:=by rw[<-hA7];simp[ybE,f6]
  refine wpSIn_of_wpIn rfl (wpIn_seq (wpIn_region_list ?_));simp only[wpListIn,yaw,h7c,zaj];refine⟨λ_ _=>trivial,?_⟩
  show o7.uponIn _ _ _ _ _ _ ((execOp a7.eval o7).run P w)
  rw[OP (.inl h7a),ybF,h7b,e7]
  show Code.wpIn _ _ _ _ _ _ _
  refine wpIn_cond_true (JJ zaa) ?_;refine wj (w0:=w) (g0:=g) (st0:=st) (dl:=[]) body l _ s' _ w _ hb hx ⟨g,Go1.refl hS,?_,hG,⟨[],by simp[ybE,f7],trivial⟩,by rw[It];exact s7⟩ ?_
  .exact g7.put (dst:=s_ c) (λt e=>by cases e;omega) (.junk _)
  .rintro a' w' ⟨g',h'⟩ hd';refine⟨by rw[hd'];simp[ybE,f7],.panicking (TT t dv),rfl,_,hresults _ _,rfl,rfl,g',h'.go1⟩
end
open Go Go.RowKit
open D renaming int->I,slc->O,agg->U,bool->V,ptr->Y
open Go.IntKind renaming i64->J
variable{o:Oper}{w w':World}{cs:List Go.Frame}{a:Act}{rest:List Nat}{Q:Exit->Act->List Go.Frame->World->Prop}{ops:Array Oper}{n:Nat}{q:List (PI×Bool×List Nat)}{l:List PI}
section
variable{P:Program}{G:Dy}
structure PH3 where
 t:Nat
 js:List Nat
 pa:Nat
 js2:List Nat
 n:Nat
 l:List (PI×Bool×List Nat)
def PH3.run(G:Dy)(F:PH3):Nat->D->List D->St->Option St:=λt d das st=>
 if t=F.t/\Lz d=t_/\d.cells.length=F.n then(GB G No F.l [] ⟨Qs ((Qs (Du das) F.js).set F.pa (Y st.length 0)) F.js2,st++[zzB d.cells]⟩).map (·.st)else n_
theorem Yal{d:D}(h:Lz d=t_):d.cells.all yaa=t_:=by
 have one:∀d,RY d=t_->yaa d=t_:=λd h=>by cases d<;>first|rfl|cases h
 cases d with
 |agg l=>
  simp only[Lz,yaZ,Ad]at h⊢;grind
 |int k n=>rfl
 |_=>cases h
def Yfh{i:Nat}(E:ops[i]?=s_ o)(N:o.guard=n_)(hr:(execOp a.eval o).run P w=.ok .skip w')(h:wpOpsSIn yau n P ops Q rest (a.put o.dst undef) cs w'):wpOpsSIn yau n P ops Q (i::rest) a cs w:=by
 have hw:yaw o (yielded ops a.tmps)=t_:=by simp[yaw,N]
 simp only[wpOpsSIn,E,hw,zaj,hr];exact⟨λ_ _=>trivial,h⟩
def Yfg{i:Nat}{v:Value}(E:ops[i]?=s_ o)(N:o.guard=n_)(hr:(execOp a.eval o).run P w=.ok (.value v) w')(h:wpOpsSIn yau n P ops Q rest (a.put o.dst v) cs w'):wpOpsSIn yau n P ops Q (i::rest) a cs w:=by
 have hw:yaw o (yielded ops a.tmps)=t_:=by simp[yaw,N]
 simp only[wpOpsSIn,E,hw,zaj,hr];exact⟨λ_ _=>trivial,h⟩
theorem yC3{base:Nat}{w0:World}{g0:Ghost}{st0:St}{dl:List Deferred}{id:Nat}{s s':PS}{Q:Exit->Act->World->Prop}(hm:P.follows .mixedOrders=t_)(hl:F5 P [] n ops ops.toList=s_ l)(af:NL ops.toList=t_)(hq:UD (Fb ops.toList []) l=s_ q)
  (hx:GB G No q [] s=s_ s') (hR:R G base n w0 g0 st0 dl s a w) (hQ:∀a' w',R G base n w0 g0 st0 dl s' a' w'->a'.defers=a.defers->Q .normal a' w'):(Code.region id ops t_).wpIn (Wr n_) 0 P Q a w:=by
 have aa:l.length=ops.size:=by simpa using (WD hl).1
 have hu:∀i,i<ops.size->(Dc ops.size f_).getD i t_=f_:=λi hi=>by simp[Array.getD,hi]
 have h0:(H9 ops.size (Dc ops.size f_)).length<=ops.size:=by
  unfold H9;grind
 have a0:OF ops.toList (Dc ops.size f_):=by
  intro i o _ hi;grind
 have a5:Qr ops.size (C9 ops.size)=t_:=by simp[Qr]
 have cd:(C9 ops.size).map (λk=>l.getD k d_)=l:=by
  apply A2;grind
 obtain⟨q1,q2,q3⟩:=lB hq;obtain⟨F,hF,hr,a6⟩:=ZA q [] s s' hx;rw[q2]at hr
 obtain⟨k1,k2,k3⟩:=Yce (l:=l) (bad:=n_) a5 (F:=F) (by simp[hF,q1,aa]) (λp u i j ce hi hj hm _=>by
  have E:=(Aa.1 hi).1;have ab:=(Aa.1 hj).1;simp only[CN]at E ab;rw[List.getElem?_range E]at hi;rw[List.getElem?_range ab]at hj;obtain rfl:=At hi;obtain rfl:=At hj
  by_cases ac:(l.getD u d_).apart (l.getD p d_)=t_
  .exact⟨SY ac,.inl ac⟩
  .have hy:l[p]?=s_ (l.getD p d_):=by simp[Am,aa,E]
   obtain⟨b,e1,e2⟩:=q3 p _ hy
   have ad:u∈H4 (Fb ops.toList []) l p (l.getD p d_):=by
    simp only[H4,AV,AP,hm,A0,Bm];grind
   obtain⟨f,g,a1,a2,a7,a3⟩:=a6 p _ e1 u ad
   have a4:F[u]?=s_ (s_ f)/\((l.getD u d_).op.isCall=t_->Na f=t_):=by
    grind
   refine⟨e2 u ad,.inr ⟨f,g,?_,?_,oL a2 a4.2 a7⟩⟩
   .grind
   .grind)
 refine wpIn_region_any hm (wh Ytq YOK.none hl af (λds=>ds=a.defers) (λlisted s=>Ip G No (Ix l (G1 listed _)) s s') (λlisted s i o N h2 h3 h4 h5 h6 h7=>.inl (SA k1 N h2 h3 h4 h5 h6 h7 λj _ h=>by cases h)) (λlisted s h0 N=>?_) ops.size _ s a _ zac h0 a0 ?_ hR.drew rfl)
 .rw[qT k2 h0]at N;simp only[Ip]at N;grind
 .grind
theorem Yqm{f i0 i1 r d d2 v k pa ok c t1 xt:Nat}{fn:Func}{o0 o1 o2 o3 o4 o5 o6 o7 o8:Oper}{ib:Nat}{z:Value}{zd:D}
  (hfn:P.funcs[f]?=s_ fn) (hname:(fn.name == "runtime.NumGoroutine")=f_) (hres:fn.results=#[])
  (hc:fn.body=s_ (.seq (.region i0 #[o0,o1,o2,o3,o4,o5,o6,o7] f_) (.seq (.region i1 #[o8] f_) (.cond (.tmp c) (.region ib ops t_) .skip))))
  (h0:o0.op=.call {callee:=.builtin .recover,args:=#[],argTypes:=#[]}/\o0.dst=s_ r/\o0.guard=n_)
  (h1:o1.op=.typeAssert (.tmp r) xt t1 t_/\o1.dst=s_ d/\o1.guard=n_)
  (h2:o2.op=.move (.tmp d)/\o2.dst=s_ d2/\o2.guard=n_)
  (h3:o3.op=.extract (.tmp d2) 0/\o3.dst=s_ v/\o3.guard=n_)
  (h4:o4.op=.extract (.tmp d2) 1/\o4.dst=s_ k/\o4.guard=n_)
  (h5:o5.op=.alloc t1/\o5.dst=s_ pa/\o5.guard=n_)
  (h6:o6.op=.store t1 (.tmp pa) (.tmp v)/\o6.dst=n_/\o6.guard=n_)
  (h7:o7.op=.assign (.tmp k)/\o7.dst=s_ ok/\o7.guard=n_)
  (h8:o8.op=.move (.tmp ok)/\o8.dst=s_ c/\o8.guard=n_)
  (hlt:(r<fn.ntmps/\d<fn.ntmps/\d2<fn.ntmps/\v<fn.ntmps)/\k<fn.ntmps/\pa<fn.ntmps/\ok<fn.ntmps/\c<fn.ntmps)
  (hne:d2≠v/\v≠k/\k≠pa/\v≠pa)
  (ht1:oD P t1=t_) (hiz:((P.info? t1).bind λi=>i.zero)=s_ z) (hzd:QL z=s_ zd) (hcl:zd.cells.all yaa=t_) (hsz:ET P t1=s_ n) (hn:zd.cells.length=n) (hm:P.follows .mixedOrders=t_) (hl:F5 P [] fn.ntmps ops ops.toList=s_ l) (hlex:NL ops.toList=t_) (hq:UD (Fb ops.toList []) l=s_ q):
  Rg P G f (PH3.run G ⟨t1,[r,d,d2,v,k],pa,[ok,c],n,q⟩):=by
 refine⟨⟨fn,hfn,by rw[hc];rfl,hname⟩,?_⟩;obtain⟨u,ht1,hu1⟩:=yD4 ht1;obtain⟨zi,hi,hz⟩:=AD.1 hiz;intro base w g st das ws hS hG hlen hrep;obtain⟨hF0,hs0⟩:=yT4 (m:=fn.ntmps) hlen hrep;obtain⟨h0a,h0b,h0c⟩:=h0;obtain⟨h1a,h1b,h1c⟩:=h1;obtain⟨h2a,h2b,h2c⟩:=h2;obtain⟨h3a,h3b,h3c⟩:=h3;obtain⟨h4a,h4b,h4c⟩:=h4;obtain⟨h5a,h5b,h5c⟩:=h5;obtain⟨h6a,h6b,h6c⟩:=h6;obtain⟨h7a,h7b,h7c⟩:=h7;obtain⟨h8a,h8b,h8c⟩:=h8;obtain⟨⟨l1,l2,l3,l4⟩,l5,l6,l7,l8⟩:=hlt;obtain⟨n1,n2,n3,n4⟩:=hne
 have hresults:∀(tm:Array Value)(w':World),(results fn tm).run P w'=.ok (.tuple #[]) w':=by
  intro tm w';simp[results,hres]
 generalize ha0:({tmps:=ws.toArray++Dc (fn.ntmps-ws.toArray.size) undef,defers:=[]}:Act)=a0 at*;have hd0:a0.defers=[]:=by rw[<-ha0]
 have hs0':fn.ntmps<=a0.tmps.size:=by rw[<-ha0];exact hs0
 have ho1:({dst:=o1.dst,op:=.typeAssert (.tmp r) xt t1 t_,type:=o1.type,pos:=o1.pos,after:=o1.after,guard:=o1.guard}:Oper)=o1:=by rw[<-h1a]
 have tail:∀(st0:St)(base':Nat)(fr0:PI.Frame)(a2:Act)(x:Value)(dx:D)(bb:Bool)(cs:List Go.Frame)(Q:Exit->Act->List Go.Frame->World->Prop),SR base' w g st0->dx.cells.all yaa=t_->dx.cells.length=n->(∀w g st,RepV w g st dx x)->FR w g st0 fr0 a2->a2.eval (.tmp d)=.tuple #[x,.bool bb]->fn.ntmps<=a2.tmps.size->a2.defers=[]->
   (∀a9 w2 g2,fn.ntmps<=a9.tmps.size->a9.defers=[]->Go1 base' w g st0 w2 g2 (st0++[zzB dx.cells])->FR w2 g2 (st0++[zzB dx.cells]) ((((((fr0.set d2 .junk).set v .junk).set k .junk).set pa (.ptr st0.length 0)).set ok .junk).set c .junk) a9->a9.eval (.tmp c)=.bool bb->
    (Code.cond (.tmp c) (.region ib ops t_) .skip).wpIn yau 0 P (λe a' w'=>Q e a' cs w') a9 w2)->
   wpOpsSIn yau 0 P #[o0,o1,o2,o3,o4,o5,o6,o7] (Exit.thenS ((Code.seq (.region i1 #[o8] f_) (.cond (.tmp c) (.region ib ops t_) .skip)).wpSIn yau 0 P Q) Q) [2,3,4,5,6,7] a2 cs w:=by
  intro st0 base' fr0 a2 x dx bb cs Q hS0 hdc hdn hdr g2 e2 s2 f2 K;refine Ls (o:=o2) rfl h2c (OP (.inl h2a)) ?_;rw[h2b,e2];have e3:(a2.put (s_ d2) (.tuple #[x,.bool bb])).eval (.tmp d2)=.tuple #[x,.bool bb]:=JJ zaa;have g3:FR w g st0 (fr0.set d2 .junk) (a2.put (s_ d2) (.tuple #[x,.bool bb])):=g2.put (dst:=s_ d2) (λt e=>by cases e;omega) (.junk _);generalize hA3:a2.put (s_ d2) (.tuple #[x,.bool bb])=a3 at*;have s3:fn.ntmps<=a3.tmps.size:=by rw[<-hA3,It];exact s2
  have f3:a3.defers=[]:=by rw[<-hA3];simp[ybE,f2]
  refine Ls (o:=o3) rfl h3c (xu h3a e3) ?_;rw[h3b];have e4:(a3.put (s_ v) x).eval (.tmp d2)=.tuple #[x,.bool bb]:=by rw[Rp n1];exact e3
  have q4:(a3.put (s_ v) x).eval (.tmp v)=x:=JJ zaa;have g4:FR w g st0 ((fr0.set d2 .junk).set v .junk) (a3.put (s_ v) x):=g3.put (dst:=s_ v) (λt e=>by cases e;omega) (.junk _);generalize hA4:a3.put (s_ v) x=a4 at*;have s4:fn.ntmps<=a4.tmps.size:=by rw[<-hA4,It];exact s3
  have f4:a4.defers=[]:=by rw[<-hA4];simp[ybE,f3]
  refine Ls (o:=o4) rfl h4c (xw h4a e4) ?_;rw[h4b];have e5:(a4.put (s_ k) (.bool bb)).eval (.tmp k)=.bool bb:=JJ zaa;have q5:(a4.put (s_ k) (.bool bb)).eval (.tmp v)=x:=by rw[Rp n2];exact q4
  have g5:FR w g st0 (((fr0.set d2 .junk).set v .junk).set k .junk) (a4.put (s_ k) (.bool bb)):=g4.put (dst:=s_ k) (λt e=>by cases e;omega) (.junk _);generalize hA5:a4.put (s_ k) (.bool bb)=a5 at*;have s5:fn.ntmps<=a5.tmps.size:=by rw[<-hA5,It];exact s4
  have f5:a5.defers=[]:=by rw[<-hA5];simp[ybE,f4]
  obtain⟨va,w1,g1,u1,u2,u3⟩:RunsTo P base' w g st0 (ybG t1 t_ (.tuple #[])) (.ptr st0.length 0) (st0++[zzB zd.cells]):=
   RunsTo.congr (by simp[ybG,zeroValue,typeInfo,hi,hz]) (uM (t:=t1) hS0 hcl (Ui hzd))
  have u4:(execOp a5.eval o5).run P w=.ok (.value va) w1:=by
   have e:execOp a5.eval o5=(do pure (.value (<-ybG t1 t_ (.tuple #[])))):=by simp only[execOp,h5a]
   simp_all
  refine Yfg (o:=o5) rfl h5c u4 ?_;rw[h5b];have e6p:(a5.put (s_ pa) va).eval (.tmp pa)=va:=JJ zaa;have e6v:(a5.put (s_ pa) va).eval (.tmp v)=x:=by rw[Rp n4];exact q5
  have e6k:(a5.put (s_ pa) va).eval (.tmp k)=.bool bb:=by rw[Rp n3];exact e5
  have g6:FR w1 g1 (st0++[zzB zd.cells]) ((((fr0.set d2 .junk).set v .junk).set k .junk).set pa (.ptr st0.length 0)) (a5.put (s_ pa) va):=(g5.mono u2.im u2.evo).put (dst:=s_ pa) (λt e=>by cases e;omega) u3;generalize hA6:a5.put (s_ pa) va=a6 at*;have s6:fn.ntmps<=a6.tmps.size:=by rw[<-hA6,It];exact s5
  have f6:a6.defers=[]:=by rw[<-hA6];simp[ybE,f5]
  have hps:Le (st0++[zzB zd.cells]) n (.ptr st0.length 0) dx=s_ (st0++[zzB dx.cells]):=by
   simp[Le,hn,hdc,hdn,FZ]
  obtain⟨w2,g2',u6,u7⟩:=yMy (P:=P) u2.sr hsz hps u3 (hdr _ _ _)
  have u8:(execOp a6.eval o6).run P w1=.ok .skip w2:=by
   simp only[execOp,h6a,e6p,e6v,Sem.run_bind,u6,Result.andThen_ok,Sem.run_pure]
  refine Yfh (o:=o6) rfl h6c u8 ?_;rw[h6b];have e7k:(a6.put n_ undef).eval (.tmp k)=.bool bb:=by simpa[ybE]using e6k
  have g7:FR w2 g2' (st0++[zzB dx.cells]) ((((fr0.set d2 .junk).set v .junk).set k .junk).set pa (.ptr st0.length 0)) (a6.put n_ undef):=by
   have:=g6.mono u7.im u7.evo;simpa[ybE]using this
  generalize hA7:a6.put n_ undef=a7 at*;have s7:fn.ntmps<=a7.tmps.size:=by rw[<-hA7];simpa[ybE]using s6
  have f7:a7.defers=[]:=by rw[<-hA7];simp[ybE,f6]
  refine Ls (o:=o7) rfl h7c (OP (.inr h7a)) ?_;rw[h7b,e7k];have e8:(a7.put (s_ ok) (.bool bb)).eval (.tmp ok)=.bool bb:=JJ zaa;have g8:FR w2 g2' (st0++[zzB dx.cells]) (((((fr0.set d2 .junk).set v .junk).set k .junk).set pa (.ptr st0.length 0)).set ok .junk) (a7.put (s_ ok) (.bool bb)):=g7.put (dst:=s_ ok) (λt e=>by cases e;omega) (.junk _);generalize hA8:a7.put (s_ ok) (.bool bb)=a8 at*;have s8:fn.ntmps<=a8.tmps.size:=by rw[<-hA8,It];exact s7
  have f8:a8.defers=[]:=by rw[<-hA8];simp[ybE,f7]
  refine wpSIn_of_wpIn rfl (wpIn_seq (wpIn_region_list ?_));simp only[wpListIn,yaw,h8c,zaj];refine⟨λ_ _=>trivial,?_⟩
  show o8.uponIn _ _ _ _ _ _ ((execOp a8.eval o8).run P w2)
  rw[OP (.inl h8a),ybF,h8b,e8];exact K _ _ _ (by rw[It];exact s8) (by simp[ybE,f8]) (u2.trans u7) (g8.put (dst:=s_ c) (λt e=>by cases e;omega) (.junk _)) (JJ zaa)
 refine⟨?_,?_⟩
 .refine callsDIn_of_wpSIn hfn hc trivial λc₀ cs hu=>?_;rw[ha0];refine wpSIn_seq (wpSIn_region ?_);have hr:recoverD (c₀::cs)=n_:=by simp[recoverD,hu]
  show wpOpsSIn _ _ _ _ _ [0,1,2,3,4,5,6,7] _ _ _
  refine yNb (o:=o0) rfl h0c (mq h0a) hr ?_;rw[h0b];have e1:(a0.put (s_ r) .nilIface).eval (.tmp r)=.nilIface:=JJ zaa;have he1:=yMh (P:=P) ht1 hu1 hi hz (x:=.tmp r) e1 (dst:=o1.dst) (ty:=o1.type) (xt:=xt) (pos:=o1.pos) (after:=o1.after) (guard:=o1.guard) w;rw[ho1]at he1;refine Ls (o:=o1) rfl h1c he1 ?_;rw[h1b];have hSe:SR w.heap.size w g []:=⟨λk o h=>by simp at h,λk o h=>by simp at h,λk k' o o' h=>by simp at h,hS.im,λk o x h=>by simp at h,Au _⟩;refine tail [] w.heap.size (λ_=>.junk) _ z zd f_ _ _ hSe hcl hn (λ_ _ _=>Ui hzd) (λ_=>.junk _) (JJ (by rw[It];omega)) (by rw[It,It];exact hs0') (by simp[ybE,hd0]) ?_;intro a9 w2 g2 s9 f9 hall _ e9;refine wpIn_cond_false e9 (wpIn_skip ?_);have hbl:=hall.below;exact⟨f9,.returning,by rw[<-hu],_,hresults _ _,rfl,rfl,_,hS.more (Im':=g.Im) ⟨hbl.os,hbl.tape,hbl.output,hbl.size⟩ (λb hlt=>hbl.block b hlt) (λ_ _ h=>h) (λ_ _ h=>.inl h) (λb o h=>by rw[(hall.im.im b o h).2];exact hS.im b o h)⟩
 .intro t dv st' hrun;unfold PH3.run at hrun
  split at hrun
  case isFalse=>cases hrun
  rename_i hcnd;obtain⟨rfl,hi',hn'⟩:=hcnd;simp only[A8]at hrun;obtain⟨s',hx,rfl⟩:=hrun;refine callsDIn_of_wpSIn hfn hc trivial λc₀ cs hu=>?_;rw[ha0];refine wpSIn_seq (wpSIn_region ?_);have hr:recoverD (c₀::cs)=s_ (.iface t (GX dv),{c₀ with mode:=.panicking (TT t dv)}::cs):=by simp[recoverD,hu,MJ,TT]
  show wpOpsSIn _ _ _ _ _ [0,1,2,3,4,5,6,7] _ _ _
  refine yNa (o:=o0) rfl h0c (mq h0a) hr ?_;rw[h0b];have e1:(a0.put (s_ r) (.iface t (GX dv))).eval (.tmp r)=.iface t (GX dv):=JJ zaa;have he1:=yMi (P:=P) ht1 hu1 (x:=.tmp r) e1 (dst:=o1.dst) (ty:=o1.type) (xt:=xt) (pos:=o1.pos) (after:=o1.after) (guard:=o1.guard) w;rw[ho1]at he1;have g1:FR w g st ((Du das).set r .junk) (a0.put (s_ r) (.iface t (GX dv))):=hF0.put (dst:=s_ r) (λt e=>by cases e;omega) (.junk _);refine Ls (o:=o1) rfl h1c he1 ?_;rw[h1b];refine tail st base (((Du das).set r .junk).set d .junk) _ (GX dv) dv t_ _ _ hS (Yal hi') hn' (λ_ _ _=>yGd hi') (g1.put (dst:=s_ d) (λt e=>by cases e;rw[It];omega) (.junk _)) (JJ (by rw[It];omega)) (by rw[It,It];exact hs0') (by simp[ybE,hd0]) ?_;intro a9 w2 g2 s9 f9 hall g9 e9;refine wpIn_cond_true e9 ?_;refine yC3 (w0:=w) (g0:=g) (st0:=st) (dl:=[]) hm hl hlex hq hx ⟨g2,hall,g9,hG.mono hall.im,⟨[],by simp[f9],trivial⟩,s9⟩ ?_;rintro a' w' ⟨g',h'⟩ hd';exact⟨by rw[hd',f9],.panicking (TT t dv),rfl,_,hresults _ _,rfl,rfl,g',h'.go1⟩
end
open Go
open D renaming int->I,slc->O,agg->U,bool->V,ptr->Y
open Go.IntKind renaming i64->J
def dS(T:Tbl)(H:HI)(F:PFE)(Q:List D->D->Prop):zsP:=λds=>@dite _ (∃r,(∃k xs ys st3,F.runI GG T H k ds []=s_ (DS xs,st3)/\Ey st3 xs=s_ ys/\r=DS ys)/\Q ds r) (Classical.propDecidable _) (λh=>s_ h.choose) (λ_=>n_)
variable{H:HI}
def jr{T:Tbl}{F:PFE}{f:Nat}(Q:List D->D->Prop)(hI:∀k,zIC f (F.runI GG T H k)):zCC f (dS T H F Q):=by
 intro w g ds vs d hd hG N hlen E _;unfold dS at hd
 split at hd
 .rename_i hx;obtain rfl:=At hd;obtain⟨⟨k,xs,ys,ah,h1,h2,h3⟩,_⟩:=hx.choose_spec;rw[h3];exact yE7 (hI k) h1 h2 w g vs hG N hlen E
 .cases hd
def L3(h:Nat->D->List D->St->Option St)(das:List D)(res:List PRes)(Q:D->Prop)(e:Ex)(fr:Frame)(st:St):Prop:=match e with
 |.exit _=>False
 |.panic t d=>@on _ (h t d das st) ⟨λst3=>@on _ (E8 ⟨fr,st3⟩ res) ⟨λl=>Q (DS l)⟩⟩
 |_=>@on _ (E8 ⟨fr,st⟩ res) ⟨λl=>Q (DS l)⟩
theorem yUw(h:Nat->D->List D->St->Option St)(N:List D)(E:List PRes)(Q:D->Prop)(fr:Frame)(st:St):L3 h N E Q .ret fr st=@on _ (E8 ⟨fr,st⟩ E) ⟨λl=>Q (DS l)⟩:=(rfl)
theorem yMn(h:Nat->D->List D->St->Option St)(N:List D)(E:List PRes)(Q:D->Prop)(fr:Frame)(st:St):L3 h N E Q .next fr st=@on _ (E8 ⟨fr,st⟩ E) ⟨λl=>Q (DS l)⟩:=(rfl)
theorem yGx(h:Nat->D->List D->St->Option St)(E:List D)(N:List PRes)(Q:D->Prop)(t:Nat)(d:D)(fr:Frame)(st:St):L3 h E N Q (.panic t d) fr st=@on _ (h t d E st) ⟨λaa=>@on _ (E8 ⟨fr,aa⟩ N) ⟨λl=>Q (DS l)⟩⟩:=(rfl)
def You{α:Type}{o:Option α}{K:α->Prop}(h:@on _ o ⟨K⟩):∃x,o=s_ x/\K x:=by
 cases o with
 |none=>unfold on at h;exact h.elim
 |some x=>exact⟨x,rfl,by unfold on at h;exact h⟩
theorem eu{T:Tbl}{F:PFE}{Q:List D->D->Prop}{ds:List D}(h:zp GG T F H ds [] (λfr st=>@on _ (E8 ⟨fr,st⟩ F.tail.res) ⟨λl=>Q ds (DS l)⟩) λh a3=>L3 h a3 F.tail.res (Q ds)):∃r,dS T H F Q ds=s_ r/\Q ds r:=by
 have key:∃r,(∃k xs ys E,F.runI GG T H k ds []=s_ (DS xs,E)/\Ey E xs=s_ ys/\r=DS ys)/\Q ds r:=by
  obtain⟨k0,e0,a4,st0,af,hq⟩:=Kp _ _ _ _ (Gr h)
  have fin:∀(k:Nat)(N:Frame)(E:St),@on _ (E8 ⟨N,E⟩ F.tail.res) ⟨λl=>Q ds (DS l)⟩->(∀xs,Ed ⟨N,E⟩ F.tail.res=s_ xs->F.runI GG T H k ds []=s_ (DS xs,E))->∃r,(∃k xs ys E,F.runI GG T H k ds []=s_ (DS xs,E)/\Ey E xs=s_ ys/\r=DS ys)/\Q ds r:=by
   intro k N E hg hx;unfold on at hg
   split at hg
   case h_2=>exact hg.elim
   rename_i ys hy;obtain⟨xs,q1,q2⟩:=kL hy;grind
  cases e0 with
  |exit i=>unfold XH at hq;exact hq.elim
  |panic t x=>unfold XH at hq;exact hq.elim
  |ret=>rw[yL3]at hq;exact fin k0 a4 st0 hq λxs hx=>by simp only[PFE.runI,af k0 (Au _),hx,Ae]
  |next=>
   rw[yGh]at hq;unfold Ig at hq;obtain⟨fr1,st1,g1,g2⟩:=W1 _ _ _ _ hq;simp only at g2;unfold on at g2
   split at g2
   case h_2=>exact g2.elim
   rename_i p ae;simp only at g2
   split at g2
   case h_2=>exact g2.elim
   rename_i h' hh;obtain⟨n,e,N,st',h3,h5⟩:=Kp _ _ _ _ (Gr g2);have m1:=af (k0+n) zaa;have m2:=h3 (k0+n) zaa
   cases e with
   |next=>rw[yMn]at h5;exact fin (k0+n) N st' h5 λxs hx=>by simp only[PFE.runI,PFD.from,m1,g1,ae,hh,m2,hx,Ae]
   |ret=>rw[yUw]at h5;exact fin (k0+n) N st' h5 λxs hx=>by simp only[PFE.runI,PFD.from,m1,g1,ae,hh,m2,hx,Ae]
   |exit id=>unfold L3 at h5;exact h5.elim
   |panic t dd=>
    rw[yGx]at h5;obtain⟨E,h6,h5⟩:=You h5;exact fin (k0+n) N E h5 λxs hx=>by simp only[PFE.runI,PFD.from,m1,g1,ae,hh,m2,h6,hx,Ae]
 exact⟨key.choose,by unfold dS;rw[zbf key],key.choose_spec.2⟩
attribute [irreducible] L3
attribute [push_cast] yUw yMn
def lQ:List PI:=[{dst:=s_ 11,op:=.bld [.str [],I J 0,O 0 [] t_] []},{dst:=s_ 12,op:=.fld 0 (.s 3)},{dst:=s_ 13,op:=.load 1 f_ (.s 12)},{dst:=s_ 14,op:=.fld 1 (.s 3)},{dst:=s_ 15,op:=.load 1 f_ (.s 14)},
 {dst:=n_,op:=.stor 3 (.s 0) (.s 11)},{dst:=n_,op:=.stor 1 (.s 1) (.s 13)},{dst:=n_,op:=.stor 1 (.s 2) (.s 15)}]
def qQ:List (PI×Bool×List Nat):=[({dst:=s_ 11,op:=.bld [.str [],I J 0,O 0 [] t_] []},f_,[]),({dst:=s_ 12,op:=.fld 0 (.s 3)},t_,[]),({dst:=s_ 13,op:=.load 1 f_ (.s 12)},t_,[]),({dst:=s_ 14,op:=.fld 1 (.s 3)},t_,[]),({dst:=s_ 15,op:=.load 1 f_ (.s 14)},t_,[]),
 ({dst:=n_,op:=.stor 3 (.s 0) (.s 11)},f_,[1,2,3,4]),({dst:=n_,op:=.stor 1 (.s 1) (.s 13)},f_,[3,4]),({dst:=n_,op:=.stor 1 (.s 2) (.s 15)},f_,[])]
