/-
  tcode: which instructions are well-formed, what they do to the stack, slices.Repeat.
  Conditions: none; these are lemmas.
-/
import Derived.Test.YtlnmoflpeohkbaaGreatDoorTaR
import Derived.Test.YtlnmoflpeohkbaaGreatDoorFnsC
import Derived.Test.YtlnmoflpeohkbaaGreatDoorFns
import Derived.Test.YtlnmoflpeohkbaaGreatDoorEngW
import Derived.Test.YtlnmoflpeohkbaaGreatDoorCtA
import Derived.Test.YtlnmoflpeohkbaaGreatDoorEngLaw
open Inhabited renaming default->d_
open Bool renaming false->f_,true->t_
open Option renaming some->s_,none->n_
open BitVec renaming ofInt->C8
open Int renaming reduceAdd->Dh,reduceLT->Dj,reduceNatCast'->C5,reduceNeg->Da,reducePow->Di,reduceToNat->Df
open List renaming range->C9,replicate->C7
open Nat renaming reduceAdd->C6,reduceEqDiff->C3,reduceLT->Dd,reduceLeDiff->Db
open UInt64 renaming ofNat->Dq
open UInt8 renaming ofNat->De
set_option maxHeartbeats 8000000
set_option maxRecDepth 20000
set_option linter.unusedSimpArgs false
set_option linter.unusedVariables false
set_option linter.defProp false
noncomputable section
namespace Go.Proofs.YtlnmoflpeohkbaaGreatDoor.PI
open Go
open D renaming int->I,slc->O,agg->U,bool->V,ptr->Y
open Go.IntKind renaming i64->J
open D renaming isCell->yaa
open Go.IntKind renaming bits->yac,wrap->yab
open Sha renaming H0->yaq,St8->yag,block->yah,blocks->yaj,lenB->yap,lenB_length->yam,outB->yan,outB_length->yao,padded->yak,rotr->yad,rounds->yai,sch->yae,sch_length->yaf,zeros->yal
def R0:PH3:={t:=114,js:=[6,7,5,8,9],pa:=3,js2:=[4,10],n:=2,l:=qQ}
def c_hq:Rg Tryz.prog GG 41 (PH3.run GG R0):=
 Yqm (fn:=Tryz.f41) (l:=lQ) (q:=qQ) (z:=.agg #[.int .i64 0,.int .i64 0]) (zd:=.agg [.int .i64 0,.int .i64 0]) (n:=2) (by kernel_rfl) rfl rfl rfl ⟨rfl,rfl,rfl⟩ ⟨rfl,rfl,rfl⟩ ⟨rfl,rfl,rfl⟩ ⟨rfl,rfl,rfl⟩ ⟨rfl,rfl,rfl⟩ ⟨rfl,rfl,rfl⟩ ⟨rfl,rfl,rfl⟩ ⟨rfl,rfl,rfl⟩ ⟨rfl,rfl,rfl⟩ zab zab (by kernel_rfl) (by kernel_rfl) rfl rfl (by kernel_rfl) rfl (by kernel_rfl) (by kernel_rfl) (by kernel_rfl) (by kernel_rfl)
def hQ:HI:=λf=>if f=41 then s_ (PH3.run GG R0)else n_
def ia:∀f h,hQ f=s_ h->Rg Tryz.prog GG f h:=by
 intro f h e;unfold hQ at e
 split at e
 .rename_i hf;simp only[AG]at e;subst e;subst hf;exact c_hq
 .cases e
def GL(nm:zLB)(f:Int)(L:D):PI.Obj:=(zzB [.str nm,I J f,L])
def KO(a:Int):PI.Obj:=(zzB [I J a])
structure OkB (S:St):Prop where
 t:∃nm f L,S[0]?=s_ (GL nm f L)
 a:∃x,S[1]?=s_ (KO x)
 e:∃x,S[2]?=s_ (KO x)
section
variable(nm m:zLB) (f g a b:Int) (L M:D)
theorem YFy:DV (s_ (GL nm f L)) 3 0 (U [.str [],I J 0,O 0 [] t_])=s_ (GL [] 0 (O 0 [] t_)):=rfl
theorem pC:DV (s_ (GL nm f L)) 1 0 (.str m)=s_ (GL m f L):=rfl
theorem Yth:DV (s_ (GL nm f L)) 1 1 (I J g)=s_ (GL nm g L):=rfl
theorem XQ:DB (s_ (GL nm f L)) 1 f_ 2=s_ L:=rfl
theorem Ygh:DB (s_ (GL nm f L)) 3 t_ 0=s_ (U [.str nm,I J f,L]):=rfl
theorem sN:DV (s_ (KO a)) 1 0 (I J b)=s_ (KO b):=rfl
theorem sk:DB (s_ (KO a)) 1 f_ 0=s_ (I J a):=rfl
theorem JN:((zzB [.str nm,I J f,L]):PI.Obj)=GL nm f L:=rfl
theorem eY:((zzB [I J a]):PI.Obj)=KO a:=rfl
theorem fV:DB (s_ (zzB [I J a,I J b])) 1 f_ 0=s_ (I J a):=rfl
theorem fU:DB (s_ (zzB [I J a,I J b])) 1 f_ 1=s_ (I J b):=rfl
theorem UT:DM (U [.str [],I J 0,O 0 [] t_])=s_ [.str [],I J 0,O 0 [] t_]:=rfl
theorem YL0(a:Int):DM (I J a)=s_ [I J a]:=rfl
theorem Yia:Ec [.str [],I J 0,O 0 [] t_] []=s_ [.str [],I J 0,O 0 [] t_]:=rfl
end
theorem g_hd{S:St}(h:OkB S)(a e:Int):∃E,PH3.run GG R0 114 (U [I J a,I J e]) [Y 0 0,Y 1 0,Y 2 0] S=s_ E/\E[0]?=s_ (GL [] 0 (O 0 [] t_))/\E[1]?=s_ (KO a)/\E[2]?=s_ (KO e):=by
 obtain⟨nm,f,L,h0⟩:=h.t;obtain⟨x,h1⟩:=h.a;obtain⟨y,N⟩:=h.e;have hl:=(Aa.1 N).1;have aa:(S++[zzB [I J a,I J e]])[0]?=s_ (GL nm f L):=Fs h0;have ab:(S++[zzB [I J a,I J e]])[1]?=s_ (KO x):=Fs h1;have ac:(S++[zzB [I J a,I J e]])[2]?=s_ (KO y):=Fs N;have ad:(S++[zzB [I J a,I J e]])[S.length]?=s_ (zzB [I J a,I J e]):=zac
 have b0:(0==S.length)=f_:=by rw[beq_eq_false_iff_ne];omega
 have b1:(1==S.length)=f_:=by rw[beq_eq_false_iff_ne];omega
 have b2:(2==S.length)=f_:=by rw[beq_eq_false_iff_ne];omega
 have key:@I8 GG No qQ [] (Qs ((Qs (Du [Y 0 0,Y 1 0,Y 2 0]) R0.js).set R0.pa (Y S.length 0)) R0.js2) (S++[zzB [I J a,I J e]]) ⟨λ_ E=>E[0]?=s_ (GL [] 0 (O 0 [] t_))/\E[1]?=s_ (KO a)/\E[2]?=s_ (KO e)⟩:=by
  unfold qQ;simp only[R0,Qs]
  push_cast(disch:=lia)[↓Fc,Yia,ad,fV,fU,aa,YFy,ab,sN,ac,b0,b1,Ac,A0]
  grind
 unfold I8 at key;obtain⟨a1,st',k1,k2⟩:=W0 _ _ _ _ _ key;refine⟨st',?_,k2⟩;unfold PH3.run;rw[zae ⟨rfl,rfl,rfl⟩]
 show(GB GG No qQ [] _).map _=_
 rw[show D.cells (U [I J a,I J e])=[I J a,I J e]from rfl,k1];rfl
structure Tf where
 name:zLB
 kind:Int
 cls:List Cl
def Kv(t:Tf):D:=U [.str t.name,I J t.kind,O (nz 9 (t.cls.map Ea)) (t.cls.map Ea) f_]
def J2(l:List Cl):Nat:=(l.map λc=>c.ws.length+c.pay.sz).sum
def Yis(l:List Cl)(c:Cl):J2 (l++[c])=J2 l+(c.ws.length+c.pay.sz):=by simp[J2]
structure Tf.ok (t:Tf):Prop where
 pay:∀c∈t.cls,c.pay.ok
 len:t.cls.length<=36
 sz:J2 t.cls<=400
def Yw(ds:List D)(r:D):Prop:=∀s,ds=[.str s]->∃(t:Tf)(a e:Int),r=.tup [Kv t,I J a,I J e]/\(e=0->t.ok)
abbrev TPa:Tbl:=Kw [(40,Yyg)] [(42,MY),(43,r8),(44,Yp),(45,Yo),(46,sA),(47,iCl),(48,UW)]
 [(42,MN),(43,sX),(44,XK),(47,za),(48,U6)]
theorem OkB.ev{S N:St}{k:Nat}(h:OkB S)(E:Ev k S N)(hk:2<k):OkB N:=by obtain⟨nm,f,L,h0⟩:=h.t;obtain⟨x,h1⟩:=h.a;obtain⟨y,h2⟩:=h.e;exact⟨⟨nm,f,L,E.at h0 zaa⟩,⟨x,E.at h1 zaa⟩,⟨y,E.at h2 zaa⟩⟩
theorem eM(l:List D):OL (.clo 41 l) []=s_ (41,l):=rfl
theorem ic:hQ 41=s_ (PH3.run GG R0):=rfl
theorem YLz(z:Nat)(l:List D)(n:Int):DM (U [O z l f_,I J n])=s_ [O z l f_,I J n]:=rfl
theorem zL(z:Nat)(E:List Tk)(n:Int):((zzB [O z (E.map FO) f_,I J n]):PI.Obj)=Nn n z E:=rfl
def YFx(nm:zLB)(f:Int)(L:D)(kr:Nat)(els:List D):DV (s_ (GL nm f L)) 1 2 (D0 kr els)=s_ (GL nm f (D0 kr els)):=by
 have:(D0 kr els).cells=[D0 kr els]:=by unfold D0;split<;>rfl
 simp[DV,GL,this,R7,FZ]
def YFw(nm:zLB)(f:Int)(kr:Nat)(els:List D):DV (s_ (GL nm f (D0 kr els))) 3 0 (U [.str nm,I J f,D0 kr els])=s_ (GL nm f (D0 kr els)):=
 Hs 1 _ _ 3 rfl rfl (by simp only[AQ,Cj,R7];rfl)
def YHt(c:Cl):EZ 9 [Ea c]=s_ (O 9 [Ea c] t_):=by simp[EZ,Ea,D.cells,jP]
theorem YBc(z:Nat)(l:List D)(n:Int):Ec [O 0 [] t_,I J 0] [(0,1,O z l f_),(1,1,I J n)]=s_ [O z l f_,I J n]:=rfl
theorem Yvh(s:zLB)(hs:s.length<=400):zp GG TPa SZ.1 hQ [.str s] [] (λfr st=>@on _ (E8 ⟨fr,st⟩ SZ.1.tail.res) ⟨λl=>Yw [.str s] (DS l)⟩) λh de=>L3 h de SZ.1.tail.res (Yw [.str s]):=by
 have fin:∀(t:Tf)(a e:Int),(e=0->t.ok)->Yw [.str s] (.tup [Kv t,I J a,I J e]):=λt a e h s' q=>by
  grind
 have px:∀{S:St}{fr:PI.Frame}{a e:Int},OkB S->e≠0->fr 2=Y 0 0->fr 3=Y 1 0->fr 4=Y 2 0->L3 (PH3.run GG R0) [Y 0 0,Y 1 0,Y 2 0] SZ.1.tail.res (Yw [.str s]) (.panic 114 (U [I J a,I J e])) fr S:=by
  intro S fr a e hS he f2 f3 f4;obtain⟨S',N,h2,h3,h4⟩:=g_hd hS a e;rw[yGx,N];unfold SZ
  push_cast(disch:=first|omega|decide)[f2,f3,f4,h2,h3,h4,Ygh,sk]
  exact fin ⟨[],0,[]⟩ a e λh=>absurd h he
 obtain⟨ts,a,e,N,h2⟩:=YJ1 s hs;unfold zp SZ
 by_cases he:e=0
 case neg=>
  push_cast(disch:=first|omega|decide)[↓Fc,UT,YL0,JN,eY,Yia,YFy,N,sN,sk,he,Ygh]
  exact fin ⟨[],0,[]⟩ a e λh=>absurd h he
 obtain⟨h3,h4⟩:=h2 he
 have Gk:pk (nz 4 (ts.map FO)) ts:=⟨by cases ts with
  |nil=>exact .inr rfl
  |cons t r=>exact .inl rfl,h3⟩
 have dg:EE [GL [] 0 (O 0 [] t_),KO a,KO 0,Nn (s.length:Int) (nz 4 (ts.map FO)) ts] 3 (s.length:Int) (nz 4 (ts.map FO)) ts:=⟨rfl,Gk⟩;have cb:OkB [GL [] 0 (O 0 [] t_),KO a,KO 0,Nn (s.length:Int) (nz 4 (ts.map FO)) ts]:=⟨⟨_,_,_,rfl⟩,⟨_,rfl⟩,⟨_,rfl⟩⟩
 push_cast(disch:=first|omega|decide)[UT,YL0,JN,eY,N,sN,sk,he,eM,ic,YBc,YLz,zL]
 rcases O2 [116,97,114,105,102,102] dg with⟨_,S1,c1,l1,a1,a2,a3,a4,_⟩|⟨_,a0,x,y,S1,a1,a2,a3⟩
 case inr=>
  push_cast(disch:=first|omega|decide)[a0,a1]
  exact px (cb.ev a3 zab) a2 rfl rfl rfl
 have ac:=cb.ev a2 zab;have t1:S1[0]?=s_ (GL [] 0 (O 0 [] t_)):=a2.at rfl zab;rcases Yud a3 with⟨_,E,c2,l2,b1,b2,b3,b4,b5,nm,rfl⟩|⟨_,b0,x,y,E,b1,b2,b3⟩
 case inr=>
  push_cast(disch:=first|omega|decide)[a1,b0,b1]
  exact px (ac.ev b3 zab) b2 rfl rfl rfl
 have put:∀{S:St}{c:Nat}{l:List Tk}(nm:zLB)(f:Int)(L:D),OkB S->EE S 3 (s.length:Int) c l->OkB (S.set 0 (GL nm f L))/\(S.set 0 (GL nm f L))[0]?=s_ (GL nm f L)/\EE (S.set 0 (GL nm f L)) 3 (s.length:Int) c l:=by
  intro S c l nm f L hS hp;have hl:0<S.length:=by have:=(Aa.1 hp.1).1;omega
  obtain⟨x,N⟩:=hS.a;obtain⟨y,h2⟩:=hS.e;exact⟨⟨⟨nm,f,L,Ap hl⟩,⟨x,by rw[Ac zab];exact N⟩,⟨y,by rw[Ac zab];exact h2⟩⟩,Ap hl,⟨by rw[Ac zab];exact hp.1,hp.2⟩⟩
 have t2:=b2.at t1 zab;obtain⟨cc,t3,p3⟩:=put nm 0 (O 0 [] t_) (ac.ev b2 zab) b3;rcases O2 [102,111,114] p3 with⟨_,S4,c4,l4,d1,d2,d3,d4,_⟩|⟨_,d0,x,y,S4,d1,d2,d3⟩
 case inr=>
  push_cast(disch:=first|omega|decide)[a1,b1,t2,pC,d0,d1]
  exact px (cc.ev d3 zab) d2 rfl rfl rfl
 have cd:=cc.ev d2 zab;have t4:=d2.at t3 zab;have eK:([104,105,114,101,32,100,101,109,117,114,114,97,103,101,32,102,114,101,105,103,104,116,32,114,101,112,97,105,114,32,108,111,115,115,32,99,108,101,97,110,105,110,103]:zLB)=wK:=rfl;rcases oz gQ d3 with⟨_,S5,c5,l5,e1,e2,e3,e4,e5,i,rfl,e6,e7⟩|⟨_,e0,x,y,S5,e1,e2,e3⟩
 case inr=>
  push_cast(disch:=first|omega|decide)[a1,b1,t2,pC,d1,eK,e0,e1]
  exact px (cd.ev e3 zab) e2 rfl rfl rfl
 have e7:i<6:=e7 _ _ _ rfl gQ;have t5:=e2.at t4 zab;obtain⟨ce,t6,p6⟩:=put nm (1+i) (O 0 [] t_) (cd.ev e2 zab) e3;rcases O2 [123] p6 with⟨_,S7,c7,l7,f1,f2,f3,f4,_⟩|⟨_,f0,x,y,S7,f1,f2,f3⟩
 case inr=>
  push_cast(disch:=first|omega|decide)[a1,b1,t2,pC,d1,eK,e1,D5,t5,Yth,f0,f1]
  exact px (ce.ev f3 zab) f2 rfl rfl rfl
 have d7:=ce.ev f2 zab;have t7:=f2.at t6 zab;obtain⟨a8,S8,c8,l8,g1,g2,g3,g4⟩:=XN f3
 push_cast(disch:=first|omega|decide)[a1,b1,t2,pC,d1,eK,e1,D5,t5,Yth,f1,g1]
 refine NP (λi:Int×St×Nat=>[(2,Y 0 0),(3,Y 1 0),(4,Y 2 0),(6,Y 3 0),(7,I J i.1)]) (λi=>i.2.1)
  (λj=>∃kr cls c l',OkB j.2.1/\j.2.1[0]?=s_ (GL nm (1+i) (D0 kr (cls.map Ea)))/\(EE j.2.1 3 (s.length:Int) c l'/\DR l'=j.2.2)/\((cls.map Ea≠[]->3<kr/\j.2.1[kr]?=s_ (FC 9 (cls.map Ea)))/\∀c∈cls,c.pay.ok)/\J2 cls+11*cls.length+j.2.2<=400)
  (λj=>j.2.2) (a8,S8,DR l8) (by push_cast<;>rfl) ⟨0,[],c8,l8,d7.ev g2 zab,g2.at (show S7[0]?=s_ (GL nm (1+i) (D0 0 (([]:List Cl).map Ea)))from t7) zab,⟨g3,rfl⟩,⟨λh=>absurd rfl h,λc hc=>by cases hc⟩,by simp[J2];omega⟩ ?_
 rintro⟨a,S,w⟩ ⟨kr,cls,c,l',q1,q2,⟨q3,rfl⟩,⟨q4,q5⟩,q6⟩;dsimp only at q1 q2 q3 q4 q6;obtain⟨b,S1,c1,l1,a1,a2,a3,a4,a5⟩:=O1 [99,108,97,117,115,101] q3;have ac:=q1.ev a2 zab;have t1:=a2.at q2 zab;have r1:cls.map Ea≠[]->kr≠3/\S1[kr]?=s_ (FC 9 (cls.map Ea)):=λh=>⟨by have:=(q4 h).1;omega,a2.at (q4 h).2 (by have:=(q4 h).1;omega)⟩
 cases b with
 |true=>
  have a5:DR l1+6<=DR l':=a5 rfl;have cf:¬(cls.length:Int)=64:=zaa
  rcases g_cl a3 zaa r1 zaa with⟨d,E,c2,l2,b1,b2,b3,b4,cl,x1,x2,x3,x4⟩|⟨_,b0,x,y,E,b1,b2,b3⟩
  case inr=>
   push_cast(disch:=first|omega|decide)[a1,t1,XQ,QO λh=>(r1 h).2,Az,cf]
   refine pI (by push_cast(disch:=first|omega|decide)[t1,XQ,b0,zak]) ?_
   push_cast(disch:=first|omega|decide)[↓Fc,t1,XQ,b0,b1]
   exact px (ac.ev b3 zab) b2 rfl rfl rfl
  have t2:=b2.at t1 zab;have h5:=(Aa.1 a3.1).1
  have h6:Tl [0] S1 E:=λq hq=>by
   obtain rfl:=AU.1 hq;exact⟨zaa,by rw[t1,t2]⟩
  have h7:∀q∈keys d,S1.length<=q:=λq hq=>(x3 q (qI hq)).1;have old:∀j<S1.length,(lend (keys d) E)[j]?=E[j]?:=λj hj=>Y1 λh=>absurd (h7 _ h) zaa;have ad:=ac.ev b2 zab
  have bc:OkB (lend (keys d) E):=by
   obtain⟨bg,f',L',h0⟩:=ad.t;obtain⟨x,N⟩:=ad.a;obtain⟨y,h2⟩:=ad.e;exact⟨⟨bg,f',L',(old 0 zaa).trans h0⟩,⟨x,(old 1 zaa).trans N⟩,⟨y,(old 2 zaa).trans h2⟩⟩
  have tL:=(old 0 zaa).trans t2;have pL:EE (lend (keys d) E) 3 (s.length:Int) c2 l2:=⟨(old 3 h5).trans b3.1,b3.2⟩
  have rL:cls.map Ea≠[]->(lend (keys d) E)[kr]?=s_ (FC 9 (cls.map Ea)):=λh=>by
   have N:=r1 h;exact(old kr (Aa.1 N.2).1).trans (b2.at N.2 N.1)
  push_cast(disch:=first|omega|decide)[a1,t1,XQ,QO λh=>(r1 h).2,Az,cf]
  refine oj (om ?_)
  push_cast(disch:=first|omega|decide)[t1,XQ,b1,zap h6,x2,YHt]
  generalize lend (keys d) E=L at bc tL pL rL;obtain⟨bh,L',m1,m2,m3,m4,m5,m6⟩:=XL (by':=112) (Ea cl) zab rL (by simp;omega);have ne:=(Aa.1 pL.1).1;have a7:∀j,j<=3->L'[j]?=L[j]?:=λj hj=>m4 j zaa λh=>by have:=(q4 h).1;omega
  have dc:OkB L':=by
   obtain⟨bg,f',L',h0⟩:=bc.t;obtain⟨x,N⟩:=bc.a;obtain⟨y,h2⟩:=bc.e;exact⟨⟨bg,f',L',(a7 0 zab).trans h0⟩,⟨x,(a7 1 zab).trans N⟩,⟨y,(a7 2 zab).trans h2⟩⟩
  have ka:=(a7 0 zab).trans tL;obtain⟨kb,t5,p5⟩:=put nm (1+i) (D0 bh (cls.map Ea++[Ea cl])) dc ⟨(a7 3 zab).trans pL.1,pL.2⟩;obtain⟨a9,S9,c9,l9,g1,g2,g3,g4⟩:=XN p5
  have kd:3<bh:=by
   by_cases h:cls.map Ea=[]
   .simp_all
   .simp_all
  push_cast(disch:=first|omega|decide)[m1,ka,YFx,g1]
  refine EV (a9,S9,DR l9) ⟨bh,cls++[cl],c9,l9,kb.ev g2 zab,by rw[A1];exact g2.at t5 zab,⟨g3,rfl⟩,⟨λ_=>⟨kd,g2.at (by rw[Ac zaa,A1];exact m2) zaa⟩,λx hx=>?_⟩,by rw[Yis];simp only[Ag,List.length_singleton];omega⟩ (by dsimp only;omega) ?_
  .rcases AK.1 hx with h|h
   .exact q5 x h
   .simp_all
  .rfl
 |false=>
 rcases O2 [125] a3 with⟨_,E,c2,l2,b1,b2,b3,b4,_⟩|⟨_,b0,x,y,E,b1,b2,b3⟩
 case inr=>
  push_cast(disch:=first|omega|decide)[a1,b0,b1]
  exact px (ac.ev b3 zab) b2 rfl rfl rfl
 have ad:=ac.ev b2 zab;have t2:=b2.at t1 zab;have cg:=b3.1
 cases l2 with
 |cons t r=>
  obtain⟨g0,x,y,S3,g1,g2,g3⟩:=aY b3;have dd:(0:Int)<(r.length:Int)+1:=zaa
  push_cast(disch:=first|omega|decide)[a1,b1,cg,dd,g0,g1]
  exact px (ad.ev g3 zab) g2 rfl rfl rfl
 |nil=>
  obtain⟨x,x1⟩:=ad.a;obtain⟨y,y1⟩:=ad.e;have nf:=(Aa.1 b3.1).1;have ke:∀o,(E.set 0 o)[1]?=s_ (KO x):=λo=>by rw[Ac zab];exact x1
  have kf:∀o p,((E.set 0 o).set 1 p)[2]?=s_ (KO y):=λo p=>by rw[Ac zab,Ac zab];exact y1
  have r2:cls.map Ea≠[]->kr≠0/\kr≠1/\kr≠2/\E[kr]?=s_ (FC 9 (cls.map Ea)):=λh=>by
   have N:=r1 h;have h2:=(q4 h).1;exact⟨zaa,zaa,zaa,b2.at N.2 N.1⟩
  have F0:∀o p q,(((E.set 0 o).set 1 p).set 2 q)[0]?=s_ o:=λo p q=>by rw[Ac zab,Ac zab,Ap zaa]
  have F1:∀o p q,(((E.set 0 o).set 1 p).set 2 q)[1]?=s_ p:=λo p q=>by rw[Ac zab,Ap (by simp;omega)]
  have F2:∀o p q,(((E.set 0 o).set 1 p).set 2 q)[2]?=s_ q:=λo p q=>Ap (by simp;omega)
  have hi:DO (((E.set 0 (GL nm (1+i) (D0 kr (cls.map Ea)))).set 1 (KO 0)).set 2 (KO 0)) (D0 kr (cls.map Ea))=s_ (O (nz 9 (cls.map Ea)) (cls.map Ea) f_):=V4 λh=>by
   have:=r2 h;rw[Ac (Ne.symm this.2.2.1),Ac (Ne.symm this.2.1),Ac (Ne.symm this.1)];simp_all
  push_cast(disch:=first|omega|decide)[a1,b1,cg,As,t2,Ygh,ke,kf,sN,YFw,F0,F1,F2,sk,hi]
  exact fin ⟨nm,1+i,cls⟩ 0 0 λ_=>⟨q5,by dsimp only;omega,by dsimp only;omega⟩
abbrev zG:zsP:=dS TPa hQ SZ.1 Yw
def g_pa(s:zLB)(E:s.length<=400):∃(t:Tf)(a e:Int),zG [.str s]=s_ (.tup [Kv t,I J a,I J e])/\(e=0->t.ok):=by obtain⟨r,N,h2⟩:=eu (Yvh s E);obtain⟨d,a,e,rfl,h3⟩:=h2 s rfl;exact⟨d,a,e,N,h3⟩
def jk:CP 14 zG:=
 jr Yw λk=>Yhu (T:=TPa) (KV (all_cons YBx all_nil) (all_cons Tu.1 (all_cons pO.1 (all_cons Sw.1 (all_cons pN (all_cons Tt (all_cons YLf.1 (all_cons P9.1 all_nil))))))) (all_cons Tu.2 (all_cons pO.2 (all_cons Sw.2 (all_cons YLf.2 (all_cons P9.2 all_nil)))))) rfl SZ.2 ia k
def QE(V:List D->D->Prop)(ds:List D)(st:St)(o:Rs):Prop:=∃d,o=.inl (d,st)/\V ds d
variable{st:St}
theorem Yw9{T:Tbl}{F:PF}{V:List D->D->Prop}{ds:List D}(h:@wW GG T F.code (Du ds) st ⟨Eu F.res (QE V ds st)⟩):∃d,GF T F (QE V) ds st=s_ (d,st)/\V ds d:=by
 rcases sU h with⟨d,st',E,d',e,N⟩|⟨_,t,d,st',_,d',e,_⟩
 .grind
 .cases e
def sZ(_:List D)(d:D):Prop:=∃s,d=.str s/\s.length<=4096
def TG(L:List Bool):PI.Obj:=(zzB (L.map D.bool))
variable{L:List Bool}
def cE{b:Nat}(hb:st[b]?=s_ (TG L))(E:L.length=256)(a:UInt8):@wW GG (tb [] []) au.1.code (Du [Y b 0,I .u8 (a.toNat:Int)]) st ⟨Eu au.1.res (QE VB [Y b 0,I .u8 (a.toNat:Int)] st)⟩:=by
 have ha:=a.toNat_lt;have hl:DB (s_ (TG L)) 1 f_ a.toNat=s_ (V (L.getD a.toNat d_)):=vu _ _ _ _ _ zaa;unfold au
 push_cast(disch:=lia)[Mz,Ar,AH,hb,hl]
 exact⟨_,rfl,_,rfl⟩
abbrev VE:SI:=GF (tb [] []) au.1 (QE VB)
theorem YJ4{b:Nat}(hb:st[b]?=s_ (TG L))(E:L.length=256)(a:UInt8):∃v,VE [Y b 0,I .u8 (a.toNat:Int)] st=s_ (V v,st):=by obtain⟨_,h,v,rfl⟩:=Yw9 (cE hb E a);grind
abbrev N9:Tbl:=tb [] [(173,VE)]
def bL{b:Nat}(hb:st[b]?=s_ (TG L))(hL:L.length=256)(s:zLB)(hs:s.length<=4096):@wW GG N9 ai.1.code (Du [.str s,Y b 0]) st ⟨Eu ai.1.res (QE sZ [.str s,Y b 0] st)⟩:=by
 unfold ai
 push_cast(disch:=lia)
 refine NP (λt:zLB=>[(0,.str t),(1,Y b 0)]) (λ_=>st) (λt=>t.length<=4096) (λt=>t.length) s (by push_cast<;>rfl) hs ?_;intro t N
 cases t with
 |nil=>
  push_cast(disch:=lia)[As]
  exact⟨_,rfl,_,rfl,N⟩
 |cons a l=>
  have E:(0:Int)<(l.length:Int)+1:=zaa
  obtain⟨v,hv⟩:=YJ4 hb hL a;have hx:Jf (.str (a::l)) (I J 0)=s_ (I .u8 (a.toNat:Int)):=rfl;have ab:GS st 0 (.str (a::l)) (s_ (I J 1)) n_ n_=s_ (.str l):=by simp[GS,GV,FA,AE]
  cases v with
  |false=>
   push_cast(disch:=lia)[An,E,hx,hv]
   exact⟨_,rfl,_,rfl,N⟩
  |true=>
   push_cast(disch:=lia)[An,E,hx,hv,ab]
   refine EV l (by simp at N⊢;omega) zac ?_;rfl
def bK{b:Nat}(hb:st[b]?=s_ (TG L))(hL:L.length=256)(s:zLB)(hs:s.length<=4096):@wW GG N9 al.1.code (Du [.str s,Y b 0]) st ⟨Eu al.1.res (QE sZ [.str s,Y b 0] st)⟩:=by
 unfold al
 push_cast(disch:=lia)
 refine NP (λt:zLB=>[(0,.str t),(1,Y b 0)]) (λ_=>st) (λt=>t.length<=4096) (λt=>t.length) s (by push_cast<;>rfl) hs ?_;intro t N
 by_cases h0:0<t.length
 case neg=>
  have E:¬(0:Int)<t.length:=zaa
  push_cast(disch:=lia)[E]
  exact⟨_,rfl,_,rfl,N⟩
 have E:(0:Int)<t.length:=zaa
 have hi:0<=(t.length:Int)-1:=zaa
 have hx:Jf (.str t) (I J ((t.length:Int)-1))=s_ (I .u8 ((t.getD ((t.length:Int)-1).toNat d_).toNat:Int)):=NJ t J _ hi zaa;have ab:GS st 0 (.str t) n_ (s_ (I J ((t.length:Int)-1))) n_=s_ (.str (t.take ((t.length:Int)-1).toNat)):=W7 hi zaa;obtain⟨v,hv⟩:=YJ4 hb hL (t.getD ((t.length:Int)-1).toNat d_)
 cases v with
 |false=>
  push_cast(disch:=lia)[E,FL,hx,hv]
  exact⟨_,rfl,_,rfl,N⟩
 |true=>
  push_cast(disch:=lia)[E,FL,hx,hv,ab]
  refine EV (t.take ((t.length:Int)-1).toNat) (by rw[AJ];omega) (by rw[AJ];omega) ?_;rfl
abbrev iTrl:SI:=GF N9 ai.1 (QE sZ)
abbrev iTrr:SI:=GF N9 al.1 (QE sZ)
def Yxe:zsP:=yjr.1.run GG (tb [] []) 400
def YKx:CP 161 Yxe:=pS (T:=tb [] []) (DP all_nil all_nil) rfl yjr.2 400
def cW:zLB:=[97,98,99,100,101,102,103,104,105,106,107,108,109,110,111,112,113,114,115,116,117,118,119,120,121,122,48,49,50,51,52,53,54,55,56,57]
def cL:List Bool:=(C9 256).map λi=>decide (48<=i/\i<=57)||decide (97<=i/\i<=122)
def je:Yxe [.str cW]=s_ (.tup [U (cL.map D.bool),V t_]):=by kernel_rfl
abbrev VP:Tbl:=tb [(161,Yxe)] [(162,iTrl),(163,iTrr)]
def YL5:DM (U (C7 256 (V f_)))=s_ (C7 256 (V f_)):=by
 have:(C7 256 (D.bool f_)).all yaa=t_:=by rw[Ad];intro x E;rw[List.eq_of_mem_replicate E];rfl
 unfold DM;rw[show D.cells (U (C7 256 (V f_)))=C7 256 (V f_)from rfl,zae this]
def Ykg:cL.length=256:=by simp[cL]
def dO:DV (s_ (zzB (C7 256 (V f_)))) 256 0 (U (cL.map D.bool))=s_ (TG cL):=
 Hs 1 _ _ 256 (BT ..) (by rw[Az,Ykg]) (by rw[CW,Ad];exact λ_ _=>rfl)
def kC(_:List D)(r:D):Prop:=∃s,r=.str s
def YD7(s:zLB)(N:s.length<=4096):@wW GG VP ZN.code (Du [.str s,.str cW]) [] ⟨FP ZN.res (kC [.str s,.str cW])⟩:=by
 have c0:¬cW=[]:=zab
 have c1:¬((cW.length:Nat):Int)=1:=zab
 unfold ZN
 by_cases E:s=[]
 .simp(disch:=first|omega|decide) only[push_cast,↓reduceIte,C3,E];exact⟨_,rfl⟩
 .obtain⟨_,h1,t,rfl,ht⟩:=Yw9 (bK (st:=[TG cL]) (b:=0) rfl Ykg s N);obtain⟨_,h2,u,rfl,_⟩:=Yw9 (bL (st:=[TG cL]) (b:=0) rfl Ykg t ht);simp(disch:=first|omega|decide) only[push_cast,↓reduceIte,C3,E,c0,c1,je,YL5,dO,h1,h2];exact⟨_,rfl⟩
abbrev Yyf:zsP:=Ii VP ZN kC
theorem YJ0(s:zLB)(E:s.length<=4096):∃t,Yyf [.str s,.str cW]=s_ (.str t):=by obtain⟨_,h,t,rfl⟩:=I2 (YD7 s E);simp_all
def Yum:CI 173 VE:=(HJ _ au.2 (DP all_nil all_nil)).1
def YBw:CP 134 Yyf:=I0 (T:=VP) _ yCd (DP (all_cons YKx all_nil) (all_cons (HJ (T:=N9) _ ai.2 (DP all_nil (all_cons Yum all_nil))).1 (all_cons (HJ (T:=N9) _ al.2 (DP all_nil (all_cons Yum all_nil))).1 all_nil)))
def QD(_:List D)(r:D):Prop:=∃b:Bool,r=V b
abbrev TWo:Tbl:=tb [(134,Yyf)] []
def YDv(s:zLB):@wW GG TWo ZL.1.code (Du [.str s]) [] ⟨FP ZL.1.res (QD [.str s])⟩:=by
 have eW:([97,98,99,100,101,102,103,104,105,106,107,108,109,110,111,112,113,114,115,116,117,118,119,120,121,122,48,49,50,51,52,53,54,55,56,57]:zLB)=cW:=rfl;unfold ZL
 by_cases h1:s.length<=32
 case neg=>
  have E:¬(s.length:Int)<=32:=zaa
  push_cast(disch:=lia)[E]
  exact⟨_,rfl⟩
 have E:(s.length:Int)<=32:=zaa
 cases s with
 |nil=>
  push_cast(disch:=lia)[zah,zau,zai]
  exact⟨_,rfl⟩
 |cons b l=>
  have N:Jf (.str (b::l)) (I J 0)=s_ (I .u8 (b.toNat:Int)):=rfl;have hn:¬(b::l)=[]:=zac
  obtain⟨t,ht⟩:=YJ0 (b::l) zaa;have E:(l.length:Int)+1<=32:=by simpa using E
  by_cases h2:97<=(b.toNat:Int)
  .by_cases h3:(b.toNat:Int)<=122
   .push_cast(disch:=lia)[E,hn,zak,zah,N,h2,h3,eW,ht]
    exact⟨_,rfl⟩
   .push_cast(disch:=lia)[E,hn,zak,zah,N,h2,h3]
    exact⟨_,rfl⟩
  .push_cast(disch:=lia)[E,hn,zak,zah,N,h2]
   exact⟨_,rfl⟩
abbrev Yye:zsP:=Ii TWo ZL.1 QD
theorem Yub(s:zLB):∃b,Yye [.str s]=s_ (V b):=by obtain⟨_,h,b,rfl⟩:=I2 (YDv s);simp_all
def YBv:CP 90 Yye:=I0 (T:=TWo) _ ZL.2 (DP (all_cons YBw all_nil) all_nil)
theorem GG_k:GG 3=s_ (U (Sha.K.map wD)):=rfl
def jL(k:Int):DI .and (I .u64 (yab .u64 k)) (I .u64 31)=s_ (I .u64 ((k%32).toNat:Int)):=by
 have h:(C8 (yac .u64) (yab .u64 k) &&& C8 (yac .u64) 31).toNat=(k%32).toNat:=by
  show(C8 64 (yab .u64 k) &&& C8 64 31).toNat=_
  rw[CU,show(C8 64 31).toNat=2^5-1 from rfl,BL,BitVec.toNat_ofInt];simp[yab,IntKind.signed,yac];omega
 simp only[DI,zaj,MB,Ae,h,Y5]
 congr 2
 omega
def vM:=DL (α:=UInt32×Int) (λa=>[wD a.1,I J a.2]) (λa=>-31<=a.2/\a.2<=-1) (λa=>wD (yad a.1 (-a.2).toNat))
def yO8(x:UInt32)(k:Int)(h:-31<=k/\k<=-1):vM [wD x,I J k]=s_ (wD (yad x (-k).toNat)):=
 EL (λ⟨a0,a1⟩⟨b0,b1⟩h=>by simp only[Ab,D.int.injEq,yTq,zal,zag]at h;simp[h]) (x,k) h
theorem YEi(x:UInt32)(k:Int)(h:-31<=k/\k<=-1):@wW GG (tb [] []) oc.1.code (Du [wD x,I J k]) [] ⟨DN oc.1.res (wD (yad x (-k).toNat))⟩:=by
 obtain⟨h1,h2⟩:=h;have E:∃s:Nat,(k%32).toNat=s/\0<s/\s<32/\(-k).toNat=32-s:=⟨(k%32).toNat,rfl,zaa,zaa,zaa⟩;obtain⟨s,N,e2,e3,e4⟩:=E
 have e:DI .sub (I .u64 32) (I .u64 (s:Int))=s_ (I .u64 ((32-s:Nat):Int)):=by
  simp only[DI,zaj,Mo,Ae];rw[show(32-(s:Int))=((32-s:Nat):Int) by omega,Y5,A3 zaa]
 have hc:∀st,Gm st (.int .u64) (I J k)=s_ (I .u64 (yab .u64 k)):=λ_=>rfl
 have e5:yad x (32-s)=x <<< UInt32.ofNat s ||| x >>> UInt32.ofNat (32-s):=by
  unfold yad;grind
 unfold oc
 push_cast [hc,jL,N,e,YGk _ _ _ e3,YGg x .u64 (32-s) zaa,eP,e4,e5]
def YLo:zCC 171 vM:=
 EM oc.2 (DP all_nil all_nil) (λa h=>YEi a.1 a.2 h)
def IF(b:zLB)(i:Nat):List UInt32:=yae b i++C7 (64-i) 0
def yCw(b:zLB)(i:Nat)(h:i<=64):(IF b i).length=64:=by simp[IF,yaf];omega
def Ym4(b:zLB)(i j:Nat)(h:j<i):(IF b i).getD j d_=(yae b i).getD j 0:=by
 have E:j<(yae b i).length:=by rw[yaf];exact h
 simp[IF,Am,Aw E,E]
def yUn(b:zLB)(i:Nat)(v:UInt32)(h:i<64)(hv:yae b (i+1)=yae b i++[v]):(IF b i).set i v=IF b (i+1):=by have E:(yae b i).length=i:=yaf b i;unfold IF;rw[hv,Ck _ _ zaa,E,BQ,show 64-i=(64-(i+1))+1 by omega,B3,Bw,Al];rfl
def YGn(b:zLB)(i:Nat)(h:i<16):yae b (i+1)=yae b i++[Sha.word b i]:=by simp[yae,h]
def YGo(b:zLB)(i:Nat)(h:16<=i):yae b (i+1)=yae b i++[(yae b i).getD (i-16) 0+Sha.sig0 ((yae b i).getD (i-15) 0)+(yae b i).getD (i-7) 0+Sha.sig1 ((yae b i).getD (i-2) 0)]:=by simp[yae,CY.2 h]
def add8(s t:yag)(i:Nat)(h:i<8):(((s.add t).list.take i++s.list.drop i).set i (((s.add t).list.take i++s.list.drop i).getD i d_+t.list.getD i d_))=(s.add t).list.take (i+1)++s.list.drop (i+1):=by rcases i with _|_|_|_|_|_|_|_|i<;>first|rfl|omega
def xS:=DL (α:=yag×zLB) (λa=>[U (Sha.St8.list a.1 |>.map wD),O (nz 1 (a.2.map DK)) (a.2.map DK) f_]) (λa=>a.2.length=64) (λa=>U ((yah a.1 a.2).list.map wD))
def yIc(s:yag)(b:zLB)(h:b.length=64):xS [U (Sha.St8.list s |>.map wD),O (nz 1 (b.map DK)) (b.map DK) f_]=s_ (U ((yah s b).list.map wD)):=
 EL (λ⟨a0,a1⟩⟨b0,b1⟩h=>by simp only[Ab,D.slc.injEq,D.agg.injEq,xX,yLt,Sha.St8.list_iff,zag]at h;simp[h]) (s,b) h
theorem Yvw(s:yag)(b:zLB)(h:b.length=64):@wW GG (tb [(171,vM)] []) nv.1.code (Du [U (Sha.St8.list s |>.map wD),O (nz 1 (b.map DK)) (b.map DK) f_]) [] ⟨DN nv.1.res (U ((yah s b).list.map wD))⟩:=by
 unfold nv
 push_cast
 refine Gn (λi:Nat=>[(1,O (nz 1 (b.map DK)) (b.map DK) f_),(2,Y 0 0),(4,Y 1 0),(5,Y 2 0),(19,I J (i:Int))])
  (λi=>[zzB (s.list.map wD),zzB ((zW 8).map wD),zzB ((IF b i).map wD)]) (λi=>i<=16) (λi=>16-i) 0 (by push_cast [↓C5]<;>rfl) zaa ?_
 intro i hi
 push_cast
 refine Fm (λh1=>?_) (λh1=>?_)
 .have ad:i<16:=zaa
  have E:(4*(i:Int)).toNat=4*i:=zaa
  have N:(4*(i:Int)+1).toNat=4*i+1:=zaa
  have e2:(4*(i:Int)+2).toNat=4*i+2:=zaa
  have e3:(4*(i:Int)+3).toNat=4*i+3:=zaa
  have hl:(IF b i).length=64:=yCw b i zaa;have hw:=yUn b i (Sha.word b i) zaa (YGn b i ad);simp(disch:=omega) only[push_cast,↓reduceIte,C3,Dd,Db,C6,Df,O8,D5,Mr,YB3,YGj,eP,Mz,E,N,e2,e3];refine EV (i+1) zaa zaa ?_;rw[<-hw];rfl
 .obtain rfl:i=16:=zaa
  push_cast [↓C5]
  refine Gn (λi:Nat=>[(2,Y 0 0),(4,Y 1 0),(5,Y 2 0),(7,I J (i:Int))])
   (λi=>[zzB (s.list.map wD),zzB ((zW 8).map wD),zzB ((IF b i).map wD)]) (λi=>16<=i/\i<=64) (λi=>64-i) 16 (by push_cast [↓C5]<;>rfl) zaa ?_
  intro i hi
  push_cast
  refine Fm (λh2=>?_) (λh2=>?_)
  .have hl:(IF b i).length=64:=yCw b i zaa;have hw:=yUn b i _ zaa (YGo b i zaa);have E:((i:Int)-15).toNat=i-15:=zaa
   have N:((i:Int)-2).toNat=i-2:=zaa
   have e2:((i:Int)-16).toNat=i-16:=zaa
   have e3:((i:Int)-7).toNat=i-7:=zaa
   simp(disch:=omega) only[push_cast,↓reduceIte,C3,Dd,Db,C6,Df,Da,FL,D5,Mz,yO8,YDt,Ytk,YDh,E,N,e2,e3,Ym4];refine EV (i+1) zaa zaa ?_;rw[<-hw];rfl
  .obtain rfl:i=64:=zaa
   have ac:IF b 64=yae b 64:=by simp[IF]
   have hl:(yae b 64).length=64:=yaf b 64;have a2:s.list.length=8:=rfl;have a3:(zW 8).length=8:=rfl;simp(disch:=first|omega|rfl) only[push_cast,↓reduceIte,C3,C6,Dj,Da,↓C5,ac]
   refine Gn (λi:Nat=>[(2,Y 0 0),(4,Y 1 0),(5,Y 2 0),(12,Y 3 0),(102,I J (i:Int))])
    (λi=>[zzB (s.list.map wD),zzB ((zW 8).map wD),zzB ((yae b 64).map wD),zzB ((yai (yae b 64) s i).list.map wD)]) (λi=>i<=64) (λi=>64-i) 0 (by push_cast [↓C5]<;>rfl) zaa ?_
   intro i hi
   push_cast
   refine Fm (λh3=>?_) (λh3=>?_)
   .have hK:Sha.K.length=64:=rfl;have hn:yai (yae b 64) s (i+1)=Sha.round (yai (yae b 64) s i) (Sha.K.getD i 0) ((yae b 64).getD i 0):=rfl;generalize yai (yae b 64) s i=r at hn;simp(disch:=omega) only[push_cast,↓reduceIte,C3,Dd,Db,C6,Df,Da,Sha.St8.list,Mz,Yhi,J9 _ _ _ _ GG_k,yO8,YDt,jK,eZ,YDh,D5];refine EV (i+1) zaa zaa ?_;rw[hn];rfl
   .obtain rfl:i=64:=zaa
    have hb:yah s b=s.add (yai (yae b 64) s 64):=rfl;rw[hb];generalize yai (yae b 64) s 64=r
    push_cast [↓C5]
    refine Gn (λi:Nat=>[(2,Y 0 0),(4,Y 1 0),(12,Y 3 0),(182,I J (i:Int))])
     (λi=>[zzB (((s.add r).list.take i++s.list.drop i).map wD),zzB ((zW 8).map wD),zzB ((yae b 64).map wD),zzB (r.list.map wD)]) (λi=>i<=8) (λi=>8-i) 0 (by push_cast [↓C5]<;>rfl) zaa ?_
    intro i hi
    have a4:((s.add r).list.take i++s.list.drop i).length=8:=by
     simp only[Ag,AJ,AL,Sha.St8.list_length];omega
    have a5:r.list.length=8:=rfl
    push_cast
    refine Fm (λh4=>?_) (λh4=>?_)
    .have ha:=add8 s r i zaa;simp(disch:=omega) only[push_cast,↓reduceIte,C3,Dd,Db,C6,Mz,YDh,D5];refine EV (i+1) zaa zaa ?_;grind
    .obtain rfl:i=8:=zaa
     have e8:(s.add r).list.take 8++s.list.drop 8=(s.add r).list:=rfl;have a6:(s.add r).list.length=8:=rfl;simp(disch:=first|omega|rfl) only[push_cast,↓reduceIte,C3,C6,Dj,↓C5,e8]
def YCr:zCC 150 xS:=
 EM nv.2 (DP (all_cons YLo all_nil) all_nil) (λa h=>Yvw a.1 a.2 h)
def YHe(n:Nat):DI .mul (I .u64 (n:Int)) (I .u64 8)=s_ (qD (Dq n*8)):=by
 have e:(n:Int)*8=((n*8:Nat):Int):=zaa
 simp only[DI,zaj,Mo,Ae,e,Y5,qD]
 congr 3
 simp
theorem b128:D.int .u8 128=DK 128:=rfl
theorem b0:D.int .u8 0=DK 0:=rfl
theorem YG0(n:Nat)(σ:List Nat)(x:UInt64):ED n σ (qD x)=qD x:=rfl
theorem eH(x:UInt64):hk (qD x)=[]:=rfl
variable{α:Type}
theorem yEn(l:List (List α))(i:Nat):(l.take i).flatten.length<=l.flatten.length:=by
 have:l.flatten=(l.take i).flatten++(l.drop i).flatten:=by rw[<-List.flatten_append,Bl]
 grind
theorem yFr(s:yag):∀(i:Nat)(m:zLB),yaj s (i+1) m=yah (yaj s i m) ((m.drop (64*i)).take 64)
 |0,m=>by simp[yaj]
 |i+1,m=>by
  rw[yaj,yFr (yah s (m.take 64)) i (m.drop 64),yaj,BA,show 64+64*i=64*(i+1) by omega]
def yZk(m:zLB):(yak m).length=m.length+1+yal m.length+8/\(yak m).length%64=0:=by
 have h:(yak m).length=m.length+1+yal m.length+8:=by
  simp[yak,yam];omega
 refine⟨h,?_⟩;rw[h];unfold yal;omega
def MU(l:List UInt32)(i:Nat):zLB:=yan l i++C7 (32-i) 0
def yDd(l:List UInt32)(i:Nat)(h:i<=32):(MU l i).length=32:=by simp[MU,yao];omega
def Yoq(l:List UInt32)(i:Nat)(h:i<32):(MU l i).set i ((l.getD (i/4) 0 >>> UInt32.ofNat (24-8*(i%4))).toUInt8)=MU l (i+1):=by have E:(yan l i).length=i:=yao l i;unfold MU;rw[yan,Ck _ _ zaa,E,BQ,show 32-i=(32-(i+1))+1 by omega,B3,Bw,Al];rfl
def Yv4(sz key tot off:Nat):D:=if off<tot then .row key tot off (tot-off)else O sz [] f_
variable{key off sz tot:Nat}
def xQ(h:off<tot):Yv4 sz key tot off=.row key tot off (tot-off):=zae h
def yTs(h:¬off<tot):Yv4 sz key tot off=O sz [] f_:=zaf h
def o9:=DL (α:=List (zLB)) (λa=>[O (nz 1 (a.map Nq)) (a.map Nq) f_]) (λa=>a.flatten.length<=4294960000/\a.length<=4294960000) (λa=>Ds (NV a.flatten))
def Yrp(ps:List (zLB))(h:ps.flatten.length<=4294960000/\ps.length<=4294960000):o9 [O (nz 1 (ps.map Nq)) (ps.map Nq) f_]=s_ (Ds (NV ps.flatten)):=
 EL (λa b h=>by simp only[Ab,D.slc.injEq,Ykp,zag]at h;simp[h]) (ps) h
theorem bP(ps:List (zLB))(h:ps.flatten.length<=4294960000/\ps.length<=4294960000):@wW GG (tb [(150,xS)] []) mH.1.code (Du [O (nz 1 (ps.map Nq)) (ps.map Nq) f_]) [] ⟨DN mH.1.res (Ds (NV ps.flatten))⟩:=by
 obtain⟨h,bd⟩:=h;generalize hm:ps.flatten=m at h;unfold mH
 push_cast [Yoz 1]
 refine Gn (λi:Nat=>[(2,Y 0 0),(3,EC 0 1 ((ps.take i).flatten.map DK)),(10,O (nz 1 (ps.map Nq)) (ps.map Nq) f_),(11,I J (ps.length:Int)),(12,I J (i:Int))])
  (λi=>(zzB (Dr DX))::D3 1 ((ps.take i).flatten.map DK)) (λi=>i<=ps.length) (λi=>ps.length-i) 0 (by push_cast [↓C5]<;>rfl) zaa ?_
 intro i hi
 push_cast
 refine Fm (λh1=>?_) (λh1=>?_)
 .have e:(ps.take (i+1)).flatten=(ps.take i).flatten++ps.getD i d_:=by
   rw[yL4 ps i zaa,List.flatten_append];simp
  have hl:=yEn ps (i+1);rw[e,Ag,hm]at hl
  push_cast(disch:=lia)[Mr,D5]
  refine EV (i+1) zaa zaa ?_;grind
 .obtain rfl:i=ps.length:=zaa
  rw[Bx,hm];have ab:(m++[128]).map DK≠[]:=zac
  push_cast(disch:=lia)[pZ,YHe,b128,aS _ _ _ ab,V7 _ _ ab]
  generalize hq:Dq m.length*8=q
  refine Gn (λj:Nat=>[(2,Y 0 0),(3,.row 1 (m++[128]++C7 j 0).length 0 (m++[128]++C7 j 0).length),(6,qD q)])
   (λj=>[zzB (Dr DX),⟨t_,1,(m++[128]++C7 j 0).map DK,f_⟩]) (λj=>j<=yal m.length) (λj=>yal m.length-j) 0 (by push_cast [List.replicate_zero,Ai]<;>rfl) zaa ?_
  intro j hj;have hlen:(m++[128]++C7 j 0).length=m.length+1+j:=by simp;omega
  have be:(m.length+1+yal m.length)%64=56:=by unfold yal;omega
  have hz:yal m.length<64:=by unfold yal;omega
  push_cast(disch:=lia)[YGz]
  refine Fm (λh2=>?_) (λh2=>?_)
  .obtain rfl:j=yal m.length:=by
    omega
   push_cast
   have ac:(m++[128]++C7 (yal m.length) 0)=(m++[128]++C7 (yal m.length) 0)++yap q 0:=(Ai _).symm;generalize hM:m++[128]++C7 (yal m.length) 0=M at hlen ac h2
   refine Gn (λj:Nat=>[(2,Y 0 0),(3,.row 1 (M++yap q j).length 0 (M++yap q j).length),(6,qD q),(7,I J (56-8*(j:Int)))])
    (λj=>[zzB (Dr DX),⟨t_,1,(M++yap q j).map DK,f_⟩]) (λj=>j<=8) (λj=>8-j) 0 (by rw[<-ac];push_cast [↓C5]<;>rfl) zaa ?_
   intro j hj;have ad:(M++yap q j).length=M.length+j:=by rw[Ag,yam]
   push_cast
   refine Fm (λh3=>?_) (λh3=>?_)
   .have e:(56-8*(j:Int)).toNat=56-8*j:=zaa
    have e2:M++yap q (j+1)=(M++yap q j)++[(q >>> Dq (56-8*j)).toUInt8]:=by rw[yap,Al]
    push_cast(disch:=lia)[YGh,YB2,e,FL]
    refine EV (j+1) zaa zaa ?_;rw[e2];have e4:(56-8*(j:Int)-8)=56-8*((j+1:Nat):Int):=zaa
    push_cast [YG0,eH,e4]<;>rfl
   .obtain rfl:j=8:=zaa
    have hP:M++yap q 8=yak m:=by rw[<-hM,<-hq];rfl
    rw[hP];rw[hP]at ad;obtain⟨a0,a1⟩:=yZk m;have a2:NV m=⟨yan (yaj yaq ((yak m).length/64) (yak m)).list 32,yao _ 32⟩:=rfl;rw[a2];generalize yak m=E at ad a0 a1;have hH:Sha.H0.list.length=8:=rfl;have bf:(zW 8).length=8:=rfl;simp(disch:=omega) only[push_cast,↓reduceIte,C3,C6,Int.reduceLE,Da,Int.reduceMul,Int.reduceSub,↓C5,YJ9]
    refine Gn (λj:Nat=>[(2,Y 0 0),(3,Yv4 1 1 E.length (64*j)),(8,Y 2 0)])
     (λj=>[zzB (Dr DX),⟨t_,1,E.map DK,f_⟩,zzB ((yaj yaq j E).list.map wD)]) (λj=>j<=E.length/64) (λj=>E.length/64-j) 0 (by rw[xQ zaa];push_cast<;>rfl) zaa ?_
    intro j hj;rcases Bg (64*j) E.length with h4|h4
    .have bg:((E.drop (64*j)).take 64).length=64:=by simp;omega
     have aa:=yFr yaq j E;generalize yaj yaq j E=N at aa;have a4:N.list.length=8:=rfl;have bh:(yah N ((E.drop (64*j)).take 64)).list.length=8:=rfl;have c1:((0:Int)<((E.length-64*j:Nat):Int)):=zaa
     have c2:((0:Int)<(E.length:Int)-64*(j:Int)):=zaa
     have c3:¬(64=E.length-64*j)\/E.length-64*j=64:=zaa
     rw[xQ h4]
     by_cases h5:E.length-64*j=64
     .simp(disch:=omega) only[push_cast,↓reduceIte,C3,Dd,Db,C6,Dj,Df,↓C5,Ydg,yIc,h5];refine EV (j+1) zaa zaa ?_;rw[yTs zaa,aa]
     .have h6:¬64=E.length-64*j:=λe=>h5 e.symm;simp(disch:=omega) only[push_cast,↓reduceIte,C3,Dd,Db,C6,Nat.reduceSub,Df,↓C5,c2,Ydg,yIc,h6];refine EV (j+1) zaa zaa ?_;rw[xQ zaa,aa];rfl
    .obtain rfl:j=E.length/64:=zaa
     rw[yTs zaa];generalize yaj yaq (E.length/64) E=N;have a4:N.list.length=8:=rfl
     push_cast
     refine Gn (λj:Nat=>[(2,Y 0 0),(8,Y 2 0),(55,I J (j:Int))])
      (λj=>[zzB ((MU N.list j).map DK),⟨t_,1,E.map DK,f_⟩,zzB (N.list.map wD)]) (λj=>j<=32) (λj=>32-j) 0 (by push_cast [↓C5]<;>rfl) zaa ?_
     intro j hj
     push_cast
     refine Fm (λh6=>?_) (λh6=>?_)
     .have a6:=yDd N.list j zaa;have b1:=Yoq N.list j zaa;have e1:((j:Int)/4).toNat=j/4:=zaa
      have e2:(24-8*((j:Int)%4)).toNat=24-8*(j%4):=zaa
      simp(disch:=omega) only[push_cast,↓reduceIte,C3,Dd,Db,C6,jV,YGz,O8,FL,D5,Mz,Ytk,YB1,e1,e2];refine EV (j+1) zaa zaa ?_;grind
     .obtain rfl:j=32:=zaa
      have a6:=yDd N.list 32 zaa;simp(disch:=omega) only[push_cast,↓reduceIte,C3,C6,Dj,↓C5];rw[show MU N.list 32=yan N.list 32 from Ai _];rfl
  .push_cast(disch:=lia)[b0]
   have h9:j<yal m.length:=by
    omega
   refine EV (j+1) zaa zaa ?_
   have e:m++[128]++C7 (j+1) 0=(m++[128]++C7 j 0)++[0]:=by
    rw[List.replicate_succ',Al,Al,Al]
   rw[e];rfl
def jy:zCC 107 o9:=
 EM mH.2 (DP (all_cons YCr all_nil) all_nil) (λa h=>bP a h)
def WS:=DL (α:=zLB×zLB) (λa=>[.str a.1,O (nz 1 (a.2.map DK)) (a.2.map DK) f_]) (λa=>a.1.length+a.2.length<=4294900000) (λa=>Ds (Wi a.1 a.2))
def tY(t:zLB)(b:zLB)(h:t.length+b.length<=4294900000):WS [.str t,O (nz 1 (b.map DK)) (b.map DK) f_]=s_ (Ds (Wi t b)):=
 EL (λ⟨a0,a1⟩⟨b0,b1⟩h=>by simp only[Ab,D.slc.injEq,D.str.injEq,xX,zag]at h;simp[h]) (t,b) h
def Yjp(x:UInt8)(t b:zLB)(h:t.length+b.length<=4294950000):
  o9 [O 1 [O 1 [DK x] f_,O (nz 1 (t.map DK)) (t.map DK) f_,O (nz 1 (b.map DK)) (b.map DK) f_] f_]=s_ (Ds (NV (x::(t++b)))):=by have:=Yrp [[x],t,b] ⟨by simp;omega,zac⟩;rw[show([[x],t,b]:List (zLB)).flatten=x::(t++b) by simp]at this;exact this
theorem Yln(t:zLB)(b:zLB)(h:t.length+b.length<=4294900000):@wW GG (tb [(107,o9)] []) nK.1.code (Du [.str t,O (nz 1 (b.map DK)) (b.map DK) f_]) [] ⟨DN nK.1.res (Ds (Wi t b))⟩:=by
 unfold nK;have E:(min (t.length:Int) 255).toNat=min t.length 255:=zaa
 have N:t.take (min t.length 255)=t.take 255:=by
  grind
 have hl:(t.take 255).length<=255:=by simp;omega
 have aa:(t.take 255).length<=t.length:=by simp;omega
 simp(disch:=omega) only[push_cast,↓reduceIte,C3,W7,E,N,P4,Yjp];rfl
def wu:zCC 58 WS:=
 EM nK.2 (DP (all_cons jy all_nil) all_nil) (λa h=>Yln a.1 a.2 h)
def nI(n:Int):D:=I J n
variable{a b:Int}
def Ytr:nI a=nI b↔a=b:=by simp[nI]
def TV{a b:List Int}:a.map nI=b.map nI↔a=b:=⟨Q1 λ_ _=>Ytr.1,λh=>by rw[h]⟩
theorem Yu5(n:Int):yab .u64 n=n%18446744073709551616:=rfl
def xR{n:Int}(E:0<=n)(N:n<18446744073709551616):yab .u64 n=n:=by rw[Yu5];omega
def jN(E:0<=a+b)(N:a+b<18446744073709551616):DI .add (I .u64 a) (I .u64 b)=s_ (I .u64 (a+b)):=by simp only[DI,zaj,Mo,Ae,xR E N]
def fj(E:0<=a*b)(N:a*b<18446744073709551616):DI .mul (I .u64 a) (I .u64 b)=s_ (I .u64 (a*b)):=by simp only[DI,zaj,Mo,Ae,xR E N]
theorem YHd(a b:Int):DI .mul (I .u64 a) (I .u64 b)=s_ (I .u64 ((a*b)%18446744073709551616)):=zad
theorem yL1(E:0<=a)(N:a<18446744073709551616):(C8 64 a).toNat=a.toNat:=by grind
def Ysx(E:0<=a)(N:a<18446744073709551616):DI .and (I .u64 a) (I .u64 4294967295)=s_ (I .u64 (a%4294967296)):=by
 have h:(C8 (yac .u64) a &&& C8 (yac .u64) 4294967295).toNat=(a%4294967296).toNat:=by
  show(C8 64 a &&& C8 64 4294967295).toNat=_
  rw[CU,yL1 E N,show(C8 64 4294967295).toNat=2^32-1 from rfl,BL];omega
 simp only[DI,zaj,MB,Ae,h];rw[xR zaa zaa]
 congr 2
 omega
def qF(N:0<=a)(hb:0<=b)(E:a<=4294967295)(aa:b<=4294967295):0<=a*b/\a*b<=18446744065119617025:=by refine⟨Int.mul_nonneg N hb,?_⟩;have h1:a*b<=4294967295*b:=Cm E hb;omega
def mul4(a b c d:Int):a*b*(c*d)=a*c*(b*d):=by rw[Int.mul_assoc,Int.mul_left_comm b,<-Int.mul_assoc]
theorem Yfw(x y:Int):x*y=(x/4294967296)*(y/4294967296)*18446744073709551616+((x/4294967296)*(y%4294967296)+(x%4294967296)*(y/4294967296))*4294967296+(x%4294967296)*(y%4294967296):=by
 have E:x=(x/4294967296)*4294967296+x%4294967296:=(Cn x 4294967296).symm;have N:y=(y/4294967296)*4294967296+y%4294967296:=(Cn y 4294967296).symm
 conv=>lhs;rw[E,N]
 grind
def qf:=DL (α:=Int×Int) (λa=>[I .u64 a.1,I .u64 a.2]) (λa=>0<=a.1/\a.1<18446744073709551616/\0<=a.2/\a.2<18446744073709551616) (λa=>.tup [I .u64 (a.1*a.2/18446744073709551616),I .u64 (a.1*a.2%18446744073709551616)])
def yPf(x:Int)(y:Int)(h:0<=x/\x<18446744073709551616/\0<=y/\y<18446744073709551616):qf [I .u64 x,I .u64 y]=s_ (.tup [I .u64 (x*y/18446744073709551616),I .u64 (x*y%18446744073709551616)]):=
 EL (λ⟨a0,a1⟩⟨b0,b1⟩h=>by simp only[Ab,D.int.injEq,zal,zag]at h;simp[h]) (x,y) h
def YE1(x:Int)(y:Int)(h:0<=x/\x<18446744073709551616/\0<=y/\y<18446744073709551616):@wW GG (tb [] []) nY.1.code (Du [I .u64 x,I .u64 y]) [] ⟨DN nY.1.res (.tup [I .u64 (x*y/18446744073709551616),I .u64 (x*y%18446744073709551616)])⟩:=by
 obtain⟨N,aa,ab,ac⟩:=h;have e:=Yfw x y;have ha:=qF (a:=x/4294967296) (b:=y/4294967296) zaa zaa zaa zaa;have hb:=qF (a:=x/4294967296) (b:=y%4294967296) zaa zaa zaa zaa;have hc:=qF (a:=x%4294967296) (b:=y/4294967296) zaa zaa zaa zaa;have hd:=qF (a:=x%4294967296) (b:=y%4294967296) zaa zaa zaa zaa;unfold nY;simp(disch:=omega) only[push_cast,↓reduceIte,C3,Df,Di,Ysx,Qu,fj,jN,YHd x y];rw[e];generalize (x/4294967296)*(y/4294967296)=a at*;generalize (x/4294967296)*(y%4294967296)=b at*;generalize (x%4294967296)*(y/4294967296)=c at*;generalize (x%4294967296)*(y%4294967296)=d at*;have E:a+(b+d/4294967296)/4294967296+((b+d/4294967296)%4294967296+c)/4294967296=(a*18446744073709551616+(b+c)*4294967296+d)/18446744073709551616:=zaa
 rw[E]
def Yur:zCC 168 qf:=
 EM nY.2 (DP all_nil all_nil) (λa h=>YE1 a.1 a.2 h)
def GO(x:Int):Bool:=decide (-9007199254740992<=x)&&decide (x<=9007199254740992)
def Su{x:Int}:GO x=t_↔-9007199254740992<=x/\x<=9007199254740992:=by simp[GO]
def Yg9{x:Int}:GO x=f_↔x < -9007199254740992\/9007199254740992<x:=by rw[<-Bool.not_eq_true,Su];omega
variable{i:Nat}
theorem Yrb{l:List Int}(h:i<l.length):(l.drop i).all GO=(GO (l.getD i d_)&&(l.drop (i+1)).all GO):=by rw[BG h,AQ];grind
def Q4:=DL (α:=List Int) (λa=>[O (nz 1 (a.map nI)) (a.map nI) f_]) (λa=>a.length<=65536) (λa=>V (a.all GO))
def yPc(l:List Int)(h:l.length<=65536):Q4 [O (nz 1 (l.map nI)) (l.map nI) f_]=s_ (V (l.all GO)):=
 EL (λa b h=>by simp only[Ab,D.slc.injEq,zag,TV]at h;simp[h]) (l) h
theorem YEp(l:List Int)(h:l.length<=65536):@wW GG (tb [] []) lI.1.code (Du [O (nz 1 (l.map nI)) (l.map nI) f_]) [] ⟨DN lI.1.res (V (l.all GO))⟩:=by
 unfold lI
 push_cast(disch:=lia)
 refine Gn (λi:Nat=>[(5,O (nz 1 (l.map nI)) (l.map nI) f_),(6,I J (l.length:Int)),(7,I J (i:Int))]) (λ_=>[]) (λi=>i<=l.length/\l.all GO=(l.drop i).all GO) (λi=>l.length-i) 0 (by push_cast [↓C5]<;>rfl) ⟨AS _,rfl⟩ ?_;rintro i ⟨hi,E⟩
 push_cast(disch:=lia)
 refine Fm (λh2=>?_) (λh2=>?_)
 .have ad:i<l.length:=zaa
  rw[Yrb ad]at E
  have N:∀st:St,ER st 1 (O (nz 1 (l.map nI)) (l.map nI) f_) (I J (i:Int))=s_ (.eptr (nI (l.getD i d_)) 0):=λst=>by
   have:=Mr st 1 nI l f_ J (i:Int) zaa zaa;grind
  generalize l.getD i d_=x at*
  cases hx:GO x with
  |true=>
   obtain⟨h5,h6⟩:=Su.1 hx;rw[hx,Bm]at E;have h7:¬(x < -9007199254740992):=zaa
   have h8:¬(9007199254740992<x):=zaa
   push_cast(disch:=lia)[N,nI,h7,h8,D5]
   refine EV (i+1) (by exact⟨zaa,E⟩) zaa ?_;rfl
  |false=>
   rw[hx,Bool.false_and]at E
   by_cases h7:x < -9007199254740992
   .push_cast(disch:=lia)[N,nI,h7,E]
   .have h8:9007199254740992<x:=by have:=Yg9.1 hx;omega
    push_cast(disch:=lia)[N,nI,h7,h8,E]
 .obtain rfl:i=l.length:=zaa
  rw[BN]at E
  push_cast(disch:=lia)[E,Cj]
def aA:zCC 229 Q4:=
 EM lI.2 (DP all_nil all_nil) (λa h=>YEp a h)
def L2(c:Int):Int×Int:=if GO c then(c,0)else(0,3)
theorem GN(a:Int):EZ 1 [I J a]=s_ (O 1 [I J a] t_):=(rfl)
theorem HA(a b:Int):EZ 1 [I J a,I J b]=s_ (O 1 [I J a,I J b] t_):=(rfl)
def rU:((9:Int)=8)=False:=zab
def R3:((10:Int)=8)=False:=zab
def R2:((10:Int)=9)=False:=zab
def jg:((8:Int)=10)=False:=zab
def jf:((9:Int)=10)=False:=zab
def Yrx(a:Int):Q4 [O 1 [I J a] f_]=s_ (V (GO a)):=by have:=yPc [a] zac;simpa[nI,nz]using this
def ri(a b:Int):Q4 [O 1 [I J a,I J b] f_]=s_ (V (GO a&&GO b)):=by have:=yPc [a,b] zac;simpa[nI,nz]using this
def qA:=DL (α:=Int) (λa=>[I J a]) (λa=>True) (λa=>.tup [I J (L2 a).1,I J (L2 a).2])
def yPb(c:Int):qA [I J c]=s_ (.tup [I J (L2 c).1,I J (L2 c).2]):=
 EL (λa b h=>by simp only[Ab,D.int.injEq,zal,zag]at h;simp[h]) (c) trivial
def YEo(c:Int):@wW GG (tb [(229,Q4)] []) ny.1.code (Du [I J c]) [] ⟨DN ny.1.res (.tup [I J (L2 c).1,I J (L2 c).2])⟩:=by unfold ny L2;have:=Yrx c;cases hc:GO c<;>rw[hc]at this<;>push_cast(disch:=lia)[GN,this]
def Yuq:zCC 230 qA:=
 EM ny.2 (DP (all_cons aA all_nil) all_nil) (λa h=>YEo a)
def IS(a b:Int):Int×Int:=if GO a&&GO b then L2 (a+b)else(0,3)
def ID(a b:Int):Int×Int:=if GO a&&GO b then L2 (a-b)else(0,3)
def rv:=DL (α:=Int×Int) (λa=>[I J a.1,I J a.2]) (λa=>True) (λa=>.tup [I J (IS a.1 a.2).1,I J (IS a.1 a.2).2])
def Ybz(a:Int)(b:Int):rv [I J a,I J b]=s_ (.tup [I J (IS a b).1,I J (IS a b).2]):=
 EL (λ⟨a0,a1⟩⟨b0,b1⟩h=>by simp only[Ab,D.int.injEq,zal,zag]at h;simp[h]) (a,b) trivial
def Yvm(a:Int)(b:Int):@wW GG (tb [(229,Q4),(230,qA)] []) mf.1.code (Du [I J a,I J b]) [] ⟨DN mf.1.res (.tup [I J (IS a b).1,I J (IS a b).2])⟩:=by
 unfold mf IS;have E:=ri a b;have N:=yPb (a+b)
 cases hc:GO a&&GO b with
 |false=>rw[hc]at E;push_cast(disch:=lia)[HA,E]
 |true=>
  rw[hc]at E;simp only[Af,Su]at hc
  push_cast(disch:=lia)[HA,E,N,D5]
def YCm:zCC 219 rv:=
 EM mf.2 (DP (all_cons aA (all_cons Yuq all_nil)) all_nil) (λa h=>Yvm a.1 a.2)
def rA:=DL (α:=Int×Int) (λa=>[I J a.1,I J a.2]) (λa=>True) (λa=>.tup [I J (ID a.1 a.2).1,I J (ID a.1 a.2).2])
def Ybx(a:Int)(b:Int):rA [I J a,I J b]=s_ (.tup [I J (ID a b).1,I J (ID a b).2]):=
 EL (λ⟨a0,a1⟩⟨b0,b1⟩h=>by simp only[Ab,D.int.injEq,zal,zag]at h;simp[h]) (a,b) trivial
def Yvj(a:Int)(b:Int):@wW GG (tb [(229,Q4),(230,qA)] []) mi.1.code (Du [I J a,I J b]) [] ⟨DN mi.1.res (.tup [I J (ID a b).1,I J (ID a b).2])⟩:=by
 unfold mi ID;have E:=ri a b;have N:=yPb (a-b)
 cases hc:GO a&&GO b with
 |false=>rw[hc]at E;push_cast(disch:=lia)[HA,E]
 |true=>
  rw[hc]at E;simp only[Af,Su]at hc
  push_cast(disch:=lia)[HA,E,N,FL]
def YCk:zCC 220 rA:=
 EM mi.2 (DP (all_cons aA (all_cons Yuq all_nil)) all_nil) (λa h=>Yvj a.1 a.2)
def fe(E:0<a)(N:a<18446744073709551616):Pq .neg (I .u64 a)=s_ (I .u64 (18446744073709551616-a)):=by
 have e:(0-a)%18446744073709551616=18446744073709551616-a:=zaa
 simp only[Pq,Yu5,e]
theorem rl(st:St):Gm st (.int .u64) (I J a)=s_ (I .u64 (a%18446744073709551616)):=zad
def YW:=DL (α:=Int) (λa=>[I J a]) (λa=>GO a=t_) (λa=>I .u64 (if a<0 then -a else a))
def yH6(a:Int)(h:GO a=t_):YW [I J a]=s_ (I .u64 (if a<0 then -a else a)):=
 EL (λa b h=>by simp only[Ab,D.int.injEq,zal,zag]at h;simp[h]) (a) h
def Yvn(a:Int)(h:GO a=t_):@wW GG (tb [] []) mj.1.code (Du [I J a]) [] ⟨DN mj.1.res (I .u64 (if a<0 then -a else a))⟩:=by
 obtain⟨h1,h2⟩:=Su.1 h;unfold mj
 by_cases E:a<0
 .have N:(a%18446744073709551616)=18446744073709551616+a:=zaa
  have e2:18446744073709551616-(18446744073709551616+a)=-a:=zaa
  push_cast(disch:=lia)[E,rl,N,fe,e2]
 .push_cast(disch:=lia)[E,pZ]
def YCn:zCC 231 YW:=
 EM mj.2 (DP all_nil all_nil) (λa h=>Yvn a h)
def Jn(a:Int):Int:=if a<0 then -a else a
def IJ(a b:Int):Int×Int:=if GO a&&GO b then L2 (a*b)else(0,3)
theorem YMt(a b:Int):Jn a*Jn b=Jn (a*b):=by
 unfold Jn;rcases Co a 0 with E|E<;>rcases Co b 0 with N|N
 .have:=Int.mul_pos_of_neg_of_neg E N;grind
 .have:=Int.mul_nonpos_of_nonpos_of_nonneg (Int.le_of_lt E) N;rw[zae E,YYN,Int.neg_mul];omega
 .have:=Int.mul_nonpos_of_nonneg_of_nonpos E (Int.le_of_lt N);rw[YYN,zae N,Int.mul_neg];omega
 .have:=Int.mul_nonneg E N;grind
def YDi(h:GO a=t_):0<=Jn a/\Jn a<=9007199254740992:=by have:=Su.1 h;unfold Jn;split<;>omega
def jO(a:Int):GO a=decide (Jn a<=9007199254740992):=by
 cases h:GO a with
 |true=>simp[(YDi h).2]
 |false=>
  have:=Yg9.1 h
  symm
  rw[decide_eq_false_iff_not];unfold Jn;split<;>omega
def rz:=DL (α:=Int×Int) (λa=>[I J a.1,I J a.2]) (λa=>True) (λa=>.tup [I J (IJ a.1 a.2).1,I J (IJ a.1 a.2).2])
def Yby(a:Int)(b:Int):rz [I J a,I J b]=s_ (.tup [I J (IJ a b).1,I J (IJ a b).2]):=
 EL (λ⟨a0,a1⟩⟨b0,b1⟩h=>by simp only[Ab,D.int.injEq,zal,zag]at h;simp[h]) (a,b) trivial
def Yvk(a:Int)(b:Int):@wW GG (tb [(229,Q4),(231,YW),(168,qf)] []) mh.1.code (Du [I J a,I J b]) [] ⟨DN mh.1.res (.tup [I J (IJ a b).1,I J (IJ a b).2])⟩:=by
 unfold mh IJ;have E:=ri a b
 cases hc:GO a&&GO b with
 |false=>rw[hc]at E;push_cast(disch:=lia)[HA,E]
 |true=>
  rw[hc]at E;simp only[Af]at hc;have c1:YW [I J a]=s_ (I .u64 (Jn a)):=yH6 a hc.1;have c2:YW [I J b]=s_ (I .u64 (Jn b)):=yH6 b hc.2;have l1:=YDi hc.1;have l2:=YDi hc.2;have c3:=yPf (Jn a) (Jn b) zaa;have e:=YMt a b;have ei:=jO (a*b);have hn:0<=Jn a*Jn b:=Int.mul_nonneg l1.1 l2.1;have hb:Jn a*Jn b<=9007199254740992*9007199254740992:=Int.le_trans (Cm l1.2 l2.1) zaa;rw[e]at c3 hn hb
  have hm:Jn (a*b)<=9007199254740992->-9007199254740992<=a*b/\a*b<=9007199254740992:=λh=>by
   unfold Jn at h;split at h<;>omega
  have hmul:-9007199254740992<=a*b->a*b<=9007199254740992->DI .mul (I J a) (I J b)=s_ (I J (a*b)):=λh1 E=>O8 zaa zaa;unfold L2;rw[ei];generalize a*b=m at*;generalize Jn m=z at*
  by_cases h0:z/18446744073709551616=0
  .have h9:z%18446744073709551616=z:=zaa
   rw[h0,h9]at c3
   by_cases h8:9007199254740992<z
   .have N:¬z<=9007199254740992:=zaa
    push_cast(disch:=lia)[HA,E,c1,c2,c3,h8,N]
   .have N:z<=9007199254740992:=zaa
    have h6:=hm N;have c4:DI .mul (I J a) (I J b)=s_ (I J m):=hmul h6.1 h6.2
    push_cast(disch:=lia)[HA,E,c1,c2,c3,h8,N,c4]
  .have N:¬z<=9007199254740992:=zaa
   push_cast(disch:=lia)[HA,E,c1,c2,c3,h0,N]
def YCl:zCC 221 rz:=
 EM mh.2 (DP (all_cons aA (all_cons YCn (all_cons Yur all_nil))) all_nil) (λa h=>Yvk a.1 a.2)
def Ywp(a:Int)(hb:0<b):-(Jn a)<=a.tdiv b/\a.tdiv b<=Jn a:=by
 unfold Jn;rcases Co a 0 with h|h
 .have e:a.tdiv b=-((-a)/b):=by
   rw[<-Bq zaa,Int.neg_tdiv,Int.neg_neg]
  have E:=B1 b (zaa:0<=-a);have N:=BD (zaa:0<=-a) (zaa:0<=b);omega
 .have e:a.tdiv b=a/b:=Bq h;have E:=B1 b h;have N:=BD h (zaa:0<=b);omega
def Xz(hb:0<b)(E:-9223372036854775808<a)(N:a<9223372036854775808):DI .quo (I J a) (I J b)=s_ (I J (a.tdiv b)):=by
 have h3:=Ywp a hb;have h4:Jn a<9223372036854775808:=by unfold Jn;split<;>omega
 simp only[DI,zaj,Mo,show ¬b=0 by omega,zam,Ae,Ni (zaa:-9223372036854775808<=a.tdiv b) (zaa:a.tdiv b<9223372036854775808)]
def XA(hb:0<b):DI .rem (I J a) (I J b)=s_ (I J (a.tmod b)):=by simp only[DI,zaj,Mo,show ¬b=0 by omega,zam,Ae]
def PJ(a b:Int):Int:=(if a.tmod b<0 then a-b else a).tdiv b
def Yb(a b:Int):Int:=(if 0<a.tmod b then a+b else a).tdiv b
def EU(a b m:Int):Int×Int:=if GO a&&GO b then(if b<=0 then(0,70)else(if m=10 then PJ (2*a+b) (2*b)else if m=8 then PJ a b else Yb a b,0))else(0,3)
def YX:=DL (α:=Int×Int×Int) (λa=>[I J a.1,I J a.2.1,I J a.2.2]) (λa=>a.2.2=8\/a.2.2=9\/a.2.2=10) (λa=>.tup [I J (EU a.1 a.2.1 a.2.2).1,I J (EU a.1 a.2.1 a.2.2).2])
def tu(a:Int)(b:Int)(m:Int)(h:m=8\/m=9\/m=10):YX [I J a,I J b,I J m]=s_ (.tup [I J (EU a b m).1,I J (EU a b m).2]):=
 EL (λ⟨a0,a1,E⟩⟨b0,b1,N⟩h=>by simp only[Ab,D.int.injEq,zal,zag]at h;simp[h]) (a,b,m) h
def Yvl(a:Int)(b:Int)(m:Int)(h:m=8\/m=9\/m=10):@wW GG (tb [(229,Q4)] []) mg.1.code (Du [I J a,I J b,I J m]) [] ⟨DN mg.1.res (.tup [I J (EU a b m).1,I J (EU a b m).2])⟩:=by
 unfold mg EU;have E:=ri a b
 cases hc:GO a&&GO b with
 |false=>
  rw[hc]at E;rcases h with rfl|rfl|rfl<;>push_cast(disch:=lia)[HA,rU,R3,R2,E]
 |true=>
  rw[hc]at E;simp only[Af,Su]at hc;obtain⟨⟨a1,a2⟩,b1,b2⟩:=hc
  by_cases hb:b<=0
  .rcases h with rfl|rfl|rfl<;>push_cast(disch:=lia)[HA,rU,R3,R2,E,hb]
  .unfold PJ Yb;rcases h with rfl|rfl|rfl
   .by_cases N:a.tmod b<0
    .push_cast(disch:=lia)[HA,jg,E,hb,XA,N,FL,Xz]
    .push_cast(disch:=lia)[HA,jg,E,hb,XA,N,Xz]
   .by_cases N:0<a.tmod b
    .push_cast(disch:=lia)[HA,rU,jf,E,hb,XA,N,D5,Xz]
    .push_cast(disch:=lia)[HA,rU,jf,E,hb,XA,N,Xz]
   .by_cases N:(2*a+b).tmod (2*b)<0
    .push_cast(disch:=lia)[HA,R3,R2,E,hb,O8,D5,XA,N,FL,Xz]
    .push_cast(disch:=lia)[HA,R3,R2,E,hb,O8,D5,XA,N,Xz]
def uP:zCC 225 YX:=
 EM mg.2 (DP (all_cons aA all_nil) all_nil) (λa h=>Yvl a.1 a.2.1 a.2.2 h)
def I3:Nat->Nat->Nat
 |0,_=>0
 |n+1,u=>if u=0 then 0 else I3 n (u/256)+1
def Yw4(n:Nat):I3 n 0=0:=by cases n<;>rfl
theorem vJ(n u:Nat):I3 (n+1) u=if u=0 then 0 else I3 n (u/256)+1:=(rfl)
theorem yGq:∀(n u:Nat),u<256^n->I3 (n+1) u=I3 n u
 |0,u,h=>by
  have:u=0:=by simpa using h
  subst this;rfl
 |n+1,u,h=>by
  rw[vJ (n+1) u,vJ n u]
  split
  .rfl
  .rw[yGq n (u/256) (by rw[CG]at h;omega)]
theorem Wz:∀(n u:Nat),I3 n u<=n
 |0,_=>Au _
 |n+1,u=>by
  rw[I3]
  split
  .omega
  .have:=Wz n (u/256);omega
def YGf(ds:List D)(st:St)(r:D×St):Prop:=∃u:Nat,StOK st/\u<18446744073709551616/\ds=[I .u64 (u:Int)]/\r=(I J (I3 8 u:Int),st)
def vH:zsF:=Gf YGf
theorem Ymv:Jo YGf:=by rintro ds st r E ⟨u,_,_,rfl,rfl⟩ ⟨N,_,_,h,rfl⟩;grind
variable{n:Nat}
def yYj{u:Nat}(h:u≠0)(E:u<256^n):I3 n u=I3 n (u/256)+1:=by
 cases n with
 |zero=>simp at E;omega
 |succ n=>
  rw[vJ n u,zaf h,yGq n (u/256) (by rw[CG]at E;omega)]
def YB8:zIC 199 vH:=by
 refine Kg (T:=tb [] []) ynj.2 (DP all_nil all_nil) ?_;intro ds st r hr;obtain⟨u,E,hu,rfl,rfl⟩:=Ku hr;unfold ynj
 push_cast(disch:=lia)
 refine Gn (λp:Nat×Nat=>[(0,I .u64 (p.1:Int)),(2,I J (p.2:Int))]) (λ_=>st) (λp=>p.1<18446744073709551616/\I3 8 u=I3 8 p.1+p.2) (λp=>p.1) (u,0) (by push_cast [↓uj E]<;>rfl) ⟨hu,rfl⟩ ?_;rintro⟨w,k⟩ ⟨hw,hk⟩;have ae:=Wz 8 u;dsimp only at hw hk
 push_cast(disch:=lia)
 refine Fm (λh2=>?_) (λh2=>?_)
 .have N:w≠0:=zaa
  have hs:=yYj (n:=8) N zaa
  have aa:DI .shr (I .u64 (w:Int)) (I .u64 8)=s_ (I .u64 ((w/256:Nat):Int)):=by
   rw[Qu zaa zaa];rfl
  push_cast(disch:=lia)[↓C5,↓uj E,aa,D5]
  refine EV (w/256,k+1) (by dsimp only;omega) (by dsimp only;omega) ?_;rfl
 .obtain rfl:w=0:=zaa
  rw[Yw4]at hk;have ab:I3 8 u=k:=zaa
  rw[ab]
  push_cast(disch:=lia)[↓C5]
def Qq(st:St)(b:D)(l:zLB):Prop:=(b=O 0 [] t_/\l=[])\/∃key,b=.row key l.length 0 l.length/\l≠[]/\st[key]?=s_ ⟨t_,1,l.map DK,f_⟩
def KG(st:St)(b:D)(l m:zLB):D×St:=match b with
 |.row key _ _ _=>(.row key (l++m).length 0 (l++m).length,st.set key ⟨t_,1,(l++m).map DK,f_⟩)
 |_=>(.row st.length m.length 0 m.length,st++[⟨t_,1,m.map DK,f_⟩])
variable{l:zLB}
def Ykn{b:D}{l':zLB}(h:Qq st b l)(N:Qq st b l'):l=l':=by
 rcases h with⟨rfl,rfl⟩|⟨key,rfl,hl,hk⟩
 .rcases N with⟨_,rfl⟩|⟨key,h,_⟩
  .rfl
  .cases h
 .rcases N with⟨h,_⟩|⟨aa,h,_,E⟩
  .cases h
  .simp only[D.row.injEq]at h;obtain⟨rfl,_⟩:=h;rw[hk]at E;simp only[Dv,Obj.mk.injEq,zal,zag]at E;exact T6 E
variable{m:zLB}
theorem YM0{b:D}(h:StOK st):StOK (KG st b l m).2:=by
 unfold KG
 split
 .exact h.set _ _ λe=>by cases e
 .exact h.app _ λo E N=>by
   grind
def YM{b:D}(h:Qq st b l)(N:m≠[])(hl:l.length+m.length<=4294967296)(t:Bool):EW st 1 1 b (O 1 (m.map DK) t)=s_ (KG st b l m):=by
 have E:m.map DK≠[]:=by simpa using N
 have hz:nz 1 (m.map DK)=1:=by
  cases hc:m.map DK with
  |nil=>exact absurd hc E
  |cons a r=>rfl
 rcases h with⟨rfl,rfl⟩|⟨key,rfl,ab,hk⟩
 .have:=yZj DK st 1 0 1 m t zab zaa (by simp at hl;omega);rw[hz,aS _ _ _ E,V7 _ _ E,Az]at this;exact this
 .rw[yG,hk];have he:H6 st (O 1 (m.map DK) t)=s_ (1,m.map DK):=(rfl);rw[he,YDa l m f_ hl];simp only[Ae,KG,Az]
def Eg(st:St)(key:Nat)(l:zLB):St:=st.set key ⟨t_,1,l.map DK,f_⟩
theorem uq(st:St)(key:Nat)(l:zLB):(Eg st key l).length=st.length:=BE
def wk(h:key<st.length)(l:zLB):(Eg st key l)[key]?=s_ ⟨t_,1,l.map DK,f_⟩:=by simp[Eg,h]
def Ykm(st:St)(key:Nat)(l m:zLB):Eg (Eg st key l) key m=Eg st key m:=by simp[Eg]
def aT(h:StOK st)(key:Nat)(l:zLB):StOK (Eg st key l):=h.set _ _ λe=>by cases e
def yXm(h:key<st.length)(l m:zLB)(N:m≠[])(hl:l.length+m.length<=4294967296)(t:Bool):
  EW (Eg st key l) 1 1 (.row key l.length 0 l.length) (O 1 (m.map DK) t)=s_ (.row key (l++m).length 0 (l++m).length,Eg st key (l++m)):=by
 by_cases E:l=[]
 .subst E;rw[yG,wk h];have he:H6 (Eg st key []) (O 1 (m.map DK) t)=s_ (1,m.map DK):=(rfl);rw[he,YDa [] m f_ hl];simp only[Ae,Az];simp only[Eg,CX]
 .rw[YM (.inr ⟨key,rfl,E,wk h l⟩) N hl t];simp only[KG];simp only[Eg,CX]
def kS(h:key<st.length)(l:zLB)(x:UInt8)(hl:l.length<4294967296)(t:Bool):
  EW (Eg st key l) 1 1 (.row key l.length 0 l.length) (O 1 [DK x] t)=s_ (.row key (l++[x]).length 0 (l++[x]).length,Eg st key (l++[x])):=
 yXm h l [x] zac (by simp;omega) t
theorem yIf{b:D}(h:Qq st b l)(N:m≠[]):∃key st1,key<st1.length/\KG st b l m=(.row key (l++m).length 0 (l++m).length,Eg st1 key (l++m))/\(StOK st->StOK st1)/\
  ∀n,KG st b l (m++n)=(.row key (l++(m++n)).length 0 (l++(m++n)).length,Eg st1 key (l++(m++n))):=by
 rcases h with⟨rfl,rfl⟩|⟨key,rfl,hl,hk⟩
 .refine⟨st.length,st++[⟨t_,1,[],f_⟩],zac,?_,λh=>h.app _ λo ho hr=>?_,λn=>?_⟩
  .simp[KG,Eg]
  .grind
  .simp[KG,Eg]
 .have E:=(Aa.1 hk).1;exact⟨key,st,E,rfl,id,λn=>rfl⟩
variable{fr:Frame}{keep:List Nat}
def mT(h:StOK st)(hn:n=st.length):restrict keep n ⟨fr,st⟩=⟨GU (Lh fr n [] keep),st⟩:=by subst hn;exact uj h
def Km(u k:Nat):zLB:=(C9 k).map λi=>De (u/2^(8*(k-1-i)))
def uw(u k:Nat):(Km u k).length=k:=by simp[Km]
variable{k:Nat}
def yTe{u:Nat}(h:i<k):(Km u k).take (i+1)=(Km u k).take i++[De (u/2^(8*(k-1-i)))]:=by
 rw[List.take_add_one]
 congr 1
 simp[Km,h]
def ES(n:Int):Nat:=(n%18446744073709551616).toNat
def Oo(a:Nat):Nat:=18446744073709551615-a
def Yp5(a:Nat):Oo a<18446744073709551616:=by unfold Oo;omega
def JY(n:Int):zLB:=
 if 0<=n then De (32+I3 8 (ES n))::Km (ES n) (I3 8 (ES n))
 else De (31-I3 8 (Oo (ES n)))::Km (ES n) (I3 8 (Oo (ES n)))
def Yl6{a:Nat}(h:a<18446744073709551616):Pq .xor (I .u64 (a:Int))=s_ (I .u64 (Oo a:Int)):=by
 unfold Oo
 have E:MB .xor .u64 (if IntKind.u64.signed then -1 else IntKind.u64.max) (a:Int)=s_ ((18446744073709551615-a:Nat):Int):=by
  unfold MB;have aa:IntKind.u64.bits=64:=rfl;have N:(if IntKind.u64.signed then(-1:Int)else IntKind.u64.max)=18446744073709551615:=zab
  rw[N];simp only
  have:(C8 IntKind.u64.bits 18446744073709551615 ^^^ C8 IntKind.u64.bits (a:Int)) = ~~~ (BitVec.ofNat 64 a):=by
   rfl
  rw[this]
  show s_ (yab .u64 (((~~~ (BitVec.ofNat 64 a):BitVec 64).toNat:Nat):Int))=_
  rw[BitVec.toNat_not,BitVec.toNat_ofNat,A3 zaa]
  show s_ (yab .u64 ((2^64-1-a:Nat):Int))=_
  congr 1
  rw[Yu5];omega
 simp only[Pq,E,Ae]
def gU(ds:List D)(st:St)(r:D×St):Prop:=∃(b:D)(l:zLB)(n:Int),StOK st/\Qq st b l/\l.length<=4294967000/\ds=[b,I J n]/\r=KG st b l (JY n)
def bA:zsF:=Gf gU
def Ysy:Jo gU:=by rintro ds st r N ⟨b,l,n,_,hb,_,rfl,rfl⟩ ⟨b',l',n',_,E,_,h,rfl⟩;cases h;rw[Ykn hb E]
def Yj0{b:D}(n:Int)(E:StOK st)(N:Qq st b l)(h3:l.length<=4294967000):bA [b,I J n] st=s_ (KG st b l (JY n)):=NM Ysy ⟨b,l,n,E,N,h3,rfl,rfl⟩
def yO5(u:Nat)(E:StOK st)(N:u<18446744073709551616):vH [I .u64 (u:Int)] st=s_ (I J (I3 8 u:Int),st):=NM Ymv ⟨u,E,N,rfl,rfl⟩
def TQ(h:key<n):Fv n [] key=s_ key:=zae h
def Ycw(n:Int):ES n<18446744073709551616:=by unfold ES;omega
def wb(n:Int):n%18446744073709551616=(ES n:Int):=by unfold ES;omega
theorem aI(x:UInt8):EZ 1 [DK x]=s_ (O 1 [DK x] t_):=(rfl)
theorem jQ(st:St)(x:UInt8):D2 st (DK x)=s_ (DK x):=(rfl)
theorem aF(x:UInt8):keys (DK x)=[]:=(rfl)
theorem yOy(st:St)(k:Nat):Gm st (.int .u8) (I J (32+(k:Int)))=s_ (DK (De (32+k))):=zad
def Yiv(st:St)(h:k<=31):Gm st (.int .u8) (I J (31-(k:Int)))=s_ (DK (De (31-k))):=by rw[P4 st zaa,show(31-(k:Int)).toNat=31-k by omega]
theorem Ybl(st:St)(u m:Nat):Gm st (.int .u8) (I .u64 ((u:Int)/2^m))=s_ (DK (De (u/2^m))):=zad
def Ycm(T:Tbl)(st1:St)(key:Nat)(E:key<st1.length)(ab:StOK st1)(l0:zLB)(n:Int)(k:Nat)(hk:k<=8)(hl:l0.length<=4294967200)(fr:Frame)(Q:Ex->Frame->St->Prop)
  (h0:fr 0=.row key l0.length 0 l0.length) (h1:fr 1=I J n) (h6:fr 6=I J (k:Int)) (ac:fr 30=I J (k:Int)) (ad:fr 31=I J 0)
  (hQ:∀N,N 0=.row key (l0++Km (ES n) k).length 0 (l0++Km (ES n) k).length->Q (.exit 0) N (Eg st1 key (l0++Km (ES n) k))):
  @wW GG T (.loop [0,1,6,30,31] ynd.1) fr (Eg st1 key l0) ⟨Q⟩:=by
 have hlen:=uq st1 key;have hR:∀(fr:Frame)(m:zLB),restrict [0,1,6,30,31] (Eg st1 key l0).length ⟨fr,Eg st1 key m⟩=⟨GU (Lh fr st1.length [] [0,1,6,30,31]),Eg st1 key m⟩:=λfr m=>by rw[mT (aT ab key m) (by rw[hlen,hlen]),hlen]
 refine Gn (λi:Nat=>[(0,.row key (l0++(Km (ES n) k).take i).length 0 (l0++(Km (ES n) k).take i).length),(1,I J n),(6,I J (k:Int)),(30,I J (k:Int)),(31,I J (i:Int))])
  (λi=>Eg st1 key (l0++(Km (ES n) k).take i)) (λi=>i<=k) (λi=>k-i) 0 ?_ zaa ?_
 .rw[hR];simp(disch:=omega) only[push_cast,↓C5,h0,h1,h6,ac,ad,TQ]<;>rfl
 intro i hi
 try unfold ynd
 have hb:=uw (ES n) k;have ht:((Km (ES n) k).take i).length=i:=by rw[AJ];omega
 push_cast(disch:=lia)
 refine Fm (λh2=>?_) (λh2=>?_)
 .have e1:((8*((k:Int)-1-(i:Int)))).toNat=8*(k-1-i):=zaa
  have aa:=λx=>kS (st:=st1) E (l0++(Km (ES n) k).take i) x (by rw[Ag];omega) t_
  push_cast(disch:=lia)[rl,wb,FL,O8,D5,Qu,e1,Ybl,jQ,aF,aI,aa,↓hR,E]
  refine EV (i+1) zaa zaa ?_;rw[yTe zaa,<-Al];rfl
 .obtain rfl:i=k:=zaa
  have e2:(Km (ES n) i).take i=Km (ES n) i:=AE zaa;rw[e2]
  push_cast(disch:=lia)
  exact hQ _ rfl
def YCe:zIC 195 bA:=by
 refine Kg (T:=tb [] [(199,vH)]) uB.2 (DP all_nil (all_cons YB8 all_nil)) ?_;intro ds st r hr;obtain⟨b,l,n,ad,hb,hl,rfl,rfl⟩:=Ku hr;unfold uB;have hs:=yO5 (st:=st) (ES n) ad (Ycw n);have ah:=Wz 8 (ES n);have hu:=Ycw n
 by_cases hn:n<0
 .have a0:=yO5 (st:=st) (Oo (ES n)) ad (Yp5 _);have a1:=Wz 8 (Oo (ES n));have hI:JY n=[De (31-I3 8 (Oo (ES n)))]++Km (ES n) (I3 8 (Oo (ES n))):=zaf zaa;rw[hI];generalize I3 8 (Oo (ES n))=k at*;obtain⟨key,st1,aa,ab,ac,N⟩:=yIf hb (m:=[De (31-k)]) zac;have E:=YM hb (m:=[De (31-k)]) zac (by simp;omega) t_;rw[ab]at E;have hm:=N (Km (ES n) k);simp only[Av,Bc]at E;rw[hm,<-Al]
  push_cast(disch:=lia)[hn,rl,wb,hs,Yl6,a0,D5,FL,Yiv,yOy,jQ,aF,aI,E]
  refine Ycm _ st1 key aa (ac ad) (l++[De (31-k)]) n k a1 (by simp;omega) _ _ (by push_cast) (by push_cast) (by push_cast) (by push_cast) (by push_cast) λa2 hf=>?_
  push_cast(disch:=lia)[hf]
 .have hI:JY n=[De (32+I3 8 (ES n))]++Km (ES n) (I3 8 (ES n)):=zae zaa;rw[hI];generalize I3 8 (ES n)=k at*;obtain⟨key,st1,aa,ab,ac,N⟩:=yIf hb (m:=[De (32+k)]) zac;have E:=YM hb (m:=[De (32+k)]) zac (by simp;omega) t_;rw[ab]at E;have hm:=N (Km (ES n) k);simp only[Av,Bc]at E;rw[hm,<-Al]
  push_cast(disch:=lia)[hn,rl,wb,hs,D5,yOy,jQ,aF,aI,E]
  refine Ycm _ st1 key aa (ac ad) (l++[De (32+k)]) n k ah (by simp;omega) _ _ (by push_cast) (by push_cast) (by push_cast) (by push_cast) (by push_cast) λa2 hf=>?_
  push_cast(disch:=lia)[hf]
inductive Val where
 |int (n:Int)
 |bytes (b:zLB)
 |list (l:List Val)
instance:Inhabited Val:=⟨.int 0⟩
def vC(k n:Int)(B L:List D):List D:=[I J k,I J n,O (nz 1 B) B f_,O (nz 4 L) L f_]
def vD(k n:Int)(B L:List D):D:=U (vC k n B L)
mutual
def Dx:Val->D
 |.int n=>vD 1 n [] []
 |.bytes b=>vD 2 0 (b.map DK) []
 |.list l=>vD 3 0 [] (Ph l)
def Ph:List Val->List D
 |[]=>[]
 |v::l=>Dx v::Ph l
end
mutual
def EI:Val->Nat
 |.int _=>0
 |.bytes _=>0
 |.list l=>Jp l+1
def Jp:List Val->Nat
 |[]=>0
 |v::l=>max (EI v) (Jp l)
end
def EG(c:UInt8):zLB:=if c=0 then [0,255]else [c]
mutual
def DW:Val->zLB
 |.int n=>JY n
 |.bytes b=>48::(b.flatMap EG++[0,0])
 |.list l=>64::(UG l++[0])
def UG:List Val->zLB
 |[]=>[]
 |v::l=>DW v++UG l
end
theorem yTu:∀l:List Val,Ph l=l.map Dx
 |[]=>by simp[Ph]
 |v::l=>by simp[Ph,yTu l]
theorem wz:∀l:List Val,UG l=l.flatMap DW
 |[]=>by simp[UG]
 |v::l=>by simp[UG,wz l]
theorem wY:∀{l:List Val}{v:Val},v∈l->EI v<=Jp l
 |a::l,v,h=>by
  rw[Jp];rcases AB.1 h with rfl|h
  .omega
  .exact AT (wY h) (Nat.le_max_right _ _)
def Re(n:Int):Dx (.int n)=vD 1 n [] []:=by simp[Dx]
def Rm(b:zLB):Dx (.bytes b)=vD 2 0 (b.map DK) []:=by simp[Dx]
def Ud(l:List Val):Dx (.list l)=vD 3 0 [] (l.map Dx):=by simp[Dx,yTu]
def wy(n:Int):DW (.int n)=JY n:=by simp[DW]
def lG(b:zLB):DW (.bytes b)=48::(b.flatMap EG++[0,0]):=by simp[DW]
def Rh(l:List Val):DW (.list l)=64::(l.flatMap DW++[0]):=by simp[DW,wz]
def Yre(n:Int):EI (.int n)=0:=by simp[EI]
def Ybi(b:zLB):EI (.bytes b)=0:=by simp[EI]
def yv(l:List Val):EI (.list l)=Jp l+1:=by simp[EI]
def cS(v:Val):List D:=match v with
 |.int n=>vC 1 n [] []
 |.bytes b=>vC 2 0 (b.map DK) []
 |.list l=>vC 3 0 [] (Ph l)
def Rl(v:Val):∃k n B L,cS v=vC k n B L/\Dx v=vD k n B L:=by
 cases v
 .exact⟨_,_,_,_,rfl,by simp[Dx]⟩
 .exact⟨_,_,_,_,rfl,by simp[Dx]⟩
 .exact⟨_,_,_,_,rfl,by simp[Dx]⟩
theorem Oe{k n k' E:Int}{B L N L':List D}(h:vD k n B L=vD k' E N L'):k=k'/\n=E/\B=N/\L=L':=by simp only[vD,vC,D.agg.injEq,Ab,D.int.injEq,D.slc.injEq,zal,zag]at h;grind
mutual
theorem xP:∀{v v':Val},Dx v=Dx v'->v=v'
 |.int n,.int E,h=>by rw[Re,Re]at h;rw[(Oe h).2.1]
 |.bytes b,.bytes b',h=>by rw[Rm,Rm]at h;rw[T6 (Oe h).2.2.1]
 |.list l,.list l',h=>by
  have:=h;simp only[Dx]at this;rw[yLy (Oe this).2.2.2]
 |.int n,.bytes b,h=>by rw[Re,Rm]at h;exact absurd (Oe h).1 zab
 |.int n,.list b,h=>by rw[Re,Ud]at h;exact absurd (Oe h).1 zab
 |.bytes n,.int b,h=>by rw[Re,Rm]at h;exact absurd (Oe h).1 zab
 |.bytes n,.list b,h=>by rw[Rm,Ud]at h;exact absurd (Oe h).1 zab
 |.list n,.int b,h=>by rw[Re,Ud]at h;exact absurd (Oe h).1 zab
 |.list n,.bytes b,h=>by rw[Rm,Ud]at h;exact absurd (Oe h).1 zab
theorem yLy:∀{l l':List Val},Ph l=Ph l'->l=l'
 |[],[],_=>rfl
 |[],_::_,h=>by simp[Ph]at h
 |_::_,[],h=>by simp[Ph]at h
 |a::l,b::l',h=>by
  simp only[Ph,Ab]at h;rw[xP h.1,yLy h.2]
end
def WE{v v':Val}:Dx v=Dx v'↔v=v':=⟨xP,λh=>by rw[h]⟩
def yTt{l l':List Val}:l.map Dx=l'.map Dx↔l=l':=⟨Q1 λ_ _=>xP,λh=>by rw[h]⟩
theorem Tc(k n:Int)(B L:List D):DM (vD k n B L)=s_ (vC k n B L):=(rfl)
theorem ay:DM (U [I J 0,I J 0,O 0 [] t_,O 0 [] t_])=s_ [I J 0,I J 0,O 0 [] t_,O 0 [] t_]:=(rfl)
theorem Xu(lent:Bool)(k n:Int)(B L:List D):DB (s_ ⟨f_,1,vC k n B L,lent⟩) 1 f_ 0=s_ (I J k):=(rfl)
theorem Yzf(lent:Bool)(k n:Int)(B L:List D):DB (s_ ⟨f_,1,vC k n B L,lent⟩) 1 f_ 1=s_ (I J n):=(rfl)
theorem Yze(lent:Bool)(k n:Int)(B L:List D):DB (s_ ⟨f_,1,vC k n B L,lent⟩) 1 f_ 2=s_ (O (nz 1 B) B f_):=(rfl)
theorem su(lent:Bool)(k n:Int)(B L:List D):DB (s_ ⟨f_,1,vC k n B L,lent⟩) 1 f_ 3=s_ (O (nz 4 L) L f_):=(rfl)
theorem Pw(lent:Bool)(k n:Int)(B L:List D):DB (s_ ⟨f_,1,vC k n B L,lent⟩) 4 t_ 0=s_ (vD k n B L):=(rfl)
theorem dE(k n:Int)(B L:List D):DV (s_ (zzB [I J 0,I J 0,O 0 [] t_,O 0 [] t_])) 4 0 (vD k n B L)=s_ (zzB (vC k n B L)):=(rfl)
theorem YG4(st:St)(k n:Int)(B L:List D):Fa st 4 t_ (.eptr (vD k n B L) 0)=s_ (vD k n B L):=(rfl)
def sF(st:St)(k n:Int)(B L:List D):D2 st (vD k n B L)=s_ (vD k n B L):=by simp only[vD,vC,D2,Ef,DO,Jq];rfl
theorem oM(k n:Int)(B L:List D):keys (vD k n B L)=[]:=(rfl)
theorem hJ(k n:Int)(B L:List D):(vC k n B L).flatMap hk=[]:=(rfl)
def eG(m:Nat)(k n:Int)(B L:List D):∀x∈vC k n B L,ED m [] x=x:=by intro x E;simp only[vC,AB,AM,zav]at E;rcases E with rfl|rfl|rfl|rfl<;>rfl
theorem YGy(m:Nat)(σ:List Nat)(k n:Int)(B L:List D):(vC k n B L).map (ED m σ)=vC k n B L:=(rfl)
theorem YJa(st:St)(l:List Val)(t:Bool)(i:Nat)(h:i<l.length):ER st 4 (O (nz 4 (l.map Dx)) (l.map Dx) t) (I J (i:Int))=s_ (.eptr (Dx (l.getD i d_)) 0):=by have:=Mr st 4 Dx l t J (i:Int) zaa zaa;grind
def i21:((2:Int)=1)=False:=zac
def i31:((3:Int)=1)=False:=zac
def i32:((3:Int)=2)=False:=zac
def rD(N:Nat):=DL (α:=Val) (λv=>[Dx v]) (λv=>EI v<N/\(DW v).length<=4294967000) (λv=>.tup [I J (EI v:Int),V t_])
def yH3(N:Nat)(v:Val)(h:EI v<N/\(DW v).length<=4294967000):rD N [Dx v]=s_ (.tup [I J (EI v:Int),V t_]):=
 EL (λa b h=>by simp only[Ab,zag,WE]at h;rw[h]) v h
theorem yW2:∀b:zLB,b.length<=(b.flatMap EG).length
 |[]=>zac
 |c::b=>by
  have:=yW2 b;have E:1<=(EG c).length:=by unfold EG;split<;>simp
  grind
def Yp6(n:Int):1<=(JY n).length:=by unfold JY;split<;>simp
theorem yW1:∀v:Val,1<=(DW v).length
 |.int n=>by rw[wy];exact Yp6 n
 |.bytes b=>by rw[lG];simp
 |.list l=>by rw[Rh];simp
theorem yf:∀l:List Val,l.length<=(l.flatMap DW).length
 |[]=>zac
 |v::l=>by
  have:=yf l;have:=yW1 v;grind
theorem yW0:∀{l:List Val}{v:Val},v∈l->(DW v).length<=(l.flatMap DW).length
 |a::l,v,h=>by
  simp only[AA,Ag];rcases AB.1 h with rfl|h
  .omega
  .have:=yW0 h;omega
mutual
theorem Yrd:∀v:Val,EI v<=(DW v).length
 |.int n=>by simp[EI]
 |.bytes b=>by simp[EI]
 |.list l=>by
  have:=yw l;simp only[EI,DW,An,Ag,As];omega
theorem yw:∀l:List Val,Jp l<=(UG l).length
 |[]=>by simp[Jp]
 |v::l=>by
  have:=Yrd v;have:=yw l;simp only[Jp,UG,Ag];omega
end
def K7:List Val->Nat
 |[]=>0
 |v::l=>max (K7 l) (EI v)
def yW6:∀l:List Val,K7 l.reverse=Jp l:=by
 have h:∀(l m:List Val),K7 (l++m)=max (K7 l) (K7 m):=by
  intro l m
  induction l with
  |nil=>simp[K7]
  |cons a l E=>simp only[Aj,K7,E];omega
 intro l
 induction l with
 |nil=>simp[K7,Jp]
 |cons a l E=>rw[List.reverse_cons,h,E];simp only[K7,Jp];omega
def Ybh(l:List Val)(v:Val):Jp (l++[v])=max (Jp l) (EI v):=by rw[<-yW6,<-yW6 l,List.reverse_append];rfl
theorem Ug[Inhabited α](l:List α)(h:i<l.length):l.take (i+1)=l.take i++[l.getD i d_]:=by simp_all
theorem Yj7:∀N:Nat,zCC 185 (rD N)
 |0=>by
  intro w g ds vs d hd;obtain⟨a,_,hp,_⟩:=xz hd;omega
 |N+1=>by
  refine EM (T:=tb [(185,rD N)] []) yxq.2 (DP (all_cons (Yj7 N) all_nil) all_nil) ?_;rintro v ⟨hN,hl⟩;unfold yxq
  cases v with
  |int n=>
   rw[Re,Yre]
   push_cast(disch:=lia)[↓C5,Tc,Xu,Yze,su]
  |bytes b=>
   rw[Rm,Ybi]
   push_cast(disch:=lia)[↓C5,Tc,Xu,Yzf,su,i21]
  |list l=>
   rw[Ud,yv];rw[yv]at hN;rw[Rh]at hl;have a5:=yf l;have ae:=yw l;rw[wz]at ae;simp only[An,Ag,As]at hl
   push_cast(disch:=lia)[Tc,Xu,Yzf,Yze,su,i31,i32]
   refine Gn (λi:Nat=>[(2,I J (Jp (l.take i):Int)),(45,O (nz 4 (l.map Dx)) (l.map Dx) f_),(46,I J (l.length:Int)),(47,I J (i:Int))])
    (λ_=>[zzB (vC 3 0 [] (l.map Dx))]) (λi=>i<=l.length) (λi=>l.length-i) 0 (by push_cast [↓C5,hJ,YGy]<;>rfl) zaa ?_
   intro i hi
   push_cast(disch:=lia)
   refine Fm (λh2=>?_) (λh2=>?_)
   .have E:i<l.length:=zaa
    have hx:=YJa [zzB (vC 3 0 [] (l.map Dx))] l f_ i E;have aa:l.getD i d_∈l:=by rw[Am,Ah E];exact A6 E
    have af:=wY aa;have ah:=yW0 aa;have hc:=yH3 N (l.getD i d_) ⟨zaa,zaa⟩;have ab:=Ug l E;obtain⟨x,a0⟩:∃x,l.getD i d_=x:=⟨_,rfl⟩;rw[a0]at hx hc ab af ah;have ac:=Ybh (l.take i) x;rw[<-ab]at ac;obtain⟨k,n,B,L,hC,hD⟩:=Rl x;rw[hD]at hx hc
    push_cast(disch:=lia)[hx,YG4,ay,dE,Pw,sF,oM,hc,D5]
    refine EV (i+1) zaa zaa ?_;rw[show((Jp (l.take (i+1)):Nat):Int)=max (Jp (l.take i):Int) (EI x:Int) by rw[ac];omega];rfl
   .obtain rfl:i=l.length:=zaa
    have e2:l.take l.length=l:=Bx;rw[e2]
    push_cast(disch:=lia)[D5]
def F3(st:St)(o:Obj):(st++[o])[st.length]?=s_ o:=List.getElem?_concat_length
def bw(st:St)(o o':Obj):(st++[o]).set st.length o'=st++[o']:=zac
def vW(n:Nat)(d:D):ED n [] d=Ia n d:=by
 have rk:∀(f:Nat->D)(key:Nat),KI f (Fv n [] key)=if key<n then f key else .junk:=by
  intro f key;unfold Fv;split<;>rfl
 have E:∀d,Hy n [] d=IK n d:=by
  intro d;cases d<;>simp only[Hy,IK,rk]
 have N:∀d,E5 n [] d=Hi n d:=by
  intro d
  cases d with
  |clo f l=>simp only[E5,Hi,D.clo.injEq,zal];exact AY λx _=>E x
  |_=>simp only[E5,Hi];exact E _
 cases d with
 |agg l=>simp only[ED,Ia,D.agg.injEq];exact AY λx _=>N x
 |tup l=>rfl
 |_=>simp only[ED,Ia];exact N _
def YJh{x:D}(h:ED n [] x=x):∀k∈hk x,k<n:=by
 have E:∀(f:Nat->D)(key:Nat),(∀k,f k≠.junk)->KI f (Fv n [] key)=f key->key<n:=by
  intro f key hf h;unfold Fv at h
  split at h
  .assumption
  .exact absurd h.symm (hf key)
 have h0:∀x,Hy n [] x=x->∀k∈Gk x,k<n:=by
  intro x h k hk
  cases x with
  |row key tot off len=>simp only[Gk,AU]at hk;subst hk;exact E (λk=>.row k tot off len) _ (λk e=>by cases e) h
  |bsl key off j sz ag=>simp only[Gk,AU]at hk;subst hk;exact E (λk=>.bsl k off j sz ag) _ (λk e=>by cases e) h
  |ptr key off=>simp only[Gk,AU]at hk;subst hk;exact E (λk=>Y k off) _ (λk e=>by cases e) h
  |rptr key tot i off=>simp only[Gk,AU]at hk;subst hk;exact E (λk=>.rptr k tot i off) _ (λk e=>by cases e) h
  |mapv key=>simp only[Gk,AU]at hk;subst hk;exact E .mapv _ (λk e=>by cases e) h
  |_=>simp[Gk]at hk
 have h1:∀x,E5 n [] x=x->∀k∈DT x,k<n:=by
  intro x h k hk
  cases x with
  |clo f l=>
   simp only[DT,Bk]at hk;obtain⟨y,N,hk⟩:=hk;simp only[E5,D.clo.injEq,zal]at h;exact h0 y (Uw h y N) k hk
  |_=>unfold E5 at h;unfold DT at hk;exact h0 _ h k hk
 intro k hk
 cases x with
 |agg l=>
  simp only[PI.hk,Bk]at hk;obtain⟨y,N,hk⟩:=hk;simp only[ED,D.agg.injEq]at h;exact h1 y (Uw h y N) k hk
 |tup l=>simp[PI.hk,DT,Gk]at hk
 |_=>unfold ED at h;unfold PI.hk at hk;exact h1 _ h k hk
theorem StOK.keys(h:StOK st):∀o∈st,o.row=f_->∀x∈o.els,∀k∈hk x,k<st.length:=λo E N x hx=>YJh (h o E N x hx)
theorem yux{l:St}(h:StOK st)(hn:n=st.length)(E:∀k∈O5 fr keep,k<n):restrict keep n ⟨fr,st++l⟩=⟨GU (Lh fr n [] keep),st⟩:=by subst hn;refine yJn h h.keys λs N k hk=>E k ?_;rw[wJ,Bk];grind
def Yug{l:St}(h:StOK st)(hn:n=st.length):cut n (st++l)=st:=by
 subst hn;unfold cut;rw[show(st++l).take st.length=st by simp];refine OR λo E=>?_;obtain⟨row,sz,els,lent⟩:=o
 cases row with
 |true=>rfl
 |false=>
  show(⟨f_,sz,els.map (Ia st.length),lent⟩:Obj)=_
  rw[OR λx N=>(vW st.length x).symm.trans (h _ E rfl x N)]
def xL(h:StOK st)(k n:Int)(B L:List D)(lent:Bool):StOK (st++[⟨f_,1,vC k n B L,lent⟩]):=h.app _ λo E hr x N=>by
 simp only[AU]at E;subst E;exact eG _ _ _ _ _ x N
def Yb8{b:D}(h:Qq st b l)(m:St):Qq (st++m) b l:=by
 rcases h with⟨rfl,rfl⟩|⟨key,rfl,hl,hk⟩
 .exact .inl ⟨rfl,rfl⟩
 .exact .inr ⟨key,rfl,hl,by rw[Aw (Aa.1 hk).1];exact hk⟩
theorem yIe{els:List D}{lent:Bool}(hk:st[key]?=s_ ⟨t_,sz,els,lent⟩){j:Nat}{o:PI.Obj}(hj:st[j]?=s_ o)(N:o.row=f_)(m:zLB):(Eg st key m)[j]?=s_ o:=by
 have E:key≠j:=by
  grind
 rw[Eg,Ac E];exact hj
theorem yFn{b:D}(h:Qq st b l)(hm:m≠[]):∃key st1,key<st1.length/\KG st b l m=(.row key (l++m).length 0 (l++m).length,Eg st1 key (l++m))/\(StOK st->StOK st1)/\
  (∀n,KG st b l (m++n)=(.row key (l++(m++n)).length 0 (l++(m++n)).length,Eg st1 key (l++(m++n))))/\∀(j:Nat)(o:PI.Obj),st[j]?=s_ o->o.row=f_->∀n,(Eg st1 key n)[j]?=s_ o:=by
 rcases h with⟨rfl,rfl⟩|⟨key,rfl,hl,hk⟩
 .refine⟨st.length,st++[⟨t_,1,[],f_⟩],zac,?_,λh=>h.app _ λo ho E=>?_,λn=>?_,λj o hj E n=>?_⟩
  .simp[KG,Eg]
  .grind
  .simp[KG,Eg]
  .exact yIe (F3 st ⟨t_,1,[],f_⟩) (by rw[Aw (Aa.1 hj).1];exact hj) E n
 .have N:=(Aa.1 hk).1;exact⟨key,st,N,rfl,id,λn=>rfl,λj o hj E n=>yIe hk hj E n⟩
def X5(st:St)(b:D)(l:zLB)(v:Val):D×St:=KG (st++[zzB (cS v)]) b l (DW v)
def YE7(N:Nat)(ds:List D)(st:St)(r:D×St):Prop:=∃(v:Val),StOK st/\EI v<N/\(DW v).length<=4294967000/\ds=[O 0 [] t_,Dx v]/\r=X5 st (O 0 [] t_) [] v
def YE6(N:Nat)(ds:List D)(st:St)(r:D×St):Prop:=∃(key:Nat)(l:zLB)(v:Val),StOK st/\EI v<N/\l.length+(DW v).length<=4294967000/\l≠[]/\st[key]?=s_ ⟨t_,1,l.map DK,f_⟩/\ds=[.row key l.length 0 l.length,Dx v]/\r=KG st (.row key l.length 0 l.length) l (DW v)
def xy(N:Nat):zsF:=Gf (YE7 N)
def YT(N:Nat):zsF:=Gf (YE6 N)
def Yk6(N:Nat):Jo (YE6 N):=by rintro ds st r r' ⟨key,l,v,_,_,_,_,hk,rfl,rfl⟩ ⟨aa,l',v',_,_,_,_,E,h,rfl⟩;simp only[Ab,D.row.injEq,zag,WE]at h;obtain⟨⟨rfl,_⟩,rfl⟩:=h;rw[hk]at E;simp only[Dv,Obj.mk.injEq,zal,zag]at E;rw[T6 E]
def Yk7(N:Nat):Jo (YE7 N):=by rintro ds st r E ⟨v,_,_,_,rfl,rfl⟩ ⟨v',_,_,_,h,rfl⟩;simp only[Ab,zag,zal,WE]at h;rw[h]
theorem Yeb{G:Dy}{T:Tbl}{c:PC}{E:List PRes}{K K':D->St->Prop}(h:@wW G T c fr st ⟨@Hx E ⟨K⟩⟩)(hk:∀d st,K d st->K' d st):@wW G T c fr st ⟨@Hx E ⟨K'⟩⟩:=by
 refine UP (LG _ _ _ _ _ (Gr h) λe N st' h=>?_)
 have fin:@on _ (Ed ⟨N,st'⟩ E) ⟨λl=>K (DS l) st'⟩->@on _ (Ed ⟨N,st'⟩ E) ⟨λl=>K' (DS l) st'⟩:=by
  unfold on;grind
 cases e with
 |next=>rw[yMm]at h⊢;exact fin h
 |ret=>rw[yUv]at h⊢;exact fin h
 |exit id=>unfold Hx at h;exact h.elim
 |panic t d=>unfold Hx at h;exact h.elim
theorem YL7(c:UInt8):DI .eql (DK c) (I .u8 0)=s_ (V (decide (c=0))):=by
 unfold DK;rw[Yk0]
 congr 2
 rw[decide_eq_decide];refine⟨λh=>?_,λh=>by subst h;rfl⟩;apply UInt8.toNat_inj.1;grind
theorem YHu:EZ 1 [I .u8 0,I .u8 0]=s_ (O 1 [I .u8 0,I .u8 0] t_):=(rfl)
theorem sE(n:Int):EZ 1 [I .u8 n]=s_ (O 1 [I .u8 n] t_):=(rfl)
theorem by48:DK 48=I .u8 48:=(rfl)
theorem by64:DK 64=I .u8 64:=(rfl)
theorem by0:DK 0=I .u8 0:=(rfl)
theorem jE:DK 255=I .u8 255:=(rfl)
theorem Ylx(T:Tbl)(st1:St)(key:Nat)(E:key<st1.length)(ad:StOK st1)(l0 B:zLB)(hl:l0.length+(B.flatMap EG).length<=4294967100)(fr:Frame)(Q:Ex->Frame->St->Prop)
  (h0:fr 0=.row key l0.length 0 l0.length) (h1:fr 23=O (nz 1 (B.map DK)) (B.map DK) f_) (h6:fr 24=I J (B.length:Int)) (ae:fr 25=I J 0)
  (hQ:∀aa,aa 0=.row key (l0++B.flatMap EG).length 0 (l0++B.flatMap EG).length->Q (.exit 1) aa (Eg st1 key (l0++B.flatMap EG))):
  @wW GG T (.loop [0,23,24,25] ylb.1) fr (Eg st1 key l0) ⟨Q⟩:=by
 have hlen:=uq st1 key;have hR:∀(fr:Frame)(m:zLB),restrict [0,23,24,25] (Eg st1 key l0).length ⟨fr,Eg st1 key m⟩=⟨GU (Lh fr st1.length [] [0,23,24,25]),Eg st1 key m⟩:=λfr m=>by rw[mT (aT ad key m) (by rw[hlen,hlen]),hlen]
 have hB:=yW2 B
 refine Gn (λi:Nat=>[(0,.row key (l0++(B.take i).flatMap EG).length 0 (l0++(B.take i).flatMap EG).length),(23,O (nz 1 (B.map DK)) (B.map DK) f_),(24,I J (B.length:Int)),(25,I J (i:Int))])
  (λi=>Eg st1 key (l0++(B.take i).flatMap EG)) (λi=>i<=B.length) (λi=>B.length-i) 0 ?_ zaa ?_
 .rw[hR];simp(disch:=omega) only[push_cast,↓C5,h0,h1,h6,ae,TQ]<;>rfl
 intro i hi
 try unfold ylb
 push_cast(disch:=lia)
 refine Fm (λh2=>?_) (λh2=>?_)
 .have af:i<B.length:=zaa
  have hx:ER (Eg st1 key (l0++(B.take i).flatMap EG)) 1 (O (nz 1 (B.map DK)) (B.map DK) f_) (I J (i:Int))=s_ (.eptr (DK (B.getD i d_)) 0):=by
   have:=Mr (Eg st1 key (l0++(B.take i).flatMap EG)) 1 DK B f_ J (i:Int) zaa zaa;grind
  have a9:=Ug B af
  have a8:((B.take i).flatMap EG).length+(EG (B.getD i d_)).length<=(B.flatMap EG).length:=by
   have e:B=B.take (i+1)++B.drop (i+1):=(Bl _ _).symm;grind
  generalize ba:B.getD i d_=c at*;have a2:1<=(EG c).length:=by unfold EG;split<;>simp
  have N:=λx=>kS (st:=st1) E (l0++(B.take i).flatMap EG) x (by rw[Ag];omega) t_
  have ab:l0++(B.take (i+1)).flatMap EG=l0++(B.take i).flatMap EG++EG c:=by
   grind
  by_cases hc:c=0
  .subst hc;have a0:DI .eql (DK 0) (I .u8 0)=s_ (V t_):=(rfl)
   have h3:=kS (st:=st1) E (l0++(B.take i).flatMap EG++[0]) 255 (by
    grind) t_
   rw[jE]at h3
   push_cast(disch:=lia)[hx,uh,jQ,aF,aI,sE,N,a0,h3,D5,↓hR,E]
   refine EV (i+1) zaa zaa ?_;rw[ab,show l0++(B.take i).flatMap EG++EG 0=l0++(B.take i).flatMap EG++[0]++[255] by simp[EG]]
   first|rfl|(push_cast [↓Fc,↓C5]<;>rfl)
  .push_cast(disch:=lia)[hx,uh,jQ,aF,aI,N,YL7,hc,zai,D5,↓hR,E]
   refine EV (i+1) zaa zaa ?_;rw[ab,show l0++(B.take i).flatMap EG++EG c=l0++(B.take i).flatMap EG++[c] by simp[EG,hc]]
   first|rfl|(push_cast [↓Fc,↓C5]<;>rfl)
 .obtain rfl:i=B.length:=zaa
  rw[Bx]
  push_cast(disch:=lia)
  exact hQ _ rfl
def Yb3{v:Val}{N:Nat}(E:StOK st)(h2:EI v<N)(h3:l.length+(DW v).length<=4294967000)(h4:l≠[])(h5:st[key]?=s_ ⟨t_,1,l.map DK,f_⟩):
  YT N [.row key l.length 0 l.length,Dx v] st=s_ (.row key (l++DW v).length 0 (l++DW v).length,st.set key ⟨t_,1,(l++DW v).map DK,f_⟩):=NM (Yk6 N) ⟨key,l,v,E,h2,h3,h4,h5,rfl,rfl⟩
def Yh8[Inhabited α](f:α->zLB)(L:List α)(h:i<L.length):((L.take i).flatMap f).length+(f (L.getD i d_)).length<=(L.flatMap f).length:=by have e:L=L.take (i+1)++L.drop (i+1):=(Bl _ _).symm;have:=congrArg (λl=>(l.flatMap f).length) e;simp only[List.flatMap_append,Ag,Ug L h,AA,CV,Ai]at this;omega
theorem Ylw(N:Nat)(st1:St)(key:Nat)(E:key<st1.length)(ab:StOK st1)(l0:zLB)(ah:l0≠[])(L:List Val)(hd:Jp L<N)(hl:l0.length+(L.flatMap DW).length<=4294967000)(fr:Frame)(Q:Ex->Frame->St->Prop)
  (h0:fr 0=.row key l0.length 0 l0.length) (h1:fr 46=O (nz 4 (L.map Dx)) (L.map Dx) f_) (h6:fr 47=I J (L.length:Int)) (a0:fr 48=I J 0)
  (hQ:∀ac,ac 0=.row key (l0++L.flatMap DW).length 0 (l0++L.flatMap DW).length->Q (.exit 3) ac (Eg st1 key (l0++L.flatMap DW))):
  @wW GG (tb [] [(195,bA),(186,YT N)]) (.loop [0,46,47,48] yla.1) fr (Eg st1 key l0) ⟨Q⟩:=by
 have hlen:=uq st1 key;have hB:=yf L;have hR:∀(fr:Frame)(m:zLB),restrict [0,46,47,48] (Eg st1 key l0).length ⟨fr,Eg st1 key m⟩=⟨GU (Lh fr st1.length [] [0,46,47,48]),Eg st1 key m⟩:=λfr m=>by rw[mT (aT ab key m) (by rw[hlen,hlen]),hlen]
 refine Gn (λi:Nat=>[(0,.row key (l0++(L.take i).flatMap DW).length 0 (l0++(L.take i).flatMap DW).length),(46,O (nz 4 (L.map Dx)) (L.map Dx) f_),(47,I J (L.length:Int)),(48,I J (i:Int))])
  (λi=>Eg st1 key (l0++(L.take i).flatMap DW)) (λi=>i<=L.length) (λi=>L.length-i) 0 ?_ zaa ?_
 .rw[hR];simp(disch:=omega) only[push_cast,↓C5,h0,h1,h6,a0,TQ]<;>rfl
 intro i hi
 try unfold yla
 push_cast(disch:=lia)
 refine Fm (λh2=>?_) (λh2=>?_)
 .have aa:i<L.length:=zaa
  have hx:=YJa (Eg st1 key (l0++(L.take i).flatMap DW)) L f_ i aa;have ae:L.getD i d_∈L:=by rw[Am,Ah aa];exact A6 aa
  have a1:=wY ae;have a2:=Yh8 DW L aa;have a3:=Ug L aa;obtain⟨x,a4⟩:∃x,L.getD i d_=x:=⟨_,rfl⟩;rw[a4]at hx a3 a1 a2
  have bd:l0++(L.take (i+1)).flatMap DW=l0++(L.take i).flatMap DW++DW x:=by
   grind
  obtain⟨k,n,B,M,hC,hD⟩:=Rl x;have af:=xL (aT ab key (l0++(L.take i).flatMap DW)) k n B M f_
  have hc:=Yb3 (N:=N) (v:=x) (l:=l0++(L.take i).flatMap DW) (key:=key) af zaa (by rw[Ag];omega) (by simp[ah]) (by
   rw[Aw (by rw[hlen];exact E)];exact wk E _)
  rw[BI _ _ (by rw[hlen];exact E),show(Eg st1 key (l0++(L.take i).flatMap DW)).set key ⟨t_,1,(l0++(L.take i).flatMap DW++DW x).map DK,f_⟩=Eg st1 key (l0++(L.take i).flatMap DW++DW x)from Ykm st1 key _ _,hD]at hc;rw[hD]at hx
  have a6:∀(fr:Frame)(m:zLB)(o:PI.Obj),(O5 fr [0,46,47,48]).all (λk=>decide (k<st1.length))=t_->restrict [0,46,47,48] (Eg st1 key l0).length ⟨fr,Eg st1 key m++[o]⟩=⟨GU (Lh fr st1.length [] [0,46,47,48]),Eg st1 key m⟩:=λfr m o h=>by
   rw[yux (aT ab key m) (by rw[hlen,hlen]) (λk hk=>by rw[hlen];exact zat (Ad.1 h k hk)),hlen]
  simp(disch:=first|omega|decide|(push_cast [↓Fc,↓C5,E];done)) only[push_cast,↓reduceIte,C3,↓a6,hx,YG4,ay,F3,bw,dE,Pw,hc,D5,E];refine EV (i+1) zaa zaa ?_;grind
 .obtain rfl:i=L.length:=zaa
  rw[Bx]
  push_cast(disch:=lia)
  exact hQ _ rfl
theorem Ys5(N:Nat)(st:St)(b:D)(l:zLB)(v:Val)(a5:StOK st)(hb:Qq st b l)(hN:EI v<N+1)(hl:l.length+(DW v).length<=4294967000):
  @wW GG (tb [] [(195,bA),(186,YT N)]) Rt.1.code (Du [b,Dx v]) st ⟨@Hx Rt.1.res ⟨λd st'=>(d,st')=X5 st b l v⟩⟩:=by
 unfold Rt X5;obtain⟨k,n,B,M,hC,hD⟩:=Rl v;have ae:=xL a5 k n B M f_;have ad:=Yb8 hb [zzB (vC k n B M)];have a3:=F3 st (zzB (vC k n B M))
 cases v with
 |int m=>
  obtain⟨rfl,rfl,rfl,rfl⟩:=Oe ((Re m).symm.trans hD);have hc:=Yj0 m ae ad zaa;rw[hD,hC,wy];generalize KG (st++[⟨f_,1,vC 1 m [] [],f_⟩]) b l (JY m)=r at*;obtain⟨r1,r2⟩:=r
  push_cast(disch:=lia)[Tc,Xu,Yzf,F3,hc]
 |bytes m=>
  obtain⟨rfl,rfl,rfl,rfl⟩:=Oe ((Rm m).symm.trans hD);rw[lG]at hl;simp only[An,Ag,As]at hl;rw[hD,hC,lG];obtain⟨key,st1,ab,af,ah,ac,a0⟩:=yFn ad (m:=[48]) zac;have E:=YM ad (m:=[48]) zac (by simp;omega) t_;rw[af]at E;simp only[Av,Bc,by48]at E;have hm:=ac (m.flatMap EG++[0,0]);rw[show(48::(m.flatMap EG++[0,0]):zLB)=[48]++(m.flatMap EG++[0,0])from rfl,hm];have a2:=a0 _ _ a3 rfl (l++[48])
  push_cast(disch:=lia)[Tc,Xu,Yze,F3,i21,sE,E,a2]
  refine Ylx _ st1 key ab (ah ae) (l++[48]) m (by simp only[Ag,An,As];omega) _ _ (by push_cast) (by push_cast) (by push_cast) (by push_cast) λa6 hf=>?_;have aa:=yXm (st:=st1) ab (l++[48]++m.flatMap EG) [0,0] zac (by simp only[Ag,An,As];omega) t_;simp only[Av,Bc,by0]at aa
  push_cast(disch:=lia)[hf,YHu,aa]
  grind
 |list m=>
  obtain⟨rfl,rfl,rfl,rfl⟩:=Oe ((Ud m).symm.trans hD);rw[Rh]at hl;rw[yv]at hN;simp only[An,Ag,As]at hl;rw[hD,hC,Rh];obtain⟨key,st1,ab,af,ah,ac,a0⟩:=yFn ad (m:=[64]) zac;have E:=YM ad (m:=[64]) zac (by simp;omega) t_;rw[af]at E;simp only[Av,Bc,by64]at E;have hm:=ac (m.flatMap DW++[0]);rw[show(64::(m.flatMap DW++[0]):zLB)=[64]++(m.flatMap DW++[0])from rfl,hm];have a2:=a0 _ _ a3 rfl (l++[64])
  push_cast(disch:=lia)[Tc,Xu,su,F3,i31,i32,sE,E,a2]
  refine Ylw N st1 key ab (ah ae) (l++[64]) zac m zaa (by simp only[Ag,An,As];omega) _ _ (by push_cast) (by push_cast) (by push_cast) (by push_cast) λa6 hf=>?_;have aa:=kS (st:=st1) ab (l++[64]++m.flatMap DW) 0 (by simp only[Ag,An,As];omega) t_;simp only[by0]at aa
  push_cast(disch:=lia)[hf,sE,aa]
  grind
theorem Yi5:∀N:Nat,zIC 186 (xy N)/\zIC 186 (YT N)
 |0=>by
  have hT:TblOK Tryz.prog GG (tb [] []):=DP all_nil all_nil;refine⟨Kg Rt.2 hT λds st r E=>?_,Kg Rt.2 hT λds st r E=>?_⟩
  .obtain⟨v,_,h,_⟩:=Ku E;omega
  .obtain⟨key,l,v,_,h,_⟩:=Ku E;omega
 |N+1=>by
  have hT:TblOK Tryz.prog GG (tb [] [(195,bA),(186,YT N)]):=DP all_nil (all_cons YCe (all_cons (Yi5 N).2 all_nil));refine⟨Kg Rt.2 hT λds st r E=>?_,mO Rt.2 hT λds st r E=>?_⟩
  .obtain⟨v,aa,hd,hl,rfl,rfl⟩:=Ku E;exact Ys5 N st _ [] v aa (.inl ⟨rfl,rfl⟩) hd (by simpa using hl)
  .obtain⟨key,l,v,aa,hd,hl,ad,hk,rfl,rfl⟩:=Ku E;have ac:=(Aa.1 hk).1;refine Yeb (Ys5 N st _ l v aa (.inr ⟨key,rfl,ad,hk⟩) hd hl) λd st' h=>?_;simp only[X5,KG,D4]at h⊢;obtain⟨rfl,rfl⟩:=h;refine⟨?_,?_⟩
   .show Ji st.length (.row key _ 0 _)=_
    simp only[Ji,Ia,Hi,IK,ac,zaj]
   .rw[BI _ _ ac];exact Yug (aa.set _ _ λe=>by cases e) (by rw[BE])
def Yb4{v:Val}{N:Nat}(E:StOK st)(h2:EI v<N)(h3:(DW v).length<=4294967000):xy N [O 0 [] t_,Dx v] st=s_ (X5 st (O 0 [] t_) [] v):=NM (Yk7 N) ⟨v,E,h2,h3,rfl,rfl⟩
def jG(b:zLB):D:=O (nz 1 (b.map DK)) (b.map DK) f_
def MZ(v:Val):zLB:=if(DW v).length<=65536 then DW v else []
def VG(v:Val):Int:=if(DW v).length<=65536 then 0 else 2
def yN:=DL (α:=Val) (λv=>[Dx v]) (λv=>EI v<=16/\(DW v).length<=4294967000) (λv=>.tup [jG (MZ v),I J (VG v)])
def yS9(v:Val)(h:EI v<=16/\(DW v).length<=4294967000):yN [Dx v]=s_ (.tup [jG (MZ v),I J (VG v)]):=
 EL (λa b h=>by simp only[Ab,zag,WE]at h;rw[h]) v h
def Yr5:zCC 170 yN:=by
 refine EM (T:=tb [(185,rD 17)] [(186,xy 17)]) yu7.2 (DP (all_cons (Yj7 17) all_nil) (all_cons (Yi5 17).1 all_nil)) ?_;rintro v ⟨hd,hl⟩;unfold yu7 MZ VG;obtain⟨k,n,B,M,hC,hD⟩:=Rl v;have h1:=yH3 17 v ⟨zaa,hl⟩;have h2:=Yb4 (N:=17) (st:=[zzB (vC k n B M)]) (v:=v) (by have:=xL StOK.nil k n B M f_;simpa using this) zaa hl
 have ae:DW v≠[]:=by
  intro e;have:=yW1 v;rw[e]at this;simp at this
 have hz:nz 1 ((DW v).map DK)=1:=by
  cases he:DW v with
  |nil=>exact absurd he ae
  |cons a r=>rfl
 simp only[X5,KG,Aj,Aq,An,As]at h2;rw[hD]at h1 h2;rw[hD]
 push_cast(disch:=lia)[Tc,Pw,sF,oM,h1]
 have af:¬((16:Int)<(EI v:Int)):=zaa
 push_cast(disch:=lia)[af,zai,Pw,h2]
 by_cases E:(DW v).length<=65536
 .rw[zae E,zae E];have h4:¬((65536:Int)<((DW v).length:Int)):=zaa
  push_cast(disch:=lia)[h4,zai,jG]
 .rw[zaf E,zaf E];have h4:((65536:Int)<((DW v).length:Int)):=zaa
  push_cast(disch:=lia)[h4,zah,jG]
def DQ:Dig:=Wi [112,97,100] []
def HS(a b:Dig):Dig:=Wi [110,111,100,101] (a.bs++b.bs)
def F4(l:List Dig)(k:Int)(pad:Dig):Dig:=if k<(l.length:Int)then l.getD k.toNat d_ else pad
def G4(pad:Dig):List Dig->List Dig
 |[]=>[]
 |[a]=>[HS a pad]
 |a::b::r=>HS a b::G4 pad r
def E7:Nat->Dig
 |0=>DQ
 |n+1=>HS (E7 n) (E7 n)
def Fh(l:List Dig):Nat->List Dig
 |0=>l
 |n+1=>G4 (E7 n) (Fh l n)
def FX(l:List Dig)(level:Nat)(k:Int):Dig:=F4 (Fh l level) k (E7 level)
def HM(n:Nat):Nat:=if n=0 then 0 else n.log2+1
def Ep(n:Int):Int:=if n<0\/65536<n then -1 else(HM ((max n 1).toNat-1):Nat)
theorem Ul(E:Dig):∀l:List Dig,(G4 E l).length=(l.length+1)/2
 |[]=>rfl
 |[a]=>by simp[G4]
 |a::b::r=>by
  simp only[G4,An,Ul E r];omega
def Y9(h:n<2^k):HM n<=k:=by
 unfold HM
 split
 .omega
 .rename_i E;have:n.log2<k:=(Nat.log2_lt E).2 h;omega
def yFs:n<2^HM n:=by
 unfold HM
 split
 .omega
 .rename_i E;exact(Nat.log2_lt E).1 (B0 _)
theorem yPp(h:2^k<=n):k+1<=HM n:=by
 have E:n≠0:=by
  grind
 have:=(Nat.le_log2 E).2 h;unfold HM;grind
def Uh(n k:Nat)(h:2^k<=n):HM n=k+HM (n/2^k):=by
 have N:=yFs (n:=n/2^k)
 have h2:HM n<=k+HM (n/2^k):=by
  apply Y9;rw[Nat.pow_add];exact(Nat.div_lt_iff_lt_mul (Nat.two_pow_pos k)).1 N |> λx=>by rwa [B4]
 have h3:1<=n/2^k:=(Nat.one_le_div_iff (Nat.two_pow_pos k)).2 h
 have h4:k+HM (n/2^k)<=HM n:=by
  obtain⟨j,hj⟩:∃j,HM (n/2^k)=j+1:=by
   have:=yPp (n:=n/2^k) (k:=0) zaa;exact⟨HM (n/2^k)-1,zaa⟩
  have h5:2^j<=n/2^k:=by
   rcases Bg (n/2^k) (2^j)with E|E
   .have:=Y9 E;omega
   .exact E
  have E:2^(k+j)<=n:=by
   rw[Nat.pow_add]
   calc 2^k*2^j<=2^k*(n/2^k):=Nat.mul_le_mul_left _ h5
    _<=n:=Nat.mul_div_le n (2^k)
  have:=yPp E;omega
 omega
def Yim:Int×Dig:=(0,DX)
def GM(k:Int):Int:=if k%2=0 then k+1 else k-1
def ME(i:Nat)(x:Dig):List Dig->Dig
 |[]=>x
 |q::r=>ME (i/2) (if i%2=0 then HS x q else HS q x) r
def Jw(c:Int×Dig)(i:Int)(leaf:Dig)(p:List Dig):Bool:=
 decide (0<=Ep c.1/\0<=i/\i<2^(Ep c.1).toNat/\(p.length:Int)=Ep c.1/\ME i.toNat leaf p=c.2)
def Ic(l:List Dig)(i:Int):Nat->List Dig
 |0=>[]
 |n+1=>Ic l i n++[FX l n (GM (i/2^n))]
def Qg{n:Int}(E:0<=n)(N:n<=65536):Ep n=(HM ((max n 1).toNat-1):Nat)/\0<=Ep n/\Ep n<=16:=by
 have e:Ep n=(HM ((max n 1).toNat-1):Nat):=by unfold Ep;rw[YYN]
 have:HM ((max n 1).toNat-1)<=16:=Y9 zaa;omega
def Zo{n:Int}(h:n<0\/65536<n):Ep n=-1:=by unfold Ep;rw[zae h]
theorem yOt{n:Int}(E:0<=n)(N:n<=65536):n<=2^(Ep n).toNat:=by obtain⟨e,_,_⟩:=Qg E N;rw[e,AH];have h2:=yFs (n:=(max n 1).toNat-1);grind
theorem YO{a b:Nat}(h:a<=b):(2:Int)^a<=2^b:=by have E:(2:Nat)^a<=2^b:=Cu zab h;grind
def YP(a:Nat):(1:Int)<=2^a:=YO (a:=0) zaa
theorem wc(E:Dig):∀(row:List Dig)(j:Nat),2*j<row.length->(G4 E row).getD j d_=HS (row.getD (2*j) d_) (F4 row (2*(j:Int)+1) E)
 |[],j,h=>by simp at h
 |[a],j,h=>by
  obtain rfl:j=0:=by simp at h;omega
  rfl
 |a::b::r,0,_=>by
  have:F4 (a::b::r) (2*((0:Nat):Int)+1) E=b:=by
   unfold F4;grind
  rw[this];rfl
 |a::b::r,j+1,h=>by
  have N:=wc E r j (by simp at h;omega)
  have e1:(a::b::r).getD (2*(j+1)) d_=r.getD (2*j) d_:=by
   rfl
  have e2:F4 (a::b::r) (2*((j+1:Nat):Int)+1) E=F4 r (2*(j:Int)+1) E:=by
   unfold F4;grind
  rw[e1,e2,<-N];rfl
def rq(E:Dig)(row:List Dig)(j:Nat)(h:2*j<row.length):(G4 E row).take (j+1)=(G4 E row).take j++[HS (row.getD (2*j) d_) (F4 row (2*(j:Int)+1) E)]:=by rw[yL4 _ j (by rw[Ul];omega),wc E row j h]
theorem um(l:List Dig):∀n,(Fh l n).length<=l.length
 |0=>Au _
 |n+1=>by
  rw[Fh,Ul];have:=um l n;omega
def Yzb:([0,1,2,2,3,3,3,3,4,4,4,4,4,4,4,4,5,5,5,5,5,5,5,5,5,5,5,5,5,5,5,5,6,6,6,6,6,6,6,6,6,6,6,6,6,6,6,6,6,6,6,6,6,6,6,6,6,6,6,6,6,6,6,6,7,7,7,7,7,7,7,7,7,7,7,7,7,7,7,7,7,7,7,7,7,7,7,7,7,7,7,7,7,7,7,7,7,7,7,7,7,7,7,7,7,7,7,7,7,7,7,7,7,7,7,7,7,7,7,7,7,7,7,7,7,7,7,7,8,8,8,8,8,8,8,8,8,8,8,8,8,8,8,8,8,8,8,8,8,8,8,8,8,8,8,8,8,8,8,8,8,8,8,8,8,8,8,8,8,8,8,8,8,8,8,8,8,8,8,8,8,8,8,8,8,8,8,8,8,8,8,8,8,8,8,8,8,8,8,8,8,8,8,8,8,8,8,8,8,8,8,8,8,8,8,8,8,8,8,8,8,8,8,8,8,8,8,8,8,8,8,8,8,8,8,8,8,8,8,8,8,8,8,8,8,8,8,8,8,8,8,8,8,8,8,8]:zLB)=(C9 256).map (λj=>De (HM j)):=by kernel_rfl
def SG(j:Nat)(h:j<256):((((C9 256).map (λj=>De (HM j))).getD j d_).toNat:Int)=HM j:=by have E:HM j<=8:=Y9 (k:=8) zaa;simp[Am,h];omega
def yR3:((C9 256).map (λj=>De (HM j))).length=256:=zac
def SD(b:UInt8):Jf (.str ((C9 256).map (λj=>De (HM j)))) (DK b)=s_ (DK (((C9 256).map (λj=>De (HM j))).getD b.toNat d_)):=Yqi _ b (by rw[yR3];exact b.toNat_lt)
def SH(m:Nat)(h:m<256):(De m).toNat=m:=by simp;omega
def yO:=DL (α:=Int) (λa=>[I .u64 a]) (λa=>0<=a/\a<18446744073709551616) (λa=>I J (HM a.toNat:Int))
def yS7(x:Int)(h:0<=x/\x<18446744073709551616):yO [I .u64 x]=s_ (I J (HM x.toNat:Int)):=
 EL (λa b h=>by simp only[Ab,D.int.injEq,zal,zag]at h;simp[h]) (x) h
theorem Ylu(x:Int)(h:0<=x/\x<18446744073709551616):@wW GG (tb [] []) nX.1.code (Du [I .u64 x]) [] ⟨DN nX.1.res (I J (HM x.toNat:Int))⟩:=by
 obtain⟨h0,h1⟩:=h;obtain⟨n,rfl⟩:=Be h0;rw[AH];have d1:=Uh n 32;have d2:=Uh n 16;have d3:=Uh n 8;have d4:=Uh (n/2^32) 16;have d5:=Uh (n/2^32) 8;have d6:=Uh (n/2^32/2^16) 8;have d7:=Uh (n/2^16) 8;have N:∀y,y<256->HM y<=8:=λy hy=>Y9 (k:=8) zaa;unfold nX;simp only[Yzb]
 push_cast
 refine Fm (λh2=>?_) (λh2=>?_)
 .simp(disch:=omega) only[push_cast,↓reduceIte,C3,Df,Di,Qu]
  .refine Fm (λh3=>?_) (λh3=>?_)
   .simp(disch:=omega) only[push_cast,↓reduceIte,C3,Df,Di,Dh,Qu,D5]
    .refine Fm (λh4=>?_) (λh4=>?_)
     .simp(disch:=omega) only[push_cast,↓reduceIte,C3,Df,Di,Dh,Qu,D5]
      .have E:((n:Int)/4294967296/65536/256).toNat=n/2^32/2^16/2^8:=zaa
       have hb:=N (n/2^32/2^16/2^8) zaa;have ab:=d1 zaa;have ad:=d4 zaa;have a0:=d6 zaa;simp(disch:=omega) only[push_cast,↓reduceIte,C3,P4,SD,Sx,SG,SH,E,D5];grind
     .simp(disch:=omega) only[push_cast,↓reduceIte,C3]
      .have E:((n:Int)/4294967296/65536).toNat=n/2^32/2^16:=zaa
       have hb:=N (n/2^32/2^16) zaa;have ab:=d1 zaa;have ad:=d4 zaa;simp(disch:=omega) only[push_cast,↓reduceIte,C3,P4,SD,Sx,SG,SH,E,D5];grind
   .simp(disch:=omega) only[push_cast,↓reduceIte,C3]
    .refine Fm (λh4=>?_) (λh4=>?_)
     .simp(disch:=omega) only[push_cast,↓reduceIte,C3,Df,Di,Dh,Qu,D5]
      .have E:((n:Int)/4294967296/256).toNat=n/2^32/2^8:=zaa
       have hb:=N (n/2^32/2^8) zaa;have ab:=d1 zaa;have a1:=d5 zaa;simp(disch:=omega) only[push_cast,↓reduceIte,C3,P4,SD,Sx,SG,SH,E,D5];grind
     .simp(disch:=omega) only[push_cast,↓reduceIte,C3]
      .have E:((n:Int)/4294967296).toNat=n/2^32:=zaa
       have hb:=N (n/2^32) zaa;have ab:=d1 zaa;simp(disch:=omega) only[push_cast,↓reduceIte,C3,P4,SD,Sx,SG,SH,E,D5];grind
 .simp(disch:=omega) only[push_cast,↓reduceIte,C3]
  .refine Fm (λh3=>?_) (λh3=>?_)
   .simp(disch:=omega) only[push_cast,↓reduceIte,C3,Df,Di,Dh,Qu,D5]
    .refine Fm (λh4=>?_) (λh4=>?_)
     .simp(disch:=omega) only[push_cast,↓reduceIte,C3,Df,Di,Dh,Qu,D5]
      .have E:((n:Int)/65536/256).toNat=n/2^16/2^8:=zaa
       have hb:=N (n/2^16/2^8) zaa;have ae:=d2 zaa;have a2:=d7 zaa;simp(disch:=omega) only[push_cast,↓reduceIte,C3,P4,SD,Sx,SG,SH,E,D5];grind
     .simp(disch:=omega) only[push_cast,↓reduceIte,C3]
      .have E:((n:Int)/65536).toNat=n/2^16:=zaa
       have hb:=N (n/2^16) zaa;have ae:=d2 zaa;simp(disch:=omega) only[push_cast,↓reduceIte,C3,P4,SD,Sx,SG,SH,E,D5];grind
   .simp(disch:=omega) only[push_cast,↓reduceIte,C3]
    .refine Fm (λh4=>?_) (λh4=>?_)
     .simp(disch:=omega) only[push_cast,↓reduceIte,C3,Df,Di,Dh,Qu,D5]
      .have E:((n:Int)/256).toNat=n/2^8:=zaa
       have hb:=N (n/2^8) zaa;have a3:=d3 zaa;simp(disch:=omega) only[push_cast,↓reduceIte,C3,P4,SD,Sx,SG,SH,E,D5];grind
     .simp(disch:=omega) only[push_cast,↓reduceIte,C3]
      .have E:((n:Int)).toNat=n:=zaa
       have hb:=N (n) zaa;simp(disch:=omega) only[push_cast,↓reduceIte,C3,P4,SD,Sx,SG,SH,E,D5];grind
def Yr3:zCC 117 yO:=
 EM nX.2 (DP all_nil all_nil) (λa h=>Ylu a h)
def XE:=DL (α:=List Dig×Int×Dig) (λa=>[O (nz 32 (a.1.map Ds)) (a.1.map Ds) f_,I J a.2.1,Ds a.2.2]) (λa=>0<=a.2.1) (λa=>Ds (F4 a.1 a.2.1 a.2.2))
def Sp(l:List Dig)(k:Int)(E:Dig)(h:0<=k):XE [O (nz 32 (l.map Ds)) (l.map Ds) f_,I J k,Ds E]=s_ (Ds (F4 l k E)):=
 EL (λ⟨a0,a1,N⟩⟨b0,b1,b2⟩h=>by simp only[Ab,D.slc.injEq,D.int.injEq,MK,NG,zal,zag]at h;simp[h]) (l,k,E) h
def zo(l:List Dig)(k:Int)(N:Dig)(h:0<=k):@wW GG (tb [] []) mc.1.code (Du [O (nz 32 (l.map Ds)) (l.map Ds) f_,I J k,Ds N]) [] ⟨DN mc.1.res (Ds (F4 l k N))⟩:=by
 unfold mc
 push_cast
 refine Fm (λE=>?_) (λE=>?_)
 .push_cast [Mr _ _ _ _ _ _ _ h E,F4,E]
 .push_cast [F4,E]
def R6:zCC 65 XE:=
 EM mc.2 (DP all_nil all_nil) (λa h=>zo a.1 a.2.1 a.2.2 h)
def Q3:=DL (α:=Unit) (λ_=>[]) (λ_=>True) (λ_=>Ds DQ)
def T7:Q3 []=s_ (Ds DQ):=
 EL (λ_ _ _=>rfl) () trivial
def YEq:@wW GG (tb [(58,WS)] []) mI.1.code (Du []) [] ⟨DN mI.1.res (Ds DQ)⟩:=by unfold mI;have c:WS [.str [112,97,100],O 0 [] f_]=s_ (Ds DQ):=tY [112,97,100] [] zab;simp(disch:=omega) only[push_cast,↓reduceIte,C3,c]
def UU:zCC 18 Q3:=
 EM mI.2 (DP (all_cons wu all_nil) all_nil) (λa h=>YEq)
def Uq:=DL (α:=Dig×Dig) (λa=>[Ds a.1,Ds a.2]) (λa=>True) (λa=>Ds (HS a.1 a.2))
def KL(a:Dig)(b:Dig):Uq [Ds a,Ds b]=s_ (Ds (HS a b)):=
 EL (λ⟨a0,a1⟩⟨b0,b1⟩h=>by simp only[Ab,NG,zag]at h;simp[h]) (a,b) trivial
def Ycj(a:Dig)(b:Dig):@wW GG (tb [(58,WS)] []) nN.1.code (Du [Ds a,Ds b]) [] ⟨DN nN.1.res (Ds (HS a b))⟩:=by
 unfold nN;have ha:=a.len;have hb:=b.len;have hl:(a.bs++b.bs).length=64:=by rw[Ag,ha,hb]
 have c:=tY [110,111,100,101] (a.bs++b.bs) (by rw[hl];decide);simp(disch:=omega) only[push_cast,↓reduceIte,C3,C6,Yo4,yGp,c];rfl
def Zb:zCC 79 Uq:=
 EM nN.2 (DP (all_cons wu all_nil) all_nil) (λa h=>Ycj a.1 a.2)
def vL:=DL (α:=Int) (λa=>[I .u64 a]) (λa=>0<=a/\a<18446744073709551616) (λa=>I J (HM a.toNat:Int))
def Yjy(x:Int)(h:0<=x/\x<18446744073709551616):vL [I .u64 x]=s_ (I J (HM x.toNat:Int)):=
 EL (λa b h=>by simp only[Ab,D.int.injEq,zal,zag]at h;simp[h]) (x) h
def YE2(x:Int)(h:0<=x/\x<18446744073709551616):@wW GG (tb [(117,yO)] []) nL.1.code (Du [I .u64 x]) [] ⟨DN nL.1.res (I J (HM x.toNat:Int))⟩:=by unfold nL;simp(disch:=omega) only[push_cast,↓reduceIte,C3,yS7]
def YLv:zCC 78 vL:=
 EM nL.2 (DP (all_cons Yr3 all_nil) all_nil) (λa h=>YE2 a h)
def Rj:=DL (α:=Int) (λa=>[I J a]) (λa=>True) (λa=>I J (Ep a))
def Ro(n:Int):Rj [I J n]=s_ (I J (Ep n)):=
 EL (λa b h=>by simp only[Ab,D.int.injEq,zal,zag]at h;simp[h]) (n) trivial
def Ylp(n:Int):@wW GG (tb [(78,vL)] []) nw.1.code (Du [I J n]) [] ⟨DN nw.1.res (I J (Ep n))⟩:=by
 unfold nw
 push_cast
 refine Fm (λE=>?_) (λE=>?_)
 .push_cast [E,Zo (.inl E)]
 .push_cast [E]
  refine Fm (λN=>?_) (λN=>?_)
  .push_cast [N,Zo (.inr N)]
  .have e:(max n 1-1).toNat=(max n 1).toNat-1:=zaa
   have e2:=(Qg (n:=n) zaa zaa).1;simp(disch:=omega) only[push_cast,↓reduceIte,C3,N,FL,pZ,Yjy,e2,e]
def Wq:zCC 38 Rj:=
 EM nw.2 (DP (all_cons YLv all_nil) all_nil) (λa h=>Ylp a)
structure Ins where
 op:Int
 n:Int
 m:Int
 deriving DecidableEq,Inhabited
structure Sta where
 pc:Int
 fuel:Int
 status:Int
 clause:Int
 stack:List Int
 deriving DecidableEq,Inhabited
structure Opn where
 pc:Int
 fuel:Int
 status:Int
 clause:Int
 top:List Int
 depth:Int
 rest:Dig
 deriving DecidableEq
def D8(x:Ins):List D:=[I J x.op,I J x.n,I J x.m]
def Dt(x:Ins):D:=U (D8 x)
def EK(l:List Int):D:=O (nz 1 (l.map nI)) (l.map nI) f_
def El(s:Sta):List D:=[I J s.pc,I J s.fuel,I J s.status,I J s.clause,EK s.stack]
def Eh(s:Sta):D:=U (El s)
def FF(o:Opn):List D:=I J o.pc::I J o.fuel::I J o.status::I J o.clause::EK o.top::I J o.depth::Dr o.rest
def Ew(o:Opn):D:=U (FF o)
def Eo(v:zIL):List D:=I J v.1::v.2.map nI
def EO(v:zIL):D:=U (Eo v)
def WL{a b:List Int}:EK a=EK b↔a=b:=by refine⟨λh=>?_,λh=>by rw[h]⟩;simp only[EK,D.slc.injEq,zag]at h;exact TV.1 h.2
def TU{a b:Ins}:Dt a=Dt b↔a=b:=by obtain⟨a1,E,N⟩:=a;obtain⟨b1,b2,b3⟩:=b;simp[Dt,D8]
def Lq{a b:List Ins}:a.map Dt=b.map Dt↔a=b:=⟨Q1 λ_ _=>TU.1,λh=>by rw[h]⟩
def T3{a b:Sta}:Eh a=Eh b↔a=b:=by obtain⟨a1,E,N,a4,a5⟩:=a;obtain⟨b1,b2,b3,b4,b5⟩:=b;simp[Eh,El,WL]
def TY{a b:Opn}:Ew a=Ew b↔a=b:=by obtain⟨a1,E,N,a4,a5,a6,a7⟩:=a;obtain⟨b1,b2,b3,b4,b5,b6,b7⟩:=b;simp[Ew,FF,WL,Ng]
def KJ{a b:zIL}:EO a=EO b↔a=b:=by obtain⟨a1,E⟩:=a;obtain⟨b1,N⟩:=b;simp[EO,Eo,TV]
def Tg(t:zLB)(v:Val):Dig:=Wi t (MZ v)
def sQ:zLB:=[112,114,111,103,114,97,109]
def RE:zLB:=[105,110,112,117,116,115]
def RC:zLB:=[115,116,97,99,107]
def RD:zLB:=[115,116,97,116,101]
def YG2(d:Dig)(x:Ins):Dig:=Tg sQ (.list [.int x.op,.int x.n,.int x.m,.bytes d.bs])
def Nt(c:List Ins):Dig:=c.foldl YG2 DX
def MX(v:zIL):Dig:=Tg RE (.list [.int v.1,.list (v.2.map .int)])
def YG8(d:Dig)(n:Int):Dig:=Tg RC (.list [.int n,.bytes d.bs])
def I1(d:Dig)(l:List Int):Dig:=l.foldl YG8 d
def NF(c:List Ins)(v:zIL)(o:Opn):Dig:=Tg RD (.list [.bytes (Nt c).bs,.bytes (MX v).bs,.int o.pc,.int o.fuel,.int o.status,.int o.clause,.int (o.depth+o.top.length),.bytes (I1 o.rest o.top).bs])
def M8(s:Sta)(n:Int):Nat:=s.stack.length-(min (max n 0) s.stack.length).toNat
def Fl(s:Sta)(n:Int):Opn:=⟨s.pc,s.fuel,s.status,s.clause,s.stack.drop (M8 s n),M8 s n,I1 DX (s.stack.take (M8 s n))⟩
def Em(c:List Ins)(v:zIL)(s:Sta):Dig:=NF c v (Fl s s.stack.length)
def IA(c:List Ins)(v:zIL)(o:Opn):Dig:=if o.depth<0\/64<o.depth then DX else NF c v o
def Yg7(n:Int):(JY n).length<=9:=by
 unfold JY
 split
 .have:=Wz 8 (ES n);simp only[An,uw];omega
 .have:=Wz 8 (Oo (ES n));simp only[An,uw];omega
theorem yWz:∀b:zLB,(b.flatMap EG).length<=2*b.length
 |[]=>zac
 |c::b=>by
  have:=yWz b;have E:(EG c).length<=2:=by unfold EG;split<;>simp
  grind
def OQ(n:Int):(DW (.int n)).length<=9:=by rw[wy];exact Yg7 n
theorem YC(d:Dig):(DW (.bytes d.bs)).length<=67:=by have:=yWz d.bs;rw[d.len]at this;rw[lG];grind
theorem yOp:∀l:List Int,((l.map Val.int).flatMap DW).length<=9*l.length
 |[]=>zac
 |n::l=>by
  have:=yOp l;have:=OQ n;grind
theorem Yaq(st:St)(key:Nat):DO st (.bsl key 0 32 1 f_)=(jb st[key]?).map λp=>O (nz 1 p.2) p.2 f_:=by rw[<-yE0];simp only[DO,Jl,H6];grind
def bu(st:St)(v:Val):D2 st (Dx v)=s_ (Dx v):=by obtain⟨k,n,B,M,N,E⟩:=Rl v;rw[E,sF]
def Y0(v:Val):keys (Dx v)=[]:=by obtain⟨k,n,B,M,N,E⟩:=Rl v;rw[E,oM]
def Yfr(v:Val):(Dx v).noRef=f_:=by obtain⟨k,n,B,M,N,E⟩:=Rl v;rw[E];rfl
def Yi7(v:Val):(Dx v).cells.length=4:=by obtain⟨k,n,B,M,N,E⟩:=Rl v;rw[E];rfl
def qM(l:List Val)(h:l.length<=1000):EZ 4 (l.map Dx)=s_ (O 4 (l.map Dx) t_):=by
 have E:((l.map Dx).all λe=>e.cells.length==4)=t_:=by
  rw[Ad];intro e he;obtain⟨v,_,rfl⟩:=AR.1 he;simp[Yi7]
 have N:decide ((l.map Dx).length*4<=16777216)=t_:=zba (by rw[Az];omega);simp only[EZ,E,N];rfl
theorem Nf:DM (U [I J 0,I J 0,I J 0])=s_ [I J 0,I J 0,I J 0]:=(rfl)
theorem F9(x:Ins):DM (Dt x)=s_ (D8 x):=(rfl)
theorem PT(x:Ins):DV (s_ (zzB [I J 0,I J 0,I J 0])) 3 0 (Dt x)=s_ (zzB (D8 x)):=(rfl)
theorem He(lent:Bool)(x:Ins):DB (s_ ⟨f_,1,D8 x,lent⟩) 1 f_ 0=s_ (I J x.op):=(rfl)
theorem Nd(lent:Bool)(x:Ins):DB (s_ ⟨f_,1,D8 x,lent⟩) 1 f_ 1=s_ (I J x.n):=(rfl)
theorem vA(lent:Bool)(x:Ins):DB (s_ ⟨f_,1,D8 x,lent⟩) 1 f_ 2=s_ (I J x.m):=(rfl)
theorem QU(lent:Bool)(x:Ins):DB (s_ ⟨f_,1,D8 x,lent⟩) 3 t_ 0=s_ (Dt x):=(rfl)
theorem Mu(st:St)(x:Ins):Fa st 3 t_ (.eptr (Dt x) 0)=s_ (Dt x):=(rfl)
theorem YAf(st:St)(x:Ins):D2 st (Dt x)=s_ (Dt x):=(rfl)
theorem aZ(st:St)(c:List Ins)(t:Bool)(i:Nat)(h:i<c.length):ER st 3 (O (nz 3 (c.map Dt)) (c.map Dt) t) (I J (i:Int))=s_ (.eptr (Dt (c.getD i d_)) 0):=by have:=Mr st 3 Dt c t J (i:Int) zaa zaa;grind
theorem oB(st:St)(c:List Int)(t:Bool)(i:Nat)(h:i<c.length):ER st 1 (O (nz 1 (c.map nI)) (c.map nI) t) (I J (i:Int))=s_ (.eptr (nI (c.getD i d_)) 0):=by have:=Mr st 1 nI c t J (i:Int) zaa zaa;grind
theorem pq(st:St)(n:Int):Fa st 1 f_ (.eptr (nI n) 0)=s_ (I J n):=(rfl)
theorem Yq1(n:Int):Ec [I J 0,I J 0,O 0 [] t_,O 0 [] t_] [(0,1,I J 1),(1,1,I J n)]=s_ [I J 1,I J n,O 0 [] t_,O 0 [] t_]:=(rfl)
theorem Yq5(k:Nat):Ec [I J 0,I J 0,O 0 [] t_,O 0 [] t_] [(0,1,I J 2),(2,1,.bsl k 0 32 1 f_)]=s_ [I J 2,I J 0,.bsl k 0 32 1 f_,O 0 [] t_]:=(rfl)
theorem Yq2(sz:Nat)(l:List D)(t:Bool):Ec [I J 0,I J 0,O 0 [] t_,O 0 [] t_] [(0,1,I J 3),(3,1,O sz l t)]=s_ [I J 3,I J 0,O 0 [] t_,O sz l t]:=(rfl)
theorem Yc7(a b c d:D):DV (s_ (zzB [I J 0,I J 0,O 0 [] t_,O 0 [] t_])) 4 0 (U [a,b,c,d])=if [a,b,c,d].all yaa then s_ (zzB [a,b,c,d])else n_:=zad
theorem Vt(lent:Bool)(a b c d:D):DB (s_ ⟨f_,1,[a,b,c,d],lent⟩) 4 t_ 0=s_ (U [a,b,c,d]):=(rfl)
theorem Yrn(k o n s:Nat)(ag:Bool):(D.bsl k o n s ag).isCell=t_:=(rfl)
def Wh:=DL (α:=Int) (λa=>[I J a]) (λa=>True) (λa=>Dx (.int a))
def Zn(n:Int):Wh [I J n]=s_ (Dx (.int n)):=
 EL (λa b h=>by simp only[Ab,D.int.injEq,zal,zag]at h;simp[h]) (n) trivial
def YDz(n:Int):@wW GG (tb [] []) mN.1.code (Du [I J n]) [] ⟨DN mN.1.res (Dx (.int n))⟩:=by
 unfold mN;dsimp only;rw[Re]
 push_cast(disch:=lia)[ay,Yq1,Yc7,Vt]
 rfl
def ow:zCC 149 Wh:=
 EM mN.2 (DP all_nil all_nil) (λa h=>YDz a)
def bD:=DL (α:=Dig) (λa=>[Ds a]) (λa=>True) (λa=>Dx (.bytes a.bs))
def xY(d:Dig):bD [Ds d]=s_ (Dx (.bytes d.bs)):=
 EL (λa b h=>by simp only[Ab,NG,zag]at h;simp[h]) (d) trivial
def YD5(d:Dig):@wW GG (tb [] []) mw.1.code (Du [Ds d]) [] ⟨DN mw.1.res (Dx (.bytes d.bs))⟩:=by
 unfold mw;dsimp only;rw[Rm]
 push_cast(disch:=lia)[ay,yGp,Yq5,Yc7,Vt,Yrn,Yaq]
 rfl
def Yj3:zCC 146 bD:=
 EM mw.2 (DP all_nil all_nil) (λa h=>YD5 a)
def Q6:=DL (α:=List Val) (λa=>[O (nz 4 (a.map Dx)) (a.map Dx) f_]) (λa=>True) (λa=>Dx (.list a))
def kW(l:List Val):Q6 [O (nz 4 (l.map Dx)) (l.map Dx) f_]=s_ (Dx (.list l)):=
 EL (λa b h=>by simp only[Ab,D.slc.injEq,zag,yTt]at h;simp[h]) (l) trivial
def YD0(l:List Val):@wW GG (tb [] []) lM.1.code (Du [O (nz 4 (l.map Dx)) (l.map Dx) f_]) [] ⟨DN lM.1.res (Dx (.list l))⟩:=by
 unfold lM;dsimp only;rw[Ud]
 push_cast(disch:=lia)[ay,Yq2,Yc7,Vt]
 rfl
def ov:zCC 145 Q6:=
 EM lM.2 (DP all_nil all_nil) (λa h=>YD0 a)
def Wg:=DL (α:=zLB×Val) (λa=>[.str a.1,Dx a.2]) (λa=>a.1.length<=1000/\EI a.2<=16/\(DW a.2).length<=4294967000) (λa=>Ds (Tg a.1 a.2))
def kU(t:zLB)(v:Val)(h:t.length<=1000/\EI v<=16/\(DW v).length<=4294967000):Wg [.str t,Dx v]=s_ (Ds (Tg t v)):=
 EL (λ⟨a0,a1⟩⟨b0,b1⟩h=>by simp only[Ab,D.str.injEq,zag,WE]at h;simp[h]) (t,v) h
theorem YD2(t:zLB)(v:Val)(h:t.length<=1000/\EI v<=16/\(DW v).length<=4294967000):@wW GG (tb [(170,yN),(58,WS)] []) mM.1.code (Du [.str t,Dx v]) [] ⟨DN mM.1.res (Ds (Tg t v))⟩:=by
 unfold mM Tg;have E:=yS9 v h.2
 have hl:(MZ v).length<=65536:=by
  unfold MZ;grind
 have h2:=tY t (MZ v) zaa;obtain⟨k,n,B,M,hC,N⟩:=Rl v;rw[N]at E;rw[N]
 push_cast(disch:=lia)[Tc,Pw,sF,oM,E,jG,h2]
def ou:zCC 144 Wg:=
 EM mM.2 (DP (all_cons Yr5 (all_cons wu all_nil)) all_nil) (λa h=>YD2 a.1 a.2 h)
def yY1(c:List Ins)(x:Ins):Nt (c++[x])=YG2 (Nt c) x:=by unfold Nt;rw[CQ];rfl
theorem Yn7(d:Dig)(x:Ins):sQ.length<=1000/\EI (.list [.int x.op,.int x.n,.int x.m,.bytes d.bs])<=16/\(DW (.list [.int x.op,.int x.n,.int x.m,.bytes d.bs])).length<=4294967000:=by have E:=OQ x.op;have N:=OQ x.n;have h3:=OQ x.m;have h4:=YC d;refine⟨zab,by simp[EI,Jp],?_⟩;rw[Rh];grind
def fJ(a b c d:Val):EZ 4 [Dx a,Dx b,Dx c,Dx d]=s_ (O 4 [Dx a,Dx b,Dx c,Dx d] t_):=qM [a,b,c,d] zac
def fB(a b c d:Val):Q6 [O 4 [Dx a,Dx b,Dx c,Dx d] f_]=s_ (Dx (.list [a,b,c,d])):=kW [a,b,c,d]
def YHv(a b:Val):EZ 4 [Dx a,Dx b]=s_ (O 4 [Dx a,Dx b] t_):=qM [a,b] zac
def YHn(a b:Val):Q6 [O 4 [Dx a,Dx b] f_]=s_ (Dx (.list [a,b])):=kW [a,b]
def fI(a b c d e f g h:Val):EZ 4 [Dx a,Dx b,Dx c,Dx d,Dx e,Dx f,Dx g,Dx h]=s_ (O 4 [Dx a,Dx b,Dx c,Dx d,Dx e,Dx f,Dx g,Dx h] t_):=qM [a,b,c,d,e,f,g,h] zac
def fA(a b c d e f g h:Val):Q6 [O 4 [Dx a,Dx b,Dx c,Dx d,Dx e,Dx f,Dx g,Dx h] f_]=s_ (Dx (.list [a,b,c,d,e,f,g,h])):=kW [a,b,c,d,e,f,g,h]
def vS:=DL (α:=List Ins) (λa=>[O (nz 3 (a.map Dt)) (a.map Dt) f_]) (λa=>a.length<=4294967296) (λa=>Ds (Nt a))
def Yjk(c:List Ins)(h:c.length<=4294967296):vS [O (nz 3 (c.map Dt)) (c.map Dt) f_]=s_ (Ds (Nt c)):=
 EL (λa b h=>by simp only[Ab,D.slc.injEq,zag,Lq]at h;simp[h]) (c) h
theorem YDy(c:List Ins)(h:c.length<=4294967296):@wW GG (tb [(149,Wh),(146,bD),(145,Q6),(144,Wg)] []) ni.1.code (Du [O (nz 3 (c.map Dt)) (c.map Dt) f_]) [] ⟨DN ni.1.res (Ds (Nt c))⟩:=by
 unfold ni
 push_cast(disch:=lia)
 refine Gn (λi:Nat=>[(2,Y 0 0),(5,O (nz 3 (c.map Dt)) (c.map Dt) f_),(6,I J (c.length:Int)),(7,I J (i:Int))])
  (λi=>[zzB (Dr (Nt (c.take i)))]) (λi=>i<=c.length) (λi=>c.length-i) 0 (by push_cast [↓C5]<;>rfl) zaa ?_
 intro i hi
 push_cast(disch:=lia)
 refine Fm (λh2=>?_) (λh2=>?_)
 .have E:i<c.length:=zaa
  have hx:=aZ [zzB (Dr (Nt (c.take i)))] c f_ i E;have N:=Ug c E;obtain⟨x,ab⟩:∃x,c.getD i d_=x:=⟨_,rfl⟩;rw[ab]at hx N;have hh:=kU sQ (.list [.int x.op,.int x.n,.int x.m,.bytes (Nt (c.take i)).bs]) (Yn7 _ _);simp only[sQ]at hh
  push_cast(disch:=lia)[hx,Mu,Nf,PT,He,Nd,vA,Zn,xY,bu,Y0,fJ,fB,hh,D5]
  refine EV (i+1) zaa zaa ?_;rw[N,yY1];rfl
 .obtain rfl:i=c.length:=zaa
  rw[show(c.take c.length)=c from Bx]
  push_cast(disch:=lia)
def YLh:zCC 147 vS:=
 EM ni.2 (DP (all_cons ow (all_cons Yj3 (all_cons ov (all_cons ou all_nil)))) all_nil) (λa h=>YDy a h)
def yZm(d:Dig)(l:List Int)(n:Int):I1 d (l++[n])=YG8 (I1 d l) n:=by unfold I1;rw[CQ];rfl
def yNc(d:Dig)(l m:List Int):I1 d (l++m)=I1 (I1 d l) m:=by unfold I1;rw[CQ]
theorem Yot(d:Dig)(n:Int):RC.length<=1000/\EI (.list [.int n,.bytes d.bs])<=16/\(DW (.list [.int n,.bytes d.bs])).length<=4294967000:=by have E:=OQ n;have N:=YC d;refine⟨zab,by simp[EI,Jp],?_⟩;rw[Rh];grind
def rG:=DL (α:=Dig×List Int) (λa=>[Ds a.1,O (nz 1 (a.2.map nI)) (a.2.map nI) f_]) (λa=>a.2.length<=4294967296) (λa=>Ds (I1 a.1 a.2))
def yHz(d:Dig)(l:List Int)(h:l.length<=4294967296):rG [Ds d,O (nz 1 (l.map nI)) (l.map nI) f_]=s_ (Ds (I1 d l)):=
 EL (λ⟨a0,a1⟩⟨b0,b1⟩h=>by simp only[Ab,D.slc.injEq,NG,zag,TV]at h;simp[h]) (d,l) h
theorem Yu8(d:Dig)(l:List Int)(h:l.length<=4294967296):@wW GG (tb [(149,Wh),(146,bD),(145,Q6),(144,Wg)] []) lN.1.code (Du [Ds d,O (nz 1 (l.map nI)) (l.map nI) f_]) [] ⟨DN lN.1.res (Ds (I1 d l))⟩:=by
 unfold lN
 push_cast(disch:=lia)
 refine Gn (λi:Nat=>[(2,Y 0 0),(4,Y 1 0),(7,O (nz 1 (l.map nI)) (l.map nI) f_),(8,I J (l.length:Int)),(9,I J (i:Int))])
  (λi=>[zzB (Dr (I1 d (l.take i))),zzB (Dr DX)]) (λi=>i<=l.length) (λi=>l.length-i) 0 (by push_cast [↓C5]<;>rfl) zaa ?_
 intro i hi
 push_cast(disch:=lia)
 refine Fm (λh2=>?_) (λh2=>?_)
 .have E:i<l.length:=zaa
  have hx:=oB [zzB (Dr (I1 d (l.take i))),zzB (Dr DX)] l f_ i E;have N:=Ug l E;obtain⟨x,ab⟩:∃x,l.getD i d_=x:=⟨_,rfl⟩;rw[ab]at hx N;have hh:=kU RC (.list [.int x,.bytes (I1 d (l.take i)).bs]) (Yot _ _);simp only[RC]at hh
  push_cast(disch:=lia)[hx,pq,Zn,xY,bu,Y0,YHv,YHn,hh,D5]
  refine EV (i+1) zaa zaa ?_;rw[N,yZm];rfl
 .obtain rfl:i=l.length:=zaa
  rw[show(l.take l.length)=l from Bx]
  push_cast(disch:=lia)
def Yj2:zCC 109 rG:=
 EM lN.2 (DP (all_cons ow (all_cons Yj3 (all_cons ov (all_cons ou all_nil)))) all_nil) (λa h=>Yu8 a.1 a.2 h)
def vT:=DL (α:=List Int) (λa=>[O (nz 1 (a.map nI)) (a.map nI) f_]) (λa=>a.length<=4294967296) (λa=>Ds (I1 DX a))
def Yjj(l:List Int)(h:l.length<=4294967296):vT [O (nz 1 (l.map nI)) (l.map nI) f_]=s_ (Ds (I1 DX l)):=
 EL (λa b h=>by simp only[Ab,D.slc.injEq,zag,TV]at h;simp[h]) (l) h
def YDx(l:List Int)(h:l.length<=4294967296):@wW GG (tb [(109,rG)] []) mu.1.code (Du [O (nz 1 (l.map nI)) (l.map nI) f_]) [] ⟨DN mu.1.res (Ds (I1 DX l))⟩:=by
 unfold mu;have hc:=yHz DX l h
 push_cast(disch:=lia)[hc]
def YLg:zCC 62 vT:=
 EM mu.2 (DP (all_cons Yj2 all_nil) all_nil) (λa h=>YDx a h)
def YAb(v:zIL)(h:v.2.length=16):RE.length<=1000/\EI (.list [.int v.1,.list (v.2.map .int)])<=16/\(DW (.list [.int v.1,.list (v.2.map .int)])).length<=4294967000:=by
 have N:=OQ v.1;have h4:=yOp v.2
 have hd:∀l:List Int,Jp (l.map .int)=0:=by
  intro l
  induction l with
  |nil=>simp[Jp]
  |cons a l E=>simp[Jp,EI,E]
 refine⟨zab,by simp[EI,Jp,hd],?_⟩;rw[Rh];simp only[An,Ag,As,AA,CV,Rh];omega
def Zd(l:List Int):(l.map nI).all yaa=t_:=lj nI (λ_=>rfl) l
def Um(l:List Int):(l.map nI).all E2=t_:=by rw[Ad];intro x E;obtain⟨n,_,rfl⟩:=AR.1 E;rfl
theorem YE(v:zIL):Eo v=(v.1::v.2).map nI:=(rfl)
def FY(v:zIL):DM (EO v)=s_ (Eo v):=by rw[show DM (EO v)=if(Eo v).all yaa then s_ (Eo v)else n_ from rfl,YE,zae (Zd _)]
def Gc(st:St)(v:zIL):D2 st (EO v)=s_ (EO v):=SN st (Um (v.1::v.2))
def G2(v:zIL):keys (EO v)=[]:=SU (Um (v.1::v.2))
def Yt8(v:zIL):(Eo v).flatMap hk=[]:=Qh (Um (v.1::v.2))
def Yei(m:Nat)(σ:List Nat)(v:zIL):(Eo v).map (ED m σ)=Eo v:=OW m σ (Um (v.1::v.2))
variable{v:zIL}
def HK(h:v.2.length=16)(sz:Nat)(lent:Bool):DB (s_ ⟨f_,sz,Eo v,lent⟩) 17 t_ 0=s_ (EO v):=Is sz lent _ 17 (by simp[Eo,h])
def YIc(v:zIL)(sz:Nat)(lent:Bool):DB (s_ ⟨f_,sz,Eo v,lent⟩) 1 f_ 0=s_ (I J v.1):=Ke (A:=[]) (C:=v.2.map nI) rfl rfl
def YIb(h:v.2.length=16)(sz:Nat)(lent:Bool):DB (s_ ⟨f_,sz,Eo v,lent⟩) 16 t_ 1=s_ (U (v.2.map nI)):=Og (A:=[I J v.1]) (B:=v.2.map nI) (C:=[]) (by simp[Eo]) rfl (by simp[h])
theorem YAj(l:List Int)(i:Nat)(h:i<l.length):Qt l.length 1 f_ (U (l.map nI)) (I J (i:Int))=s_ (nI (l.getD i d_)):=by
 have E:FA (I J (i:Int))=s_ i:=by simp[FA]
 simp only[Qt,E,zae h,BS];refine Yh6 (A:=(l.take i).map nI) (C:=(l.drop (i+1)).map nI) ?_ (by simp;omega);rw[<-Av,<-A1]
 congr 1
 simp_all
def YHw(a:Val):EZ 4 [Dx a]=s_ (O 4 [Dx a] t_):=qM [a] zac
def Yhj(l:List Int):hk (U (l.map nI))=[]:=qY (Um l)
def yUy(m:Nat)(σ:List Nat)(l:List Int):ED m σ (U (l.map nI))=U (l.map nI):=Uf m σ (Um l)
def vR:=DL (α:=(zIL)) (λa=>[EO a]) (λa=>a.2.length=16) (λa=>Ds (MX a))
def Yjl(v:zIL)(h:v.2.length=16):vR [EO v]=s_ (Ds (MX v)):=
 EL (λa b h=>by simp only[Ab,zag,KJ]at h;simp[h]) (v) h
theorem YD1(v:zIL)(h:v.2.length=16):@wW GG (tb [(149,Wh),(145,Q6),(144,Wg)] []) mK.1.code (Du [EO v]) [] ⟨DN mK.1.res (Ds (MX v))⟩:=by
 unfold mK;have hh:=kU RE (.list [.int v.1,.list (v.2.map .int)]) (YAb v h);simp only[RE]at hh
 push_cast(disch:=lia)[FY,YIb h]
 refine Gn (λi:Nat=>[(1,Y 0 0),(2,Y 1 0),(3,EC 0 2 ((v.2.take i).map (Dx∘Val.int))),(7,U (v.2.map nI)),(8,I J (i:Int))])
  (λi=>(zzB (Eo v))::(zzB (Dr DX))::D3 4 ((v.2.take i).map (Dx∘Val.int))) (λi=>i<=16) (λi=>16-i) 0 (by push_cast [↓C5,Yt8,Yei,Yhj,yUy]<;>rfl) zaa ?_
 intro i hi
 push_cast(disch:=lia)
 refine Fm (λh2=>?_) (λh2=>?_)
 .have aa:i<v.2.length:=zaa
  have hx:=YAj v.2 i aa;rw[h]at hx;have ab:=Ug v.2 aa;obtain⟨x,ac⟩:∃x,v.2.getD i d_=x:=⟨_,rfl⟩;rw[ac,show nI x=I J x from rfl]at hx;rw[ac]at ab;have N:=Ye9 (f:=Dx∘Val.int) (sz:=4) (sz0:=0) (bytes:=64) (A:=v.2.take i) (x:=x) (t:=t_) (a:=(zzB (Eo v))) (b:=(zzB (Dr DX))) (hs0:=by decide) (hb:=by rw[AJ];omega) (hl:=by rw[AJ];omega);simp only[Function.comp_apply]at N
  push_cast(disch:=lia)[hx,Zn,bu,Y0,YHw,N,D5]
  refine EV (i+1) zaa zaa ?_;rw[ab]
  push_cast [Yt8,Yei,Yhj,yUy]<;>rfl
 .obtain rfl:i=16:=zaa
  rw[show(v.2.take 16)=v.2 from AE zaa];have hb:D2 ((zzB (Eo v))::(zzB (Dr DX))::D3 4 (v.2.map (Dx∘Val.int))) (EC 0 2 (v.2.map (Dx∘Val.int)))=s_ (O (nz 4 (v.2.map (Dx∘Val.int))) (v.2.map (Dx∘Val.int)) f_):=Yt7 _ _ 4 0 _;have hl:=kW (v.2.map Val.int);rw[Bf]at hl
  have E:v.2.map (Dx∘Val.int)≠[]:=by
   intro e;simp_all
  rw[aS _ _ _ E,V7 _ _ E]at hb
  push_cast(disch:=lia)[↓C5,aS _ _ _ E,V7 _ _ E,Yfr,YIc,Zn,bu,Y0,hl,YHv,YHn,hh]
  rfl
def YLi:zCC 148 vR:=
 EM mK.2 (DP (all_cons ow (all_cons ov (all_cons ou all_nil))) all_nil) (λa h=>YD1 a h)
theorem dX(st:St)(E:sz≠0)(els:List D)(t:Bool)(h:k<=els.length):GS st sz (O (nz sz els) els t) (s_ (I J (k:Int))) n_ n_=s_ (O (nz sz els) (els.drop k) t):=by
 have N:((nz sz els==sz||els.isEmpty)&&sz !=0)=t_:=by
  cases els<;>simp[nz,E]
 have h2:FA (I J (k:Int))=s_ k:=by simp[FA]
 simp only[GS,N,zaj,GV,h2];grind
theorem dY(st:St)(E:sz≠0)(els:List D)(t:Bool)(h:k<=els.length):GS st sz (O (nz sz els) els t) n_ (s_ (I J (k:Int))) n_=s_ (O (nz sz els) (els.take k) (t&&k==els.length)):=by
 have N:((nz sz els==sz||els.isEmpty)&&sz !=0)=t_:=by
  cases els<;>simp[nz,E]
 have h2:GV (s_ (I J (k:Int))) els.length=s_ k:=by simp[GV,FA]
 simp only[GS,N,zaj,h2];simp only[GV];grind
theorem dZ(st:St)(E:sz≠0)(els:List D)(t:Bool)(h:k<=els.length):GS st sz (O (nz sz els) els t) n_ (s_ (I J (k:Int))) (s_ (I J (k:Int)))=s_ (O (nz sz els) (els.take k) t_):=by
 have N:((nz sz els==sz||els.isEmpty)&&sz !=0)=t_:=by
  cases els<;>simp[nz,E]
 have h2:GV (s_ (I J (k:Int))) els.length=s_ k:=by simp[GV,FA]
 have h3:FA (I J (k:Int))=s_ k:=by simp[FA]
 simp only[GS,N,zaj,h2,h3];simp only[GV];grind
theorem Ymj(s:Sta):(El s).all yaa=t_:=(rfl)
theorem Jt(s:Sta):DM (Eh s)=s_ (El s):=(rfl)
theorem JI:DM (U [I J 0,I J 0,I J 0,I J 0,O 0 [] t_])=s_ [I J 0,I J 0,I J 0,I J 0,O 0 [] t_]:=(rfl)
def LO(st:St)(s:Sta):D2 st (Eh s)=s_ (Eh s):=by simp only[Eh,El,EK,D2,Ef,DO,Jq];rfl
theorem Qc(s:Sta):keys (Eh s)=[]:=(rfl)
theorem LQ(lent:Bool)(s:Sta):DB (s_ ⟨f_,1,El s,lent⟩) 1 f_ 0=s_ (I J s.pc):=(rfl)
theorem Mt(lent:Bool)(s:Sta):DB (s_ ⟨f_,1,El s,lent⟩) 1 f_ 1=s_ (I J s.fuel):=(rfl)
theorem Kq(lent:Bool)(s:Sta):DB (s_ ⟨f_,1,El s,lent⟩) 1 f_ 2=s_ (I J s.status):=(rfl)
theorem P8(lent:Bool)(s:Sta):DB (s_ ⟨f_,1,El s,lent⟩) 1 f_ 3=s_ (I J s.clause):=(rfl)
theorem QY(lent:Bool)(s:Sta):DB (s_ ⟨f_,1,El s,lent⟩) 1 f_ 4=s_ (EK s.stack):=(rfl)
theorem JG(lent:Bool)(s:Sta):DB (s_ ⟨f_,1,El s,lent⟩) 5 t_ 0=s_ (Eh s):=(rfl)
theorem Mw(s:Sta):DV (s_ (zzB [I J 0,I J 0,I J 0,I J 0,O 0 [] t_])) 5 0 (Eh s)=s_ (zzB (El s)):=(rfl)
theorem pB(s s':Sta):DV (s_ (zzB (El s))) 5 0 (Eh s')=s_ (zzB (El s')):=(rfl)
theorem pV(l:List Int):EK l=O (nz 1 (l.map nI)) (l.map nI) f_:=(rfl)
def Fo(a b c d:Int)(t:D)(k:Int)(r:Dig):List D:=I J a::I J b::I J c::I J d::t::I J k::Dr r
theorem LM(o:Opn):FF o=Fo o.pc o.fuel o.status o.clause (EK o.top) o.depth o.rest:=(rfl)
def Zq(a b c d:Int)(t:D)(k:Int)(r:Dig):(Fo a b c d t k r).length=38:=by simp[Fo,En]
variable{t:D}
def yVj(a b c d:Int)(E:t.isCell=t_)(k:Int)(r:Dig):(Fo a b c d t k r).all yaa=t_:=by simp only[Fo,AQ,E,tT,Bm];exact My (λ_=>rfl) r
theorem TO:(D.int J 0::I J 0::I J 0::I J 0::O 0 [] t_::I J 0::Dr DX)=Fo 0 0 0 0 (O 0 [] t_) 0 DX:=(rfl)
def Yuu(a b c d:Int)(E:t.isCell=t_)(k:Int)(r:Dig):DM (U (Fo a b c d t k r))=s_ (Fo a b c d t k r):=by rw[show DM (U (Fo a b c d t k r))=if(Fo a b c d t k r).all yaa then s_ (Fo a b c d t k r)else n_ from rfl,zae (yVj a b c d E k r)]
def P3(o:Opn):DM (Ew o)=s_ (FF o):=by rw[Ew,LM,Yuu _ _ _ _ rfl]
def dI(a b c d a' b' c' d':Int)(t:D){t':D}(N:t'.isCell=t_)(k k':Int)(r E:Dig):DV (s_ (zzB (Fo a b c d t k r))) 38 0 (U (Fo a' b' c' d' t' k' E))=s_ (zzB (Fo a' b' c' d' t' k' E)):=
 Hs 1 _ _ 38 (Zq ..) (Zq ..) (yVj _ _ _ _ N _ _)
def Xt(lent:Bool)(a b c d:Int)(t:D)(k:Int)(r:Dig):DB (s_ ⟨f_,1,Fo a b c d t k r,lent⟩) 38 t_ 0=s_ (U (Fo a b c d t k r)):=Is 1 lent _ 38 (Zq ..)
def Yt1(lent:Bool)(a b c d:Int)(t:D)(k:Int)(r:Dig):DB (s_ ⟨f_,1,Fo a b c d t k r,lent⟩) 1 f_ 0=s_ (I J a):=Ke (A:=[]) rfl rfl
def Yt0(lent:Bool)(a b c d:Int)(t:D)(k:Int)(r:Dig):DB (s_ ⟨f_,1,Fo a b c d t k r,lent⟩) 1 f_ 1=s_ (I J b):=Ke (A:=[I J a]) rfl rfl
def Ygl(lent:Bool)(a b c d:Int)(t:D)(k:Int)(r:Dig):DB (s_ ⟨f_,1,Fo a b c d t k r,lent⟩) 1 f_ 2=s_ (I J c):=Ke (A:=[I J a,I J b]) rfl rfl
def Ytz(lent:Bool)(a b c d:Int)(t:D)(k:Int)(r:Dig):DB (s_ ⟨f_,1,Fo a b c d t k r,lent⟩) 1 f_ 3=s_ (I J d):=Ke (A:=[I J a,I J b,I J c]) rfl rfl
def Ygk(lent:Bool)(a b c d:Int)(t:D)(k:Int)(r:Dig):DB (s_ ⟨f_,1,Fo a b c d t k r,lent⟩) 1 f_ 4=s_ t:=Ke (A:=[I J a,I J b,I J c,I J d]) rfl rfl
def aG(lent:Bool)(a b c d:Int)(t:D)(k:Int)(r:Dig):DB (s_ ⟨f_,1,Fo a b c d t k r,lent⟩) 1 f_ 5=s_ (I J k):=Ke (A:=[I J a,I J b,I J c,I J d,t]) rfl rfl
def Yty(lent:Bool)(a b c d:Int)(t:D)(k:Int)(r:Dig):DB (s_ ⟨f_,1,Fo a b c d t k r,lent⟩) 32 t_ 6=s_ (Ds r):=Og (A:=[I J a,I J b,I J c,I J d,t,I J k]) (B:=Dr r) (C:=[]) (by simp[Fo]) rfl (En r)
def YBe(a b c d:Int)(E:t.cells=[t])(hc:t.isCell=t_)(k:Int)(r:Dig):Ec (Fo 0 0 0 0 (O 0 [] t_) 0 DX) [(0,1,I J a),(1,1,I J b),(2,1,I J c),(3,1,I J d),(4,1,t),(5,1,I J k),(6,32,Ds r)]=s_ (Fo a b c d t k r):=by refine(Kd (cs:=Fo 0 0 0 0 (O 0 [] t_) 0 DX) (cs':=Fo a 0 0 0 (O 0 [] t_) 0 DX) (A:=[]) (B:=[I J 0]) (xs:=[I J a]) rfl rfl rfl rfl rfl rfl rfl).trans ?_;refine(Kd (cs:=Fo a 0 0 0 (O 0 [] t_) 0 DX) (cs':=Fo a b 0 0 (O 0 [] t_) 0 DX) (A:=[I J a]) (B:=[I J 0]) (xs:=[I J b]) rfl rfl rfl rfl rfl rfl rfl).trans ?_;refine(Kd (cs:=Fo a b 0 0 (O 0 [] t_) 0 DX) (cs':=Fo a b c 0 (O 0 [] t_) 0 DX) (A:=[I J a,I J b]) (B:=[I J 0]) (xs:=[I J c]) rfl rfl rfl rfl rfl rfl rfl).trans ?_;refine(Kd (cs:=Fo a b c 0 (O 0 [] t_) 0 DX) (cs':=Fo a b c d (O 0 [] t_) 0 DX) (A:=[I J a,I J b,I J c]) (B:=[I J 0]) (xs:=[I J d]) rfl rfl rfl rfl rfl rfl rfl).trans ?_;refine(Kd (cs:=Fo a b c d (O 0 [] t_) 0 DX) (cs':=Fo a b c d t 0 DX) (A:=[I J a,I J b,I J c,I J d]) (B:=[O 0 [] t_]) (xs:=[t]) rfl rfl rfl rfl E rfl (by simp[hc])).trans ?_;refine(Kd (cs:=Fo a b c d t 0 DX) (cs':=Fo a b c d t k DX) (A:=[I J a,I J b,I J c,I J d,t]) (B:=[I J 0]) (xs:=[I J k]) rfl rfl rfl rfl rfl rfl rfl).trans ?_;refine(Kd (cs:=Fo a b c d t k DX) (cs':=Fo a b c d t k r) (A:=[I J a,I J b,I J c,I J d,t,I J k]) (B:=Dr DX) (C:=[]) (xs:=Dr r) (by simp[Fo]) (by simp[Fo]) rfl (En _) rfl (En _) (My (λ_=>rfl) r)).trans ?_;rfl
def yWy(a b c d:Int)(sz:Nat)(els:List D)(E:Bool)(k:Int)(r:Dig):Ec (Fo 0 0 0 0 (O 0 [] t_) 0 DX) [(0,1,I J a),(1,1,I J b),(2,1,I J c),(3,1,I J d),(4,1,O sz els E),(5,1,I J k),(6,32,Ds r)]=s_ (Fo a b c d (O sz els E) k r):=YBe a b c d rfl rfl k r
def LN(a b c d:Int)(sz:Nat)(els:List D)(E:Bool)(k:Int)(r:Dig):DM (U (Fo a b c d (O sz els E) k r))=s_ (Fo a b c d (O sz els E) k r):=Yuu a b c d rfl k r
def aO(a b c d a' b' c' d':Int)(t:D)(sz:Nat)(els:List D)(N:Bool)(k k':Int)(r E:Dig):DV (s_ (zzB (Fo a b c d t k r))) 38 0 (U (Fo a' b' c' d' (O sz els N) k' E))=s_ (zzB (Fo a' b' c' d' (O sz els N) k' E)):=dI a b c d a' b' c' d' t rfl k k' r E
def oC(st:St)(a b c d:Int)(sz:Nat)(els:List D)(E:Bool)(k:Int)(r:Dig):D2 st (U (Fo a b c d (O sz els E) k r))=s_ (U (Fo a b c d (O (nz sz els) els f_) k r)):=by simp only[Fo,D2,kM,wM,wN,yWm,Bj,Ae]
def Lo(st:St)(o:Opn):D2 st (Ew o)=s_ (Ew o):=by rw[Ew,LM,pV,oC,Jq]
theorem Oi(o:Opn):keys (Ew o)=[]:=by
 simp only[Ew,FF,keys,AA]
 show []++([]++([]++([]++([]++([]++_)))))=[]
 have:(Dr o.rest).flatMap Fw=[]:=yWa o.rest;grind
def Yci(c:List Ins)(v:zIL)(o:Opn):RD.length<=1000/\EI (.list [.bytes (Nt c).bs,.bytes (MX v).bs,.int o.pc,.int o.fuel,.int o.status,.int o.clause,.int (o.depth+o.top.length),.bytes (I1 o.rest o.top).bs])<=16/\
  (DW (.list [.bytes (Nt c).bs,.bytes (MX v).bs,.int o.pc,.int o.fuel,.int o.status,.int o.clause,.int (o.depth+o.top.length),.bytes (I1 o.rest o.top).bs])).length<=4294967000:=by have E:=YC (Nt c);have N:=YC (MX v);have h3:=YC (I1 o.rest o.top);have h4:=OQ o.pc;have h5:=OQ o.fuel;have h6:=OQ o.status;have h7:=OQ o.clause;have h8:=OQ (o.depth+o.top.length);refine⟨zab,by simp[EI,Jp],?_⟩;rw[Rh];simp only[An,Ag,As,AA,CV];omega
def qi:=DL (α:=List Ins×(zIL)×Opn) (λa=>[O (nz 3 (a.1.map Dt)) (a.1.map Dt) f_,EO a.2.1,Ew a.2.2]) (λa=>a.1.length<=4294967296/\a.2.1.2.length=16/\a.2.2.top.length<=4294967296/\0<=a.2.2.depth/\a.2.2.depth<=4294967296) (λa=>Ds (NF a.1 a.2.1 a.2.2))
def yO4(c:List Ins)(v:zIL)(o:Opn)(h:c.length<=4294967296/\v.2.length=16/\o.top.length<=4294967296/\0<=o.depth/\o.depth<=4294967296):qi [O (nz 3 (c.map Dt)) (c.map Dt) f_,EO v,Ew o]=s_ (Ds (NF c v o)):=
 EL (λ⟨a0,a1,E⟩⟨b0,b1,N⟩h=>by simp only[Ab,D.slc.injEq,zag,Lq,TY,KJ]at h;simp[h]) (c,v,o) h
def YDw(c:List Ins)(v:zIL)(o:Opn)(h:c.length<=4294967296/\v.2.length=16/\o.top.length<=4294967296/\0<=o.depth/\o.depth<=4294967296):@wW GG (tb [(147,vS),(148,vR),(109,rG),(149,Wh),(146,bD),(145,Q6),(144,Wg)] []) mB.1.code (Du [O (nz 3 (c.map Dt)) (c.map Dt) f_,EO v,Ew o]) [] ⟨DN mB.1.res (Ds (NF c v o))⟩:=by
 obtain⟨hc,hv,N,ad,ae⟩:=h;unfold mB;have E:=kU RD _ (Yci c v o);simp only[RD]at E;have h1:=Yjk c hc;have h2:=Yjl v hv;have h3:=yHz o.rest o.top N
 push_cast(disch:=lia)[FY,P3,LM,pV,HK hv,Gc,Yt1,Yt0,Ygl,Ytz,Ygk,aG,Yty,h1,h2,h3,Zn,xY,bu,Y0,D5,fI,fA,E]
 rfl
def Yun:zCC 106 qi:=
 EM mB.2 (DP (all_cons YLh (all_cons YLi (all_cons Yj2 (all_cons ow (all_cons Yj3 (all_cons ov (all_cons ou all_nil))))))) all_nil) (λa h=>YDw a.1 a.2.1 a.2.2 h)
def YGc(st:St)(l:List Int)(t:Bool)(h:k<=l.length):GS st 1 (O (nz 1 (l.map nI)) (l.map nI) t) (s_ (I J (k:Int))) n_ n_=s_ (O (nz 1 (l.map nI)) ((l.drop k).map nI) t):=by rw[dX st zab (l.map nI) t (by simpa using h),Cx]
def YGd(st:St)(l:List Int)(h:k<=l.length):GS st 1 (O (nz 1 (l.map nI)) (l.map nI) f_) n_ (s_ (I J (k:Int))) n_=s_ (O (nz 1 (l.map nI)) ((l.take k).map nI) f_):=by rw[dY st zab (l.map nI) f_ (by simpa using h),BW];rfl
def YGe(st:St)(l:List Int)(t:Bool)(h:k<=l.length):GS st 1 (O (nz 1 (l.map nI)) (l.map nI) t) n_ (s_ (I J (k:Int))) (s_ (I J (k:Int)))=s_ (O (nz 1 (l.map nI)) ((l.take k).map nI) t_):=by rw[dZ st zab (l.map nI) t (by simpa using h),BW]
def xH(s:Sta)(n:Int):M8 s n<=s.stack.length:=Nat.sub_le _ _
def Yor(s:Sta)(n:Int):(s.stack.length:Int)-min (max n 0) (s.stack.length:Int)=(M8 s n:Int):=by unfold M8;omega
def rm:=DL (α:=Sta×Int) (λa=>[Eh a.1,I J a.2]) (λa=>a.1.stack.length<=4294967296) (λa=>Ew (Fl a.1 a.2))
def yHy(s:Sta)(n:Int)(h:s.stack.length<=4294967296):rm [Eh s,I J n]=s_ (Ew (Fl s n)):=
 EL (λ⟨a0,a1⟩⟨b0,b1⟩h=>by simp only[Ab,D.int.injEq,zal,zag,T3]at h;simp[h]) (s,n) h
theorem Yu7(s:Sta)(n:Int)(h:s.stack.length<=4294967296):@wW GG (tb [(62,vT)] []) lJ.1.code (Du [Eh s,I J n]) [] ⟨DN lJ.1.res (Ew (Fl s n))⟩:=by
 unfold lJ;have hk:=xH s n;have E:=Yjj (s.stack.take (M8 s n)) (by rw[AJ];omega);have N:min (max n 0) (s.stack.length:Int)<=s.stack.length:=Int.min_le_right _ _;have aa:0<=min (max n 0) (s.stack.length:Int):=zaa
 simp(disch:=grind) only[push_cast,↓reduceIte,C3,Jt,TO,LN,LQ,Mt,Kq,P8,QY,pV,FL,Yor,YGc,YGd,E,yWy,aO,Xt,oC,Yfp,Yfo];rfl
def Yj1:zCC 24 rm:=
 EM lJ.2 (DP (all_cons YLg all_nil) all_nil) (λa h=>Yu7 a.1 a.2 h)
def qh:=DL (α:=List Ins×(zIL)×Sta) (λa=>[O (nz 3 (a.1.map Dt)) (a.1.map Dt) f_,EO a.2.1,Eh a.2.2]) (λa=>a.1.length<=4294967296/\a.2.1.2.length=16/\a.2.2.stack.length<=4294967296) (λa=>Ds (Em a.1 a.2.1 a.2.2))
def ya(c:List Ins)(v:zIL)(s:Sta)(h:c.length<=4294967296/\v.2.length=16/\s.stack.length<=4294967296):qh [O (nz 3 (c.map Dt)) (c.map Dt) f_,EO v,Eh s]=s_ (Ds (Em c v s)):=
 EL (λ⟨a0,a1,E⟩⟨b0,b1,N⟩h=>by simp only[Ab,D.slc.injEq,zag,Lq,T3,KJ]at h;simp[h]) (c,v,s) h
def YD3(c:List Ins)(v:zIL)(s:Sta)(h:c.length<=4294967296/\v.2.length=16/\s.stack.length<=4294967296):@wW GG (tb [(24,rm),(106,qi)] []) mJ.1.code (Du [O (nz 3 (c.map Dt)) (c.map Dt) f_,EO v,Eh s]) [] ⟨DN mJ.1.res (Ds (Em c v s))⟩:=by
 obtain⟨hc,hv,E⟩:=h;unfold mJ;have N:=yHy s s.stack.length E;have hk:M8 s s.stack.length=0:=by unfold M8;omega
 have hw:=yO4 c v (Fl s s.stack.length) ⟨hc,hv,by simp only[Fl,AL];omega,by simp only[Fl,hk];omega,by simp only[Fl,hk];omega⟩
 push_cast(disch:=lia)[FY,HK hv,Gc,Jt,JG,QY,pV,LO,Qc,N,Lo,hw]
 rfl
def Yuo:zCC 56 qh:=
 EM mJ.2 (DP (all_cons Yj1 (all_cons Yun all_nil)) all_nil) (λa h=>YD3 a.1 a.2.1 a.2.2 h)
variable{o:Opn}{c:List Ins}
def Yiy(E:0<=o.depth)(N:o.depth<=64):IA c v o=NF c v o:=zaf zaa
def Yix(E:o.depth<0):IA c v o=DX:=zae (.inl E)
def Yiz(E:64<o.depth):IA c v o=DX:=zae (.inr E)
def bE:=DL (α:=List Ins×(zIL)×Opn) (λa=>[O (nz 3 (a.1.map Dt)) (a.1.map Dt) f_,EO a.2.1,Ew a.2.2]) (λa=>a.1.length<=4294967296/\a.2.1.2.length=16/\a.2.2.top.length<=4294967296) (λa=>Ds (IA a.1 a.2.1 a.2.2))
def xZ(c:List Ins)(v:zIL)(o:Opn)(h:c.length<=4294967296/\v.2.length=16/\o.top.length<=4294967296):bE [O (nz 3 (c.map Dt)) (c.map Dt) f_,EO v,Ew o]=s_ (Ds (IA c v o)):=
 EL (λ⟨a0,a1,E⟩⟨b0,b1,N⟩h=>by simp only[Ab,D.slc.injEq,zag,Lq,TY,KJ]at h;simp[h]) (c,v,o) h
def YD4(c:List Ins)(v:zIL)(o:Opn)(h:c.length<=4294967296/\v.2.length=16/\o.top.length<=4294967296):@wW GG (tb [(106,qi)] []) mr.1.code (Du [O (nz 3 (c.map Dt)) (c.map Dt) f_,EO v,Ew o]) [] ⟨DN mr.1.res (Ds (IA c v o))⟩:=by
 obtain⟨hc,hv,ht⟩:=h;unfold mr
 by_cases E:o.depth<0
 .rw[Yix E]
  push_cast(disch:=lia)[FY,P3,LM,aG,E]
 .by_cases N:64<o.depth
  .rw[Yiz N]
   push_cast(disch:=lia)[FY,P3,LM,aG,E,N]
  .rw[Yiy zaa zaa];have hw:=yO4 c v o ⟨hc,hv,ht,zaa,zaa⟩;have hi:=λst=>Lo st o;have hk:=Oi o;rw[Ew,LM]at hw hi hk
   push_cast(disch:=lia)[FY,P3,LM,aG,E,N,HK hv,Gc,Xt,hi,hw]
def Yup:zCC 73 bE:=
 EM mr.2 (DP (all_cons Yun all_nil) all_nil) (λa h=>YD4 a.1 a.2.1 a.2.2 h)
def Lg(op:Int):Int×Int:=if op=1\/op=13\/op=14\/op=15 then(1,9007199254740992)else if op=2 then(1,15)else if op=12 then(2,9007199254740992)else(0,0)
def EP(op:Int):Int×Int:=if op=1\/op=2 then(0,1)else if op=12 then(1,1)else if op=13\/op=15 then(1,0)else if op=14\/op=16 then(0,0)else(2,1)
def HR(x:Ins):Bool:=decide (1<=x.op/\x.op<=16/\((Lg x.op).1<=0->x.n=0)/\((Lg x.op).1<=1->x.m=0)/\0<=min x.n x.m/\max x.n x.m<=(Lg x.op).2)
theorem yFv(op:Int):Lg op=(1,9007199254740992)\/Lg op=(1,15)\/Lg op=(2,9007199254740992)\/Lg op=(0,0):=by unfold Lg;grind
theorem Ybf(op:Int):0<=(EP op).1/\(EP op).1<=2/\0<=(EP op).2/\(EP op).2<=1:=by unfold EP;grind
def vO:=DL (α:=Int) (λa=>[I J a]) (λa=>True) (λa=>.tup [I J (Lg a).1,I J (Lg a).2])
def Yjo(op:Int):vO [I J op]=s_ (.tup [I J (Lg op).1,I J (Lg op).2]):=
 EL (λa b h=>by simp only[Ab,D.int.injEq,zal,zag]at h;simp[h]) (op) trivial
def YEf(op:Int):@wW GG (tb [] []) n6.1.code (Du [I J op]) [] ⟨DN n6.1.res (.tup [I J (Lg op).1,I J (Lg op).2])⟩:=by
 unfold n6 Lg
 by_cases E:op=1
 .subst E;push_cast(disch:=lia)[zbb]
 .by_cases N:op=13
  .subst N;push_cast(disch:=lia)[E,zbb,zbc]
  .by_cases h3:op=14
   .subst h3;push_cast(disch:=lia)[E,N,zbb,zbc]
   .by_cases h4:op=15
    .subst h4;push_cast(disch:=lia)[E,N,h3,zbc]
    .by_cases h5:op=2
     .subst h5;push_cast(disch:=lia)[E,N,h3,h4,zbd]
     .by_cases h6:op=12
      .subst h6;push_cast(disch:=lia)[E,N,h3,h4,h5,zbd]
      .push_cast(disch:=lia)[E,N,h3,h4,h5,h6,zbd]
def YLm:zCC 140 vO:=
 EM n6.2 (DP all_nil all_nil) (λa h=>YEf a)
def Q5:=DL (α:=Int) (λa=>[I J a]) (λa=>True) (λa=>.tup [I J (EP a).1,I J (EP a).2])
def Yjn(op:Int):Q5 [I J op]=s_ (.tup [I J (EP op).1,I J (EP op).2]):=
 EL (λa b h=>by simp only[Ab,D.int.injEq,zal,zag]at h;simp[h]) (op) trivial
def YEe(op:Int):@wW GG (tb [] []) nA.1.code (Du [I J op]) [] ⟨DN nA.1.res (.tup [I J (EP op).1,I J (EP op).2])⟩:=by
 unfold nA EP
 by_cases E:op=1
 .subst E;push_cast(disch:=lia)[zbb]
 .by_cases N:op=2
  .subst N;push_cast(disch:=lia)[E,zbc]
  .by_cases h3:op=12
   .subst h3;push_cast(disch:=lia)[E,N,zbd]
   .by_cases h4:op=13
    .subst h4;push_cast(disch:=lia)[E,N,h3,zbd,zbb]
    .by_cases h5:op=15
     .subst h5;push_cast(disch:=lia)[E,N,h3,h4,zbd,zbc]
     .by_cases h6:op=14
      .subst h6;push_cast(disch:=lia)[E,N,h3,h4,h5,zbd,zbb]
      .by_cases h7:op=16
       .subst h7;push_cast(disch:=lia)[E,N,h3,h4,h5,h6,zbd,zbc]
       .push_cast(disch:=lia)[E,N,h3,h4,h5,h6,h7,zbd]
def YLl:zCC 102 Q5:=
 EM nA.2 (DP all_nil all_nil) (λa h=>YEe a)
theorem vZ(a b c d:Int):DV (s_ (zzB [I J a,I J b,I J c])) 1 1 (I J d)=s_ (zzB [I J a,I J d,I J c]):=(rfl)
theorem Yww(a b c d:Int):DV (s_ (zzB [I J a,I J b,I J c])) 1 2 (I J d)=s_ (zzB [I J a,I J b,I J d]):=(rfl)
theorem RV(lent:Bool)(a b c:D):DB (s_ ⟨f_,1,[a,b,c],lent⟩) 3 t_ 0=s_ (U [a,b,c]):=(rfl)
theorem RH(a b c:Int):DV (s_ (zzB [I J 0,I J 0,I J 0])) 3 0 (U [I J a,I J b,I J c])=s_ (zzB [I J a,I J b,I J c]):=(rfl)
theorem pQ(a:Int):Ec [I J 0,I J 0,I J 0] [(0,1,I J a)]=s_ [I J a,I J 0,I J 0]:=(rfl)
theorem pU(x:Ins):D8 x=[I J x.op,I J x.n,I J x.m]:=(rfl)
theorem pJ(a b c a' b' c':Int):Jg [0,0,0] f_ (U [I J a,I J b,I J c]) (U [I J a',I J b',I J c'])=s_ (V (decide (a=a'/\b=b'/\c=c'))):=by
 simp only[Jg,Gs,Kb,zaj,Ae,Bool.bne_false]
 congr 2
 grind
def vP:=DL (α:=Ins) (λa=>[Dt a]) (λa=>True) (λa=>V (HR a))
def Yjm(x:Ins):vP [Dt x]=s_ (V (HR x)):=
 EL (λa b h=>by simp only[Ab,zag,TU]at h;simp[h]) (x) trivial
theorem YEd(x:Ins):@wW GG (tb [(140,vO)] []) nk.code (Du [Dt x]) [] ⟨DN nk.res (V (HR x))⟩:=by
 unfold nk;obtain⟨op,n,m⟩:=x
 by_cases h1:op<1
 .rw[show HR ⟨op,n,m⟩=f_ from zaz (by dsimp only;omega)]
  push_cast(disch:=lia)[F9,He,h1]
 .by_cases h2:17<=op
  .rw[show HR ⟨op,n,m⟩=f_ from zaz (by dsimp only;omega)]
   push_cast(disch:=lia)[F9,He,h1,h2]
  .have hc:=Yjo op
   have fin:∀(a b:Int)(n' m':Int),Lg op=(a,b)->(a<=0->n'=n)->(0<a->n'=0)->(a<=1->m'=m)->(1<a->m'=0)->HR ⟨op,n,m⟩=(decide (op=op/\n'=0/\m'=0)&&(decide (0<=min n m)&&decide (max n m<=b))):=by
    intro a b n' m' e e1 e2 e3 e4;unfold HR;grind
   rcases yFv op with e|e|e|e
   .rw[fin 1 _ 0 m e zaa zaa zaa zaa];rw[e]at hc
    rcases zar (m=0)with N|N<;>rcases zar (0<=min n m)with r1|r1<;>rcases zar (max n m<=9007199254740992)with E|E<;>
     push_cast(disch:=lia)[F9,Nf,h1,h2,hc,RH,pU,vZ,RV,pQ,pJ,N,r1,E,zaq,zax]
   .rw[fin 1 _ 0 m e zaa zaa zaa zaa];rw[e]at hc
    rcases zar (m=0)with N|N<;>rcases zar (0<=min n m)with r1|r1<;>rcases zar (max n m<=15)with E|E<;>
     push_cast(disch:=lia)[F9,Nf,h1,h2,hc,RH,pU,vZ,RV,pQ,pJ,N,r1,E,zaq,zax]
   .rw[fin 2 _ 0 0 e zaa zaa zaa zaa];rw[e]at hc
    rcases zar (0<=min n m)with r1|r1<;>rcases zar (max n m<=9007199254740992)with E|E<;>
     push_cast(disch:=lia)[F9,Nf,h1,h2,hc,RH,pU,vZ,Yww,RV,pQ,pJ,r1,E,zaq]
   .rw[fin 0 _ n m e zaa zaa zaa zaa];rw[e]at hc
    rcases zar (n=0)with N|N<;>rcases zar (m=0)with q1|q1<;>rcases zar (0<=min n m)with r1|r1<;>rcases zar (max n m<=0)with E|E<;>
     push_cast(disch:=lia)[F9,Nf,h1,h2,hc,RH,pU,RV,pQ,pJ,N,q1,r1,E,zag,zaq,zax]
def YLk:zCC 100 vP:=
 EM yCc (DP (all_cons YLm all_nil) all_nil) (λa h=>YEd a)
