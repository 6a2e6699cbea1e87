/-
  TopCourt: the sanity of court.
  Conditions: none; these are definitions and lemmas.
-/
import Derived.Test.YtlnmoflpeohkbaaGreatDoorMkD
import Derived.Test.YtlnmoflpeohkbaaGreatDoorCtA
import Derived.Test.YtlnmoflpeohkbaaGreatDoorEngLaw
import Derived.Test.YtlnmoflpeohkbaaGreatDoorTaR
open Inhabited renaming default->d_
open Bool renaming false->f_,true->t_
open Option renaming some->s_,none->n_
open Int renaming reduceNatCast'->C5,reduceNeg->Da
open Nat renaming reduceAdd->C6,reduceEqDiff->C3
open Prod renaming fst->Dl,snd->Dn
set_option maxHeartbeats 8000000
set_option maxRecDepth 20000
set_option linter.unusedSimpArgs false
set_option linter.unusedVariables false
set_option linter.defProp false
noncomputable section
namespace Go.Proofs.YtlnmoflpeohkbaaGreatDoor.PI
open Go
open D renaming int->I,slc->O,agg->U,bool->V,ptr->Y
open Go.IntKind renaming i64->J
open D renaming agg->ybJ,bool->ybH,cells->yaZ,isCell->yaa
open Sg renaming cs->ybI
def rb:=DL (α:=List Dig×Int×Int) (λa=>[O (nz 32 (a.1.map Ds)) (a.1.map Ds) f_,I J a.2.1,I J a.2.2]) (λa=>True) (λa=>.tup [Ds (Ns a.1 a.2.1 a.2.2),V (KH a.1 a.2.1 a.2.2)])
def yH7(l:List Dig)(E:Int)(k:Int):rb [O (nz 32 (l.map Ds)) (l.map Ds) f_,I J E,I J k]=s_ (.tup [Ds (Ns l E k),V (KH l E k)]):=
 EL (λ⟨a0,a1,N⟩⟨b0,b1,b2⟩h=>by simp only[Ab,D.slc.injEq,D.int.injEq,MK,zal,zag]at h;simp[h]) (l,E,k) trivial
def Yvq(l:List Dig)(E:Int)(k:Int):@wW GG (tb [] [(63,lR)]) mX.1.code (Du [O (nz 32 (l.map Ds)) (l.map Ds) f_,I J E,I J k]) [] ⟨DN mX.1.res (.tup [Ds (Ns l E k),V (KH l E k)])⟩:=by
 unfold mX;simp(disch:=omega) only[push_cast,↓reduceIte,C3,C6];have bad:KH l E k=f_->Ns l E k=DX:=by intro h;unfold Ns;simp[h]
 refine Fm (λN=>?_) (λN=>?_)
 .have e:KH l E k=f_:=by unfold KH;simp;omega
  simp(disch:=omega) only[push_cast,↓reduceIte,C3,N,e,bad e]
 .simp(disch:=omega) only[push_cast,↓reduceIte,C3,N];refine Fm (λh2=>?_) (λh2=>?_)
  .have e:KH l E k=f_:=by unfold KH;simp;omega
   simp(disch:=omega) only[push_cast,↓reduceIte,C3,h2,e,bad e]
  .simp(disch:=omega) only[push_cast,↓reduceIte,C3,h2];refine Fm (λh3=>?_) (λh3=>?_)
   .have e:KH l E k=f_:=by unfold KH;simp;omega
    simp(disch:=omega) only[push_cast,↓reduceIte,C3,h3,e,bad e]
   .simp(disch:=omega) only[push_cast,↓reduceIte,C3,h3];refine Fm (λh4=>?_) (λh4=>?_)
    .have e:KH l E k=f_:=by unfold KH;simp;omega
     simp(disch:=omega) only[push_cast,↓reduceIte,C3,h4,e,bad e]
    .simp(disch:=omega) only[push_cast,↓reduceIte,C3,h4,FL,vG];refine Fm (λh5=>?_) (λh5=>?_)
     .have e:KH l E k=f_:=by unfold KH;simp;omega
      simp(disch:=omega) only[push_cast,↓reduceIte,C3,h5,e,bad e]
     .have e:KH l E k=t_:=by unfold KH;simp;omega
      have e2:Ns l E k=FX l E.toNat k:=by unfold Ns;simp[e]
      have e3:Nv l E k DX (E.toNat+1)=FX l E.toNat k:=by unfold Nv;rw[zae zaa]
      have hc:=yPe l E E k DX ⟨zaa,zaa,zaa,zaa⟩;rw[e3]at hc;simp(disch:=omega) only[push_cast,↓reduceIte,C3,h5,e,e2,hc]
def Yka:zCC 59 rb:=
 EM (T:=tb [] [(63,lR)]) mX.2 (DP all_nil (all_cons Ybp all_nil)) (λa h=>Yvq a.1 a.2.1 a.2.2)
def ru:=DL (α:=List Dig) (λa=>[O (nz 32 (a.map Ds)) (a.map Ds) f_]) (λa=>True) (λa=>.tup [U (I J (Fg a).1::Dr (Fg a).2),I J (Jj a)])
def Yb0(l:List Dig):ru [O (nz 32 (l.map Ds)) (l.map Ds) f_]=s_ (.tup [U (I J (Fg l).1::Dr (Fg l).2),I J (Jj l)]):=
 EL (λa b h=>by simp only[Ab,D.slc.injEq,MK,zag]at h;simp[h]) (l) trivial
def Yvo(l:List Dig):@wW GG (tb [(38,Rj),(59,rb)] []) mZ.1.code (Du [O (nz 32 (l.map Ds)) (l.map Ds) f_]) [] ⟨DN mZ.1.res (.tup [U (I J (Fg l).1::Dr (Fg l).2),I J (Jj l)])⟩:=by
 unfold mZ;simp(disch:=omega) only[push_cast,↓reduceIte,C3];refine Fm (λE=>?_) (λE=>?_)
 .have e:Fg l=Yim:=by unfold Fg;rw[YYN]
  have N:Jj l=2:=by unfold Jj;rw[YYN]
  simp(disch:=omega) only[push_cast,↓reduceIte,C3,E,e,N,Yim]
 .have e:Fg l=((l.length:Int),FX l (Ep l.length).toNat 0):=by unfold Fg;rw[zae zaa]
  have N:Jj l=0:=by unfold Jj;rw[zae zaa]
  obtain⟨d1,d2,d3⟩:=Qg (n:=l.length) zaa zaa;have hp:=YP (16-Ep l.length).toNat;have e3:KH l (Ep l.length) 0=t_:=by unfold KH;simp;omega
  have e4:Ns l (Ep l.length) 0=FX l (Ep l.length).toNat 0:=by unfold Ns;simp[e3]
  simp(disch:=omega) only[push_cast,↓reduceIte,C3,E,e,N,e3,e4,Ro,yH7]
def YCo:zCC 19 ru:=
 EM mZ.2 (DP (all_cons Wq (all_cons Yka all_nil)) all_nil) (λa h=>Yvo a)
def re:=DL (α:=List Dig×Int) (λa=>[O (nz 32 (a.1.map Ds)) (a.1.map Ds) f_,I J a.2]) (λa=>True) (λa=>.tup [O (nz 32 ((I4 a.1 a.2).map Ds)) ((I4 a.1 a.2).map Ds) f_,I J (Pg a.1 a.2)])
def Yb1(l:List Dig)(i:Int):re [O (nz 32 (l.map Ds)) (l.map Ds) f_,I J i]=s_ (.tup [O (nz 32 ((I4 l i).map Ds)) ((I4 l i).map Ds) f_,I J (Pg l i)]):=
 EL (λ⟨a0,a1⟩⟨b0,b1⟩h=>by simp only[Ab,D.slc.injEq,D.int.injEq,MK,zal,zag]at h;simp[h]) (l,i) trivial
def Yvp(l:List Dig)(i:Int):@wW GG (tb [(38,Rj)] [(63,lS)]) mY.1.code (Du [O (nz 32 (l.map Ds)) (l.map Ds) f_,I J i]) [] ⟨DN mY.1.res (.tup [O (nz 32 ((I4 l i).map Ds)) ((I4 l i).map Ds) f_,I J (Pg l i)])⟩:=by
 unfold mY;simp(disch:=omega) only[push_cast,↓reduceIte,C3];refine Fm (λN=>?_) (λN=>?_)
 .have e:I4 l i=[]:=by unfold I4;rw[YYN]
  have E:Pg l i=2:=by unfold Pg;rw[zae zaa]
  simp(disch:=omega) only[push_cast,↓reduceIte,C3,N,e,E]
 .obtain⟨d1,d2,d3⟩:=Qg (n:=l.length) zaa zaa;simp(disch:=omega) only[push_cast,↓reduceIte,C3,N,Ro];refine Fm (λh2=>?_) (λh2=>?_)
  .have e:I4 l i=[]:=by unfold I4;rw[YYN]
   have E:Pg l i=1:=by unfold Pg;rw[YYN,YYN]
   simp(disch:=omega) only[push_cast,↓reduceIte,C3,h2,e,E]
  .simp(disch:=omega) only[push_cast,↓reduceIte,C3,h2,vG];refine Fm (λh3=>?_) (λh3=>?_)
   .have e:I4 l i=[]:=by unfold I4;rw[YYN]
    have E:Pg l i=1:=by unfold Pg;rw[YYN,YYN]
    simp(disch:=omega) only[push_cast,↓reduceIte,C3,h3,e,E]
   .have e:I4 l i=Ic l i (Ep l.length).toNat:=by unfold I4;rw[zae zaa]
    have E:Pg l i=0:=by unfold Pg;rw[YYN,zae zaa]
    have ae:(2:Int)^(Ep l.length).toNat<=2^16:=YO zaa;rw[e,E];simp(disch:=omega) only[push_cast,↓reduceIte,C3,C6,h3,bm];refine Fm (λh4=>?_) (λh4=>?_)
    .have hc:=yPd l (Ep l.length-1) i ⟨zaa,zaa,zaa,zaa,zaa⟩;have e3:(Ep l.length-1).toNat+1=(Ep l.length).toNat:=zaa
     rw[e3]at hc;simp(disch:=omega) only[push_cast,↓reduceIte,C3,h4,FL,hc]
    .have e3:(Ep l.length).toNat=0:=zaa
     rw[e3];simp(disch:=omega) only[push_cast,↓reduceIte,C3,Int.reducePow,h4];rfl
def YCp:zCC 25 re:=
 EM (T:=tb [(38,Rj)] [(63,lS)]) mY.2 (DP (all_cons Wq all_nil) (all_cons Ybo all_nil)) (λa h=>Yvp a.1 a.2)
theorem yF(l:List Dig)(n:Nat)(k:Int)(hk:0<=k):FX l (n+1) k=HS (FX l n (2*k)) (FX l n (2*k+1)):=by
 unfold FX
 show F4 (G4 (E7 n) (Fh l n)) k (E7 (n+1))=_
 have hl:=Ul (E7 n) (Fh l n);unfold F4
 by_cases h:k<((G4 (E7 n) (Fh l n)).length:Int)
 .rw[zae h,wc (E7 n) (Fh l n) k.toNat zaa,zae (show 2*k<((Fh l n).length:Int) by omega)];unfold F4;grind
 .rw[zaf h,zaf (show ¬2*k<((Fh l n).length:Int) by omega),zaf (show ¬2*k+1<((Fh l n).length:Int) by omega)];rfl
def yW4(j:Int)(n:Nat):j/2^(n+1)=j/2^n/2:=by have:=YP n;rw[Int.ediv_ediv_of_nonneg zaa,Int.pow_succ]
def yO0(p q:List Dig):∀(i:Nat)(x:Dig),ME i x (p++q)=ME (i/2^p.length) (ME i x p) q:=by
 induction p with
 |nil=>intro i x;simp[ME]
 |cons a r E=>
  intro i x
  show ME (i/2) _ (r++q)=_
  rw[E,An,CG,B4,<-Nat.div_div_eq_div_mul];rfl
theorem Ycz(i:Int)(hi:0<=i)(n:Nat):((i.toNat/2^n:Nat):Int)=i/2^n:=by grind
theorem yHu(l:List Dig)(i:Int)(hi:0<=i):∀n:Nat,ME i.toNat (FX l 0 i) (Ic l i n)=FX l n (i/2^n)
 |0=>by simp[Ic,ME]
 |n+1=>by
  have E:=YP n;have N:0<=i/2^n:=BD hi zaa;have h1:=Ycz i hi n
  show ME i.toNat (FX l 0 i) (Ic l i n++[FX l n (GM (i/2^n))])=_
  rw[yO0,yHu l i hi n,mR]
  show(if i.toNat/2^n%2=0 then HS (FX l n (i/2^n)) (FX l n (GM (i/2^n)))else HS (FX l n (GM (i/2^n))) (FX l n (i/2^n)))=_
  rw[yF l n (i/2^(n+1)) (by rw[yW4];omega),yW4];generalize i/2^n=m at*;unfold GM;grind
def YMe(l:List Dig)(k:Int)(E:Dig)(h:(l.length:Int)<=k):F4 l k E=E:=by unfold F4;rw[YYN]
def yxe(l:List Dig)(i:Int)(hl:(l.length:Int)<=65536)(hi:0<=i)(h:i<2^(Ep l.length).toNat):Jw (Fg l) i (FX l 0 i) (I4 l i)=t_:=by
 obtain⟨d1,d2,d3⟩:=Qg (n:=l.length) zaa zaa;have E:Fg l=((l.length:Int),FX l (Ep l.length).toNat 0):=by unfold Fg;rw[zae hl]
 have N:I4 l i=Ic l i (Ep l.length).toNat:=by unfold I4;rw[zae ⟨hl,hi,h⟩]
 unfold Jw;rw[E,N,yHu l i hi,mR,Int.ediv_eq_zero_of_lt hi h];simp;omega
def Js(x:Bis):Bool:=if x.h<0 then f_ else if 16<x.h then f_ else if x.l<0 then f_ else if x.h<x.l then f_ else if 0<=x.i then(if x.i<2^(x.h-x.l).toNat then decide (x.r=x.h-x.l)else f_)else f_
theorem Rn{x:Bis}(h:Js x=t_):0<=x.h/\x.h<=16/\0<=x.l/\x.l<=x.h/\0<=x.i/\x.i<2^(x.h-x.l).toNat/\x.r=x.h-x.l:=by unfold Js at h;simp_all
variable{k:Nat}
theorem yOr{i:Int}(E:0<=i):i/2^k=0↔i<2^k:=by
 have N:(0:Int)<2^k:=Int.pow_pos zab;constructor
 .intro h;have:=Int.emod_lt_of_pos i N;have e:=Cn i (2^k);grind
 .intro h;exact Int.ediv_eq_zero_of_lt E h
def Zk:=DL (α:=Bis) (λa=>[EJ a]) (λa=>True) (λa=>V (Js a))
def ma(x:Bis):Zk [EJ x]=s_ (V (Js x)):=
 EL (λa b h=>by simp only[Ab,zag,YK]at h;simp[h]) (x) trivial
def Yls(x:Bis):@wW GG (tb [] []) nr.1.code (Du [EJ x]) [] ⟨DN nr.1.res (V (Js x))⟩:=by
 unfold nr Js
 by_cases E:x.h<0
 .push_cast(disch:=lia)[E]
 by_cases N:16<x.h
 .push_cast(disch:=lia)[E,N]
 by_cases h3:x.l<0
 .push_cast(disch:=lia)[E,N,h3]
 by_cases h4:x.h<x.l
 .push_cast(disch:=lia)[E,N,h3,h4]
 by_cases h5:0<=x.i
 .have e:=yOr (k:=(x.h-x.l).toNat) h5
  by_cases h6:x.i<2^(x.h-x.l).toNat
  .push_cast(disch:=lia)[E,N,h3,h4,h5,h6,FL,j3,e]
  .push_cast(disch:=lia)[E,N,h3,h4,h5,h6,FL,j3,e]
 .push_cast(disch:=lia)[E,N,h3,h4,h5]
def wq:zCC 60 Zk:=
 EM nr.2 (DP all_nil all_nil) (λa h=>Yls a)
def F8(s:Int)(root:Dig):Nat->Dig
 |0=>root
 |j+1=>if Ep s<=(j:Int)then HS (F8 s root j) (E7 j)else F8 s root j
theorem yVi(s:Int)(E:Dig):∀j:Nat,(j:Int)<=Ep s->F8 s E j=E
 |0,_=>rfl
 |j+1,h=>by
  rw[F8,YYN];exact yVi s E j zaa
def tJ:=DL (α:=(Int×Dig)×Int) (λa=>[U (I J (Dl a.1)::Dr (Dn a.1)),I J a.2]) (λa=>0<=a.2/\a.2<=60) (λa=>Ds (F8 a.1.1 a.1.2 a.2.toNat))
def yAp(c:Int×Dig)(n:Int)(h:0<=n/\n<=60):tJ [U (I J (Dl c)::Dr (Dn c)),I J n]=s_ (Ds (F8 c.1 c.2 n.toNat)):=
 EL (λ⟨a0,a1⟩⟨b0,b1⟩h=>by simp only[Ab,D.int.injEq,D.agg.injEq,Ng,zal,zag]at h;simp[h,CJ]) (c,n) h
def Ycl(c:Int×Dig)(n:Int)(h:0<=n/\n<=60):@wW GG (tb [(18,Q3),(79,Uq),(38,Rj)] []) nF.1.code (Du [U (I J (Dl c)::Dr (Dn c)),I J n]) [] ⟨DN nF.1.res (Ds (F8 c.1 c.2 n.toNat))⟩:=by
 obtain⟨s,root⟩:=c;obtain⟨h0,h1⟩:=h;dsimp only;unfold nF;simp(disch:=omega) only[push_cast,↓Fc,↓reduceIte,C3,Nat.reduceLT,C6,T7,ML,yV7];refine Gn (λi:Nat=>[(2,Y 0 0),(4,Y 1 0),(5,Y 2 0),(6,Y 3 0),(11,I J n),(12,I J (i:Int))]) (λi=>[zzB (I J s::Dr root),zzB (Dr DX),zzB (Dr (F8 s root i)),zzB (Dr (E7 i))]) (λi=>(i:Int)<=n) (λi=>(n-i).toNat) 0 (by push_cast [↓C5]<;>rfl) zaa ?_;intro i hi;simp(disch:=omega) only[push_cast,↓reduceIte,C3];refine Fm (λN=>?_) (λN=>?_)
 .push_cast(disch:=lia)[Ro,Wo,N]
  refine Fm (λE=>?_) (λE=>?_)
  .push_cast(disch:=lia)[KL,D5,E]
   refine EV (i+1) zaa zaa ?_;rw[show F8 s root (i+1)=HS (F8 s root i) (E7 i)from zae E];rfl
  .push_cast(disch:=lia)[KL,D5,E]
   refine EV (i+1) zaa zaa ?_;rw[show F8 s root (i+1)=F8 s root i from zaf E];rfl
 .have e:n.toNat=i:=zaa
  rw[e];simp(disch:=omega) only[push_cast,↓reduceIte,C3,C6,N]
def Ykf:zCC 39 tJ:=
 EM nF.2 (DP (all_cons UU (all_cons Zb (all_cons Wq all_nil))) all_nil) (λa h=>Ycl a.1 a.2 h)
theorem Ge(st:St)(n sz key off:Nat)(k:IntKind)(i:Int)(E:0<=i)(N:i<(n:Int)):J8 st n sz (Y key off) (I k i)=s_ (Y key (off+i.toNat*sz)):=by simp only[J8,Ua k i E,FE];grind
def NC(a b:Int×Dig):Bis:=⟨max (Ep a.1) (Ep b.1),max (Ep a.1) (Ep b.1),0,F8 a.1 a.2 (max (Ep a.1) (Ep b.1)).toNat,F8 b.1 b.2 (max (Ep a.1) (Ep b.1)).toNat,f_,f_,DX,DX,DX,DX,0⟩
def Kl(a b:Int×Dig):Bis:=if Ep a.1<0 then GJ else if Ep b.1<0 then GJ else if(NC a b).n0=(NC a b).n1 then GJ else NC a b
def FM(a b:Int×Dig):Int:=if Ep a.1<0 then 1 else if Ep b.1<0 then 1 else if(NC a b).n0=(NC a b).n1 then 380 else 0
def ZB(n:Int):-1<=Ep n/\Ep n<=16:=by
 by_cases h:n<0\/65536<n
 .rw[Zo h];omega
 .have:=Qg (n:=n) zaa zaa;omega
def Qk:=DL (α:=(Int×Dig)×(Int×Dig)) (λa=>[U (I J (Dl a.1)::Dr (Dn a.1)),U (I J (Dl a.2)::Dr (Dn a.2))]) (λa=>True) (λa=>.tup [EJ (Kl a.1 a.2),I J (FM a.1 a.2)])
def lZ(a:Int×Dig)(b:Int×Dig):Qk [U (I J (Dl a)::Dr (Dn a)),U (I J (Dl b)::Dr (Dn b))]=s_ (.tup [EJ (Kl a b),I J (FM a b)]):=
 EL (λ⟨a0,a1⟩⟨b0,b1⟩h=>by simp only[Ab,D.int.injEq,D.agg.injEq,Ng,zal,zag]at h;simp[h,CJ]) (a,b) trivial
def Ylv(a:Int×Dig)(b:Int×Dig):@wW GG (tb [(38,Rj),(39,tJ)] []) nq.1.code (Du [U (I J (Dl a)::Dr (Dn a)),U (I J (Dl b)::Dr (Dn b))]) [] ⟨DN nq.1.res (.tup [EJ (Kl a b),I J (FM a b)])⟩:=by
 obtain⟨s1,r1⟩:=a;obtain⟨s2,E⟩:=b;have d1:=ZB s1;have d2:=ZB s2;unfold nq Kl FM;dsimp only
 by_cases N:Ep s1<0
 .push_cast(disch:=lia)[ML,Wo,Ro,N]
 by_cases h2:Ep s2<0
 .push_cast(disch:=lia)[ML,Wo,Ro,N,h2]
 have c1:=yAp (s1,r1) (max (Ep s1) (Ep s2)) ⟨zaa,zaa⟩;have c2:=yAp (s2,E) (max (Ep s1) (Ep s2)) ⟨zaa,zaa⟩;dsimp only at c1 c2;have e1:(NC (s1,r1) (s2,E)).n0=F8 s1 r1 (max (Ep s1) (Ep s2)).toNat:=rfl;have e2:(NC (s1,r1) (s2,E)).n1=F8 s2 E (max (Ep s1) (Ep s2)).toNat:=rfl;have e3:NC (s1,r1) (s2,E)={GJ with h:=max (Ep s1) (Ep s2),l:=max (Ep s1) (Ep s2),n0:=F8 s1 r1 (max (Ep s1) (Ep s2)).toNat,n1:=F8 s2 E (max (Ep s1) (Ep s2)).toNat}:=rfl;rw[e1,e2,e3];generalize F8 s1 r1 (max (Ep s1) (Ep s2)).toNat=p1 at*;generalize F8 s2 E (max (Ep s1) (Ep s2)).toNat=p2 at*
 by_cases h3:p1=p2
 .push_cast(disch:=lia)[ML,Wo,tV,Ro,N,h2,c1,c2,h3,SB,Ge]
 .push_cast(disch:=lia)[ML,Wo,tV,Ro,N,h2,c1,c2,h3,SB,Ge]
def rh:zCC 13 Qk:=
 EM nq.2 (DP (all_cons Wq (all_cons Ykf all_nil)) all_nil) (λa h=>Ylv a.1 a.2)
def Lf(x:Bis)(p:Int):Bool:=if p=0 then x.t0 else x.t1
def Rx(x:Bis)(p:Int):Dig:=if p=0 then x.n0 else x.n1
def Ej(x:Bis)(p:Int)(l r:Dig):Bis:=if p=0 then {x with t0:=t_,l0:=l,r0:=r} else {x with t1:=t_,l1:=l,r1:=r}
def M6(x:Bis):Bis:=if x.l0=x.l1 then {GJ with h:=x.h,l:=x.l-1,i:=2*x.i+1,n0:=x.r0,n1:=x.r1,r:=x.r+1} else {GJ with h:=x.h,l:=x.l-1,i:=2*x.i,n0:=x.l0,n1:=x.l1,r:=x.r+1}
def GI(x:Bis)(p:Int)(l r:Dig):Bis:=if Js x=t_/\(p=0\/p=1)then(if x.l=0\/Lf x p=t_ then GJ else if HS l r=Rx x p then(if Lf x (1-p)=t_ then M6 (Ej x p l r)else Ej x p l r)else GJ)else GJ
def GW(x:Bis)(p:Int)(l r:Dig):Int:=if Js x=t_/\(p=0\/p=1)then(if x.l=0\/Lf x p=t_ then 380 else if HS l r=Rx x p then 0 else 381)else 1
def uV{x:Bis}(h:Js x=t_):x.i<65536:=by obtain⟨a,b,c,d,e,f,g⟩:=Rn h;have:=YO (a:=(x.h-x.l).toNat) (b:=16) zaa;omega
def xA:=DL (α:=Bis×Int×Dig×Dig) (λa=>[EJ a.1,I J a.2.1,Ds a.2.2.1,Ds a.2.2.2]) (λa=>-9223372036854775808<=a.2.1/\a.2.1<9223372036854775808) (λa=>.tup [EJ (GI a.1 a.2.1 a.2.2.1 a.2.2.2),I J (GW a.1 a.2.1 a.2.2.1 a.2.2.2)])
def Yb2(x:Bis)(p:Int)(l:Dig)(r:Dig)(h:-9223372036854775808<=p/\p<9223372036854775808):xA [EJ x,I J p,Ds l,Ds r]=s_ (.tup [EJ (GI x p l r),I J (GW x p l r)]):=
 EL (λ⟨a0,a1,E,N⟩⟨b0,b1,b2,b3⟩h=>by simp only[Ab,D.int.injEq,NG,zal,zag,YK]at h;simp[h]) (x,p,l,r) h
def Yvy(x:Bis)(p:Int)(l:Dig)(r:Dig)(h:-9223372036854775808<=p/\p<9223372036854775808):@wW GG (tb [(60,Zk),(79,Uq)] []) nV.1.code (Du [EJ x,I J p,Ds l,Ds r]) [] ⟨DN nV.1.res (.tup [EJ (GI x p l r),I J (GW x p l r)])⟩:=by
 unfold nV
 by_cases hv:Js x=t_
 .have cv:=ma x;rw[hv]at cv
  by_cases hp:p=0\/p=1
  .obtain⟨v1,v2,v3,v4,v5,v6,v7⟩:=Rn hv;have v8:=uV hv;rcases hp with rfl|rfl
   .have q1:¬(1:Int)=0:=zab
    by_cases E:x.l=0
    .have N:GI x 0 l r=GJ:=by unfold GI;rw[zae ⟨hv,.inl rfl⟩,zae (.inl E)]
     have e2:GW x 0 l r=380:=by unfold GW;rw[zae ⟨hv,.inl rfl⟩,zae (.inl E)]
     rw[N,e2]
     push_cast(disch:=lia)[cv,E]
    by_cases h2:x.t0=t_
    .have N:GI x 0 l r=GJ:=by unfold GI;rw[zae ⟨hv,.inl rfl⟩,zae (.inr h2)]
     have e2:GW x 0 l r=380:=by unfold GW;rw[zae ⟨hv,.inl rfl⟩,zae (.inr h2)]
     rw[N,e2]
     push_cast(disch:=lia)[cv,E,h2,Ge]
    have ae:x.t0=f_:=by simpa using h2
    by_cases h3:HS l r=x.n0
    .by_cases h4:x.t1=t_
     .have N:GI x 0 l r=M6 (Ej x 0 l r):=by unfold GI;rw[zae ⟨hv,.inl rfl⟩,zaf (by intro h;rcases h with h|h;exact E h;exact h2 h),zae (show HS l r=Rx x 0 from h3)];exact zae h4
      have e2:GW x 0 l r=0:=by unfold GW;rw[zae ⟨hv,.inl rfl⟩,zaf (by intro h;rcases h with h|h;exact E h;exact h2 h)];exact zae h3
      rw[N,e2,show Ej x 0 l r={x with t0:=t_,l0:=l,r0:=r} from rfl];unfold M6
      by_cases h5:l=x.l1
      .push_cast(disch:=lia)[↓Fc,cv,E,ae,h3,h4,<-h5,Ge,KL,FL,O8,D5,SB]
      .push_cast(disch:=lia)[↓Fc,cv,E,ae,h3,h4,h5,Ge,KL,FL,O8,D5,SB]
     .have a2:x.t1=f_:=by simpa using h4
      have N:GI x 0 l r=Ej x 0 l r:=by unfold GI;rw[zae ⟨hv,.inl rfl⟩,zaf (by intro h;rcases h with h|h;exact E h;exact h2 h),zae (show HS l r=Rx x 0 from h3)];exact zaf h4
      have e2:GW x 0 l r=0:=by unfold GW;rw[zae ⟨hv,.inl rfl⟩,zaf (by intro h;rcases h with h|h;exact E h;exact h2 h)];exact zae h3
      rw[N,e2,show Ej x 0 l r={x with t0:=t_,l0:=l,r0:=r} from rfl]
      push_cast(disch:=lia)[↓Fc,cv,E,ae,h3,a2,Ge,KL,FL]
    .have N:GI x 0 l r=GJ:=by unfold GI;rw[zae ⟨hv,.inl rfl⟩,zaf (by intro h;rcases h with h|h;exact E h;exact h2 h)];exact zaf h3
     have e2:GW x 0 l r=381:=by unfold GW;rw[zae ⟨hv,.inl rfl⟩,zaf (by intro h;rcases h with h|h;exact E h;exact h2 h)];exact zaf h3
     rw[N,e2]
     push_cast(disch:=lia)[cv,E,ae,h3,Ge,KL]
   .have q1:¬(1:Int)=0:=zab
    by_cases E:x.l=0
    .have N:GI x 1 l r=GJ:=by unfold GI;rw[zae ⟨hv,.inr rfl⟩,zae (.inl E)]
     have e2:GW x 1 l r=380:=by unfold GW;rw[zae ⟨hv,.inr rfl⟩,zae (.inl E)]
     rw[N,e2]
     push_cast(disch:=lia)[cv,E,q1]
    by_cases h2:x.t1=t_
    .have N:GI x 1 l r=GJ:=by unfold GI;rw[zae ⟨hv,.inr rfl⟩,zae (.inr h2)]
     have e2:GW x 1 l r=380:=by unfold GW;rw[zae ⟨hv,.inr rfl⟩,zae (.inr h2)]
     rw[N,e2]
     push_cast(disch:=lia)[cv,E,h2,q1,Ge]
    have ae:x.t1=f_:=by simpa using h2
    by_cases h3:HS l r=x.n1
    .by_cases h4:x.t0=t_
     .have N:GI x 1 l r=M6 (Ej x 1 l r):=by unfold GI;rw[zae ⟨hv,.inr rfl⟩,zaf (by intro h;rcases h with h|h;exact E h;exact h2 h),zae (show HS l r=Rx x 1 from h3)];exact zae h4
      have e2:GW x 1 l r=0:=by unfold GW;rw[zae ⟨hv,.inr rfl⟩,zaf (by intro h;rcases h with h|h;exact E h;exact h2 h)];exact zae h3
      rw[N,e2,show Ej x 1 l r={x with t1:=t_,l1:=l,r1:=r} from rfl];unfold M6
      by_cases h5:l=x.l0
      .push_cast(disch:=lia)[↓Fc,cv,E,ae,h3,h4,q1,<-h5,Ge,KL,FL,O8,D5,SB]
      .have h6:¬x.l0=l:=λh=>h5 h.symm
       push_cast(disch:=lia)[↓Fc,cv,E,ae,h3,h4,h5,h6,q1,Ge,KL,FL,O8,D5,SB]
     .have a2:x.t0=f_:=by simpa using h4
      have N:GI x 1 l r=Ej x 1 l r:=by unfold GI;rw[zae ⟨hv,.inr rfl⟩,zaf (by intro h;rcases h with h|h;exact E h;exact h2 h),zae (show HS l r=Rx x 1 from h3)];exact zaf h4
      have e2:GW x 1 l r=0:=by unfold GW;rw[zae ⟨hv,.inr rfl⟩,zaf (by intro h;rcases h with h|h;exact E h;exact h2 h)];exact zae h3
      rw[N,e2,show Ej x 1 l r={x with t1:=t_,l1:=l,r1:=r} from rfl]
      push_cast(disch:=lia)[↓Fc,cv,E,ae,h3,a2,q1,Ge,KL,FL]
    .have N:GI x 1 l r=GJ:=by unfold GI;rw[zae ⟨hv,.inr rfl⟩,zaf (by intro h;rcases h with h|h;exact E h;exact h2 h)];exact zaf h3
     have e2:GW x 1 l r=381:=by unfold GW;rw[zae ⟨hv,.inr rfl⟩,zaf (by intro h;rcases h with h|h;exact E h;exact h2 h)];exact zaf h3
     rw[N,e2]
     push_cast(disch:=lia)[cv,E,ae,h3,q1,Ge,KL]
  .have N:GI x p l r=GJ:=by unfold GI;exact zaf λh=>hp h.2
   have e2:GW x p l r=1:=by unfold GW;exact zaf λh=>hp h.2
   have p0:¬p=0:=λh=>hp (.inl h);have p1:¬p=1:=λh=>hp (.inr h);rw[N,e2]
   push_cast(disch:=lia)[cv,p0,p1]
 .have a3:Js x=f_:=by simpa using hv
  have cv:=ma x;rw[a3]at cv;have N:GI x p l r=GJ:=by unfold GI;exact zaf λh=>hv h.1
  have e2:GW x p l r=1:=by unfold GW;exact zaf λh=>hv h.1
  rw[N,e2]
  push_cast(disch:=lia)[cv]
def YCs:zCC 71 xA:=
 EM nV.2 (DP (all_cons wq (all_cons Zb all_nil)) all_nil) (λa h=>Yvy a.1 a.2.1 a.2.2.1 a.2.2.2 h)
def Ms(st:St)(a b:Dig):Ef st (FK a b)=s_ (FK a b):=Xd st (yOw a b)
def zO:¬(2:Int)=0:=zab
def ff:¬(380:Int)=0:=zab
def zP:¬(1:Int)=0:=zab
def LH(x:Bis):Bool:=Js x&&decide (x.l<=0)
def Mm(x:Bis):Int:=if LH x=t_ then x.i else 0
def JA(x:Bis):Dig:=if LH x=t_ then x.n0 else DX
def JB(x:Bis):Dig:=if LH x=t_ then x.n1 else DX
def YU:=DL (α:=Bis) (λa=>[EJ a]) (λa=>True) (λa=>.tup [I J (Mm a),U (FK (JA a) (JB a)),V (LH a)])
def tq(x:Bis):YU [EJ x]=s_ (.tup [I J (Mm x),U (FK (JA x) (JB x)),V (LH x)]):=
 EL (λa b h=>by simp only[Ab,zag,YK]at h;simp[h]) (x) trivial
def Yvx(x:Bis):@wW GG (tb [(60,Zk)] []) mV.1.code (Du [EJ x]) [] ⟨DN mV.1.res (.tup [I J (Mm x),U (FK (JA x) (JB x)),V (LH x)])⟩:=by
 have E:=ma x;unfold mV Mm JA JB LH
 by_cases hv:Js x=t_
 .rw[hv]at E⊢
  by_cases h1:0<x.l
  .have N:¬x.l<=0:=zaa
   push_cast(disch:=lia)[Ms,E,h1,N]
  .have N:x.l<=0:=zaa
   push_cast(disch:=lia)[Ms,E,h1,N]
 .have ab:Js x=f_:=by simpa using hv
  rw[ab]at E⊢
  push_cast(disch:=lia)[Ms,E]
def uN:zCC 61 YU:=
 EM mV.2 (DP (all_cons wq all_nil) all_nil) (λa h=>Yvx a)
def HH(s:List Dig)(x:Bis):Int:=if Js x=t_ then(if 65536<(s.length:Int)then 2 else if x.l=0 then 380 else 0)else 1
def Hm(s:List Dig)(x:Bis):Dig:=if HH s x=0 then Ns s (x.l-1) (2*x.i)else DX
def Hl(s:List Dig)(x:Bis):Dig:=if HH s x=0 then Ns s (x.l-1) (2*x.i+1)else DX
def qe:=DL (α:=List Dig×Bis) (λa=>[O (nz 32 (a.1.map Ds)) (a.1.map Ds) f_,EJ a.2]) (λa=>True) (λa=>.tup [Ds (Hm a.1 a.2),Ds (Hl a.1 a.2),I J (HH a.1 a.2)])
def Yjz(s:List Dig)(x:Bis):qe [O (nz 32 (s.map Ds)) (s.map Ds) f_,EJ x]=s_ (.tup [Ds (Hm s x),Ds (Hl s x),I J (HH s x)]):=
 EL (λ⟨a0,a1⟩⟨b0,b1⟩h=>by simp only[Ab,D.slc.injEq,MK,zag,YK]at h;simp[h]) (s,x) trivial
def YE3(s:List Dig)(x:Bis):@wW GG (tb [(60,Zk),(59,rb)] []) nE.1.code (Du [O (nz 32 (s.map Ds)) (s.map Ds) f_,EJ x]) [] ⟨DN nE.1.res (.tup [Ds (Hm s x),Ds (Hl s x),I J (HH s x)])⟩:=by
 have E:=ma x;unfold nE Hm Hl
 by_cases hv:Js x=t_
 .obtain⟨v1,v2,v3,v4,v5,v6,v7⟩:=Rn hv;have v8:=uV hv
  by_cases N:65536<(s.length:Int)
  .have e:HH s x=2:=by unfold HH;rw[zae hv,zae N]
   rw[e];rw[hv]at E
   push_cast(disch:=lia)[↓Fc,zO,E,N]
  .by_cases h2:x.l=0
   .have e:HH s x=380:=by unfold HH;rw[zae hv,zaf N,zae h2]
    rw[e];rw[hv]at E
    push_cast(disch:=lia)[↓Fc,ff,E,N,h2]
   .have e:HH s x=0:=by unfold HH;rw[zae hv,zaf N,zaf h2]
    rw[e];rw[hv]at E
    push_cast(disch:=lia)[↓Fc,E,N,h2,yH7,FL,O8,D5]
 .have ab:Js x=f_:=by simpa using hv
  have e:HH s x=1:=by unfold HH;rw[zaf hv]
  rw[e];rw[ab]at E
  push_cast(disch:=lia)[↓Fc,zP,E]
def YLw:zCC 21 qe:=
 EM nE.2 (DP (all_cons wq (all_cons Yka all_nil)) all_nil) (λa h=>YE3 a.1 a.2)
structure Ky where
 kd:Int
 wg:Int
 rr:Int
 rn:Int
 pt:Int
 deriving DecidableEq,Inhabited
def Mg(k:Ky):List D:=[I J k.kd,I J k.wg,I J k.rr,I J k.rn,I J k.pt]
def KB(k:Ky):D:=U (Mg k)
abbrev DZ(l:List Ky):D:=O (nz 5 (l.map KB)) (l.map KB) f_
theorem Ygs{a b:Ky}:Mg a=Mg b↔a=b:=by refine⟨λh=>?_,λh=>by rw[h]⟩;obtain⟨a1,E,N,a4,a5⟩:=a;obtain⟨b1,b2,b3,b4,b5⟩:=b;simp only[Mg,Ab,D.int.injEq,zal,zag]at h;grind
def vb{a b:Ky}:KB a=KB b↔a=b:=by simp only[KB,D.agg.injEq,Ygs]
variable{a b:List Ky}
theorem Ygr:a.map KB=b.map KB↔a=b:=by
 refine⟨λh=>?_,λh=>by rw[h]⟩
 induction a generalizing b with
 |nil=>cases b with
  |nil=>rfl
  |cons y b=>simp at h
 |cons x a E=>cases b with
  |nil=>simp at h
  |cons y b=>
   simp only[Av,Ab,vb]at h;grind
theorem wS:DZ a=DZ b↔a=b:=by simp only[DZ,D.slc.injEq,zag,Ygr];grind
theorem yPo{a b:List Bool}:a.map ybH=b.map ybH↔a=b:=by
 refine⟨λh=>?_,λh=>by rw[h]⟩
 induction a generalizing b with
 |nil=>cases b with
  |nil=>rfl
  |cons y b=>simp at h
 |cons x a E=>cases b with
  |nil=>simp at h
  |cons y b=>
   grind
structure Cse where
 key:Ky
 p0:Int
 p1:Int
 ph:Int
 dl:Int
 a0:Int
 a1:Int
 c0:Int×Dig
 c1:Int×Dig
 b:Bis
 wn:Int
 am:Int
 ct:Int
 jn:List Ky
 deriving DecidableEq
def La(x:Bis):List Sg:=[.c (I J x.h),.c (I J x.l),.c (I J x.i),.g x.n0,.g x.n1,.c (V x.t0),.c (V x.t1),.g x.l0,.g x.l1,.g x.r0,.g x.r1,.c (I J x.r)]
def V5(x:Bis):DC (La x)=DD x:=by simp[DC,La,DD,ybI]
def Mf(k:Ky):List Sg:=[.c (I J k.kd),.c (I J k.wg),.c (I J k.rr),.c (I J k.rn),.c (I J k.pt)]
theorem Yt4(k:Ky):DC (Mf k)=Mg k:=rfl
def Fp(x:Cse)(j:D):List Sg:=Mf x.key++[.c (I J x.p0),.c (I J x.p1),.c (I J x.ph),.c (I J x.dl),.c (I J x.a0),.c (I J x.a1),.c (I J x.c0.1),.g x.c0.2,.c (I J x.c1.1),.g x.c1.2]++La x.b++[.c (I J x.wn),.c (I J x.am),.c (I J x.ct),.c j]
def DF(x:Cse)(j:D):List D:=DC (Fp x j)
def DY(x:Cse):D:=U (DF x (DZ x.jn))
def Kn(x:Cse)(j:D):Lt (Fp x j):=trivial
def NS(x:Cse)(j:D):(DF x j).length=279:=by rw[DF,Ra (Kn x j)];simp[JX,Fp,Mf,La,Sg.sz]
variable{j:D}{y:Cse}
theorem wX{x:Cse}{i:D}(h:DF x i=DF y j):({x with jn:=[]}:Cse)={y with jn:=[]}/\i=j:=by obtain⟨xk,x0,x1,x2,x3,x4,x5,xc,xe,xb,x6,x7,x8,xj⟩:=x;obtain⟨yk,y0,y1,y2,y3,y4,y5,yc,ye,yb,y6,y7,y8,yj⟩:=y;obtain⟨a9,ba,bb,bc,bd⟩:=xk;obtain⟨be,bf,bg,bh,b1⟩:=yk;obtain⟨b2,b3⟩:=xc;obtain⟨b4,b5⟩:=xe;obtain⟨b6,b7⟩:=yc;obtain⟨b8,b9⟩:=ye;simp only[DF,Fp,Mf,Aj,Aq,DC,ybI,NN,V5,Ab,D.int.injEq,zal,Ai]at h;obtain⟨rfl,rfl,rfl,rfl,rfl,rfl,rfl,rfl,rfl,rfl,rfl,rfl,h⟩:=h;obtain⟨h1,E⟩:=Bb h (by simp[En]);clear h;simp only[Ab,D.int.injEq,zal]at E;obtain⟨q1,h3⟩:=E;obtain⟨h4,h5⟩:=Bb h3 (by simp[En]);obtain⟨h6,N⟩:=Bb h5 (by simp[Zw]);simp only[Ab,D.int.injEq,zal,zag]at N;obtain⟨q2,q3,q4,q5⟩:=N;subst q1 q2 q3 q4 q5;obtain rfl:=Ol h1;obtain rfl:=Ol h4;obtain rfl:=yXq h6;grind
theorem Wt{x:Cse}:DY x=DY y↔x=y:=by refine⟨λh=>?_,λh=>by rw[h]⟩;simp only[DY,D.agg.injEq]at h;obtain⟨N,E⟩:=wX h;rw[wS]at E;obtain⟨xk,x0,x1,x2,x3,x4,x5,xc,xe,xb,x6,x7,x8,xj⟩:=x;simp_all
def Ys3:Ky:=⟨0,0,0,0,0⟩
def OO:Cse:=⟨Ys3,0,0,0,0,0,0,(0,DX),(0,DX),GJ,0,0,0,[]⟩
structure Mv where
 kd:Int
 pt:Int
 am:Int
 cm:Int×Dig
 lf:Dig
 rt:Dig
 op:Opn
 path:List Dig
 key:Ky
 deriving DecidableEq
abbrev Hj(l:List Dig):D:=O (nz 32 (l.map Ds)) (l.map Ds) f_
def IH(o:Opn)(t:D):List Sg:=[.c (I J o.pc),.c (I J o.fuel),.c (I J o.status),.c (I J o.clause),.c t,.c (I J o.depth),.g o.rest]
def bo(o:Opn):DC (IH o (EK o.top))=FF o:=by simp[DC,IH,FF,ybI]
def OA(m:Mv):List Sg:=[.c (I J m.kd),.c (I J m.pt),.c (I J m.am),.c (I J m.cm.1),.g m.cm.2,.g m.lf,.g m.rt]++IH m.op (EK m.op.top)++[.c (Hj m.path)]++Mf m.key
def Ki(m:Mv):List D:=DC (OA m)
def Kh(m:Mv):D:=U (Ki m)
def sK(m:Mv):Lt (OA m):=trivial
def W5(m:Mv):(Ki m).length=144:=by rw[Ki,Ra (sK m)];simp[JX,OA,IH,Mf,Sg.sz]
def vg{x y:Mv}:Kh x=Kh y↔x=y:=by refine⟨λh=>?_,λh=>by rw[h]⟩;obtain⟨x1,x2,x3,⟨x4,x5⟩,x6,x7,x8,x9,ah⟩:=x;obtain⟨y1,y2,y3,⟨y4,y5⟩,y6,y7,y8,y9,a0⟩:=y;simp only[Kh,D.agg.injEq,Ki,OA,NN,bo,Al]at h;simp only[DC,ybI,Aj,Aq,Ab,D.int.injEq,zal,Ai,Al]at h;obtain⟨rfl,rfl,rfl,rfl,h⟩:=h;obtain⟨N,g1⟩:=Bb h (by simp[En]);obtain⟨h2,g2⟩:=Bb g1 (by simp[En]);obtain⟨h3,g3⟩:=Bb g2 (by simp[En]);obtain⟨h4,E⟩:=Bb g3 (by simp[LM,Zq]);simp only[Ab,Hj,D.slc.injEq,zag,MK,Yt4,Ygs]at E;obtain⟨⟨_,q1⟩,q2⟩:=E;subst q1 q2;obtain rfl:=Ol N;obtain rfl:=Ol h2;obtain rfl:=Ol h3;obtain rfl:=TY.1 (congrArg ybJ h4);rfl
structure Ply where
 x:Cse
 j:D
 c:List Ins
 v:zIL
 m:Mv
 now:Int
 hv:Et v
def E6(p:Ply):List Sg:=Fp p.x p.j++[.c (D9 p.c),.w 17 (Eo p.v)]++OA p.m++[.c (I J p.now)]
def Dz(p:Ply):List D:=DC (E6 p)
def Ir(p:Ply):Lt (E6 p):=⟨IX p.hv,trivial⟩
def Yx6(p:Ply):(Dz p).length=442:=by rw[Dz,Ra (Ir p)];simp[JX,E6,Fp,OA,IH,La,Mf,Sg.sz]
def Ft(n:Int):Prop:=-9007199254740992<=n/\n<=9007199254740992
instance (n:Int):Decidable (Ft n):=inferInstanceAs (Decidable (_/\_))
def HV(x:Cse):Prop:=x.ph=4\/x.ph=5\/x.ph=6
instance (x:Cse):Decidable (HV x):=inferInstanceAs (Decidable (_\/_))
def Hq(x:Cse):Prop:=x.ph=1\/x.ph=2\/x.ph=3
instance (x:Cse):Decidable (Hq x):=inferInstanceAs (Decidable (_\/_))
def LD(x:Cse)(w a:Int):Cse:={x with ph:=4,wn:=w,am:=a}
def OZ(x:Cse)(p:Int):Int:=if p=0 then x.a0 else x.a1
def G9(x:Cse)(p:Int):Int×Dig:=if p=0 then x.c0 else x.c1
def Gh(x:Cse)(p:Int):Cse:=if p<0 then LD x (-1) 0 else LD x p (OZ x p)
def Py(x:Cse)(n:Int):Int:=if x.a0=n then 0 else if x.a1=n then 1 else -1
def Oq(x:Cse)(n:Int):Cse:=LD x (Py x n) n
def M9(x:Cse)(now:Int):Cse:={x with ph:=3,dl:=now+1440}
def JD(c:List Ins)(v:zIL)(x:Cse)(now:Int):Cse×Int:=
 if LH x.b=t_ then
  if Mm x.b=0 then
   if(IB c v).2=0 then(Gh x (Iz (JA x.b,JB x.b) (IB c v)).1,0)else(x,(IB c v).2)
  else(M9 x now,0)
 else(x,0)
def Ml(c:List Ins)(v:zIL)(x:Cse)(m:Mv)(now:Int):Cse×Int:=
 if m.pt=1/\x.ph=1 then
  if Ft m.am then
   let y:Cse:={x with a1:=m.am,c1:=m.cm}
   if FM x.c0 m.cm=1 then(y,381)
   else if FM x.c0 m.cm=0 then JD c v {y with b:=Kl x.c0 m.cm,ph:=2,dl:=now+1440} now
   else if x.a0=m.am then(Gh y 1,0)
   else if c.length=0 then(Oq y 0,0)
   else(M9 y now,0)
  else(x,1)
 else(x,380)
def Rw(c:List Ins)(v:zIL)(x:Cse)(m:Mv)(now:Int):Cse×Int:=
 if x.ph=2 then
  if GW x.b m.pt m.lf m.rt=0 then
   if(GI x.b m.pt m.lf m.rt).r=x.b.r then({x with b:=GI x.b m.pt m.lf m.rt},0)
   else JD c v {x with b:=GI x.b m.pt m.lf m.rt,dl:=now+1440} now
  else(x,GW x.b m.pt m.lf m.rt)
 else(x,380)
def G5(x:Cse)(p:Int):Int:=if FM x.c0 x.c1=380 then(G9 x p).1 else if FM x.c0 x.c1=0 then Mm x.b else 0
def Hp(x:Cse)(p:Int):Int×Bool:=
 if x.ph=3/\(p=0\/p=1)then
  if G5 x p=0 then(0,f_)else(G5 x p-1,t_)
 else(0,f_)
def r9(l:List Int):Int:=l.getD (l.length-1) 0
def Pb(c:List Ins)(v:zIL)(x:Cse)(m:Mv):Cse×Int:=
 if(Hp x m.pt).2=t_ then
  if FM x.c0 x.c1=380 then
   if Jw (G9 x m.pt) (Hp x m.pt).1 (IA c v m.op) m.path=t_ then
    if m.op.status≠0/\(m.op.status≠1\/0<m.op.top.length)then(Oq x (if m.op.status=1 then r9 m.op.top else 0),0)
    else(x,390)
   else(x,40)
  else
   let i:=(Hp x m.pt).1
   let bef:=if(G9 x m.pt).1<=i then DQ else IA c v m.op
   if 2^(Ep (G9 x m.pt).1).toNat<=i\/Jw (G9 x m.pt) i bef m.path=t_ then
    if(Hc c v bef m.op).2=0 then(Gh x (Iz (JA x.b,JB x.b) (Hc c v bef m.op)).1,0)
    else(x,(Hc c v bef m.op).2)
   else(x,40)
 else(x,380)
def UQ(x:Cse)(m:Mv):Cse×Int:=if m.pt=0 then({x with ph:=5,wn:=1},0)else(x,380)
def UJ(x:Cse)(m:Mv):Cse×Int:=if m.pt=1 then(Gh x 0,0)else if 0<=x.ct then(LD x 1 x.ct,0)else(x,380)
def UE(x:Cse)(m:Mv)(now:Int):Cse×Int:=
 if m.pt=1/\x.ph=1/\x.ct<0 then
  if 0<=m.am/\Ft m.am then({x with ct:=m.am,dl:=now+1440},0)else(x,1)
 else(x,380)
def sG(x:Cse)(m:Mv):Cse×Int:=
 if m.pt=0/\x.ph=1 then
  if x.jn.length<8 then
   if m.key≠x.key/\m.key∉x.jn then({x with jn:=x.jn++[m.key]},0)else(x,1)
  else(x,2)
 else(x,380)
def Ho(c:List Ins)(v:zIL)(x:Cse)(m:Mv)(now:Int):Cse×Int:=
 if m.kd=1 then Ml c v x m now
 else if m.kd=2 then Rw c v x m now
 else if m.kd=3 then Pb c v x m
 else if m.kd=4 then UQ x m
 else if m.kd=5 then UJ x m
 else if m.kd=6 then UE x m now
 else sG x m
def Hr(c:List Ins)(v:zIL)(x:Cse)(m:Mv)(now:Int):Int:=
 if Hq x then
  if(1<=m.kd/\m.kd<=7)/\0<=now/\now<=1073741824/\(m.pt=0\/m.pt=1)then
   if now<=x.dl then(Ho c v x m now).2 else 401
  else 1
 else 400
def LB(c:List Ins)(v:zIL)(x:Cse)(m:Mv)(now:Int):Cse:=if Hr c v x m now=0 then(Ho c v x m now).1 else OO
def Ie(p q n:Int)(c:Int×Dig)(now:Int):Int:=
 if min p q<0\/16<=max p q\/p=q\/¬Ft n\/now<0\/1073741824<now then 1 else if c.1<0\/65536<c.1 then 381 else 0
def OK(k:Ky)(p q n:Int)(c:Int×Dig)(now:Int):Cse:=
 if Ie p q n c now=0 then⟨k,p,q,1,now+1440,n,0,c,(0,DX),GJ,-1,0,-1,[]⟩else OO
def IT(x:Cse):Int:=if x.ph=1 then 0 else if x.ph=2/\x.b.t0≠x.b.t1 then(if x.b.t0=t_ then 0 else 1)else -1
def Jr(x:Cse)(now:Int):Cse:=if Hq x/\x.dl<now then {Gh x (IT x)with ph:=6} else x
section
variable(p:Ply) (sz:Nat) (lent:Bool)
def KT:DB (s_ ⟨f_,sz,Dz p,lent⟩) 1 f_ 7=s_ (I J p.x.ph):=JK (l:=E6 p) rfl rfl (Ir p)
def oS:DB (s_ ⟨f_,sz,Dz p,lent⟩) 1 f_ 9=s_ (I J p.x.a0):=JK (l:=E6 p) rfl rfl (Ir p)
def oG:DB (s_ ⟨f_,sz,Dz p,lent⟩) 1 f_ 10=s_ (I J p.x.a1):=JK (l:=E6 p) rfl rfl (Ir p)
def Ygg:DB (s_ ⟨f_,sz,Dz p,lent⟩) 1 f_ 274=s_ (I J p.x.b.r):=JK (l:=E6 p) rfl rfl (Ir p)
def XS:DB (s_ ⟨f_,sz,Dz p,lent⟩) 1 f_ 277=s_ (I J p.x.ct):=JK (l:=E6 p) rfl rfl (Ir p)
def M7:DB (s_ ⟨f_,sz,Dz p,lent⟩) 1 f_ 279=s_ (D9 p.c):=JK (l:=E6 p) rfl rfl (Ir p)
def G0:DB (s_ ⟨f_,sz,Dz p,lent⟩) 1 f_ 298=s_ (I J p.m.pt):=JK (l:=E6 p) rfl rfl (Ir p)
def P1:DB (s_ ⟨f_,sz,Dz p,lent⟩) 1 f_ 299=s_ (I J p.m.am):=JK (l:=E6 p) rfl rfl (Ir p)
def PQ:DB (s_ ⟨f_,sz,Dz p,lent⟩) 1 f_ 435=s_ (Hj p.m.path):=JK (l:=E6 p) rfl rfl (Ir p)
def Yzc:DB (s_ ⟨f_,sz,Dz p,lent⟩) 1 f_ 441=s_ (I J p.now):=JK (l:=E6 p) rfl rfl (Ir p)
def xB:DB (s_ ⟨f_,sz,Dz p,lent⟩) 279 t_ 0=s_ (U (DF p.x p.j)):=LP (l:=E6 p) rfl rfl (Ir p) rfl
def LK:DB (s_ ⟨f_,sz,Dz p,lent⟩) 33 t_ 11=s_ (U (I J p.x.c0.1::Dr p.x.c0.2)):=LP (l:=E6 p) rfl rfl (Ir p) (by simp[DC,ybI])
def LL:DB (s_ ⟨f_,sz,Dz p,lent⟩) 33 t_ 44=s_ (U (I J p.x.c1.1::Dr p.x.c1.2)):=LP (l:=E6 p) rfl rfl (Ir p) (by simp[DC,ybI])
def Li:DB (s_ ⟨f_,sz,Dz p,lent⟩) 198 t_ 77=s_ (EJ p.x.b):=LP (l:=E6 p) rfl rfl (Ir p) (by rw[EJ,<-V5];rfl)
def Ou:DB (s_ ⟨f_,sz,Dz p,lent⟩) 17 t_ 280=s_ (EO p.v):=LP (l:=E6 p) rfl rfl (Ir p) (by simp[DC,ybI,EO])
def XT:DB (s_ ⟨f_,sz,Dz p,lent⟩) 33 t_ 300=s_ (U (I J p.m.cm.1::Dr p.m.cm.2)):=LP (l:=E6 p) rfl rfl (Ir p) (by simp[DC,ybI])
def oH:DB (s_ ⟨f_,sz,Dz p,lent⟩) 32 t_ 333=s_ (Ds p.m.lf):=LP (l:=E6 p) rfl rfl (Ir p) (by simp[DC,ybI,Ds])
def oI:DB (s_ ⟨f_,sz,Dz p,lent⟩) 32 t_ 365=s_ (Ds p.m.rt):=LP (l:=E6 p) rfl rfl (Ir p) (by simp[DC,ybI,Ds])
def PR:DB (s_ ⟨f_,sz,Dz p,lent⟩) 38 t_ 397=s_ (Ew p.m.op):=LP (l:=E6 p) rfl rfl (Ir p) (by rw[Ew,<-bo];rfl)
end
section
variable(p:Ply) (sz:Nat)
def aP(n:Int):DV (s_ ⟨f_,sz,Dz p,f_⟩) 1 7 (I J n)=s_ ⟨f_,sz,Dz {p with x:={p.x with ph:=n}},f_⟩:=LS (l:=E6 p) (X:=[.c (I J n)]) rfl rfl (Ir p) rfl rfl rfl rfl
def YFl(n:Int):DV (s_ ⟨f_,sz,Dz p,f_⟩) 1 8 (I J n)=s_ ⟨f_,sz,Dz {p with x:={p.x with dl:=n}},f_⟩:=LS (l:=E6 p) (X:=[.c (I J n)]) rfl rfl (Ir p) rfl rfl rfl rfl
def X0(n:Int):DV (s_ ⟨f_,sz,Dz p,f_⟩) 1 10 (I J n)=s_ ⟨f_,sz,Dz {p with x:={p.x with a1:=n}},f_⟩:=LS (l:=E6 p) (X:=[.c (I J n)]) rfl rfl (Ir p) rfl rfl rfl rfl
def Ytd(n:Int):DV (s_ ⟨f_,sz,Dz p,f_⟩) 1 275 (I J n)=s_ ⟨f_,sz,Dz {p with x:={p.x with wn:=n}},f_⟩:=LS (l:=E6 p) (X:=[.c (I J n)]) rfl rfl (Ir p) rfl rfl rfl rfl
def YFn(n:Int):DV (s_ ⟨f_,sz,Dz p,f_⟩) 1 276 (I J n)=s_ ⟨f_,sz,Dz {p with x:={p.x with am:=n}},f_⟩:=LS (l:=E6 p) (X:=[.c (I J n)]) rfl rfl (Ir p) rfl rfl rfl rfl
def YFm(n:Int):DV (s_ ⟨f_,sz,Dz p,f_⟩) 1 277 (I J n)=s_ ⟨f_,sz,Dz {p with x:={p.x with ct:=n}},f_⟩:=LS (l:=E6 p) (X:=[.c (I J n)]) rfl rfl (Ir p) rfl rfl rfl rfl
def X3(c:Int×Dig):DV (s_ ⟨f_,sz,Dz p,f_⟩) 33 44 (U (I J c.1::Dr c.2))=s_ ⟨f_,sz,Dz {p with x:={p.x with c1:=c}},f_⟩:=
 LS (l:=E6 p) (X:=[.c (I J c.1),.g c.2]) rfl rfl (Ir p) rfl (by simp[DC,ybI,yaZ]) (by simp[DC,ybI,En]) (by simp only[DC,ybI,Ai,Aj,Aq,AQ,IW];rfl)
def j4(b:Bis):DV (s_ ⟨f_,sz,Dz p,f_⟩) 198 77 (EJ b)=s_ ⟨f_,sz,Dz {p with x:={p.x with b:=b}},f_⟩:=
 LS (l:=E6 p) (X:=La b) rfl rfl (Ir p) rfl (by rw[V5];rfl) (by rw[V5,Zw]) (by rw[V5];exact xW b)
end
def NX(R:List D->St->D×Int×St->Prop):List D->St->Option (D×Int×St):=λds st=>@dite _ (∃r,R ds st r) (Classical.propDecidable _) (λh=>s_ h.choose) (λ_=>n_)
variable{r:D×Int×St}{st:St}{ds:List D}
theorem yU3{R:List D->St->D×Int×St->Prop}(h:NX R ds st=s_ r):R ds st r:=by
 unfold NX at h
 split at h
 .grind
 .cases h
def Lc(R:List D->St->D×Int×St->Prop):Prop:=∀ds st r r',R ds st r->R ds st r'->r=r'
def vU{R:List D->St->D×Int×St->Prop}(N:Lc R)(h:R ds st r):NX R ds st=s_ r:=by have E:∃r,R ds st r:=⟨r,h⟩;unfold NX;rw[zbf E,N _ _ _ _ E.choose_spec h]
def Fu(R:List D->St->D×Int×St->Prop):zsF:=λds st=>match NX R ds st with
 |some (d,e,st')=>if e=0 then s_ (d,st')else n_
 |none=>n_
def Ih(R:List D->St->D×Int×St->Prop):zsX:=λds st=>match NX R ds st with
 |some (_,e,st')=>if e=0 then n_ else s_ (102,I J e,st')
 |none=>n_
variable{d:D}{st':St}
def oW{R:List D->St->D×Int×St->Prop}(E:Lc R)(h:R ds st (d,0,st')):Fu R ds st=s_ (d,st'):=by simp only[Fu,vU E h,zaj]
variable{e:Int}
def oV{R:List D->St->D×Int×St->Prop}(E:Lc R)(h:R ds st (d,e,st'))(N:e≠0):Fu R ds st=n_:=by simp only[Fu,vU E h,zaf N]
def qk{R:List D->St->D×Int×St->Prop}(E:Lc R)(h:R ds st (d,e,st'))(N:e≠0):Ih R ds st=s_ (102,I J e,st'):=by simp only[Ih,vU E h,zaf N]
def Pp(res:List PRes)(d:D)(e:Int)(st':St)(x:Ex)(fr:Frame)(st:St):Prop:=match x with
 |.exit _=>False
 |.panic t y=>¬e=0/\t=102/\y=I J e/\st=st'
 |_=>e=0/\@on _ (Ed ⟨fr,st⟩ res) ⟨λl=>(DS l,st)=(d,st')⟩
theorem Ynf(E:List PRes)(d:D)(e:Int)(st':St)(fr:Frame)(st:St):Pp E d e st' .ret fr st=(e=0/\@on _ (Ed ⟨fr,st⟩ E) ⟨λl=>(DS l,st)=(d,st')⟩):=(rfl)
theorem Yea(E:List PRes)(d:D)(e:Int)(st':St)(fr:Frame)(st:St):Pp E d e st' .next fr st=(e=0/\@on _ (Ed ⟨fr,st⟩ E) ⟨λl=>(DS l,st)=(d,st')⟩):=(rfl)
theorem yYs(E:List PRes)(d:D)(e:Int)(st':St)(t:Nat)(y:D)(fr:Frame)(st:St):Pp E d e st' (.panic t y) fr st=(¬e=0/\t=102/\y=I J e/\st=st'):=(rfl)
variable{f:Nat}
def MG{T:Tbl}{il:List Nat}{hints:List (List Nat)}{F:PF}{R:List D->St->D×Int×St->Prop}(ht:IY Tryz.prog il f hints=s_ F)(hT:TblOK Tryz.prog GG T)
  (h:∀ds st d e st',R ds st (d,e,st')->@wW GG T F.code (Du ds) st ⟨Pp F.res d e st'⟩) (hy:T.y=λ_ _ _=>n_:=by rfl):zIC f (Fu R)/\SO Tryz.prog GG f (Ih R):=by
 constructor
 .refine Kg ht hT (λds st r E=>?_) hy;unfold Fu at E
  split at E
  case h_2=>cases E
  rename_i d e st' hg
  split at E
  case isFalse=>cases E
  rename_i he;cases E;subst he;refine UP (LG _ _ _ _ _ (Gr (h _ _ _ _ _ (yU3 hg))) λx fr st N=>?_)
  cases x with
  |exit i=>exact N.elim
  |panic t y=>exact absurd rfl N.1
  |next=>unfold Hx;exact N.2
  |ret=>unfold Hx;exact N.2
 .refine yLs ht hT (λds st r E=>?_) hy;unfold Ih at E
  split at E
  case h_2=>cases E
  rename_i d e st' hg
  split at E
  case isTrue=>cases E
  rename_i he;cases E;refine UP (LG _ _ _ _ _ (Gr (h _ _ _ _ _ (yU3 hg))) λx fr st N=>?_)
  cases x with
  |exit i=>exact N.elim
  |panic t y=>obtain⟨_,rfl,rfl,rfl⟩:=N;unfold Po;rfl
  |next=>exact absurd N.1 he
  |ret=>exact absurd N.1 he
attribute [irreducible] Pp
attribute [push_cast] Ynf Yea yYs
abbrev CK(f:Nat)(R:List D->St->D×Int×St->Prop):Prop:=zIC f (Fu R)/\SO Tryz.prog GG f (Ih R)
def KS(ds:List D)(st:St)(r:D×Int×St):Prop:=∃(b:Bool)(e:Int),ds=[V b,I J e]/\(b=f_->e≠0)/\r=(.tup [],if b=t_ then 0 else e,st)
theorem xG:Lc KS:=by rintro ds st r E ⟨b,e,rfl,_,rfl⟩ ⟨b',N,h,_,rfl⟩;grind
def EN(e:Int)(st:St):Fu KS [V t_,I J e] st=s_ (.tup [],st):=oW xG ⟨t_,e,rfl,(λh=>by cases h),rfl⟩
def E4(E:e≠0)(st:St):Fu KS [V f_,I J e] st=n_:=oV xG (e:=e) ⟨f_,e,rfl,λ_=>E,rfl⟩ E
def E3(E:e≠0)(st:St):Ih KS [V f_,I J e] st=s_ (102,I J e,st):=qk xG (e:=e) (d:=.tup []) ⟨f_,e,rfl,λ_=>E,rfl⟩ E
def Lp:CK 37 KS:=by
 refine MG (T:=tb [] []) yAh.2 (DP all_nil all_nil) ?_;rintro ds st d e st' ⟨b,E,rfl,hb,h⟩;cases h;unfold yAh
 cases b with
 |true=>push_cast(disch:=lia)[zag]
 |false=>
  have he:=hb rfl
  push_cast(disch:=lia)[he,zag,zak]
def Pe(ds:List D)(st:St)(r:D×Int×St):Prop:=∃(e:Int),ds=[I J e]/\r=(.tup [],e,st)
theorem wZ:Lc Pe:=by rintro ds st r E ⟨e,rfl,rfl⟩ ⟨N,h,rfl⟩;grind
def HZ(st:St):Fu Pe [I J 0] st=s_ (.tup [],st):=oW wZ ⟨0,rfl,rfl⟩
def IE(E:e≠0)(st:St):Fu Pe [I J e] st=n_:=oV wZ (e:=e) ⟨e,rfl,rfl⟩ E
def Nw(E:e≠0)(st:St):Ih Pe [I J e] st=s_ (102,I J e,st):=qk wZ (e:=e) (d:=.tup []) ⟨e,rfl,rfl⟩ E
abbrev TND:Tbl:=Kw [] [(37,Fu KS)] [(37,Ih KS)]
def V8:CK 72 Pe:=by
 refine MG (T:=TND) yAg.2 (KV all_nil (all_cons Lp.1 all_nil) (all_cons Lp.2 all_nil)) ?_;rintro ds st d e st' ⟨E,rfl,h⟩;cases h;unfold yAg
 by_cases he:e=0
 .have g:=zap he
  push_cast(disch:=first|omega|decide)[g,zah,EN,zag]
 .push_cast(disch:=first|omega|decide)[he,zai,E4,E3,zag,zak]
def Lw{α:Type}[DecidableEq α](a:α):List α->Nat->Int
 |[],_=>-1
 |x::r,i=>if a=x then i else Lw a r (i+1)
variable{α:Type}
theorem yWf[DecidableEq α][Inhabited α](a:α)(l:List α){i:Nat}(h:i<l.length):Lw a (l.drop i) i=if a=l.getD i d_ then(i:Int)else Lw a (l.drop (i+1)) (i+1):=by rw[BG h,Lw];grind
def Yz6(n a b:Int):Lw n [a,b] 0=if a=n then 0 else if b=n then 1 else -1:=by
 show(if n=a then((0:Nat):Int)else if n=b then((1:Nat):Int)else -1)=_
 omega
def oY:=DL (α:=List Int×Int) (λa=>[O (nz 1 (a.1.map nI)) (a.1.map nI) f_,I J a.2]) (λa=>a.1.length<=4294967296) (λa=>I J (Lw a.2 a.1 0))
def Yrv(l:List Int)(n:Int)(h:l.length<=4294967296):oY [O (nz 1 (l.map nI)) (l.map nI) f_,I J n]=s_ (I J (Lw n l 0)):=
 EL (λ⟨a0,a1⟩⟨b0,b1⟩h=>by simp only[Ab,D.slc.injEq,D.int.injEq,zal,zag,TV]at h;simp[h]) (l,n) h
theorem cq(l:List Int)(n:Int)(h:l.length<=4294967296):@wW GG (tb [] []) oa.1.code (Du [O (nz 1 (l.map nI)) (l.map nI) f_,I J n]) [] ⟨DN oa.1.res (I J (Lw n l 0))⟩:=by
 unfold oa
 push_cast(disch:=lia)
 refine Gn (λi:Nat=>[(0,O (nz 1 (l.map nI)) (l.map nI) f_),(1,I J n),(7,I J (l.length:Int)),(8,I J (i:Int))]) (λ_=>[]) (λi=>i<=l.length/\Lw n l 0=Lw n (l.drop i) i) (λi=>l.length-i) 0 (by push_cast [↓C5]<;>rfl) ⟨AS _,rfl⟩ ?_;rintro i ⟨hi,E⟩
 push_cast(disch:=lia)
 refine Fm (λh2=>?_) (λh2=>?_)
 .have ab:i<l.length:=zaa
  rw[yWf _ _ ab]at E
  have aa:∀st:St,ER st 1 (O (nz 1 (l.map nI)) (l.map nI) f_) (I J (i:Int))=s_ (.eptr (nI (l.getD i d_)) 0):=λst=>by
   have:=Mr st 1 nI l f_ J (i:Int) zaa zaa;grind
  generalize l.getD i d_=x at*
  by_cases N:n=x
  .rw[zae N]at E
   push_cast(disch:=lia)[aa,nI,N]
   grind
  .rw[zaf N]at E
   push_cast(disch:=lia)[aa,nI,N,D5]
   refine EV (i+1) (by exact⟨zaa,E⟩) zaa ?_;rfl
 .obtain rfl:i=l.length:=zaa
  rw[BN]at E
  push_cast(disch:=lia)[E,Lw]
def jB:zCC 111 oY:=
 EM oa.2 (DP all_nil all_nil) (λa h=>cq a.1 a.2 h)
def aN:=DL (α:=List Bool×Bool) (λa=>[O (nz 1 (a.1.map ybH)) (a.1.map ybH) f_,V a.2]) (λa=>a.1.length<=4294967296) (λa=>I J (Lw a.2 a.1 0))
def Yrw(l:List Bool)(n:Bool)(h:l.length<=4294967296):aN [O (nz 1 (l.map ybH)) (l.map ybH) f_,V n]=s_ (I J (Lw n l 0)):=
 EL (λ⟨a0,a1⟩⟨b0,b1⟩h=>by simp only[Ab,D.slc.injEq,D.bool.injEq,zag,yPo]at h;simp[h]) (l,n) h
theorem cu(l:List Bool)(n:Bool)(h:l.length<=4294967296):@wW GG (tb [] []) od.1.code (Du [O (nz 1 (l.map ybH)) (l.map ybH) f_,V n]) [] ⟨DN od.1.res (I J (Lw n l 0))⟩:=by
 unfold od
 push_cast(disch:=lia)
 refine Gn (λi:Nat=>[(0,O (nz 1 (l.map ybH)) (l.map ybH) f_),(1,V n),(7,I J (l.length:Int)),(8,I J (i:Int))]) (λ_=>[]) (λi=>i<=l.length/\Lw n l 0=Lw n (l.drop i) i) (λi=>l.length-i) 0 (by push_cast [↓C5]<;>rfl) ⟨AS _,rfl⟩ ?_;rintro i ⟨hi,E⟩
 push_cast(disch:=lia)
 refine Fm (λh2=>?_) (λh2=>?_)
 .have ad:i<l.length:=zaa
  rw[yWf _ _ ad]at E
  have aa:∀st:St,ER st 1 (O (nz 1 (l.map ybH)) (l.map ybH) f_) (I J (i:Int))=s_ (.eptr (V (l.getD i d_)) 0):=λst=>by
   have:=Mr st 1 ybH l f_ J (i:Int) zaa zaa;grind
  have ab:∀(st:St)(b:Bool),Fa st 1 f_ (.eptr (V b) 0)=s_ (V b):=λ_ _=>rfl;generalize l.getD i d_=x at*
  by_cases N:n=x
  .rw[zae N]at E;subst N;have h1:(n==n)=t_:=zac
   push_cast(disch:=lia)[aa,ab,h1,E]
  .rw[zaf N]at E;have h1:(n==x)=f_:=by simpa using N
   push_cast(disch:=lia)[aa,ab,h1,D5]
   refine EV (i+1) (by exact⟨zaa,E⟩) zaa ?_;rfl
 .obtain rfl:i=l.length:=zaa
  rw[BN]at E
  push_cast(disch:=lia)[E,Lw]
def jC:zCC 27 aN:=
 EM od.2 (DP all_nil all_nil) (λa h=>cu a.1 a.2 h)
theorem yV8(k:Ky):(Mg k).all E2=t_:=rfl
theorem QP(k:Ky):DM (KB k)=s_ (Mg k):=rfl
def fP(sz:Nat)(lent:Bool)(k:Ky):DB (s_ ⟨f_,sz,Mg k,lent⟩) 5 t_ 0=s_ (KB k):=Is sz lent _ 5 rfl
def Yhc(st:St)(k:Ky):D2 st (KB k)=s_ (KB k):=SN st (yV8 k)
def uZ(k:Ky):keys (KB k)=[]:=SU (yV8 k)
def Ygq(l:List Ky):E2 (DZ l)=t_:=by simp[E2,Jq]
def yu(x:Cse){p:D->Bool}(E:∀k n,p (I k n)=t_)(h1:∀b,p (V b)=t_)(h2:p j=t_):(DF x j).all p=t_:=by have hd:∀d,(Dr d).all p=t_:=λd=>My (λb=>E _ _) d;refine Q9 E λs N=>?_;simp only[Fp,Mf,La,Aj,Aq,AB,AM,zav]at N;rcases N with rfl|rfl|rfl|rfl|rfl|rfl|rfl|rfl|rfl|rfl|rfl|rfl|rfl|rfl|rfl|rfl|rfl|rfl|rfl|rfl|rfl|rfl|rfl|rfl|rfl|rfl|rfl|rfl|rfl|rfl|rfl<;>simp[ybI,E,h1,h2,hd]
def Qa(x:Cse)(hj:j.isCell=t_):(DF x j).all yaa=t_:=yu x (λ_ _=>rfl) (λ_=>rfl) hj
def WW(x:Cse):(DF x (DZ x.jn)).all E2=t_:=yu x (λ_ _=>rfl) (λ_=>rfl) (Ygq _)
def Gd(x:Cse):DM (DY x)=s_ (DF x (DZ x.jn)):=by simp only[DM,DY,yaZ,Qa x (j:=DZ x.jn) rfl,zaj]
def Gi(st:St)(x:Cse):D2 st (DY x)=s_ (DY x):=SN st (WW x)
def I7(x:Cse):keys (DY x)=[]:=SU (WW x)
section
variable(x:Cse) (j:D) (sz:Nat) (lent:Bool)
def GZ:DB (s_ ⟨f_,sz,DF x j,lent⟩) 1 f_ 7=s_ (I J x.ph):=JK (l:=Fp x j) rfl rfl (Kn x j)
def Od:DB (s_ ⟨f_,sz,DF x j,lent⟩) 1 f_ 8=s_ (I J x.dl):=JK (l:=Fp x j) rfl rfl (Kn x j)
def oP:DB (s_ ⟨f_,sz,DF x j,lent⟩) 1 f_ 11=s_ (I J x.c0.1):=JK (l:=Fp x j) rfl rfl (Kn x j)
def oQ:DB (s_ ⟨f_,sz,DF x j,lent⟩) 1 f_ 44=s_ (I J x.c1.1):=JK (l:=Fp x j) rfl rfl (Kn x j)
def oR:DB (s_ ⟨f_,sz,DF x j,lent⟩) 1 f_ 275=s_ (I J x.wn):=JK (l:=Fp x j) rfl rfl (Kn x j)
def Ytv:DB (s_ ⟨f_,sz,DF x j,lent⟩) 1 f_ 276=s_ (I J x.am):=JK (l:=Fp x j) rfl rfl (Kn x j)
def PY:DB (s_ ⟨f_,sz,DF x j,lent⟩) 33 t_ 11=s_ (U (I J x.c0.1::Dr x.c0.2)):=LP (l:=Fp x j) rfl rfl (Kn x j) (by simp[DC,ybI])
def PZ:DB (s_ ⟨f_,sz,DF x j,lent⟩) 33 t_ 44=s_ (U (I J x.c1.1::Dr x.c1.2)):=LP (l:=Fp x j) rfl rfl (Kn x j) (by simp[DC,ybI])
def sw:DB (s_ ⟨f_,sz,DF x j,lent⟩) 2 t_ 144=s_ (U [V x.b.t0,V x.b.t1]):=LP (l:=Fp x j) rfl rfl (Kn x j) rfl
def Xw:DB (s_ ⟨f_,sz,DF x j,lent⟩) 198 t_ 77=s_ (EJ x.b):=LP (l:=Fp x j) rfl rfl (Kn x j) (by rw[EJ,<-V5];rfl)
def K8(a b:Int×Dig):List D:=(I J a.1::Dr a.2)++(I J b.1::Dr b.2)
def Gj:DB (s_ ⟨f_,sz,DF x j,lent⟩) 279 t_ 0=s_ (U (DF x j)):=Is sz lent _ 279 (NS x j)
end
theorem Hf(x:Cse):ybJ (DF x (DZ x.jn))=DY x:=rfl
theorem NI:GR=DF OO (O 0 [] t_):=(rfl)
def Zj:=DL (α:=Int) (λa=>[I J a]) (λa=>True) (λa=>V (decide (Ft a)))
def tX(n:Int):Zj [I J n]=s_ (V (decide (Ft n))):=
 EL (λa b h=>by simp only[Ab,D.int.injEq,zal,zag]at h;simp[h]) (n) trivial
def Yly(n:Int):@wW GG (tb [] []) nt.1.code (Du [I J n]) [] ⟨DN nt.1.res (V (decide (Ft n)))⟩:=by
 unfold nt
 by_cases E:-9007199254740992<=n
 .by_cases N:n<=9007199254740992
  .have e:decide (Ft n)=t_:=zba ⟨E,N⟩
   push_cast(disch:=lia)[E,N,e]
  .have e:decide (Ft n)=f_:=zaz λq=>N q.2
   push_cast(disch:=lia)[E,N,e]
 .have e:decide (Ft n)=f_:=zaz λq=>E q.1
  push_cast(disch:=lia)[E,e]
def wo:zCC 20 Zj:=
 EM nt.2 (DP all_nil all_nil) (λa h=>Yly a)
def YV:=DL (α:=Cse) (λa=>[DY a]) (λa=>True) (λa=>V (decide (Hq a)))
def Zu(x:Cse):YV [DY x]=s_ (V (decide (Hq x))):=
 EL (λa b h=>by simp only[Ab,zag,Wt]at h;simp[h]) (x) trivial
def Yvr(x:Cse):@wW GG (tb [] []) nH.1.code (Du [DY x]) [] ⟨DN nH.1.res (V (decide (Hq x)))⟩:=by
 unfold nH
 by_cases E:x.ph=1
 .have e:decide (Hq x)=t_:=by simp[Hq,E]
  push_cast(disch:=lia)[Gd,GZ,E,e]
 by_cases N:x.ph=2
 .have e:decide (Hq x)=t_:=by simp[Hq,N]
  have g:=zap N
  push_cast(disch:=lia)[Gd,GZ,E,g,e]
 by_cases h3:x.ph=3
 .have e:decide (Hq x)=t_:=by simp[Hq,h3]
  have g:=zap h3
  push_cast(disch:=lia)[Gd,GZ,E,N,g,e]
 .have e:decide (Hq x)=f_:=by simp[Hq,E,N,h3]
  push_cast(disch:=lia)[Gd,GZ,E,N,h3,e]
def Ykb:zCC 26 YV:=
 EM nH.2 (DP all_nil all_nil) (λa h=>Yvr a)
def WB:=DL (α:=Cse) (λa=>[DY a]) (λa=>True) (λa=>V (decide (HV a)))
def tt(x:Cse):WB [DY x]=s_ (V (decide (HV x))):=
 EL (λa b h=>by simp only[Ab,zag,Wt]at h;simp[h]) (x) trivial
def Yvs(x:Cse):@wW GG (tb [] []) mF.1.code (Du [DY x]) [] ⟨DN mF.1.res (V (decide (HV x)))⟩:=by
 unfold mF
 by_cases E:x.ph=4
 .have e:decide (HV x)=t_:=by simp[HV,E]
  push_cast(disch:=lia)[Gd,GZ,E,e]
 by_cases N:x.ph=5
 .have e:decide (HV x)=t_:=by simp[HV,N]
  have g:=zap N
  push_cast(disch:=lia)[Gd,GZ,E,g,e]
 by_cases h3:x.ph=6
 .have e:decide (HV x)=t_:=by simp[HV,h3]
  have g:=zap h3
  push_cast(disch:=lia)[Gd,GZ,E,N,g,e]
 .have e:decide (HV x)=f_:=by simp[HV,E,N,h3]
  push_cast(disch:=lia)[Gd,GZ,E,N,h3,e]
def Ykc:zCC 12 WB:=
 EM mF.2 (DP all_nil all_nil) (λa h=>Yvs a)
def W8(l:List Dig)(hl:(l.length:Int)<=65536):Fg l=((l.length:Int),FX l (Ep l.length).toNat 0):=zae hl
abbrev tCommit:Ty:=.agg [.int .i64,.agg (List.replicate 32 (.int .u8))]
theorem yGv(l:List Dig):∀(n m:Nat),l.length<=m*2^n->(Fh l n).length<=m
 |0,m,h=>by simpa[Fh]using h
 |n+1,m,h=>by
  have E:=yGv l n (2*m) (by rw[CG]at h;rw[B4 2 m,Nat.mul_assoc,B4 2];exact h)
  show(G4 (E7 n) (Fh l n)).length<=m
  rw[Ul];omega
def Yox(l:List Dig)(n:Nat)(h:l.length<=2^n):FX l n 1=E7 n:=by have:=yGv l n 1 zaa;exact YMe _ _ _ zaa
theorem Yio(l:List Dig)(hl:(l.length:Int)<=65536):l.length<=2^(Ep l.length).toNat:=by have:=yOt (n:=(l.length:Int)) zaa hl;grind
theorem yM8(l:List Dig)(hl:(l.length:Int)<=65536):∀n:Nat,Ep l.length<=(n:Int)->F8 (Fg l).1 (Fg l).2 n=FX l n 0:=by
 have hd:=Qg (n:=(l.length:Int)) zaa hl;rw[W8 l hl];dsimp only;intro n
 induction n with
 |zero=>
  intro h;have:(Ep l.length).toNat=0:=zaa
  rw[this];rfl
 |succ n N=>
  intro h
  by_cases E:Ep l.length<=(n:Int)
  .rw[F8,zae E,N E,yF _ _ _ zaa]
   have h2:l.length<=2^n:=by
    have a:=Yio l hl;exact AT a (Cu zab zaa)
   rw[show(2:Int)*0=0 from rfl,show(0:Int)+1=1 from rfl,Yox l n h2]
  .rw[F8,zaf E,yVi _ _ _ zaa];grind
def yVm(l:List Dig)(lv i:Int)(hl:(l.length:Int)<=65536)(E:0<=lv)(N:lv<=16)(hi:0<=i)(h2:i<2^(16-lv).toNat):Ns l lv i=FX l lv.toNat i:=by unfold Ns;rw[zae (by unfold KH;exact zba ⟨hl,E,N,hi,h2⟩)]
def fc(a b:List Dig)(lv i:Int):Int:=if FX a (lv-1).toNat (2*i)=FX b (lv-1).toNat (2*i)then 2*i+1 else 2*i
def Ytp(s:List Dig){lv i:Int}(N:1<=lv)(E:0<=i):HS (FX s (lv-1).toNat (2*i)) (FX s (lv-1).toNat (2*i+1))=FX s lv.toNat i:=by
 have e:lv.toNat=(lv-1).toNat+1:=zaa
 rw[e,yF _ _ _ E]
def idxS(a b:List Dig)(h:Int):Nat->Int
 |0=>0
 |k+1=>fc a b (h-k) (idxS a b h k)
variable{c:List Ins}{v:zIL}{x:Cse}{m:Mv}{now:Int}
def Ysk(a b:Int×Dig):FM a b=0\/FM a b=1\/FM a b=380:=by unfold FM;omega
def qa(h:Hr c v x m now≠0):LB c v x m now=OO:=zaf h
def SJ(h:Hr c v x m now=0):LB c v x m now=(Ho c v x m now).1:=zae h
def yV(h:¬Hq x):Hr c v x m now=400:=zaf h
def Gz(m:Mv)(now:Int):Prop:=(1<=m.kd/\m.kd<=7)/\0<=now/\now<=1073741824/\(m.pt=0\/m.pt=1)
def yU9(h:Hq x)(E:¬Gz m now):Hr c v x m now=1:=by unfold Hr;rw[zae h];exact zaf E
def yM4(h:Hq x)(E:Gz m now)(N:¬now<=x.dl):Hr c v x m now=401:=by unfold Hr Gz at *;rw[zae h,zae E];exact zaf N
def WQ(h:Hq x)(E:Gz m now)(N:now<=x.dl):Hr c v x m now=(Ho c v x m now).2:=by unfold Hr Gz at *;rw[zae h,zae E];exact zae N
def Yex(h:Hr c v x m now=0):Hq x/\Gz m now/\now<=x.dl/\(Ho c v x m now).2=0:=by
 by_cases E:Hq x
 .by_cases N:Gz m now
  .by_cases h3:now<=x.dl
   .exact⟨E,N,h3,(WQ E N h3).symm.trans h⟩
   .rw[yM4 E N h3]at h;cases h
  .rw[yU9 E N]at h;cases h
 .rw[yV E]at h;cases h
structure Keep (x y:Cse):Prop where
 key:y.key=x.key
 p0:y.p0=x.p0
 p1:y.p1=x.p1
 a0:y.a0=x.a0
 c0:y.c0=x.c0
 dl:y.ph<=3->x.dl<=y.dl
theorem Keep.refl(x:Cse):Keep x x:=⟨rfl,rfl,rfl,rfl,rfl,λ_=>CA _⟩
structure Live (x:Cse) (now:Int):Prop where
 ph:1<=x.ph/\x.ph<=6
 dl:x.ph<=3->x.dl<=now+1440
 wn:-1<=x.wn/\x.wn<=1
 bv:Js x.b=t_
def YDo(x:Cse)(n:Int):-1<=Py x n/\Py x n<=1:=by
 unfold Py;split
 .omega
 .omega
def yN5(cl:Dig×Dig)(d:Dig):-1<=OJ cl d/\OJ cl d<=1:=by
 unfold OJ;split
 .omega
 .omega
def yB8(cl:Dig×Dig)(r:Dig×Int):-1<=(Iz cl r).1/\(Iz cl r).1<=1:=by
 unfold Iz;split
 .exact yN5 ..
 .simp
def Iq(st:St)(k:Nat)(p:Ply):Prop:=st[k]?=s_ (zzB (Dz p))
variable{p:Ply}
def NO(h:Iq st k p):k<st.length:=(Aa.1 h).1
def Yro{a b:List Ins}:D9 a=D9 b↔a=b:=by refine⟨λh=>?_,λh=>by rw[h]⟩;simp only[D9,D.slc.injEq,zag]at h;exact Lq.1 h.2
theorem Yoa{q:Ply}(h:Dz p=Dz q)(hp:p.j=DZ p.x.jn)(hq:q.j=DZ q.x.jn):p=q:=by
 obtain⟨E,pj,pc,pv,pm,pn,ac⟩:=p;obtain⟨N,qj,qc,qv,qm,qn,ad⟩:=q;dsimp only at hp hq;simp only[Dz,E6,NN,Al]at h;obtain⟨h1,h2⟩:=Bb h ((NS E pj).trans (NS N qj).symm);simp only[DC,ybI,Aj,Aq,Ai,Ab,Yro]at h2;obtain⟨rfl,h3⟩:=h2;obtain⟨h4,h5⟩:=Bb h3 ((IX ac).trans (IX ad).symm);obtain⟨h6,h7⟩:=Bb h5 ((W5 pm).trans (W5 qm).symm);cases h7;obtain rfl:=vg.1 (congrArg ybJ h6);obtain rfl:=KJ.1 (congrArg ybJ h4);obtain⟨h8,h9⟩:=wX h1;subst h9;have a8:E.jn=N.jn:=wS.1 (hp.symm.trans hq)
 have:E=N:=by
  obtain⟨xk,x0,x1,x2,x3,x4,x5,xc,xe,xb,x6,x7,x8,xj⟩:=E;simp_all
 grind
section
variable{α:Type} (enc:α->List D) (pre:Ply->α->Prop) (F:Ply->α->Cse×Int×St)
def Lj(ds:List D)(st:St)(r:D×Int×St):Prop:=∃(k:Nat)(p:Ply)(a:α),p.j=DZ p.x.jn/\Iq st k p/\pre p a/\ds=Y k 0::enc a/\r=(.tup [],(F p a).2.1,D6 st k (Dz {p with x:=(F p a).1})++(F p a).2.2)
variable{enc pre F}
def Qd(hi:∀a b,enc a=enc b->a=b):Lc (Lj enc pre F):=by rintro ds st r r' ⟨k,p,a,hj,hk,_,rfl,rfl⟩ ⟨k',p',a',N,E,_,h,rfl⟩;simp only[Ab,D.ptr.injEq,zag]at h;obtain⟨rfl,h⟩:=h;obtain rfl:=hi _ _ h;unfold Iq at hk E;rw[hk]at E;simp only[AG,PI.Obj.mk.injEq,zal,zag]at E;obtain rfl:=Yoa E hj N;rfl
def Wc(hi:∀a b,enc a=enc b->a=b){a:α}(hj:p.j=DZ p.x.jn)(hk:Iq st k p)(E:pre p a)(N:(F p a).2.1=0):
  Fu (Lj enc pre F) (Y k 0::enc a) st=s_ (.tup [],D6 st k (Dz {p with x:=(F p a).1})++(F p a).2.2):=
 oW (Qd hi) ⟨k,p,a,hj,hk,E,rfl,by rw[N]⟩
def Yyz(hi:∀a b,enc a=enc b->a=b){a:α}(hj:p.j=DZ p.x.jn)(hk:Iq st k p)(E:pre p a)(N:(F p a).2.1≠0):
  Fu (Lj enc pre F) (Y k 0::enc a) st=n_:=oV (Qd hi) ⟨k,p,a,hj,hk,E,rfl,rfl⟩ N
def YHk(hi:∀a b,enc a=enc b->a=b){a:α}(hj:p.j=DZ p.x.jn)(hk:Iq st k p)(E:pre p a)(N:(F p a).2.1≠0):
  Ih (Lj enc pre F) (Y k 0::enc a) st=s_ (102,I J (F p a).2.1,D6 st k (Dz {p with x:=(F p a).1})++(F p a).2.2):=
 qk (Qd hi) ⟨k,p,a,hj,hk,E,rfl,rfl⟩ N
end
def LU(h:Iq st k p)(l:St):Iq (st++l) k p:=by unfold Iq;rw[Ju (NO h)];exact h
def Ue(h:k<st.length)(p:Ply):Iq (D6 st k (Dz p)) k p:=Rd h _
def KY(h:Iq st k p):D6 st k (Dz p)=st:=by unfold Iq at h;obtain⟨N,E⟩:=Aa.1 h;unfold D6;rw[<-E,List.set_getElem_self]
def JC:Unit->List D:=λ_=>[]
def IP:Int->List D:=λn=>[I J n]
def M0:Int×Int->List D:=λa=>[I J a.1,I J a.2]
theorem Om:∀a b,JC a=JC b->a=b:=λ_ _ _=>rfl
def wx:∀a b,IP a=IP b->a=b:=λa b h=>by simpa[IP]using h
theorem yW3:∀a b,M0 a=M0 b->a=b:=λa b h=>by
 simp only[M0,Ab,D.int.injEq,zal,zag]at h;grind
def R4(p:Ply)(a:Int×Int):Cse×Int×St:=(LD p.x a.1 a.2,0,[])
abbrev PM:=Lj M0 (λ_ _=>True) R4
def wv:CK 66 PM:=by
 refine MG (T:=tb [] []) n7.2 (DP all_nil all_nil) ?_;rintro ds st d e st' ⟨k,p,⟨w,a⟩,hj,hk,_,rfl,h⟩;cases h;have E:=NO hk;unfold Iq at hk;unfold n7
 push_cast(disch:=lia)[M0,R4,LD,EA,hk,aP,Ytd,YFn,HX,Rd E,NR,Ai,zag]
abbrev TClo:Tbl:=tb [] [(66,Fu PM)]
def tr(hj:p.j=DZ p.x.jn)(hk:Iq st k p)(w a:Int):Fu PM [Y k 0,I J w,I J a] st=s_ (.tup [],D6 st k (Dz {p with x:=LD p.x w a})):=by have:=Wc (F:=R4) (pre:=λ_ _=>True) yW3 (a:=(w,a)) hj hk trivial rfl;rw[show(R4 p (w,a)).2.2=[]from rfl,Ai]at this;exact this
def NW(p:Ply)(a:Int):Cse×Int×St:=(Gh p.x a,0,[])
abbrev Oa:=Lj IP (λ_ a=>a<=1) NW
def pX:CK 28 Oa:=by
 refine MG (T:=TClo) nW.2 (DP all_nil (all_cons wv.1 all_nil)) ?_;rintro ds st d e st' ⟨k,p,a,hj,hk,ha,rfl,h⟩;cases h;have ab:=NO hk;have E:=λw a=>tr hj hk w a;unfold Iq at hk;unfold nW
 by_cases N:a<0
 .push_cast(disch:=lia)[IP,NW,Gh,N,E,Ai,zag]
 .have h2:a=0\/a=1:=zaa
  rcases h2 with rfl|rfl
  .have e:Gh p.x 0=LD p.x 0 p.x.a0:=by unfold Gh OZ;rw[YYN,zae rfl]
   push_cast(disch:=lia)[IP,NW,e,N,EA,hk,Ge,oS,E,Ai,zag]
  .have e:Gh p.x 1=LD p.x 1 p.x.a1:=by unfold Gh OZ;rw[YYN,YYN]
   push_cast(disch:=lia)[IP,NW,e,N,EA,hk,Ge,oG,E,Ai,zag]
def kT(hj:p.j=DZ p.x.jn)(hk:Iq st k p){a:Int}(E:a<=1):Fu Oa [Y k 0,I J a] st=s_ (.tup [],D6 st k (Dz {p with x:=Gh p.x a})):=by have:=Wc (F:=NW) (pre:=λ_ a=>a<=1) wx (a:=a) hj hk E rfl;rw[show(NW p a).2.2=[]from rfl,Ai]at this;exact this
def YI8(hk:st[k]?=s_ (zzB (Dz p))):D2 st (.bsl k 9 2 1 f_)=s_ (O 1 [I J p.x.a0,I J p.x.a1] f_):=by
 have E:ND st k 9 2 1 f_=s_ [I J p.x.a0,I J p.x.a1]:=by
  unfold ND;rw[hk];rfl
 simp only[D2,DO,Jl,E];rfl
def RX(p:Ply)(n:Int):Cse×Int×St:=(Oq p.x n,0,[])
abbrev Sc:=Lj IP (λ_ _=>True) RX
def yXd:CK 69 Sc:=by
 refine MG (T:=tb [(111,oY)] [(66,Fu PM)]) yos.2 (DP (all_cons jB all_nil) (all_cons wv.1 all_nil)) ?_;rintro ds st d e st' ⟨k,p,a,hj,hk,ha,rfl,h⟩;cases h;have E:=λw a=>tr hj hk w a
 have ci:oY [O 1 [I J p.x.a0,I J p.x.a1] f_,I J a]=s_ (I J (Py p.x a)):=by
  have:=Yrv [p.x.a0,p.x.a1] a zac;rw[Yz6]at this;exact this
 unfold Iq at hk;have hi:=YI8 hk;have N:Sv 2 1 f_ (Y k 9) n_ n_=s_ (.bsl k 9 2 1 f_):=rfl;have DT:keys (.bsl k 9 2 1 f_)=[k]:=rfl;unfold yos
 push_cast(disch:=lia)[IP,RX,Oq,EA,N,hi,ci,E,Ai,zag]
def yH8(hj:p.j=DZ p.x.jn)(hk:Iq st k p)(a:Int):Fu Sc [Y k 0,I J a] st=s_ (.tup [],D6 st k (Dz {p with x:=Oq p.x a})):=by have:=Wc (F:=RX) (pre:=λ_ _=>True) wx (a:=a) hj hk trivial rfl;rw[show(RX p a).2.2=[]from rfl,Ai]at this;exact this
def Pa(p:Ply):Prop:=0<=p.now/\p.now<=1073741824
def R1(p:Ply)(_:Unit):Cse×Int×St:=({p.x with dl:=p.now+1440},0,[])
abbrev Mk:=Lj JC (λp _=>Pa p) R1
def kX:CK 67 Mk:=by
 refine MG (T:=tb [] []) ynh.2 (DP all_nil all_nil) ?_;rintro ds st d e st' ⟨k,p,a,hj,hk,ha,rfl,h⟩;cases h;obtain⟨n1,N⟩:=ha;have E:=NO hk;unfold Iq at hk;unfold ynh
 push_cast(disch:=lia)[JC,R1,EA,hk,Yzc,D5,YFl,HX,Ai,zag]
def mb(hj:p.j=DZ p.x.jn)(hk:Iq st k p)(hn:Pa p):Fu Mk [Y k 0] st=s_ (.tup [],D6 st k (Dz {p with x:={p.x with dl:=p.now+1440}})):=by have:=Wc (F:=R1) (pre:=λp _=>Pa p) Om (a:=()) hj hk hn rfl;rw[show(R1 p ()).2.2=[]from rfl,Ai]at this;exact this
def RG(p:Ply)(_:Unit):Cse×Int×St:=(M9 p.x p.now,0,[])
abbrev Sa:=Lj JC (λp _=>Pa p) RG
def Yje:CK 70 Sa:=by
 refine MG (T:=tb [] [(67,Fu Mk)]) ypw.2 (DP all_nil (all_cons kX.1 all_nil)) ?_;rintro ds st d e st' ⟨k,p,a,hj,hk,ha,rfl,h⟩;cases h;have E:=NO hk;have ce:=mb (st:=D6 st k (Dz {p with x:={p.x with ph:=3}})) (k:=k) (p:={p with x:={p.x with ph:=3}}) hj (Ue E _) ha;unfold Iq at hk;unfold ypw
 push_cast(disch:=lia)[JC,RG,M9,EA,hk,aP,HX,ce,NR,Ai,zag]
def yXg(hj:p.j=DZ p.x.jn)(hk:Iq st k p)(hn:Pa p):Fu Sa [Y k 0] st=s_ (.tup [],D6 st k (Dz {p with x:=M9 p.x p.now})):=by have:=Wc (F:=RG) (pre:=λp _=>Pa p) Om (a:=()) hj hk hn rfl;rw[show(RG p ()).2.2=[]from rfl,Ai]at this;exact this
def Nx(st:St)(c:List Ins):D2 st (D9 c)=s_ (D9 c):=SN st (d:=D9 c) (by simp[D9,JE,E2,Jq])
theorem NK(c:List Ins):keys (D9 c)=[]:=rfl
def OT(a b:Dig):(FK a b).flatMap Fw=[]:=by have:=Ygv a b;exact this
def Gp:((380:Int)=0)=False:=zac
def Jh:((381:Int)=0)=False:=zac
def Np:((1:Int)=0)=False:=zac
def Pu:((2:Int)=0)=False:=zac
def Pt:((40:Int)=0)=False:=zac
def JO:((390:Int)=0)=False:=zac
def HY(p:Int×Dig):List D:=I J p.1::Dr p.2
def XD(c:List Ins)(v:zIL)(x:Cse):St:=(zzB (FK (JA x.b) (JB x.b)))::(if LH x.b=t_/\Mm x.b=0 then [zzB (HY (Iz (JA x.b,JB x.b) (IB c v)))]else [])
def Pn(p:Ply)(_:Unit):Cse×Int×St:=((JD p.c p.v p.x p.now).1,(JD p.c p.v p.x p.now).2,XD p.c p.v p.x)
def MR(p:Ply)(_:Unit):Prop:=p.c.length<=4294967296/\Pa p
abbrev Mj:=Lj JC MR Pn
abbrev TSet:Tbl:=Kw [(61,YU),(110,lg)] [(72,Fu Pe),(28,Fu Oa),(70,Fu Sa)] [(72,Ih Pe)]
def kY:CK 68 Mj:=by
 refine MG (T:=TSet) yng.2 (KV (all_cons uN (all_cons Yr4 all_nil)) (all_cons V8.1 (all_cons pX.1 (all_cons Yje.1 all_nil))) (all_cons V8.2 all_nil)) ?_;rintro ds st d e st' ⟨k,p,a,hj,hk,⟨hc,hn⟩,rfl,h⟩;cases h;have ac:=NO hk;have hs:D6 st k (Dz {p with x:=p.x})=st:=KY hk;have E:=tq p.x.b;have cf:lg [D9 p.c,EO p.v,U (FK (JA p.x.b) (JB p.x.b))]=s_ (.tup [Fe (Iz (JA p.x.b,JB p.x.b) (IB p.c p.v)),I J (IB p.c p.v).2]):=yS8 p.c p.v (JA p.x.b,JB p.x.b) ⟨zaa,p.hv⟩;have a1:=(yB8 (JA p.x.b,JB p.x.b) (IB p.c p.v)).2;have cr:∀l,_:=λl=>kT (st:=st++l) hj (LU hk l) a1;have cs:∀l,_:=λl=>yXg (st:=st++l) hj (LU hk l) hn;have ad:∀l:St,(st++l)[k]?=s_ (zzB (Dz p)):=λl=>LU hk l;have aa:st[k]?=s_ (zzB (Dz p)):=hk;unfold yng JC Pn JD XD
 by_cases N:LH p.x.b=t_
 .by_cases h2:Mm p.x.b=0
  .by_cases h3:(IB p.c p.v).2=0
   .have g2:=zap h2;have g3:=zap h3;rw[N]at E;rw[h3]at cf
    push_cast(disch:=first|omega|decide)[EA,aa,ad,Nx,NK,Gc,G2,Ms,HZ,Fe,HY,Al,Aj,Aq,Ai,Ag,An,As,Ar,FV,F6,Hu,HL,Kt ac,zaq,zah,Li,M7,Ou,E,cf,cr,N,g2,h3]
   .have g2:=zap h2;rw[N]at E
    push_cast(disch:=first|omega|decide)[EA,aa,ad,Nx,NK,Gc,G2,Ms,IE,Nw,hs,Fe,HY,Al,Aj,Aq,Ai,Ag,An,As,Ar,FV,F6,Hu,HL,zaq,zak,zah,Li,M7,Ou,E,cf,N,g2,h3]
  .rw[N]at E
   push_cast(disch:=first|omega|decide)[EA,aa,Ar,Hu,HL,Kt ac,zaq,zax,zai,Li,E,cs,N,h2]
 .have ae:LH p.x.b=f_:=by simpa using N
  rw[ae]at E
  push_cast(disch:=first|omega|decide)[EA,aa,hs,Ar,Hu,HL,zaq,zay,Li,E,ae,Ao]
section
variable{st:St}{k:Nat}{p:Ply} (hj:p.j=DZ p.x.jn) (hk:Iq st k p) (hc:p.c.length<=4294967296) (hn:Pa p)
include hj hk hc hn
def yXh(h:(JD p.c p.v p.x p.now).2=0):Fu Mj [Y k 0] st=s_ (.tup [],D6 st k (Dz {p with x:=(JD p.c p.v p.x p.now).1})++XD p.c p.v p.x):=
 Wc (F:=Pn) (pre:=MR) Om (a:=()) hj hk ⟨hc,hn⟩ h
def yO7(h:(JD p.c p.v p.x p.now).2≠0):Fu Mj [Y k 0] st=n_:=Yyz (F:=Pn) (pre:=MR) Om (a:=()) hj hk ⟨hc,hn⟩ h
def yO6(h:(JD p.c p.v p.x p.now).2≠0):Ih Mj [Y k 0] st=s_ (102,I J (JD p.c p.v p.x p.now).2,D6 st k (Dz {p with x:=(JD p.c p.v p.x p.now).1})++XD p.c p.v p.x):=
 YHk (F:=Pn) (pre:=MR) Om (a:=()) hj hk ⟨hc,hn⟩ h
end
def U7(p:Ply)(_:Unit):Cse×Int×St:=((UQ p.x p.m).1,(UQ p.x p.m).2,[])
abbrev VV:=Lj JC (λ_ _=>True) U7
def yFa:CK 33 VV:=by
 refine MG (T:=TND) ylk.2 (KV all_nil (all_cons Lp.1 all_nil) (all_cons Lp.2 all_nil)) ?_;rintro ds st d e st' ⟨k,p,a,hj,hk,_,rfl,h⟩;cases h;have N:=NO hk;have hs:D6 st k (Dz {p with x:=p.x})=st:=KY hk;have ac:∀l:St,(st++l)[k]?=s_ (zzB (Dz p)):=λl=>LU hk l;have E:st[k]?=s_ (zzB (Dz p)):=hk;unfold ylk JC U7 UQ
 by_cases h1:p.m.pt=0
 .have g1:=zap h1
  push_cast(disch:=first|omega|decide)[EA,E,EN,HX,Ai,Ar,zaq,zah,G0,g1,aP,Ytd,Rd N,NR]
 .push_cast(disch:=first|omega|decide)[EA,E,E4,E3,hs,Ai,Ar,zaq,zak,zai,Gp,G0,h1]
def VJ(p:Ply)(_:Unit):Cse×Int×St:=((UJ p.x p.m).1,(UJ p.x p.m).2,[])
abbrev VZ:=Lj JC (λ_ _=>True) VJ
def yHw:CK 34 VZ:=by
 refine MG (T:=Kw [] [(37,Fu KS),(28,Fu Oa),(66,Fu PM)] [(37,Ih KS)]) yl2.2 (KV all_nil (all_cons Lp.1 (all_cons pX.1 (all_cons wv.1 all_nil))) (all_cons Lp.2 all_nil)) ?_;rintro ds st d e st' ⟨k,p,a,hj,hk,_,rfl,h⟩;cases h;have ac:=NO hk;have hs:D6 st k (Dz {p with x:=p.x})=st:=KY hk;have ad:∀l:St,(st++l)[k]?=s_ (zzB (Dz p)):=λl=>LU hk l;have E:st[k]?=s_ (zzB (Dz p)):=hk;have c1:=kT hj hk (a:=0) zaa;have c2:=tr hj hk 1 p.x.ct;unfold yl2 JC VJ UJ
 by_cases N:p.m.pt=1
 .have g1:=zap N
  push_cast(disch:=first|omega|decide)[EA,E,Ai,Ar,zaq,zah,G0,g1,c1]
 .by_cases h2:0<=p.x.ct
  .push_cast(disch:=first|omega|decide)[EA,E,EN,Ai,Ar,zaq,zah,zai,G0,XS,N,h2,c2]
  .push_cast(disch:=first|omega|decide)[EA,E,E4,E3,hs,Ai,Ar,zaq,zak,zai,Gp,G0,XS,N,h2]
def VI(p:Ply)(_:Unit):Cse×Int×St:=((UE p.x p.m p.now).1,(UE p.x p.m p.now).2,[])
abbrev VY:=Lj JC (λp _=>Pa p) VI
def yHv:CK 35 VY:=by
 refine MG (T:=Kw [(20,Zj)] [(37,Fu KS),(67,Fu Mk)] [(37,Ih KS)]) ylz.2 (KV (all_cons wo all_nil) (all_cons Lp.1 (all_cons kX.1 all_nil)) (all_cons Lp.2 all_nil)) ?_;rintro ds st d e st' ⟨k,p,a,hj,hk,hn,rfl,h⟩;cases h;have ae:=NO hk;have N:D6 st k (Dz {p with x:=p.x})=st:=KY hk;have a0:∀l:St,(st++l)[k]?=s_ (zzB (Dz p)):=λl=>LU hk l;have E:st[k]?=s_ (zzB (Dz p)):=hk;have ca:=tX p.m.am;have ce:=mb (st:=D6 st k (Dz {p with x:={p.x with ct:=p.m.am}})) (k:=k) (p:={p with x:={p.x with ct:=p.m.am}}) hj (Ue ae _) hn;unfold ylz JC VI UE
 by_cases h1:p.m.pt=1
 .have g1:=zap h1
  by_cases h2:p.x.ph=1
  .have g2:=zap h2
   by_cases h3:p.x.ct<0
   .by_cases h4:0<=p.m.am
    .by_cases h5:Ft p.m.am
     .simp only[h5,zah]at ca
      push_cast(disch:=first|omega|decide)[EA,E,EN,HX,Ai,Ar,zaq,zah,G0,KT,XS,P1,g1,g2,h3,h4,h5,ca,YFm,ce,NR]
     .simp only[h5,zai]at ca
      push_cast(disch:=first|omega|decide)[EA,E,EN,E4,E3,N,Ai,Ar,zaq,zax,zak,zah,Np,G0,KT,XS,P1,g1,g2,h3,h4,h5,ca]
    .push_cast(disch:=first|omega|decide)[EA,E,EN,E4,E3,N,Ai,Ar,zaq,zay,zak,zah,zai,Np,G0,KT,XS,P1,g1,g2,h3,h4]
   .push_cast(disch:=first|omega|decide)[EA,E,E4,E3,N,Ai,Ar,zaq,zax,zak,zah,zai,Gp,G0,KT,XS,g1,g2,h3]
  .push_cast(disch:=first|omega|decide)[EA,E,E4,E3,N,Ai,Ar,zaq,zax,zay,zak,zah,zai,Gp,G0,KT,g1,h2]
 .push_cast(disch:=first|omega|decide)[EA,E,E4,E3,N,Ai,Ar,zaq,zay,zak,zai,Gp,G0,h1]
def J5(x:Cse)(m:Mv):Cse:={x with a1:=m.am,c1:=m.cm}
def Jm(x:Cse)(m:Mv)(now:Int):Cse:={x with a1:=m.am,c1:=m.cm,b:=Kl x.c0 m.cm,ph:=2,dl:=now+1440}
def YMp(c:List Ins)(v:zIL)(x:Cse)(m:Mv)(now:Int):St:=
 if m.pt=1/\x.ph=1 then
  if Ft m.am then(zzB (DD (Kl x.c0 m.cm)))::(if FM x.c0 m.cm=0 then XD c v (Jm x m now)else [])
  else []
 else []
def VN(p:Ply)(_:Unit):Cse×Int×St:=((Ml p.c p.v p.x p.m p.now).1,(Ml p.c p.v p.x p.m p.now).2,YMp p.c p.v p.x p.m p.now)
abbrev V1:=Lj JC MR VN
def Ytt(st:St)(c:List Ins):E0 st f_ (D9 c)=s_ (I J (c.length:Int)):=by simp[E0,Kk,D9,FB]
abbrev TAns:Tbl:=Kw [(20,Zj),(13,Qk)]
 [(37,Fu KS),(67,Fu Mk),(68,Fu Mj),(28,Fu Oa),(69,Fu Sc),(70,Fu Sa)]
 [(37,Ih KS),(68,Ih Mj)]
def yO2:CK 30 V1:=by
 refine MG (T:=TAns) yni.2 (KV (all_cons wo (all_cons rh all_nil)) (all_cons Lp.1 (all_cons kX.1 (all_cons kY.1 (all_cons pX.1 (all_cons yXd.1 (all_cons Yje.1 all_nil)))))) (all_cons Lp.2 (all_cons kY.2 all_nil))) ?_;rintro ds st d e st' ⟨k,p,a,hj,hk,⟨hc,hn⟩,rfl,h⟩;cases h;have E:=NO hk;have hs:D6 st k (Dz {p with x:=p.x})=st:=KY hk;have bf:∀l:St,(st++l)[k]?=s_ (zzB (Dz p)):=λl=>LU hk l;have N:st[k]?=s_ (zzB (Dz p)):=hk;have ca:=tX p.m.am;have cb:Qk [U (I J p.x.c0.1::Dr p.x.c0.2),U (I J p.m.cm.1::Dr p.m.cm.2)]=s_ (.tup [EJ (Kl p.x.c0 p.m.cm),I J (FM p.x.c0 p.m.cm)]):=lZ p.x.c0 p.m.cm;have hz:=λC=>Rd E C;have ad:=λC m=>WI E C m;unfold yni JC VN Ml YMp
 by_cases h1:p.m.pt=1
 .have g1:=zap h1
  by_cases h2:p.x.ph=1
  .have g2:=zap h2
   by_cases h5:Ft p.m.am
   .simp only[h5,zah]at ca
    have a1:∀l,Iq (D6 st k (Dz {p with x:=J5 p.x p.m})++l) k {p with x:=J5 p.x p.m}:=λl=>LU (Ue E _) l
    by_cases h6:FM p.x.c0 p.m.cm=1
    .rw[h6]at cb;have n0:¬(1:Int)=0:=zab
     push_cast(disch:=first|omega|decide)[↓Fc,EA,N,EN,E4,E3,HX,Aj,Aq,Ar,Hu,HL,zaq,zak,zah,Jh,G0,KT,P1,XT,LK,LL,g1,g2,h5,h6,ca,cb,X0,X3,hz,NR,Ge,n0]
    .by_cases h7:FM p.x.c0 p.m.cm=0
     .have g7:=zap h7
      have ce:∀l:St,Fu Mk [Y k 0] (D6 st k (Dz {p with x:={J5 p.x p.m with b:=Kl p.x.c0 p.m.cm,ph:=2}})++l)=s_ (.tup [],D6 (D6 st k (Dz {p with x:={J5 p.x p.m with b:=Kl p.x.c0 p.m.cm,ph:=2}})++l) k (Dz {p with x:=Jm p.x p.m p.now})):=
       λl=>mb (p:={p with x:={J5 p.x p.m with b:=Kl p.x.c0 p.m.cm,ph:=2}}) hj (LU (Ue E _) l) hn
      have a2:∀l,Iq (D6 st k (Dz {p with x:=Jm p.x p.m p.now})++l) k {p with x:=Jm p.x p.m p.now}:=λl=>LU (Ue E _) l
      by_cases h8:(JD p.c p.v (Jm p.x p.m p.now) p.now).2=0
      .have cs:=λl=>yXh (p:={p with x:=Jm p.x p.m p.now}) hj (a2 l) hc hn h8;have g8:=zap h8;simp only[J5,Jm]at ce cs h8 g8
       push_cast(disch:=first|omega|decide)[↓Fc,EA,N,EN,HX,Al,Aj,Aq,Ar,Hu,HL,zaq,zah,zai,G0,KT,P1,XT,LK,LL,g1,g2,h5,h6,g7,ca,cb,X0,X3,j4,aP,hz,ad,NR,Qj E,Ge,ce,cs,h8,Jm]
      .have cs:=λl=>yO7 (p:={p with x:=Jm p.x p.m p.now}) hj (a2 l) hc hn h8;have cx:=λl=>yO6 (p:={p with x:=Jm p.x p.m p.now}) hj (a2 l) hc hn h8;simp only[J5,Jm]at ce cs cx h8
       push_cast(disch:=first|omega|decide)[↓Fc,EA,N,EN,HX,Al,Aj,Aq,Ar,Hu,HL,zaq,zak,zah,zai,G0,KT,P1,XT,LK,LL,g1,g2,h5,h6,g7,ca,cb,X0,X3,j4,aP,hz,ad,NR,Qj E,Ge,ce,cs,cx,h8,Jm]
     .have cr:=λl=>kT (p:={p with x:=J5 p.x p.m}) hj (a1 l) (a:=1) zaa;have cj:=λl=>yH8 (p:={p with x:=J5 p.x p.m}) hj (a1 l) 0;have ct:=λl=>yXg (p:={p with x:=J5 p.x p.m}) hj (a1 l) hn;simp only[J5]at cr cj ct
      by_cases h8:p.x.a0=p.m.am
      .have g8:=zap h8
       push_cast(disch:=first|omega|decide)[↓Fc,EA,N,EN,HX,Aj,Aq,Ar,Hu,HL,zaq,zah,zai,G0,KT,P1,XT,LK,LL,oS,oG,g1,g2,h5,h6,h7,ca,cb,X0,X3,hz,ad,NR,Qj E,Ge,cr,g8]
      .by_cases h9:p.c.length=0
       .have g9:((p.c.length:Int)=0)=True:=by simp[h9]
        push_cast(disch:=first|omega|decide)[↓Fc,EA,N,EN,HX,Aj,Aq,Ar,Hu,HL,zaq,zah,zai,G0,KT,P1,XT,LK,LL,oS,oG,M7,Ytt,g1,g2,h5,h6,h7,ca,cb,X0,X3,hz,ad,NR,Qj E,Ge,cj,h8,h9]
       .have g9:((p.c.length:Int)=0)=False:=by simp;simpa using h9
        push_cast(disch:=first|omega|decide)[↓Fc,EA,N,EN,HX,Aj,Aq,Ar,Hu,HL,zaq,zah,zai,G0,KT,P1,XT,LK,LL,oS,oG,M7,Ytt,g1,g2,h5,h6,h7,ca,cb,X0,X3,hz,ad,NR,Qj E,Ge,ct,h8,g9,h9]
   .simp only[h5,zai]at ca
    push_cast(disch:=first|omega|decide)[EA,N,EN,E4,E3,hs,Ai,Ar,zaq,zak,zah,Np,G0,KT,P1,g1,g2,h5,ca]
  .push_cast(disch:=first|omega|decide)[EA,N,E4,E3,hs,Ai,Ar,zaq,zax,zak,zah,zai,Gp,G0,KT,g1,h2]
 .push_cast(disch:=first|omega|decide)[EA,N,E4,E3,hs,Ai,Ar,zaq,zay,zak,zai,Gp,G0,h1]
def PG(x:Cse)(m:Mv):Cse:={x with b:=GI x.b m.pt m.lf m.rt}
def Jk(x:Cse)(m:Mv)(now:Int):Cse:={x with b:=GI x.b m.pt m.lf m.rt,dl:=now+1440}
def YKn(c:List Ins)(v:zIL)(x:Cse)(m:Mv)(now:Int):St:=
 if x.ph=2 then(zzB (DD (GI x.b m.pt m.lf m.rt)))::(if GW x.b m.pt m.lf m.rt=0 then(if(GI x.b m.pt m.lf m.rt).r=x.b.r then []else XD c v (Jk x m now))else [])else []
def VH(p:Ply)(_:Unit):Cse×Int×St:=((Rw p.c p.v p.x p.m p.now).1,(Rw p.c p.v p.x p.m p.now).2,YKn p.c p.v p.x p.m p.now)
def jh(p:Ply)(u:Unit):Prop:=MR p u/\(p.m.pt=0\/p.m.pt=1)
abbrev VX:=Lj JC jh VH
abbrev TDsc:Tbl:=Kw [(71,xA)]
 [(37,Fu KS),(72,Fu Pe),(67,Fu Mk),(68,Fu Mj)]
 [(37,Ih KS),(72,Ih Pe),(68,Ih Mj)]
def yFb:CK 31 VX:=by
 refine MG (T:=TDsc) yll.2 (KV (all_cons YCs all_nil) (all_cons Lp.1 (all_cons V8.1 (all_cons kX.1 (all_cons kY.1 all_nil)))) (all_cons Lp.2 (all_cons V8.2 (all_cons kY.2 all_nil)))) ?_;rintro ds st d e st' ⟨k,p,a,hj,hk,⟨⟨hc,hn⟩,hp⟩,rfl,h⟩;cases h;have E:=NO hk;have hs:D6 st k (Dz {p with x:=p.x})=st:=KY hk;have ac:∀l:St,(st++l)[k]?=s_ (zzB (Dz p)):=λl=>LU hk l;have N:st[k]?=s_ (zzB (Dz p)):=hk;have cb:=Yb2 p.x.b p.m.pt p.m.lf p.m.rt zaa;have hz:=λC=>Rd E C;have a4:=λC m=>WI E C m;unfold yll JC VH Rw YKn
 by_cases h1:p.x.ph=2
 .have g1:=zap h1
  by_cases h2:GW p.x.b p.m.pt p.m.lf p.m.rt=0
  .have g2:=zap h2;rw[h2]at cb
   by_cases h3:(GI p.x.b p.m.pt p.m.lf p.m.rt).r=p.x.b.r
   .have g3:=zap h3
    push_cast(disch:=first|omega|decide)[EA,N,ac,HZ,EN,HX,Ar,Hu,HL,Kt E,zaq,zah,KT,Li,G0,oH,oI,Ygg,g1,g3,h2,cb,j4]
   .have ce:∀l:St,Fu Mk [Y k 0] (D6 st k (Dz {p with x:=PG p.x p.m})++l)=s_ (.tup [],D6 (D6 st k (Dz {p with x:=PG p.x p.m})++l) k (Dz {p with x:=Jk p.x p.m p.now})):=
     λl=>mb (p:={p with x:=PG p.x p.m}) hj (LU (Ue E _) l) hn
    have ae:∀l,Iq (D6 st k (Dz {p with x:=Jk p.x p.m p.now})++l) k {p with x:=Jk p.x p.m p.now}:=λl=>LU (Ue E _) l
    by_cases h8:(JD p.c p.v (Jk p.x p.m p.now) p.now).2=0
    .have cs:=λl=>yXh (p:={p with x:=Jk p.x p.m p.now}) hj (ae l) hc hn h8;have g8:=zap h8;simp only[PG,Jk]at ce cs h8 g8
     push_cast(disch:=first|omega|decide)[EA,N,ac,HZ,EN,HX,Al,Aj,Aq,Ar,Hu,HL,Kt E,zaq,zah,zai,KT,Li,G0,oH,oI,Ygg,g1,h3,h2,cb,j4,Qj E,ce,cs,h8,Jk]
    .have cs:=λl=>yO7 (p:={p with x:=Jk p.x p.m p.now}) hj (ae l) hc hn h8;have cx:=λl=>yO6 (p:={p with x:=Jk p.x p.m p.now}) hj (ae l) hc hn h8;simp only[PG,Jk]at ce cs cx h8
     push_cast(disch:=first|omega|decide)[EA,N,ac,HZ,EN,HX,Al,Aj,Aq,Ar,Hu,HL,Kt E,zaq,zak,zah,zai,KT,Li,G0,oH,oI,Ygg,g1,h3,h2,cb,j4,Qj E,ce,cs,cx,h8,Jk]
  .push_cast(disch:=first|omega|decide)[EA,N,IE,Nw,EN,hs,Ar,Hu,HL,zaq,zak,zah,KT,Li,G0,oH,oI,g1,h2,cb]
 .push_cast(disch:=first|omega|decide)[EA,N,E4,E3,hs,Ai,Ar,zaq,zak,zai,Gp,KT,h1]
def Vx(p:Ply)(_:Unit):Cse×Int×St:=(p.x,380,[])
def gO(p:Ply)(_:Unit):Prop:=¬(p.m.pt=0/\p.x.ph=1)
abbrev VW:=Lj JC gO Vx
def Yjg:CK 36 VW:=by
 refine MG (T:=TND) yv8 (KV all_nil (all_cons Lp.1 all_nil) (all_cons Lp.2 all_nil)) ?_;rintro ds st d e st' ⟨k,p,a,hj,hk,hq,rfl,h⟩;cases h;have ad:=NO hk;have hs:D6 st k (Dz {p with x:=p.x})=st:=KY hk;have ae:∀l:St,(st++l)[k]?=s_ (zzB (Dz p)):=λl=>LU hk l;have E:st[k]?=s_ (zzB (Dz p)):=hk;unfold yp8 JC Vx
 by_cases N:p.m.pt=0
 .have g1:=zap N;have h2:¬p.x.ph=1:=λq=>hq ⟨N,q⟩
  push_cast(disch:=first|omega|decide)[EA,E,E4,E3,hs,Ai,Ar,zaq,zak,zah,zai,Gp,G0,KT,g1,h2]
 .push_cast(disch:=first|omega|decide)[EA,E,E4,E3,hs,Ai,Ar,zaq,zak,zai,Gp,G0,N]
def ySv(x:Bis):0<=Mm x/\Mm x<65536:=by
 unfold Mm
 split
 .rename_i h;unfold LH at h;simp only[Af]at h;have hv:=h.1;have:=Rn hv;have:=uV hv;omega
 .omega
def yIg{a b:Int×Dig}(h:FM a b≠1):(0<=a.1/\a.1<=65536/\0<=Ep a.1)/\(0<=b.1/\b.1<=65536/\0<=Ep b.1):=by
 unfold FM at h
 have key:∀n:Int,¬Ep n<0->0<=n/\n<=65536/\0<=Ep n:=by
  intro n hn
  by_cases q:n<0\/65536<n
  .rw[Zo q]at hn;omega
  .omega
 split at h
 .exact absurd rfl h
 rename_i E
 split at h
 .exact absurd rfl h
 rename_i N;exact⟨key _ E,key _ N⟩
def yNd{x:Cse}{p:Int}(E:p=0\/p=1):0<=G5 x p/\G5 x p<=65536:=by
 unfold G5
 split
 .rename_i h;obtain⟨N,h2⟩:=yIg (a:=x.c0) (b:=x.c1) (by rw[h];decide);unfold G9
  split<;>omega
 split
 .have:=ySv x.b;omega
 .omega
def ra:=DL (α:=Cse×Int) (λa=>[DY a.1,I J a.2]) (λa=>True) (λa=>.tup [I J (Hp a.1 a.2).1,V (Hp a.1 a.2).2])
def yIa(x:Cse)(p:Int):ra [DY x,I J p]=s_ (.tup [I J (Hp x p).1,V (Hp x p).2]):=
 EL (λ⟨a0,a1⟩⟨b0,b1⟩h=>by simp only[Ab,D.slc.injEq,D.int.injEq,D.bool.injEq,D.str.injEq,D.agg.injEq,MK,NG,Ng,xX,Yr7,yLt,yTq,Sha.St8.list_iff,Ykp,zal,zag,TV,Ytr,Int.ofNat_inj,WE,yTt,TU,Lq,T3,TY,KJ,YB,pY,YK,vb,Ygr,yPo,Wt,vg]at h;simp[h,CJ]) (x,p) trivial
def Yvu(x:Cse)(p:Int):@wW GG (tb [(13,Qk),(61,YU)] []) nG.1.code (Du [DY x,I J p]) [] ⟨DN nG.1.res (.tup [I J (Hp x p).1,V (Hp x p).2])⟩:=by
 have cb:Qk [U (I J x.c0.1::Dr x.c0.2),U (I J x.c1.1::Dr x.c1.2)]=s_ (.tup [EJ (Kl x.c0 x.c1),I J (FM x.c0 x.c1)]):=lZ x.c0 x.c1;have cd:=tq x.b;unfold nG
 by_cases h1:x.ph=3
 .have g1:=zap h1
  by_cases h2:p=0\/p=1
  .have hr:=yNd (x:=x) h2;have e:Hp x p=if G5 x p=0 then(0,f_)else(G5 x p-1,t_):=zae ⟨h1,h2⟩
   by_cases h3:FM x.c0 x.c1=380
   .have en:G5 x p=(G9 x p).1:=zae h3;rw[en]at e hr;have g3:=zap h3;rcases h2 with rfl|rfl
    .have ec:(G9 x 0).1=x.c0.1:=rfl;rw[ec]at e hr
     by_cases E:x.c0.1=0
     .have g4:=zap E;rw[zae E]at e;rw[e]
      push_cast(disch:=lia)[↓Fc,↓C5,Gd,GZ,PY,PZ,oP,oQ,cb,cd,g1,g3,g4,Ge]
     .rw[zaf E]at e;rw[e]
      push_cast(disch:=lia)[↓Fc,↓C5,Gd,GZ,PY,PZ,oP,oQ,cb,cd,g1,g3,E,Ge,FL]
    .have ec:(G9 x 1).1=x.c1.1:=rfl;rw[ec]at e hr;have n1:((1:Int)=0)=False:=zac
     by_cases E:x.c1.1=0
     .have g4:=zap E;rw[zae E]at e;rw[e]
      push_cast(disch:=lia)[↓Fc,↓C5,Gd,GZ,PY,PZ,oP,oQ,cb,cd,g1,g3,g4,Ge,n1]
     .rw[zaf E]at e;rw[e]
      push_cast(disch:=lia)[↓Fc,↓C5,Gd,GZ,PY,PZ,oP,oQ,cb,cd,g1,g3,E,Ge,FL,n1]
   .by_cases h5:FM x.c0 x.c1=0
    .have en:G5 x p=Mm x.b:=by unfold G5;rw[zaf h3,zae h5]
     rw[en]at e hr;have g5:=zap h5
     have N:((p=0)=True)\/(((p=0)=False)/\((p=1)=True)):=by
      rcases h2 with h|h
      .exact .inl (zap h)
      .exact .inr ⟨YYF,zap h⟩
     by_cases E:Mm x.b=0
     .have g4:=zap E;rw[zae E]at e;rw[e];rcases N with N|⟨N,gq⟩
      .push_cast(disch:=lia)[↓Fc,↓C5,Gd,GZ,PY,PZ,Xw,cb,cd,g1,h3,g5,g4,N,Ge]
      .push_cast(disch:=lia)[↓Fc,↓C5,Gd,GZ,PY,PZ,Xw,cb,cd,g1,h3,g5,g4,N,gq,Ge]
     .rw[zaf E]at e;rw[e];rcases N with N|⟨N,gq⟩
      .push_cast(disch:=lia)[↓Fc,↓C5,Gd,GZ,PY,PZ,Xw,cb,cd,g1,h3,g5,E,N,Ge,FL]
      .push_cast(disch:=lia)[↓Fc,↓C5,Gd,GZ,PY,PZ,Xw,cb,cd,g1,h3,g5,E,N,gq,Ge,FL]
    .have en:G5 x p=0:=by unfold G5;rw[zaf h3,zaf h5]
     rw[en,zae rfl]at e;rw[e]
     have N:((p=0)=True)\/(((p=0)=False)/\((p=1)=True)):=by
      rcases h2 with h|h
      .exact .inl (zap h)
      .exact .inr ⟨YYF,zap h⟩
     rcases N with N|⟨N,gq⟩
     .push_cast(disch:=lia)[↓Fc,↓C5,Gd,GZ,PY,PZ,cb,cd,g1,h3,h5,N,Ge]
     .push_cast(disch:=lia)[↓Fc,↓C5,Gd,GZ,PY,PZ,cb,cd,g1,h3,h5,N,gq,Ge]
  .have h3:¬p=0:=λh=>h2 (.inl h);have E:¬p=1:=λh=>h2 (.inr h);have e:Hp x p=(0,f_):=zaf (λq=>h2 q.2);rw[e]
   push_cast(disch:=lia)[↓Fc,↓C5,Gd,GZ,g1,h3,E]
 .have e:Hp x p=(0,f_):=zaf (λq=>h1 q.1);rw[e]
  push_cast(disch:=lia)[↓Fc,↓C5,Gd,GZ,h1]
def Ykd:zCC 22 ra:=
 EM nG.2 (DP (all_cons rh (all_cons uN all_nil)) all_nil) (λa h=>Yvu a.1 a.2)
def yZg{x:Cse}{p:Int}(h:(Hp x p).2=t_):0<=(Hp x p).1/\(Hp x p).1<65536/\FM x.c0 x.c1≠1:=by
 unfold Hp at h⊢
 by_cases E:x.ph=3/\(p=0\/p=1)
 .rw[zae E]at h⊢;have hr:=yNd (x:=x) E.2
  by_cases N:G5 x p=0
  .rw[zae N]at h;cases h
  .rw[zaf N];refine⟨by dsimp only;omega,by dsimp only;omega,λe=>N ?_⟩;unfold G5;rw[zaf (by rw[e];decide),zaf (by rw[e];decide)]
 .rw[zaf E]at h;cases h
def Ygf(hj:p.j=DZ p.x.jn)(sz:Nat)(lent:Bool):DB (s_ ⟨f_,sz,Dz p,lent⟩) 279 t_ 0=s_ (DY p.x):=by rw[xB,hj];rfl
def YGl{n:Int}(E:0<=n)(N:n<=16):DI .shl (I J 1) (I J n)=s_ (I J (2^n.toNat)):=by
 obtain⟨k,rfl⟩:=Be E;have:∀k:Fin 17,N4 (k.val:Int)=2^((k.val:Int)).toNat:=zab
 rw[j0 E,this ⟨k,zaa⟩]
theorem PV:OE=Fo 0 0 0 0 (O 0 [] t_) 0 DX:=rfl
variable{n:Nat}
def YR{key:Nat}(f:Nat->D)(E:∀k,f k≠.junk)(h:KI f (Fv n [] key)=f key)(σ:List Nat):KI f (Fv n σ key)=f key:=by
 unfold Fv at h⊢
 by_cases hk:key<n
 .rw[zae hk];rfl
 .rw[zaf hk]at h;exact absurd h.symm (E key)
def yU2(σ:List Nat){x:D}(h:Hy n [] x=x):Hy n σ x=x:=by
 cases x with
 |row key tot off len=>exact YR (λk=>.row k tot off len) (λk e=>by cases e) h σ
 |bsl key off j sz ag=>exact YR (λk=>.bsl k off j sz ag) (λk e=>by cases e) h σ
 |ptr key off=>exact YR (λk=>Y k off) (λk e=>by cases e) h σ
 |rptr key tot i off=>exact YR (λk=>.rptr k tot i off) (λk e=>by cases e) h σ
 |mapv key=>exact YR .mapv (λk e=>by cases e) h σ
 |_=>exact h
def yU0(σ:List Nat){x:D}(h:E5 n [] x=x):E5 n σ x=x:=by
 cases x with
 |clo f l=>
  simp only[E5,D.clo.injEq,zal]at h⊢;exact OR λy E=>yU2 σ (Uw h y E)
 |_=>unfold E5 at h⊢;exact yU2 σ h
def Yxm(σ:List Nat){x:D}(h:ED n [] x=x):ED n σ x=x:=by
 cases x with
 |agg l=>
  simp only[ED,D.agg.injEq]at h⊢;exact OR λy E=>yU0 σ (Uw h y E)
 |tup l=>unfold ED at h⊢;exact h
 |_=>unfold ED at h⊢;exact yU0 σ h
def Yxn(h:StOK st)(σ:List Nat):K1 st.length σ st=st:=by
 rw[qb];refine OR λo E=>?_;obtain⟨row,sz,els,lent⟩:=o
 cases row with
 |true=>rfl
 |false=>
  show(⟨f_,sz,els.map (ED st.length σ),lent⟩:PI.Obj)=_
  rw[OR λx N=>?_];exact Yxm σ (h _ E rfl x N)
def PU(S l:St):(S++l).take S.length=S:=zac
def O3(S l:St)(k:Nat):(S++l).getD (S.length+k) d_=l.getD k d_:=by rw[Am,FV,<-Am]
def PX(S l:St):(S++l).getD S.length d_=l.getD 0 d_:=O3 S l 0
def yRr(o:Opn):(FF o).all E2=t_:=by rw[LM];simp only[Fo,AQ,MM];simp[E2,EK,Jq]
def Qe(n:Nat)(σ:List Nat)(o:Opn):(FF o).map (ED n σ)=FF o:=OW n σ (yRr o)
def P7(lent:Bool)(o:Opn):DB (s_ ⟨f_,1,FF o,lent⟩) 1 f_ 4=s_ (EK o.top):=by rw[LM];exact Ygk ..
def IQ(c:List Ins)(v:zIL)(x:Cse)(m:Mv):Dig:=if FM x.c0 x.c1=380 then IA c v m.op else if(G9 x m.pt).1<=(Hp x m.pt).1 then DQ else IA c v m.op
def eR(c:List Ins)(v:zIL)(x:Cse)(m:Mv):St:=
 if(Hp x m.pt).2=t_ then
  [zzB (I J (G9 x m.pt).1::Dr (G9 x m.pt).2),zzB (FF m.op),zzB (Dr (IQ c v x m)),zzB (DD (Kl x.c0 x.c1))]++
  (if FM x.c0 x.c1=380 then []
   else if 2^(Ep (G9 x m.pt).1).toNat<=(Hp x m.pt).1\/Jw (G9 x m.pt) (Hp x m.pt).1 (IQ c v x m) m.path=t_ then
   [zzB (FK (JA x.b) (JB x.b)),zzB (HY (Iz (JA x.b,JB x.b) (Hc c v (IQ c v x m) m.op)))]
   else [])
 else []
def Vn(p:Ply)(_:Unit):Cse×Int×St:=((Pb p.c p.v p.x p.m).1,(Pb p.c p.v p.x p.m).2,eR p.c p.v p.x p.m)
def eQ(p:Ply)(_:Unit):Prop:=p.c.length<=4294967296/\p.m.op.top.length<=4294967295/\(p.m.pt=0\/p.m.pt=1)
def RR(ds:List D)(st:St)(r:D×Int×St):Prop:=StOK st/\Lj JC eQ Vn ds st r
def Yyl:Lc RR:=λds st r E h N=>Qd Om ds st r E h.2 N.2
abbrev kA:Tbl:=Kw [(22,ra),(73,bE),(13,Qk),(74,ZF),(18,Q3),(38,Rj),(61,YU),(75,qZ)]
 [(37,Fu KS),(72,Fu Pe),(69,Fu Sc),(28,Fu Oa)]
 [(37,Ih KS),(72,Ih Pe)]
def Ywe:TblOK Tryz.prog GG kA:=KV (all_cons Ykd (all_cons Yup (all_cons rh (all_cons yTb (all_cons UU (all_cons Wq (all_cons uN (all_cons YCt all_nil)))))))) (all_cons Lp.1 (all_cons V8.1 (all_cons yXd.1 (all_cons pX.1 all_nil)))) (all_cons Lp.2 (all_cons V8.2 all_nil))
def Yjf:CK 32 RR:=by
 refine MG (T:=kA) ypx.2 Ywe ?_;rintro ds st d e st' ⟨ca,k,p,a,hj,hk,⟨hc,cc,hp⟩,rfl,h⟩;simp only[BV]at h;obtain⟨rfl,rfl,rfl⟩:=h;have E:=NO hk;have hs:D6 st k (Dz {p with x:=p.x})=st:=KY hk;have aa:∀l:St,(st++l)[k]?=s_ (zzB (Dz p)):=λl=>LU hk l;have ab:st[k]?=s_ (zzB (Dz p)):=hk;have cp:=yIa p.x p.m.pt;have cb:Qk [U (I J p.x.c0.1::Dr p.x.c0.2),U (I J p.x.c1.1::Dr p.x.c1.2)]=s_ (.tup [EJ (Kl p.x.c0 p.x.c1),I J (FM p.x.c0 p.x.c1)]):=lZ p.x.c0 p.x.c1;have cl:bE [D9 p.c,EO p.v,Ew p.m.op]=s_ (Ds (IA p.c p.v p.m.op)):=xZ p.c p.v p.m.op ⟨hc,p.hv,zaa⟩;have ac:=Ygf hj;unfold ypx JC Vn Pb eR
 cases h1:(Hp p.x p.m.pt).2 with
 |false=>
  rw[h1]at cp
  push_cast(disch:=first|omega|decide)[↓Fc,↓C5,EA,ab,aa,Nx,NK,Gc,G2,Ms,OT,HZ,IE,Nw,EN,E4,E3,hs,KY hk,Fe,HY,HX,Al,Aj,Aq,Ai,Ag,An,As,Ar,FV,F6,Hu,HL,Kt E,zaj,zam,zag,zal,zaq,zax,zay,zak,zah,zai,Gp,Jh,Np,Pu,Pt,JO,ac,G0,Gi,I7,cp,Ao]
 |true=>
  rw[h1]at cp;have N:=Yxn ca
  have q1:(st.length<st.length)=False:=zac
  have q2:(st.length+1<st.length)=False:=zac
  have q3:(st.length=st.length+1)=False:=zac
  have q4:(st.length+1=st.length)=False:=zac
  have q5:(st.length==k)=f_:=by simp;omega
  have q6:(st.length+1==k)=f_:=by simp;omega
  have q7:(st.length==st.length+1)=f_:=zac
  have q8:(st.length+1==st.length)=f_:=zac
  obtain⟨i0,i1,nb⟩:=yZg h1;obtain⟨b0,b1⟩:=yIg nb
  have ad:∀sz lent,DB (s_ ⟨f_,sz,Dz p,lent⟩) 33 t_ (11+p.m.pt.toNat*33)=s_ (U (I J (G9 p.x p.m.pt).1::Dr (G9 p.x p.m.pt).2)):=λsz lent=>by
   rcases hp with h|h
   .rw[h];exact LK p sz lent
   .rw[h];exact LL p sz lent
  have cf:0<=Ep (G9 p.x p.m.pt).1:=by unfold G9;split<;>omega
  obtain⟨s,ec⟩:∃s,G9 p.x p.m.pt=s:=⟨_,rfl⟩;rw[ec]at ad cf;have hz:=λC=>Rd E C;have db:=λC m=>WI E C m;obtain⟨i,hi⟩:∃i,(Hp p.x p.m.pt).1=i:=⟨_,rfl⟩;rw[hi]at cp i0 i1
  by_cases h2:FM p.x.c0 p.x.c1=380
  .have g2:=zap h2;have ci:ZF [U (I J s.1::Dr s.2),I J i,Ds (IA p.c p.v p.m.op),Hj p.m.path]=s_ (V (Jw s i (IA p.c p.v p.m.op) p.m.path)):=yu9 s i (IA p.c p.v p.m.op) p.m.path zaa;have ch:∀l,Iq (st++l) k p:=λl=>LU hk l;have cj:=λn l=>yH8 (p:=p) hj (ch l) n
   cases h3:Jw s i (IA p.c p.v p.m.op) p.m.path with
   |false=>
    rw[h3]at ci
    push_cast(disch:=first|omega|decide)[↓Fc,↓C5,EA,ab,aa,Nx,NK,Gc,G2,Ms,OT,HZ,IE,Nw,EN,E4,E3,hs,KY hk,Fe,HY,HX,Al,Aj,Aq,Ai,Ag,An,As,Ar,FV,F6,Hu,HL,Kt E,zaj,zam,zag,zal,zaq,zax,zay,zak,zah,zai,Gp,Jh,Np,Pu,Pt,JO,ac,G0,LK,LL,ad,PR,M7,Ou,PQ,Li,ec,h1,hi,Ge,Gi,I7,Lo,Oi,cp,cb,cl,N,PU,O3,PX,q1,q2,q3,q4,q5,q6,q7,q8,Qe,Bn,Bu,A0,zas,Bd,zap E,PV,LN,ON,Ny,Oh,P7,HT,IQ,g2,ci,h3,Ao]
   |true=>
    rw[h3]at ci
    by_cases h4:p.m.op.status=0
    .have g4:=zap h4
     push_cast(disch:=first|omega|decide)[↓Fc,↓C5,EA,ab,aa,Nx,NK,Gc,G2,Ms,OT,HZ,IE,Nw,EN,E4,E3,hs,KY hk,Fe,HY,HX,Al,Aj,Aq,Ai,Ag,An,As,Ar,FV,F6,Hu,HL,Kt E,zaj,zam,zag,zal,zaq,zax,zay,zak,zah,zai,Gp,Jh,Np,Pu,Pt,JO,ac,G0,LK,LL,ad,PR,M7,Ou,PQ,Li,ec,h1,hi,Ge,Gi,I7,Lo,Oi,cp,cb,cl,N,PU,O3,PX,q1,q2,q3,q4,q5,q6,q7,q8,Qe,Bn,Bu,A0,zas,Bd,zap E,PV,LN,ON,Ny,Oh,P7,HT,IQ,g2,ci,h3,g4,zau]
    .by_cases h5:p.m.op.status=1
     .have g5:=zap h5
      by_cases h6:0<p.m.op.top.length
      .have g6:(0<(p.m.op.top.length:Int))=True:=zap zaa
       have ix:∀st:St,ER st 1 (EK p.m.op.top) (I J ((p.m.op.top.length:Int)-1))=s_ (.eptr (nI (r9 p.m.op.top)) 0):=λst=>by
        have:=oB st p.m.op.top f_ (p.m.op.top.length-1) zaa;rw[show((p.m.op.top.length-1:Nat):Int)=(p.m.op.top.length:Int)-1 by omega]at this;exact this
       push_cast(disch:=first|omega|decide)[↓Fc,↓C5,EA,ab,aa,Nx,NK,Gc,G2,Ms,OT,HZ,IE,Nw,EN,E4,E3,hs,KY hk,Fe,HY,HX,Al,Aj,Aq,Ai,Ag,An,As,Ar,FV,F6,Hu,HL,Kt E,zaj,zam,zag,zal,zaq,zax,zay,zak,zah,zai,Gp,Jh,Np,Pu,Pt,JO,ac,G0,LK,LL,ad,PR,M7,Ou,PQ,Li,ec,h1,hi,Ge,Gi,I7,Lo,Oi,cp,cb,cl,N,PU,O3,PX,q1,q2,q3,q4,q5,q6,q7,q8,Qe,Bn,Bu,A0,zas,Bd,zap E,PV,LN,ON,Ny,Oh,P7,HT,IQ,g2,ci,h3,h4,g5,g6,h6,ix,pq,FL,cj,zau,zbc]
      .have g6:(0<(p.m.op.top.length:Int))=False:=YYF
       push_cast(disch:=first|omega|decide)[↓Fc,↓C5,EA,ab,aa,Nx,NK,Gc,G2,Ms,OT,HZ,IE,Nw,EN,E4,E3,hs,KY hk,Fe,HY,HX,Al,Aj,Aq,Ai,Ag,An,As,Ar,FV,F6,Hu,HL,Kt E,zaj,zam,zag,zal,zaq,zax,zay,zak,zah,zai,Gp,Jh,Np,Pu,Pt,JO,ac,G0,LK,LL,ad,PR,M7,Ou,PQ,Li,ec,h1,hi,Ge,Gi,I7,Lo,Oi,cp,cb,cl,N,PU,O3,PX,q1,q2,q3,q4,q5,q6,q7,q8,Qe,Bn,Bu,A0,zas,Bd,zap E,PV,LN,ON,Ny,Oh,P7,HT,IQ,g2,ci,h3,h4,g5,g6,h6,zau,zbd]
     .push_cast(disch:=first|omega|decide)[↓Fc,↓C5,EA,ab,aa,Nx,NK,Gc,G2,Ms,OT,HZ,IE,Nw,EN,E4,E3,hs,KY hk,Fe,HY,HX,Al,Aj,Aq,Ai,Ag,An,As,Ar,FV,F6,Hu,HL,Kt E,zaj,zam,zag,zal,zaq,zax,zay,zak,zah,zai,Gp,Jh,Np,Pu,Pt,JO,ac,G0,LK,LL,ad,PR,M7,Ou,PQ,Li,ec,h1,hi,Ge,Gi,I7,Lo,Oi,cp,cb,cl,N,PU,O3,PX,q1,q2,q3,q4,q5,q6,q7,q8,Qe,Bn,Bu,A0,zas,Bd,zap E,PV,LN,ON,Ny,Oh,P7,HT,IQ,g2,ci,h3,h4,h5,zbb,cj]
  .have cd:=tq p.x.b;have cD:=Ro s.1;have dr:=ZB s.1;have sh:=YGl (n:=Ep s.1) zaa zaa;have bd:=T7;obtain⟨B,hB⟩:∃B,(if s.1<=i then DQ else IA p.c p.v p.m.op)=B:=⟨_,rfl⟩;have ci:ZF [U (I J s.1::Dr s.2),I J i,Ds B,Hj p.m.path]=s_ (V (Jw s i B p.m.path)):=yu9 s i B p.m.path zaa;have cs:qZ [D9 p.c,EO p.v,Ds B,U (FK (JA p.x.b) (JB p.x.b)),Ew p.m.op]=s_ (.tup [Fe (Iz (JA p.x.b,JB p.x.b) (Hc p.c p.v B p.m.op)),I J (Hc p.c p.v B p.m.op).2]):=Yb5 p.c p.v B (JA p.x.b,JB p.x.b) p.m.op ⟨hc,p.hv,cc⟩;have c6:=(yB8 (JA p.x.b,JB p.x.b) (Hc p.c p.v B p.m.op)).2;have cr:=λl=>kT (p:=p) hj (LU hk l) c6;obtain⟨q,hq⟩:∃q,Jw s i B p.m.path=q:=⟨_,rfl⟩;obtain⟨r,hr⟩:∃r,(Hc p.c p.v B p.m.op).2=r:=⟨_,rfl⟩;rw[hq]at ci;rw[hr]at cs
   have g3:(s.1<=i)=True/\B=DQ\/(s.1<=i)=False/\B=IA p.c p.v p.m.op:=by
    by_cases h3:s.1<=i
    .exact .inl ⟨zap h3,by rw[<-hB,zae h3]⟩
    .exact .inr ⟨zaw h3,by rw[<-hB,zaf h3]⟩
   clear hB;have bf:=zaw h2;rcases g3 with⟨g3,rfl⟩|⟨g3,rfl⟩
   all_goals
    by_cases h4:2^(Ep s.1).toNat<=i
    .have g4:=zap h4
     by_cases h6:r=0
     .subst h6
      push_cast(disch:=first|omega|decide)[↓Fc,↓C5,EA,ab,aa,Nx,NK,Gc,G2,Ms,OT,HZ,IE,Nw,EN,E4,E3,hs,KY hk,Fe,HY,HX,Al,Aj,Aq,Ai,Ag,An,As,Ar,FV,F6,Hu,HL,Kt E,zaj,zam,zag,zal,zaq,zax,zay,zak,zah,zai,Gp,Jh,Np,Pu,Pt,JO,ac,G0,LK,LL,ad,PR,M7,Ou,PQ,Li,ec,h1,hi,Ge,Gi,I7,Lo,Oi,cp,cb,cl,N,PU,O3,PX,q1,q2,q3,q4,q5,q6,q7,q8,Qe,Bn,Bu,A0,zas,Bd,zap E,PV,LN,ON,Ny,Oh,P7,HT,IQ,bf,ci,bd,g3,cD,sh,g4,cd,cs,hq,hr,cr,zbb]
     .have g6:=zaw h6
      push_cast(disch:=first|omega|decide)[↓Fc,↓C5,EA,ab,aa,Nx,NK,Gc,G2,Ms,OT,HZ,IE,Nw,EN,E4,E3,hs,KY hk,Fe,HY,HX,Al,Aj,Aq,Ai,Ag,An,As,Ar,FV,F6,Hu,HL,Kt E,zaj,zam,zag,zal,zaq,zax,zay,zak,zah,zai,Gp,Jh,Np,Pu,Pt,JO,ac,G0,LK,LL,ad,PR,M7,Ou,PQ,Li,ec,h1,hi,Ge,Gi,I7,Lo,Oi,cp,cb,cl,N,PU,O3,PX,q1,q2,q3,q4,q5,q6,q7,q8,Qe,Bn,Bu,A0,zas,Bd,zap E,PV,LN,ON,Ny,Oh,P7,HT,IQ,bf,ci,bd,g3,cD,sh,g4,cd,cs,hq,hr,cr,g6,zbb]
    .have g4:=zaw h4;cases q
     .push_cast(disch:=first|omega|decide)[↓Fc,↓C5,EA,ab,aa,Nx,NK,Gc,G2,Ms,OT,HZ,IE,Nw,EN,E4,E3,hs,KY hk,Fe,HY,HX,Al,Aj,Aq,Ai,Ag,An,As,Ar,FV,F6,Hu,HL,Kt E,zaj,zam,zag,zal,zaq,zax,zay,zak,zah,zai,Gp,Jh,Np,Pu,Pt,JO,ac,G0,LK,LL,ad,PR,M7,Ou,PQ,Li,ec,h1,hi,Ge,Gi,I7,Lo,Oi,cp,cb,cl,N,PU,O3,PX,q1,q2,q3,q4,q5,q6,q7,q8,Qe,Bn,Bu,A0,zas,Bd,zap E,PV,LN,ON,Ny,Oh,P7,HT,IQ,bf,ci,bd,g3,cD,sh,g4,hq,Ao,zbd]
     .by_cases h6:r=0
      .subst h6
       push_cast(disch:=first|omega|decide)[↓Fc,↓C5,EA,ab,aa,Nx,NK,Gc,G2,Ms,OT,HZ,IE,Nw,EN,E4,E3,hs,KY hk,Fe,HY,HX,Al,Aj,Aq,Ai,Ag,An,As,Ar,FV,F6,Hu,HL,Kt E,zaj,zam,zag,zal,zaq,zax,zay,zak,zah,zai,Gp,Jh,Np,Pu,Pt,JO,ac,G0,LK,LL,ad,PR,M7,Ou,PQ,Li,ec,h1,hi,Ge,Gi,I7,Lo,Oi,cp,cb,cl,N,PU,O3,PX,q1,q2,q3,q4,q5,q6,q7,q8,Qe,Bn,Bu,A0,zas,Bd,zap E,PV,LN,ON,Ny,Oh,P7,HT,IQ,bf,ci,bd,g3,cD,sh,g4,hq,cd,cs,hr,cr,zbc]
      .have g6:=zaw h6
       push_cast(disch:=first|omega|decide)[↓Fc,↓C5,EA,ab,aa,Nx,NK,Gc,G2,Ms,OT,HZ,IE,Nw,EN,E4,E3,hs,KY hk,Fe,HY,HX,Al,Aj,Aq,Ai,Ag,An,As,Ar,FV,F6,Hu,HL,Kt E,zaj,zam,zag,zal,zaq,zax,zay,zak,zah,zai,Gp,Jh,Np,Pu,Pt,JO,ac,G0,LK,LL,ad,PR,M7,Ou,PQ,Li,ec,h1,hi,Ge,Gi,I7,Lo,Oi,cp,cb,cl,N,PU,O3,PX,q1,q2,q3,q4,q5,q6,q7,q8,Qe,Bn,Bu,A0,zas,Bd,zap E,PV,LN,ON,Ny,Oh,P7,HT,IQ,bf,ci,bd,g3,cD,sh,g4,hq,cd,cs,hr,cr,g6,zbc]
def X7:PH2:=⟨102,[5,6,4,7,8],2,[3,9],[{dst:=s_ 10,op:=.bld GR []},{dst:=s_ 11,op:=.mov (.s 2)},{dst:=n_,op:=.stor 279 (.s 0) (.s 10)},{dst:=n_,op:=.stor 1 (.s 1) (.s 11)}]⟩
def jA:Rg Tryz.prog GG 29 (PH2.run GG X7):=
 Yqn (fn:=Tryz.f29) (z:=.int .i64 0) (by kernel_rfl) rfl rfl rfl ⟨rfl,rfl,rfl⟩ ⟨rfl,rfl,rfl⟩ ⟨rfl,rfl,rfl⟩ ⟨rfl,rfl,rfl⟩ ⟨rfl,rfl,rfl⟩ ⟨rfl,rfl,rfl⟩ ⟨rfl,rfl,rfl⟩ ⟨rfl,rfl,rfl⟩ zab zab (by kernel_rfl) (by kernel_rfl) (by kernel_rfl)
def Y6:GR.length=279:=by rw[NI];exact NS _ _
def yLq:GR.all yaa=t_:=by rw[NI];exact Qa _ rfl
def yQc(l xs:List D)(h:xs.length=l.length):FZ l 0 xs=xs:=by simp[FZ,h]
def Q2(E o1 o2:PI.Obj)(rest:St)(e:Int):PH2.run GG X7 102 (I J e) [Y 3 0,Y 4 0] (E::o1::o2::(zzB GR)::(zzB [I J 0])::rest)=
  s_ (E::o1::o2::(zzB GR)::(zzB [I J e])::rest):=by have s1:FZ GR 0 GR=GR:=yQc _ _ rfl;have s2:FZ [I J 0] 0 [I J e]=[I J e]:=rfl;unfold PH2.run;have hc:102=X7.t/\Lz (I J e)=t_:=⟨rfl,rfl⟩;rw[zae hc];simp[X7,Fq,PI.exec,PI.wanted,POp.exec,Qs,Frame.set,Frame.put,DJ,Du,yaZ,yaa,Le,Ec,No,s1,s2,Y6,yLq]
def hP:HI:=λf=>if f=29 then s_ (PH2.run GG X7)else n_
theorem O4:hP 29=s_ (PH2.run GG X7):=(rfl)
def ig:∀f h,hP f=s_ h->Rg Tryz.prog GG f h:=by
 intro f h e;unfold hP at e
 split at e
 .rename_i hf;cases e;subst hf;exact jA
 .cases e
def OX(f:Nat)(E ds:List D)(h:f<5000000):OL (.clo f E) ds=s_ (f,ds++E):=by simp only[OL,zae h]
def Yf:List (Int×Nat):=[(1,30),(2,31),(3,32),(4,33),(5,34),(6,35),(7,36)]
def IG(i:Nat):List D:=(Yf.take i).map λp=>U [I J p.1,.clo p.2 []]
theorem JV:Il (s_ ⟨f_,2,[],f_⟩) 2 [0] (I J 1) (.clo 30 [])=s_ ⟨f_,2,IG 1,f_⟩:=(rfl)
theorem JU:Il (s_ ⟨f_,2,IG 1,f_⟩) 2 [0] (I J 2) (.clo 31 [])=s_ ⟨f_,2,IG 2,f_⟩:=(rfl)
theorem JT:Il (s_ ⟨f_,2,IG 2,f_⟩) 2 [0] (I J 3) (.clo 32 [])=s_ ⟨f_,2,IG 3,f_⟩:=(rfl)
theorem JS:Il (s_ ⟨f_,2,IG 3,f_⟩) 2 [0] (I J 4) (.clo 33 [])=s_ ⟨f_,2,IG 4,f_⟩:=(rfl)
theorem JR:Il (s_ ⟨f_,2,IG 4,f_⟩) 2 [0] (I J 5) (.clo 34 [])=s_ ⟨f_,2,IG 5,f_⟩:=(rfl)
theorem JQ:Il (s_ ⟨f_,2,IG 5,f_⟩) 2 [0] (I J 6) (.clo 35 [])=s_ ⟨f_,2,IG 6,f_⟩:=(rfl)
theorem JP:Il (s_ ⟨f_,2,IG 6,f_⟩) 2 [0] (I J 7) (.clo 36 [])=s_ ⟨f_,2,IG 7,f_⟩:=(rfl)
theorem mq_1:KN (s_ ⟨f_,2,IG 7,f_⟩) 2 [0] t_ .nilf (I J 1)=s_ (.tup [.clo 30 [],V t_]):=(rfl)
theorem mq_2:KN (s_ ⟨f_,2,IG 7,f_⟩) 2 [0] t_ .nilf (I J 2)=s_ (.tup [.clo 31 [],V t_]):=(rfl)
theorem mq_3:KN (s_ ⟨f_,2,IG 7,f_⟩) 2 [0] t_ .nilf (I J 3)=s_ (.tup [.clo 32 [],V t_]):=(rfl)
theorem mq_4:KN (s_ ⟨f_,2,IG 7,f_⟩) 2 [0] t_ .nilf (I J 4)=s_ (.tup [.clo 33 [],V t_]):=(rfl)
theorem mq_5:KN (s_ ⟨f_,2,IG 7,f_⟩) 2 [0] t_ .nilf (I J 5)=s_ (.tup [.clo 34 [],V t_]):=(rfl)
theorem mq_6:KN (s_ ⟨f_,2,IG 7,f_⟩) 2 [0] t_ .nilf (I J 6)=s_ (.tup [.clo 35 [],V t_]):=(rfl)
theorem mq_7:KN (s_ ⟨f_,2,IG 7,f_⟩) 2 [0] t_ .nilf (I J 7)=s_ (.tup [.clo 36 [],V t_]):=(rfl)
def fm{k:Int}(h:¬(1<=k/\k<=7)):KN (s_ ⟨f_,2,IG 7,f_⟩) 2 [0] t_ .nilf (I J k)=s_ (.tup [.nilf,V f_]):=by
 have E:∀n:Int,1<=n->n<=7->(k==n)=f_:=λn a b=>by simp;omega
 simp[KN,IG,Yf,PI.Obj.isMap,Gb,Hv,Kb,DE,D.mk,E,O7,Ff,mS]
def TS:E1.length=144:=by simp[E1,zI,OE,En]
def vr(p:Ply):Dz p=DC [.w 279 (DF p.x p.j),.c (D9 p.c),.w 17 (Eo p.v),.w 144 (Ki p.m),.c (I J p.now)]:=by simp[Dz,E6,NN,DC,ybI,DF,Ki]
def bn(m:Mv):(Ki m).all yaa=t_:=by refine Q9 (λ_ _=>rfl) λs E=>?_;simp only[OA,IH,Mf,Aj,Aq,AB,AM,zav]at E;rcases E with rfl|rfl|rfl|rfl|rfl|rfl|rfl|rfl|rfl|rfl|rfl|rfl|rfl|rfl|rfl|rfl|rfl|rfl|rfl|rfl<;>simp[ybI,yaa,IW,EK]
def qO(m:Mv):(Ki m).all E2=t_:=by refine Q9 (λ_ _=>rfl) λs E=>?_;simp only[OA,IH,Mf,Aj,Aq,AB,AM,zav]at E;rcases E with rfl|rfl|rfl|rfl|rfl|rfl|rfl|rfl|rfl|rfl|rfl|rfl|rfl|rfl|rfl|rfl|rfl|rfl|rfl|rfl<;>simp[ybI,E2,MM,EK,Jq]
def OG(m:Mv):DM (Kh m)=s_ (Ki m):=by simp only[DM,Kh,yaZ,bn,zaj]
def Yt6(st:St)(m:Mv):D2 st (Kh m)=s_ (Kh m):=SN st (qO m)
def Ygu(m:Mv):keys (Kh m)=[]:=SU (qO m)
def Wp(sz:Nat)(lent:Bool)(m:Mv):DB (s_ ⟨f_,sz,Ki m,lent⟩) 144 t_ 0=s_ (Kh m):=Is sz lent _ 144 (W5 m)
def P0(sz:Nat)(lent:Bool)(m:Mv):DB (s_ ⟨f_,sz,Ki m,lent⟩) 1 f_ 0=s_ (I J m.kd):=JK (l:=OA m) rfl rfl (sK m)
def UZ(sz:Nat)(lent:Bool)(m:Mv):DB (s_ ⟨f_,sz,Ki m,lent⟩) 1 f_ 1=s_ (I J m.pt):=JK (l:=OA m) rfl rfl (sK m)
def Yq0(p:Ply)(hj:p.j=DZ p.x.jn):Ec Qw [(0,279,DY p.x),(279,1,D9 p.c),(280,17,EO p.v),(297,144,Kh p.m),(441,1,I J p.now)]=s_ (Dz p):=by
 have e0:Qw=DC [.w 279 GR,.c (O 0 [] t_),.w 17 (zI 17),.w 144 E1,.c (I J 0)]:=by simp[Qw,DC,ybI]
 have l1:=NS p.x p.j;have E:=IX p.hv;have N:=W5 p.m;refine(KX (l:=[.w 279 GR,.c (O 0 [] t_),.w 17 (zI 17),.w 144 E1,.c (I J 0)]) (A:=[]) (B:=[.w 279 GR]) (C:=[.c (O 0 [] t_),.w 17 (zI 17),.w 144 E1,.c (I J 0)]) (X:=[.w 279 (DF p.x p.j)]) e0 rfl ⟨Y6,rfl,TS,trivial⟩ rfl (by rw[hj];simp[DC,ybI,DY,yaZ]) (by simp[DC,ybI,l1]) (by simp[DC,ybI];exact Ad.1 (Qa p.x (j:=p.j) (by rw[hj];rfl)))).trans ?_;refine(KX (l:=[.w 279 (DF p.x p.j),.c (O 0 [] t_),.w 17 (zI 17),.w 144 E1,.c (I J 0)]) (A:=[.w 279 (DF p.x p.j)]) (B:=[.c (O 0 [] t_)]) (C:=[.w 17 (zI 17),.w 144 E1,.c (I J 0)]) (X:=[.c (D9 p.c)]) rfl rfl ⟨l1,rfl,TS,trivial⟩ rfl rfl rfl rfl).trans ?_;refine(KX (l:=[.w 279 (DF p.x p.j),.c (D9 p.c),.w 17 (zI 17),.w 144 E1,.c (I J 0)]) (A:=[.w 279 (DF p.x p.j),.c (D9 p.c)]) (B:=[.w 17 (zI 17)]) (C:=[.w 144 E1,.c (I J 0)]) (X:=[.w 17 (Eo p.v)]) rfl rfl ⟨l1,rfl,TS,trivial⟩ rfl (by simp[DC,ybI,EO,yaZ]) (by simp[DC,ybI,E]) (by simp[DC,ybI,Eo,yaa,nI])).trans ?_;refine(KX (l:=[.w 279 (DF p.x p.j),.c (D9 p.c),.w 17 (Eo p.v),.w 144 E1,.c (I J 0)]) (A:=[.w 279 (DF p.x p.j),.c (D9 p.c),.w 17 (Eo p.v)]) (B:=[.w 144 E1]) (C:=[.c (I J 0)]) (X:=[.w 144 (Ki p.m)]) rfl rfl ⟨l1,E,TS,trivial⟩ rfl (by simp[DC,ybI,Kh,yaZ]) (by simp[DC,ybI,N]) (by simp[DC,ybI];exact Ad.1 (bn p.m))).trans ?_;refine(KX (l:=[.w 279 (DF p.x p.j),.c (D9 p.c),.w 17 (Eo p.v),.w 144 (Ki p.m),.c (I J 0)]) (A:=[.w 279 (DF p.x p.j),.c (D9 p.c),.w 17 (Eo p.v),.w 144 (Ki p.m)]) (B:=[.c (I J 0)]) (C:=[]) (X:=[.c (I J p.now)]) rfl rfl ⟨l1,E,N,trivial⟩ rfl rfl rfl rfl).trans ?_;rw[vr];rfl
def Ybk(x:Cse):∃A:List D,A.all E2=t_/\∀j,DF x j=A++[j]:=by
 refine⟨DC (Mf x.key++[.c (I J x.p0),.c (I J x.p1),.c (I J x.ph),.c (I J x.dl),.c (I J x.a0),.c (I J x.a1),.c (I J x.c0.1),.g x.c0.2,.c (I J x.c1.1),.g x.c1.2]++La x.b++[.c (I J x.wn),.c (I J x.am),.c (I J x.ct)]),?_,λj=>?_⟩
 .refine Q9 (λ_ _=>rfl) λs E=>?_;simp only[Mf,La,Aj,Aq,AB,AM,zav]at E;rcases E with rfl|rfl|rfl|rfl|rfl|rfl|rfl|rfl|rfl|rfl|rfl|rfl|rfl|rfl|rfl|rfl|rfl|rfl|rfl|rfl|rfl|rfl|rfl|rfl|rfl|rfl|rfl|rfl|rfl|rfl<;>simp[ybI,E2,MM]
 .simp[DF,Fp,NN,DC,ybI]
def Zc(st:St)(x:Cse)(j:D):D2 st (U (DF x j))=(DO st j).map λy=>U (DF x y):=by obtain⟨A,E,h⟩:=Ybk x;rw[h j];simp only[D2,Zp st [j] E,Ef,h];cases DO st j<;>rfl
def Yhd(st:St)(x:Cse)(l:List Ky):D2 st (U (DF x (DZ l)))=s_ (U (DF x (DZ l))):=by rw[Zc];simp[DO,Jq]
def Rc(st:St):D2 st (U GR)=s_ (DY OO):=by rw[NI,Zc];rfl
def Q7(x y:Cse)(i j:D)(hj:j.isCell=t_)(sz:Nat):DV (s_ ⟨f_,sz,DF x i,f_⟩) 279 0 (U (DF y j))=s_ ⟨f_,sz,DF y j,f_⟩:=Hs sz _ _ 279 (NS _ _) (NS _ _) (Qa y hj)
def WC(y:Cse)(j:D)(hj:j.isCell=t_)(sz:Nat):DV (s_ ⟨f_,sz,GR,f_⟩) 279 0 (U (DF y j))=s_ ⟨f_,sz,DF y j,f_⟩:=Hs sz _ _ 279 Y6 (NS _ _) (Qa y hj)
def QZ(sz:Nat)(lent:Bool):DB (s_ ⟨f_,sz,GR,lent⟩) 279 t_ 0=s_ (U GR):=Is sz lent _ 279 Y6
def H8:DM (U GR)=s_ GR:=by simp only[DM,yaZ,yLq,zaj]
def Nk(c:List Ins)(v:zIL)(x:Cse)(m:Mv)(o:PI.Obj)(G:St):St:=
 (zzB (Eo v))::(zzB (DF x (DZ x.jn)))::(zzB (Ki m))::(zzB GR)::(zzB [I J 0])::⟨f_,2,IG 7,f_⟩::o::G
def FI(c:List Ins)(v:zIL)(x:Cse)(m:Mv)(now:Int)(hv:Et v):Ply:=⟨x,DZ x.jn,c,v,m,now,hv⟩
abbrev N8:Tbl:=Kw [(26,YV)]
 [(37,Fu KS),(30,Fu V1),(31,Fu VX),(32,Fu RR),(33,Fu VV),(34,Fu VZ),(35,Fu VY),(36,Fu VW)]
 [(37,Ih KS),(30,Ih V1),(31,Ih VX),(32,Ih RR),(33,Ih VV),(34,Ih VZ),(35,Ih VY),(36,Ih VW)]
def Ywd:TblOK Tryz.prog GG N8:=KV (all_cons Ykb all_nil)
 (all_cons Lp.1 (all_cons yO2.1 (all_cons yFb.1 (all_cons Yjf.1 (all_cons yFa.1 (all_cons yHw.1 (all_cons yHv.1 (all_cons Yjg.1 all_nil))))))))
 (all_cons Lp.2 (all_cons yO2.2 (all_cons yFb.2 (all_cons Yjf.2 (all_cons yFa.2 (all_cons yHw.2 (all_cons yHv.2 (all_cons Yjg.2 all_nil))))))))
def Yfx{k:Int}(h:1<=k/\k<=7):∃f:Nat,H7 k Yf=s_ f/\f<5000000/\KN (s_ ⟨f_,2,IG 7,f_⟩) 2 [0] t_ .nilf (I J k)=s_ (.tup [.clo f [],V t_]):=by
 have:k=1\/k=2\/k=3\/k=4\/k=5\/k=6\/k=7:=zaa
 rcases this with rfl|rfl|rfl|rfl|rfl|rfl|rfl
 .exact⟨_,rfl,zab,mq_1⟩
 .exact⟨_,rfl,zab,mq_2⟩
 .exact⟨_,rfl,zab,mq_3⟩
 .exact⟨_,rfl,zab,mq_4⟩
 .exact⟨_,rfl,zab,mq_5⟩
 .exact⟨_,rfl,zab,mq_6⟩
 .exact⟨_,rfl,zab,mq_7⟩
theorem xg{m:Mv}{now:Int}(h:Gz m now):((m.pt=0)=True)\/(((m.pt=0)=False)/\((m.pt=1)=True)):=by
 rcases h.2.2.2 with h|h
 .grind
 .grind
def YCv(p:Ply)(hj:p.j=DZ p.x.jn):DM (U (Dz p))=s_ (Dz p):=by
 have h:(Dz p).all yaa=t_:=by
  rw[vr];refine Q9 (λ_ _=>rfl) λs E=>?_;simp only[AB,AM,zav]at E;rcases E with rfl|rfl|rfl|rfl|rfl
  .exact Qa _ (by rw[hj];rfl)
  .rfl
  .simp[ybI,Eo,yaa,nI]
  .exact bn _
  .rfl
 simp only[DM,yaZ,h,zaj]
abbrev Qo(c:List Ins)(v:zIL)(x:Cse)(m:Mv)(now:Int)(r:D):Prop:=U8 GG N8 Us.1 hP [O (nz 3 (c.map Dt)) (c.map Dt) f_,EO v,DY x,Kh m,I J now] [] λh das=>UN h das Us.1.res r
def Yew(c:List Ins)(v:zIL)(x:Cse)(m:Mv)(now:Int)(hv:Et v)(h:¬Hq x):Qo c v x m now (.tup [DY OO,I J 400]):=by have E:=Zu x;have N:True:=trivial;simp only[h,zai]at E;unfold Qo U8 Us;simp(disch:=first|omega|decide) only[push_cast,↓reduceIte,C3,C6,OX,O4,FY,Gd,OG,H8,KU,JL,JV,JU,JT,JS,JR,JQ,JP,Gj,Hf,Gi,E4,E3,Q2,QZ,Rc,E]
def Yx7(c:List Ins)(v:zIL)(x:Cse)(m:Mv)(now:Int)(hv:Et v)(h:Hq x)(h2:¬Gz m now):Qo c v x m now (.tup [DY OO,I J 1]):=by
 have E:=Zu x;have ad:True:=trivial;simp only[h,zah]at E;unfold Qo U8 Us;unfold Gz at h2
 by_cases hk:1<=m.kd/\m.kd<=7
 .obtain⟨f,_,_,N⟩:=Yfx hk
  by_cases h3:0<=now
  .by_cases h4:now<=1073741824
   .have p0:¬m.pt=0:=λq=>h2 ⟨hk,h3,h4,.inl q⟩;have p1:¬m.pt=1:=λq=>h2 ⟨hk,h3,h4,.inr q⟩;simp(disch:=first|omega|decide) only[push_cast,↓reduceIte,C3,C6,OX,O4,FY,Gd,OG,H8,KU,JL,IV,JV,JU,JT,JS,JR,JQ,JP,Gj,P0,UZ,Hf,Gi,EN,E4,E3,Q2,QZ,Rc,zah,zai,E,N,h3,h4,p0,p1]
   .simp(disch:=first|omega|decide) only[push_cast,↓reduceIte,C3,C6,OX,O4,FY,Gd,OG,H8,KU,JL,IV,JV,JU,JT,JS,JR,JQ,JP,Gj,P0,Hf,Gi,EN,E4,E3,Q2,QZ,Rc,zah,zai,E,N,h3,h4]
  .simp(disch:=first|omega|decide) only[push_cast,↓reduceIte,C3,C6,OX,O4,FY,Gd,OG,H8,KU,JL,IV,JV,JU,JT,JS,JR,JQ,JP,Gj,P0,Hf,Gi,EN,E4,E3,Q2,QZ,Rc,zai,E,N,h3]
 .have N:=fm hk;simp(disch:=first|omega|decide) only[push_cast,↓reduceIte,C3,C6,OX,O4,FY,Gd,OG,H8,KU,JL,IV,JV,JU,JT,JS,JR,JQ,JP,Gj,P0,Hf,Gi,EN,E4,E3,Q2,QZ,Rc,E,N]
def Yev(c:List Ins)(v:zIL)(x:Cse)(m:Mv)(now:Int)(hv:Et v)(h:Hq x)(N:Gz m now)(h3:¬now<=x.dl):Qo c v x m now (.tup [DY OO,I J 401]):=by
 have E:=Zu x;have af:True:=trivial;simp only[h,zah]at E;obtain⟨f,_,_,hq⟩:=Yfx N.1;have a1:=N.2.1;have a2:=N.2.2.1;unfold Qo U8 Us;rcases xg N with gp|⟨gp,gq⟩
 .simp(disch:=first|omega|decide) only[push_cast,↓reduceIte,C3,C6,OX,O4,FY,Gd,OG,H8,KU,JL,IV,JV,JU,JT,JS,JR,JQ,JP,Gj,P0,UZ,Od,Hf,Gi,EN,E4,E3,Q2,QZ,Rc,zah,zai,E,hq,a1,a2,gp,h3]
 .simp(disch:=first|omega|decide) only[push_cast,↓reduceIte,C3,C6,OX,O4,FY,Gd,OG,H8,KU,JL,IV,JV,JU,JT,JS,JR,JQ,JP,Gj,P0,UZ,Od,Hf,Gi,EN,E4,E3,Q2,QZ,Rc,zah,zai,E,hq,a1,a2,gp,gq,h3]
def Yx8(c:List Ins)(v:zIL)(x:Cse)(m:Mv)(now:Int)(hv:Et v)(h:Hq x)(h2:Gz m now)(h3:now<=x.dl){si:zsF}{sx:zsX}(hf:H7 m.kd Yf=s_ f)(hi:N8.i f=s_ si)(hx:N8.x f=s_ sx){P':Ply}{G:St}
  (hr:(e=0/\si [Y 6 0] (Nk c v x m (zzB (Dz (FI c v x m now hv))) [])=s_ (.tup [],Nk c v x m (zzB (Dz P')) G)/\P'.j.isCell=t_/\(∀j,DF P'.x j=DF y j)/\∀o3 o4,DO ((zzB (Eo v))::(zzB (DF x (DZ x.jn)))::(zzB (Ki m))::o3::o4::⟨f_,2,IG 7,f_⟩::(zzB (Dz P'))::G) P'.j=s_ (DZ y.jn))\/
   (e≠0/\y=OO/\si [Y 6 0] (Nk c v x m (zzB (Dz (FI c v x m now hv))) [])=n_/\∃o,sx [Y 6 0] (Nk c v x m (zzB (Dz (FI c v x m now hv))) [])=s_ (102,I J e,Nk c v x m o G))):
  Qo c v x m now (.tup [DY y,I J e]):=by
 have E:=Zu x;simp only[h,zah]at E;obtain⟨f',a6,be,hq⟩:=Yfx h2.1;rw[hf,AG]at a6;subst a6;have a1:=h2.2.1;have a2:=h2.2.2.1;have aa:Ec Qw [(0,279,DY x),(279,1,O (nz 3 (c.map Dt)) (c.map Dt) f_),(280,17,EO v),(297,144,Kh m),(441,1,I J now)]=s_ (Dz (FI c v x m now hv)):=Yq0 (FI c v x m now hv) rfl;have ab:=YCv (FI c v x m now hv) rfl;unfold Nk at hr;unfold Qo U8 Us;rcases hr with⟨rfl,r1,r2,r3,r4⟩|⟨r1,rfl,r2,o,r3⟩
 .have r6:∀o3 o4:PI.Obj,Option.map ybJ (Ef ((zzB (Eo v))::(zzB (DF x (DZ x.jn)))::(zzB (Ki m))::o3::o4::⟨f_,2,IG 7,f_⟩::(zzB (Dz P'))::G) (DF P'.x P'.j))=s_ (U (DF y (DZ y.jn))):=λo3 o4=>by
   rw[<-Wn,Zc,r4 o3 o4,Ae,r3]
  have sc:=WC P'.x P'.j r2;rcases xg h2 with N|⟨N,gq⟩
  .simp(disch:=first|omega|decide) only[push_cast,↓reduceIte,C3,C6,OX,O4,FY,Gd,OG,H8,KU,JL,IV,JV,JU,JT,JS,JR,JQ,JP,Gj,P0,UZ,Wp,Od,Hf,Gi,EN,zah,HK hv,aa,E,hq,a1,a2,N,h3,ab];rw[SV (f:=f) (ds:=[Y 6 0]) (h:=by simp(disch:=first|omega|decide) only[push_cast,↓reduceIte,C3,aU])];rw[hi,hx];simp(disch:=first|omega|decide) only[push_cast,↓reduceIte,C3,Gj,Hf,r1,EA,xB,sc,r6]
  .simp(disch:=first|omega|decide) only[push_cast,↓reduceIte,C3,C6,OX,O4,FY,Gd,OG,H8,KU,JL,IV,JV,JU,JT,JS,JR,JQ,JP,Gj,P0,UZ,Wp,Od,Hf,Gi,EN,zah,zai,HK hv,aa,E,hq,a1,a2,N,gq,h3,ab];rw[SV (f:=f) (ds:=[Y 6 0]) (h:=by simp(disch:=first|omega|decide) only[push_cast,↓reduceIte,C3,aU])];rw[hi,hx];simp(disch:=first|omega|decide) only[push_cast,↓reduceIte,C3,Gj,Hf,r1,EA,xB,sc,r6]
 .rcases xg h2 with N|⟨N,gq⟩
  .simp(disch:=first|omega|decide) only[push_cast,↓reduceIte,C3,C6,OX,O4,FY,Gd,OG,H8,KU,JL,IV,JV,JU,JT,JS,JR,JQ,JP,Gj,P0,UZ,Wp,Od,Hf,Gi,EN,zah,HK hv,aa,E,hq,a1,a2,N,h3,ab];rw[SV (f:=f) (ds:=[Y 6 0]) (h:=by simp(disch:=first|omega|decide) only[push_cast,↓reduceIte,C3,aU])];rw[hi,hx];simp(disch:=first|omega|decide) only[push_cast,↓reduceIte,C3,Q2,QZ,Rc,r2,r3]
  .simp(disch:=first|omega|decide) only[push_cast,↓reduceIte,C3,C6,OX,O4,FY,Gd,OG,H8,KU,JL,IV,JV,JU,JT,JS,JR,JQ,JP,Gj,P0,UZ,Wp,Od,Hf,Gi,EN,zah,zai,HK hv,aa,E,hq,a1,a2,N,gq,h3,ab];rw[SV (f:=f) (ds:=[Y 6 0]) (h:=by simp(disch:=first|omega|decide) only[push_cast,↓reduceIte,C3,aU])];rw[hi,hx];simp(disch:=first|omega|decide) only[push_cast,↓reduceIte,C3,Q2,QZ,Rc,r2,r3]
theorem YF4(c:List Ins)(v:zIL)(x:Cse)(m:Mv)(o:PI.Obj)(G:St)(C:List D):D6 (Nk c v x m o []) 6 C++G=Nk c v x m (zzB C) G:=rfl
def Yes(c:List Ins)(v:zIL)(x:Cse)(m:Mv)(now:Int)(hv:Et v):(Dz (FI c v x m now hv)).all E2=t_:=by
 rw[vr];refine Q9 (λ_ _=>rfl) λs E=>?_;simp only[AB,AM,zav]at E;rcases E with rfl|rfl|rfl|rfl|rfl
 .exact WW x
 .simp[ybI,E2,D9,Jq]
 .exact SK v
 .exact qO m
 .rfl
def YF3(c:List Ins)(v:zIL)(x:Cse)(m:Mv)(now:Int)(hv:Et v):StOK (Nk c v x m (zzB (Dz (FI c v x m now hv))) []):=by
 intro o ho hr y E;simp only[Nk,AB,AM,zav]at ho;have N:∀l:List D,l.all E2=t_->y∈l->ED (Nk c v x m (zzB (Dz (FI c v x m now hv))) []).length [] y=y:=λl hl h=>Uf _ _ (mP (Ad.1 hl y h));rcases ho with rfl|rfl|rfl|rfl|rfl|rfl|rfl
 .exact N _ (SK v) E
 .exact N _ (WW x) E
 .exact N _ (qO m) E
 .dsimp only at E;rw[NI]at E;have hp:=Ad.1 (yu OO (p:=λd=>match d with|I _ _|V _|O _ _ _=>t_|_=>f_) (j:=O 0 [] t_) (λ_ _=>rfl) (λ_=>rfl) rfl) y E;cases y<;>first|rfl|cases hp
 .refine N _ ?_ E;rfl
 .simp only[IG,Yf,List.take,Av,Bc,AB,AM,zav]at E;rcases E with rfl|rfl|rfl|rfl|rfl|rfl|rfl<;>rfl
 .exact N _ (Yes c v x m now hv) E
def Uc(c:List Ins)(v:zIL)(x:Cse)(m:Mv)(now:Int)(hv:Et v)(h:Hq x)(h2:Gz m now)(h3:now<=x.dl){R:List D->St->D×Int×St->Prop}{pre:Ply->Unit->Prop}{F:Ply->Unit->Cse×Int×St}(N:Lc R)
  (af:∀r,Lj JC pre F [Y 6 0] (Nk c v x m (zzB (Dz (FI c v x m now hv))) []) r->R [Y 6 0] (Nk c v x m (zzB (Dz (FI c v x m now hv))) []) r) (hf:H7 m.kd Yf=s_ f)
  (hi:N8.i f=s_ (Fu R)) (hx:N8.x f=s_ (Ih R)) (hp:pre (FI c v x m now hv) ()) (hF:((F (FI c v x m now hv) ()).1,(F (FI c v x m now hv) ()).2.1)=Ho c v x m now) (a0:(Ho c v x m now).1.jn=x.jn):
  Qo c v x m now (.tup [DY (LB c v x m now),I J (Hr c v x m now)]):=by
 have e1:(F (FI c v x m now hv) ()).1=(Ho c v x m now).1:=congrArg Dl hF;have e2:(F (FI c v x m now hv) ()).2.1=(Ho c v x m now).2:=congrArg Dn hF;have hk:Iq (Nk c v x m (zzB (Dz (FI c v x m now hv))) []) 6 (FI c v x m now hv):=rfl;refine Yx8 (G:=(F (FI c v x m now hv) ()).2.2) (P':={FI c v x m now hv with x:=(F (FI c v x m now hv) ()).1}) c v x m now hv h h2 h3 hf hi hx ?_;have hE:=WQ (c:=c) (v:=v) h h2 h3;have hR:=af _ ⟨6,FI c v x m now hv,(),rfl,hk,hp,rfl,rfl⟩;rw[YF4]at hR
 by_cases E:(F (FI c v x m now hv) ()).2.1=0
 .refine .inl ⟨by rw[hE,<-e2,E],?_,rfl,λj=>?_,λo3 o4=>?_⟩
  .rw[E]at hR;exact oW N hR
  .rw[SJ (by rw[hE,<-e2,E]),<-e1]
  .rw[SJ (by rw[hE,<-e2,E]),a0]
   show DO _ (DZ x.jn)=_
   simp[DO,Jq]
 .refine .inr ⟨by rw[hE,<-e2];exact E,qa (by rw[hE,<-e2];exact E),oV N hR E,zzB (Dz {FI c v x m now hv with x:=(F (FI c v x m now hv) ()).1}),?_⟩;rw[hE,<-e2];exact qk N hR E
def Ydr(c:List Ins)(v:zIL)(x:Cse)(now:Int):(JD c v x now).1.jn=x.jn:=by
 unfold JD Gh
 repeat' split
 all_goals rfl
theorem Wd{c:List Ins}{v:zIL}{x:Cse}{m:Mv}{now:Int}(h:m.kd≠7)(hk:1<=m.kd/\m.kd<=7):(Ho c v x m now).1.jn=x.jn:=by
 unfold Ho
 split
 .unfold Ml
  split
  .split
   .dsimp only
    split
    .rfl
    split
    .exact Ydr ..
    split
    .rfl
    split<;>rfl
   .rfl
  .rfl
 split
 .unfold Rw
  split
  .split
   .split
    .rfl
    .exact Ydr ..
   .rfl
  .rfl
 split
 .unfold Pb
  split
  .split
   .split
    .split<;>rfl
    .rfl
   .dsimp only;generalize (if(G9 x m.pt).1<=(Hp x m.pt).1 then DQ else IA c v m.op)=E
    split
    .split
     .unfold Gh;split<;>rfl
     .rfl
    .rfl
  .rfl
 split
 .unfold UQ;split<;>rfl
 split
 .unfold UJ;split
  .rfl
  split<;>rfl
 split
 .unfold UE;split
  .grind
  .rfl
 .omega
def Qf:=DL (α:=List Ins×(zIL)×Cse×Mv×Int) (λa=>[O (nz 3 (a.1.map Dt)) (a.1.map Dt) f_,EO a.2.1,DY a.2.2.1,Kh a.2.2.2.1,I J a.2.2.2.2]) (λa=>a.1.length<=4294967296/\Et a.2.1/\a.2.2.2.1.op.top.length<=4294967295/\¬(a.2.2.2.1.pt=0/\a.2.2.1.ph=1/\a.2.2.2.1.kd=7)) (λa=>.tup [DY (LB a.1 a.2.1 a.2.2.1 a.2.2.2.1 a.2.2.2.2),I J (Hr a.1 a.2.1 a.2.2.1 a.2.2.2.1 a.2.2.2.2)])
def Zt(c:List Ins)(v:zIL)(x:Cse)(m:Mv)(now:Int)(h:c.length<=4294967296/\Et v/\m.op.top.length<=4294967295/\¬(m.pt=0/\x.ph=1/\m.kd=7)):Qf [O (nz 3 (c.map Dt)) (c.map Dt) f_,EO v,DY x,Kh m,I J now]=s_ (.tup [DY (LB c v x m now),I J (Hr c v x m now)]):=
 EL (λ⟨a0,a1,E,N,a4⟩⟨b0,b1,b2,b3,b4⟩h=>by simp only[Ab,D.slc.injEq,D.int.injEq,zal,zag,Lq,KJ,Wt,vg]at h;simp[h]) (c,v,x,m,now) h
theorem Ylm(c:List Ins)(v:zIL)(x:Cse)(m:Mv)(now:Int)(h:c.length<=4294967296/\Et v/\m.op.top.length<=4294967295/\¬(m.pt=0/\x.ph=1/\m.kd=7)):Qo c v x m now (.tup [DY (LB c v x m now),I J (Hr c v x m now)]):=by
 obtain⟨hc,hv,ht,hq⟩:=h
 by_cases N:Hq x
 .by_cases E:Gz m now
  .by_cases h3:now<=x.dl
   .have hn:Pa (FI c v x m now hv):=⟨E.2.1,E.2.2.1⟩;have cs:m.kd=1\/m.kd=2\/m.kd=3\/m.kd=4\/m.kd=5\/m.kd=6\/m.kd=7:=by have:=E.1;omega
    rcases cs with e|e|e|e|e|e|e
    .refine Uc (F:=VN) (pre:=MR) (f:=30) c v x m now hv N E h3 (Qd Om) (λr hr=>hr) (by rw[e];rfl) rfl rfl ⟨hc,hn⟩ ?_ (Wd zaa E.1);unfold Ho;rw[zae e];rfl
    .refine Uc (F:=VH) (pre:=jh) (f:=31) c v x m now hv N E h3 (Qd Om) (λr hr=>hr) (by rw[e];rfl) rfl rfl ⟨⟨hc,hn⟩,E.2.2.2⟩ ?_ (Wd zaa E.1);unfold Ho;rw[YYN,zae e];rfl
    .refine Uc (F:=Vn) (pre:=eQ) (f:=32) c v x m now hv N E h3 Yyl (λr hr=>⟨YF3 c v x m now hv,hr⟩) (by rw[e];rfl) rfl rfl ⟨hc,ht,E.2.2.2⟩ ?_ (Wd zaa E.1);unfold Ho;rw[YYN,YYN,zae e];rfl
    .refine Uc (F:=U7) (pre:=λ_ _=>True) (f:=33) c v x m now hv N E h3 (Qd Om) (λr hr=>hr) (by rw[e];rfl) rfl rfl trivial ?_ (Wd zaa E.1);unfold Ho;rw[YYN,YYN,YYN,zae e];rfl
    .refine Uc (F:=VJ) (pre:=λ_ _=>True) (f:=34) c v x m now hv N E h3 (Qd Om) (λr hr=>hr) (by rw[e];rfl) rfl rfl trivial ?_ (Wd zaa E.1);unfold Ho;rw[YYN,YYN,YYN,YYN,zae e];rfl
    .refine Uc (F:=VI) (pre:=λp _=>Pa p) (f:=35) c v x m now hv N E h3 (Qd Om) (λr hr=>hr) (by rw[e];rfl) rfl rfl hn ?_ (Wd zaa E.1);unfold Ho;rw[YYN,YYN,YYN,YYN,YYN,zae e];rfl
    .have ac:¬(m.pt=0/\x.ph=1):=λq=>hq ⟨q.1,q.2,e⟩
     have em:Ho c v x m now=(x,380):=by
      unfold Ho sG;grind
     refine Uc (F:=Vx) (pre:=gO) (f:=36) c v x m now hv N E h3 (Qd Om) (λr hr=>hr) (by rw[e];rfl) rfl rfl ac (by rw[em];rfl) (by rw[em])
   .have he:=yM4 (c:=c) (v:=v) N E h3;rw[qa (by rw[he];decide),he];exact Yev c v x m now hv N E h3
  .have he:=yU9 (c:=c) (v:=v) N E;rw[qa (by rw[he];decide),he];exact Yx7 c v x m now hv N E
 .have he:=yV (c:=c) (v:=v) (m:=m) (now:=now) N;rw[qa (by rw[he];decide),he];exact Yew c v x m now hv N
def uO:zCC 11 Qf:=
 yOv Us.2 Ywd ig (λa h=>Ylm a.1 a.2.1 a.2.2.1 a.2.2.2.1 a.2.2.2.2 h)
section
variable(x:Cse) (j:D) (r:List (Nat×Nat×D))
def YKa(k:Ky):Ec (DF x j) ((0,5,KB k)::r)=Ec (DF {x with key:=k} j) r:=KX (l:=Fp x j) (X:=Mf k) rfl rfl (Kn x j) rfl rfl rfl rfl
def fc_p(a b:Int):Ec (DF x j) ((5,2,U [I J a,I J b])::r)=Ec (DF {x with p0:=a,p1:=b} j) r:=KX (l:=Fp x j) (X:=[.c (I J a),.c (I J b)]) rfl rfl (Kn x j) rfl rfl rfl rfl
def iT(a:Int):Ec (DF x j) ((7,1,I J a)::r)=Ec (DF {x with ph:=a} j) r:=KX (l:=Fp x j) (X:=[.c (I J a)]) rfl rfl (Kn x j) rfl rfl rfl rfl
def iU(a:Int):Ec (DF x j) ((8,1,I J a)::r)=Ec (DF {x with dl:=a} j) r:=KX (l:=Fp x j) (X:=[.c (I J a)]) rfl rfl (Kn x j) rfl rfl rfl rfl
def fc_a(a b:Int):Ec (DF x j) ((9,2,U [I J a,I J b])::r)=Ec (DF {x with a0:=a,a1:=b} j) r:=KX (l:=Fp x j) (X:=[.c (I J a),.c (I J b)]) rfl rfl (Kn x j) rfl rfl rfl rfl
def fc_c(a b:Int×Dig):Ec (DF x j) ((11,66,U (K8 a b))::r)=Ec (DF {x with c0:=a,c1:=b} j) r:=KX (l:=Fp x j) (X:=[.c (I J a.1),.g a.2,.c (I J b.1),.g b.2]) rfl rfl (Kn x j) rfl (by simp[DC,ybI,yaZ,K8]) (by simp[DC,ybI,En]) (by simp[DC,ybI,IW,yaa])
def iS(a:Int):Ec (DF x j) ((275,1,I J a)::r)=Ec (DF {x with wn:=a} j) r:=KX (l:=Fp x j) (X:=[.c (I J a)]) rfl rfl (Kn x j) rfl rfl rfl rfl
def iV(a:Int):Ec (DF x j) ((277,1,I J a)::r)=Ec (DF {x with ct:=a} j) r:=KX (l:=Fp x j) (X:=[.c (I J a)]) rfl rfl (Kn x j) rfl rfl rfl rfl
theorem QN:Ec (DF x j) []=s_ (DF x j):=rfl
end
section
variable(x:Cse) (j:D) (sz:Nat)
end
theorem Yu3:QJ=K8 (0,DX) (0,DX):=rfl
def Yq4(a b:Int×Dig)(r:List (Nat×Nat×D))(m n:Int×Dig):Ec (K8 m n) ((0,33,U (I J a.1::Dr a.2))::(33,33,U (I J b.1::Dr b.2))::r)=Ec (K8 a b) r:=by
 refine(KX (l:=[.c (I J m.1),.g m.2,.c (I J n.1),.g n.2]) (A:=[]) (B:=[.c (I J m.1),.g m.2]) (C:=[.c (I J n.1),.g n.2]) (X:=[.c (I J a.1),.g a.2]) (by simp[DC,ybI,K8]) rfl trivial rfl (by simp[DC,ybI,yaZ]) (by simp[DC,ybI,En]) (by simp[DC,ybI,IW,yaa])).trans ?_;refine(KX (l:=[.c (I J a.1),.g a.2,.c (I J n.1),.g n.2]) (A:=[.c (I J a.1),.g a.2]) (B:=[.c (I J n.1),.g n.2]) (C:=[]) (X:=[.c (I J b.1),.g b.2]) rfl rfl trivial rfl (by simp[DC,ybI,yaZ]) (by simp[DC,ybI,En]) (by simp[DC,ybI,IW,yaa])).trans ?_
 congr 1
 simp[DC,ybI,K8]
theorem YBf(a b c d:Int):Ec [I J a,I J b] [(0,1,I J c),(1,1,I J d)]=s_ [I J c,I J d]:=rfl
theorem YBk(a b:Int×Dig):Ec (K8 a b) []=s_ (K8 a b):=rfl
def Q8(x:Cse):DM (U (DF x (O 0 [] t_)))=s_ (DF x (O 0 [] t_)):=by simp only[DM,yaZ,Qa x (j:=O 0 [] t_) rfl,zaj]
def Yao(st:St)(x:Cse):Ef st (DF x (O 0 [] t_))=s_ (DF x (O 0 [] f_)):=by have:=Zc st x (O 0 [] t_);simp only[D2,DO,Ae]at this;simp only[A8,D.agg.injEq]at this;obtain⟨a,E,rfl⟩:=this;exact E
def SM(st:St)(x:Cse)(h:x.jn=[]):D2 st (U (DF x (O 0 [] t_)))=s_ (DY x):=by rw[Zc,DY,h];rfl
def WA:=DL (α:=Ky×Int×Int×Int×(Int×Dig)×Int) (λa=>[KB a.1,I J a.2.1,I J a.2.2.1,I J a.2.2.2.1,U (I J (Dl a.2.2.2.2.1)::Dr (Dn a.2.2.2.2.1)),I J a.2.2.2.2.2]) (λa=>True) (λa=>.tup [DY (OK a.1 a.2.1 a.2.2.1 a.2.2.2.1 a.2.2.2.2.1 a.2.2.2.2.2),I J (Ie a.2.1 a.2.2.1 a.2.2.2.1 a.2.2.2.2.1 a.2.2.2.2.2)])
def yIb(k:Ky)(p:Int)(q:Int)(n:Int)(c:Int×Dig)(now:Int):WA [KB k,I J p,I J q,I J n,U (I J (Dl c)::Dr (Dn c)),I J now]=s_ (.tup [DY (OK k p q n c now),I J (Ie p q n c now)]):=
 EL (λ⟨a0,a1,E,N,a4,a5⟩⟨b0,b1,b2,b3,b4,b5⟩h=>by simp only[Ab,D.int.injEq,D.agg.injEq,Ng,zal,zag,vb]at h;simp[h,CJ]) (k,p,q,n,c,now) trivial
theorem Yvv(k:Ky)(p:Int)(q:Int)(n:Int)(c:Int×Dig)(now:Int):@wW GG (tb [(20,Zj)] []) mE.1.code (Du [KB k,I J p,I J q,I J n,U (I J (Dl c)::Dr (Dn c)),I J now]) [] ⟨DN mE.1.res (.tup [DY (OK k p q n c now),I J (Ie p q n c now)])⟩:=by
 obtain⟨s,g⟩:=c;have ca:=tX n;unfold mE;have e1:∀e,Ie p q n (s,g) now=e->e≠0->OK k p q n (s,g) now=OO:=λe h E=>by unfold OK;rw[h,zaf E]
 by_cases N:min p q<0
 .have e:Ie p q n (s,g) now=1:=by unfold Ie;rw[zae zaa]
  rw[e1 _ e zab,e];simp(disch:=first|omega|decide) only[push_cast,↓reduceIte,C3,C6,Da,QP,ML,Q8,NI,Q7,Gj,QN,SM,N]
 by_cases E:16<=max p q
 .have e:Ie p q n (s,g) now=1:=by unfold Ie;rw[zae zaa]
  rw[e1 _ e zab,e];simp(disch:=first|omega|decide) only[push_cast,↓reduceIte,C3,C6,Da,QP,ML,Q8,NI,Q7,Gj,QN,SM,N,E]
 by_cases h3:p=q
 .have e:Ie p q n (s,g) now=1:=by unfold Ie;rw[zae zaa]
  rw[e1 _ e zab,e];simp(disch:=first|omega|decide) only[push_cast,↓reduceIte,C3,C6,Da,QP,ML,Q8,NI,Q7,Gj,QN,SM,N,E,zap h3]
 by_cases h4:Ft n
 .simp only[h4,zah]at ca
  by_cases h5:now<0
  .have e:Ie p q n (s,g) now=1:=by unfold Ie;rw[zae zaa]
   rw[e1 _ e zab,e];simp(disch:=first|omega|decide) only[push_cast,↓reduceIte,C3,C6,Da,QP,ML,Q8,NI,Q7,Gj,QN,SM,ca,N,E,h3,h5]
  by_cases h6:1073741824<now
  .have e:Ie p q n (s,g) now=1:=by unfold Ie;rw[zae zaa]
   rw[e1 _ e zab,e];simp(disch:=first|omega|decide) only[push_cast,↓reduceIte,C3,C6,Da,QP,ML,Q8,NI,Q7,Gj,QN,SM,ca,N,E,h3,h5,h6]
  have eo:Ie p q n (s,g) now=if s<0\/65536<s then 381 else 0:=by
   unfold Ie;grind
  by_cases h7:s<0
  .have e:Ie p q n (s,g) now=381:=by rw[eo,zae (.inl h7)]
   rw[e1 _ e zab,e];simp(disch:=first|omega|decide) only[push_cast,↓reduceIte,C3,C6,Da,QP,ML,Q8,NI,Q7,Gj,QN,SM,ca,N,E,h3,h5,h6,h7]
  by_cases h8:65536<s
  .have e:Ie p q n (s,g) now=381:=by rw[eo,zae (.inr h8)]
   rw[e1 _ e zab,e];simp(disch:=first|omega|decide) only[push_cast,↓reduceIte,C3,C6,Da,QP,ML,Q8,NI,Q7,Gj,QN,SM,ca,N,E,h3,h5,h6,h7,h8]
  .have e:Ie p q n (s,g) now=0:=by rw[eo,YYN]
   have ec:OK k p q n (s,g) now=⟨k,p,q,1,now+1440,n,0,(s,g),(0,DX),GJ,-1,0,-1,[]⟩:=by unfold OK;rw[zae e]
   rw[ec,e];have f2:=Yq4 (s,g) (0,DX) [] (0,DX) (0,DX);simp(disch:=first|omega|decide) only[push_cast,↓reduceIte,C3,C6,Da,QP,ML,Q8,NI,Q7,Gj,QN,fP,ca,N,E,h3,h5,h6,h7,h8,Yu3,f2,YBk,YBf,D5,YKa,fc_p,iT,iU,fc_a,fc_c,iS,iV,Yao];rfl
 .simp only[h4,zai]at ca;have e:Ie p q n (s,g) now=1:=by unfold Ie;rw[zae (.inr (.inr (.inr (.inl h4))))]
  rw[e1 _ e zab,e];simp(disch:=first|omega|decide) only[push_cast,↓reduceIte,C3,C6,Da,QP,ML,Q8,NI,Q7,Gj,QN,SM,ca,N,E,h3]
def Yke:zCC 8 WA:=
 EM mE.2 (DP (all_cons wo all_nil) all_nil) (λa h=>Yvv a.1 a.2.1 a.2.2.1 a.2.2.2.1 a.2.2.2.2.1 a.2.2.2.2.2)
def xq(n:Nat)(σ:List Nat)(x:Cse):(DF x (DZ x.jn)).map (ED n σ)=DF x (DZ x.jn):=OW n σ (WW x)
def uU(x:Cse):(DF x (DZ x.jn)).flatMap hk=[]:=Qh (WW x)
def US:List D:=O 0 [] t_::(zI 17++(E1++[I J 0]))
def yL5:US.length=163:=by simp[US,zI,TS]
def Iw(x:Cse)(j:D):List D:=DF x j++US
def Vh(x:Cse)(j:D):List Sg:=Fp x j++[.w 163 US]
def QR(x:Cse)(j:D):Iw x j=DC (Vh x j):=by simp[Iw,Vh,NN,DC,ybI,DF]
def X8(x:Cse)(j:D):Lt (Vh x j):=⟨yL5,trivial⟩
section
variable(x:Cse) (j:D) (sz:Nat) (lent:Bool)
def YH0:DB (s_ ⟨f_,sz,Iw x j,lent⟩) 1 f_ 9=s_ (I J x.a0):=JK (QR x j) rfl (X8 x j)
def YHz:DB (s_ ⟨f_,sz,Iw x j,lent⟩) 1 f_ 10=s_ (I J x.a1):=JK (QR x j) rfl (X8 x j)
def qJ:DB (s_ ⟨f_,sz,Iw x j,lent⟩) 279 t_ 0=s_ (U (DF x j)):=LP (QR x j) rfl (X8 x j) rfl
def aQ(n:Int):DV (s_ ⟨f_,sz,Iw x j,f_⟩) 1 7 (I J n)=s_ ⟨f_,sz,Iw {x with ph:=n} j,f_⟩:=LS (X:=[.c (I J n)]) (QR x j) rfl (X8 x j) (QR _ j) rfl rfl rfl
def YFi(n:Int):DV (s_ ⟨f_,sz,Iw x j,f_⟩) 1 275 (I J n)=s_ ⟨f_,sz,Iw {x with wn:=n} j,f_⟩:=LS (X:=[.c (I J n)]) (QR x j) rfl (X8 x j) (QR _ j) rfl rfl rfl
def YFj(n:Int):DV (s_ ⟨f_,sz,Iw x j,f_⟩) 1 276 (I J n)=s_ ⟨f_,sz,Iw {x with am:=n} j,f_⟩:=LS (X:=[.c (I J n)]) (QR x j) rfl (X8 x j) (QR _ j) rfl rfl rfl
end
def Yx9{x:Cse}{i:D}(h:Iw x i=Iw y j):({x with jn:=[]}:Cse)={y with jn:=[]}/\i=j:=by unfold Iw at h;exact wX (Bb h ((NS x i).trans (NS y j).symm)).1
def zz{α:Type}(enc:α->List D)(pre:α->Prop)(F:Cse->α->Cse)(ds:List D)(st:St)(r:D×St):Prop:=∃(k:Nat)(x:Cse)(a:α),st[k]?=s_ (zzB (Iw x (DZ x.jn)))/\pre a/\ds=Y k 0::enc a/\r=(.tup [],D6 st k (Iw (F x a) (DZ x.jn)))
theorem Ys9{enc:α->List D}{pre:α->Prop}{F:Cse->α->Cse}(hi:∀a b,enc a=enc b->a=b):Jo (zz enc pre F):=by
 rintro ds st r r' ⟨k,x,a,hk,_,rfl,rfl⟩ ⟨k',N,a',E,_,h,rfl⟩;simp only[Ab,D.ptr.injEq,zag]at h;obtain⟨rfl,h⟩:=h;obtain rfl:=hi _ _ h;rw[hk]at E;simp only[AG,PI.Obj.mk.injEq,zal,zag]at E;obtain⟨h1,h2⟩:=Yx9 E;rw[wS]at h2
 have:x=N:=by
  obtain⟨xk,x0,x1,x2,x3,x4,x5,xc,xe,xb,x6,x7,x8,xj⟩:=x;simp_all
 grind
abbrev V0:=zz M0 (λ_=>True) (λx a=>LD x a.1 a.2)
abbrev Sb:=zz IP (λa=>a<=1) (λx a=>Gh x a)
def Yi4:zIC 66 (Gf V0):=by
 refine Kg (T:=tb [] []) n7.2 (DP all_nil all_nil) ?_;intro ds st r N;obtain⟨k,x,⟨w,a⟩,hk,_,rfl,rfl⟩:=Ku N;have E:k<st.length:=(Aa.1 hk).1;unfold n7
 push_cast(disch:=lia)[M0,LD,EA,hk,aQ,YFi,YFj,HX,Rd E,NR]
def yS5{x:Cse}(hk:st[k]?=s_ (zzB (Iw x (DZ x.jn))))(w a:Int):Gf V0 [Y k 0,I J w,I J a] st=s_ (.tup [],D6 st k (Iw (LD x w a) (DZ x.jn))):=
 NM (Ys9 yW3) ⟨k,x,(w,a),hk,trivial,rfl,rfl⟩
def Yrk:zIC 28 (Gf Sb):=by
 refine Kg (T:=tb [] [(66,Gf V0)]) nW.2 (DP all_nil (all_cons Yi4 all_nil)) ?_;intro ds st r hr;obtain⟨k,x,a,hk,ha,rfl,rfl⟩:=Ku hr;have E:=λw a=>yS5 hk w a;unfold nW
 by_cases N:a<0
 .push_cast(disch:=lia)[IP,Gh,N,E]
 .have h2:a=0\/a=1:=zaa
  rcases h2 with rfl|rfl
  .have e:Gh x 0=LD x 0 x.a0:=by unfold Gh OZ;rw[YYN,zae rfl]
   push_cast(disch:=lia)[IP,e,N,EA,hk,Ge,YH0,E]
  .have e:Gh x 1=LD x 1 x.a1:=by unfold Gh OZ;rw[YYN,YYN]
   push_cast(disch:=lia)[IP,e,N,EA,hk,Ge,YHz,E]
def Ybw{x:Cse}(hk:st[k]?=s_ (zzB (Iw x (DZ x.jn)))){a:Int}(E:a<=1):Gf Sb [Y k 0,I J a] st=s_ (.tup [],D6 st k (Iw (Gh x a) (DZ x.jn))):=
 NM (Ys9 wx) ⟨k,x,a,hk,E,rfl,rfl⟩
def qC(x:Cse):Ec Qw [(0,279,DY x)]=s_ (Iw x (DZ x.jn)):=by refine(KX (l:=[.w 279 GR,.w 163 US]) (A:=[]) (B:=[.w 279 GR]) (C:=[.w 163 US]) (X:=[.w 279 (DF x (DZ x.jn))]) (by simp[DC,ybI,Qw,US]) rfl ⟨Y6,yL5,trivial⟩ rfl (by simp[DC,ybI,DY,yaZ]) (by simp[DC,ybI,NS]) (by simp[DC,ybI];exact Ad.1 (Qa x (j:=DZ x.jn) rfl))).trans ?_;rfl
def pM(x:Cse):DM (U (Iw x (DZ x.jn)))=s_ (Iw x (DZ x.jn)):=by
 have h:(Iw x (DZ x.jn)).all yaa=t_:=by
  rw[Iw,Bo,Qa x (j:=DZ x.jn) rfl];rfl
 simp only[DM,yaZ,h,zaj]
theorem YIe(sz:Nat)(lent:Bool)(a b:Bool):DB (s_ ⟨f_,sz,[V a,V b],lent⟩) 1 f_ 1=s_ (V b):=rfl
abbrev yUj:zsF:=Gf Sb
theorem YI7(E o1:PI.Obj)(a b:Bool):D2 [E,o1,zzB [V a,V b]] (.bsl 2 0 2 1 f_)=s_ (O 1 [V a,V b] f_):=rfl
theorem ee:Sv 2 1 f_ (Y 2 0) n_ n_=s_ (.bsl 2 0 2 1 f_):=rfl
theorem ot:DM (U [V f_,V f_])=s_ [V f_,V f_]:=rfl
theorem sM(a b:Bool):DV (s_ (zzB [V f_,V f_])) 2 0 (U [V a,V b])=s_ (zzB [V a,V b]):=rfl
theorem Yt3(sz:Nat)(lent:Bool)(a b:Bool):DB (s_ ⟨f_,sz,[V a,V b],lent⟩) 1 f_ 0=s_ (V a):=rfl
def xT:=DL (α:=Cse×Int) (λa=>[DY a.1,I J a.2]) (λa=>True) (λa=>DY (Jr a.1 a.2))
def yH9(x:Cse)(now:Int):xT [DY x,I J now]=s_ (DY (Jr x now)):=
 EL (λ⟨a0,a1⟩⟨b0,b1⟩h=>by simp only[Ab,D.int.injEq,zal,zag,Wt]at h;simp[h]) (x,now) trivial
theorem Yvt(x:Cse)(now:Int):@wW GG (tb [(26,YV),(27,aN)] [(28,yUj)]) mG.1.code (Du [DY x,I J now]) [] ⟨DN mG.1.res (DY (Jr x now))⟩:=by
 have N:=Zu x;have a1:DV (s_ (zzB GR)) 279 0 (DY x)=s_ (zzB (DF x (DZ x.jn))):=WC x (DZ x.jn) rfl 1;unfold mG
 by_cases h1:Hq x
 .simp only[h1,zah]at N
  by_cases h2:now<=x.dl
  .have e:Jr x now=x:=zaf zaa;rw[e]
   push_cast(disch:=lia)[Gd,H8,Gj,Od,Hf,Gi,N,a1,h2]
  .have hw:IT x<=1:=by
    unfold IT;omega
   have e:Jr x now={Gh x (IT x)with ph:=6}:=zae ⟨h1,zaa⟩;have ej:(Gh x (IT x)).jn=x.jn:=by unfold Gh;split<;>rfl
   have e2:∀st,D2 st (U (DF {Gh x (IT x)with ph:=6} (DZ x.jn)))=s_ (DY (Jr x now)):=λst=>by
    rw[e,DY]
    show D2 st (U (DF {Gh x (IT x)with ph:=6} (DZ x.jn)))=s_ (U (DF {Gh x (IT x)with ph:=6} (DZ (Gh x (IT x)).jn)))
    rw[ej,Yhd]
   have e3:∀st,Option.map ybJ (Ef st (DF {Gh x (IT x)with ph:=6} (DZ x.jn)))=s_ (DY (Jr x now)):=e2
   have cr:∀o0 o1 o2:PI.Obj,Gf Sb [Y 3 0,I J (IT x)] [o0,o1,o2,zzB (Iw x (DZ x.jn))]=s_ (.tup [],[o0,o1,o2,zzB (Iw (Gh x (IT x)) (DZ x.jn))]):=λo0 o1 o2=>
    Ybw (st:=[o0,o1,o2,zzB (Iw x (DZ x.jn))]) (k:=3) rfl hw
   have E:=WC {Gh x (IT x)with ph:=6} (DZ x.jn) rfl 1
   by_cases h3:x.ph=1
   .have et:IT x=0:=zae h3;rw[et]at cr E e3
    push_cast(disch:=lia)[Gd,H8,Gj,GZ,Od,sw,Hf,Gi,N,h2,zap h3,ot,sM,qC,pM,EA,aQ,qJ,cr,E,e3,zah,zai]
   .by_cases h4:x.ph=2
    .have g4:=zap h4
     by_cases h5:x.b.t0=x.b.t1
     .have et:IT x=-1:=by unfold IT;rw[zaf h3,zaf (λq=>q.2 h5)]
      rw[et]at cr E e3;have g5:(x.b.t0==x.b.t1)=t_:=by simp[h5]
      push_cast(disch:=lia)[Gd,H8,Gj,GZ,Od,sw,Hf,Gi,N,h2,h3,g4,g5,ot,sM,Yt3,YIe,Ge,qC,pM,EA,aQ,qJ,cr,E,e3,zah,zai]
     .have et:IT x=if x.b.t0=t_ then 0 else 1:=by unfold IT;rw[zaf h3,zae ⟨h4,h5⟩]
      have g5:(x.b.t0==x.b.t1)=f_:=by simpa using h5
      have ci:=Yrw [x.b.t0,x.b.t1] t_ zac
      have ei:Lw t_ [x.b.t0,x.b.t1] 0=IT x:=by
       rw[et];cases q0:x.b.t0<;>cases q1:x.b.t1
       .grind
       .rfl
       .rfl
       .rfl
      rw[ei]at ci;have a4:aN [O 1 [V x.b.t0,V x.b.t1] f_,V t_]=s_ (I J (IT x)):=ci
      push_cast(disch:=lia)[Gd,H8,Gj,GZ,Od,sw,Hf,Gi,N,h2,h3,g4,g5,ee,YI7,a4,ot,sM,Yt3,YIe,Ge,qC,pM,EA,aQ,qJ,cr,E,e3,zah,zai]
    .have et:IT x=-1:=by unfold IT;rw[zaf h3,zaf (λq=>h4 q.1)]
     rw[et]at cr E e3
     push_cast(disch:=lia)[Gd,H8,Gj,GZ,Od,sw,Hf,Gi,N,h2,h3,h4,ot,sM,qC,pM,EA,aQ,qJ,cr,E,e3,zai]
 .simp only[h1,zai]at N;have e:Jr x now=x:=zaf (λq=>h1 q.1);rw[e]
  push_cast(disch:=lia)[Gd,H8,Gj,Hf,Gi,N,a1]
def YCq:zCC 10 xT:=
 EM (T:=tb [(26,YV),(27,aN)] [(28,yUj)]) mG.2 (DP (all_cons Ykb (all_cons jC all_nil)) (all_cons Yrk all_nil)) (λa h=>Yvt a.1 a.2)
def aK(st:St)(l:List Dig):D2 st (Fy l)=s_ (Fy l):=by simp only[Fy,D2,DO,Jq]
theorem u9(l:List Dig):keys (Fy l)=[]:=(rfl)
def Hb(c:Int×Dig):List D:=I J c.1::Dr c.2
def Yiw(c:Int×Dig):(Hb c).length=33:=by simp[Hb,En]
def yW8(c:Int×Dig):(Hb c).all yaa=t_:=by simp[Hb,IW,yaa]
def Yda(a b:Int×Dig):DV (s_ (zzB (Hb a))) 33 0 (U (Hb b))=s_ (zzB (Hb b)):=Hs 1 _ _ 33 (Yiw a) (Yiw b) (yW8 b)
def oN(a:Int×Dig)(lent:Bool):DB (s_ ⟨f_,1,Hb a,lent⟩) 33 t_ 0=s_ (U (Hb a)):=Is 1 lent _ 33 (Yiw a)
theorem OM(n:Int)(d:Dig):I J n::Dr d=Hb (n,d):=(rfl)
def br(st:St)(c:Int×Dig):D2 st (U (Hb c))=s_ (U (Hb c)):=SN st (d:=U (Hb c)) (by simp only[Hb,JE,AQ,MM];rfl)
def wQ(c:Int×Dig):keys (U (Hb c))=[]:=SU (d:=U (Hb c)) (by simp only[Hb,JE,AQ,MM];rfl)
def QX(c:Int×Dig):DM (U (Hb c))=s_ (Hb c):=by simp only[DM,yaZ,yW8,zaj]
def YY:=DL (α:=Der) (λa=>[EX a]) (λa=>Et a.env) (λa=>.tup [U (I J (Fg a.lv).1::Dr (Fg a.lv).2),I J (Jj a.lv)])
def yH1(d:Der)(h:Et d.env):YY [EX d]=s_ (.tup [U (I J (Fg d.lv).1::Dr (Fg d.lv).2),I J (Jj d.lv)]):=
 EL (λa b h=>by simp only[Ab,zag,YB]at h;simp[h]) (d) h
def Yvc(d:Der)(h:Et d.env):@wW GG (tb [(19,ru)] []) nJ.1.code (Du [EX d]) [] ⟨DN nJ.1.res (.tup [U (I J (Fg d.lv).1::Dr (Fg d.lv).2),I J (Jj d.lv)])⟩:=by have cm:ru [Fy d.lv]=_:=Yb0 d.lv;unfold nJ;simp(disch:=first|omega|decide) only[push_cast,↓reduceIte,C3,Of,TM h,aK,u9,cm,OM,QX,Yda,oN,br]
def Yj5:zCC 7 YY:=
 EM nJ.2 (DP (all_cons YCo all_nil) all_nil) (λa h=>Yvc a h)
def Pc(l:List Dig):Bool:=l.any λx=>decide (x=DQ)
def xJ:=DL (α:=Der) (λa=>[EX a]) (λa=>Et a.env/\a.lv.length<=4294967296) (λa=>V (Pc a.lv))
def Ybt(d:Der)(h:Et d.env/\d.lv.length<=4294967296):xJ [EX d]=s_ (V (Pc d.lv)):=
 EL (λa b h=>by simp only[Ab,zag,YB]at h;simp[h]) (d) h
def Yvb(d:Der)(h:Et d.env/\d.lv.length<=4294967296):@wW GG (tb [(18,Q3)] []) n9.1.code (Du [EX d]) [] ⟨DN n9.1.res (V (Pc d.lv))⟩:=by
 obtain⟨hv,hl⟩:=h;have cp:=T7;have a2:∀st,E0 st f_ (Fy d.lv)=s_ (I J (d.lv.length:Int)):=λst=>by simp[Fy,E0,Kk,FB]
 have a3:∀(st:St)(i:Nat)(h:i<d.lv.length),ER st 32 (Fy d.lv) (I J (i:Int))=s_ (.eptr (Ds d.lv[i]) 0):=λst i h=>by
  have a4:nz 32 (d.lv.map Ds)=32:=by unfold nz;rw[zaf];cases hw:d.lv<;>simp[hw]at h⊢
  have a5:0<=(i:Int):=zaa
  simp[Fy,ER,a4,FA,a5,h]
 have hp:∀(st:St)(x:Dig),Fa st 32 t_ (.eptr (Ds x) 0)=s_ (Ds x):=λst x=>by
  simp[Fa,Ds,yaZ,En,D.mk,AE]
 have bz:DM (U (Dr DX))=s_ (Dr DX):=by simp only[DM,yaZ,IW,zaj]
 have sz:∀(a b:Dig),DV (s_ (zzB (Dr a))) 32 0 (Ds b)=s_ (zzB (Dr b)):=λa b=>Hs 1 _ _ 32 (En a) (En b) (IW b);have lz:∀(a:Dig)(lent:Bool),DB (s_ ⟨f_,1,Dr a,lent⟩) 32 t_ 0=s_ (Ds a):=λa lent=>Is 1 lent _ 32 (En a);unfold n9
 push_cast(disch:=lia)[Of,TM hv,a2]
 have ab:hk (Fy d.lv)=[]:=rfl;have ac:(DH (D9 d.code) d.env d.am d.er (Fy d.lv)).all E2=t_:=kI d;have ad:(DH (D9 d.code) d.env d.am d.er (Fy d.lv)).flatMap hk=[]:=Qh ac;have ae:∀n σ,(DH (D9 d.code) d.env d.am d.er (Fy d.lv)).map (ED n σ)=DH (D9 d.code) d.env d.am d.er (Fy d.lv):=λn σ=>OW n σ ac;have af:∀n σ,ED n σ (Fy d.lv)=Fy d.lv:=λ_ _=>rfl;have h0:Pc d.lv=Pc (d.lv.drop 0):=rfl;rw[h0];generalize N:Pc (d.lv.drop 0)=r;refine Gn (λi:Nat=>[(6,Fy d.lv),(7,I J (d.lv.length:Int)),(8,I J (i:Int))]) (λ_=>[zzB (DH (D9 d.code) d.env d.am d.er (Fy d.lv))]) (λi=>i<=d.lv.length/\Pc (d.lv.drop i)=r) (λi=>d.lv.length-i) 0 (by push_cast [↓C5,ab,ad,af,ae]<;>rfl) ⟨AS _,N⟩ ?_;rintro i ⟨hi,N⟩
 by_cases h2:i<d.lv.length
 .have E:(i:Int)<d.lv.length:=zaa
  have hd:Pc (d.lv.drop i)=(decide (d.lv[i]=DQ)||Pc (d.lv.drop (i+1))):=by
   rw[BG h2];rfl
  have hx:=λst=>a3 st i h2;generalize d.lv[i]=x at hd hx;have ha:Jg Vu f_ (Ds x) (Ds DQ)=s_ (V (decide (x=DQ)!=f_)):=Ylf f_ x DQ
  by_cases h3:x=DQ
  .have:r=t_:=by rw[<-N,hd];simp[h3]
   subst this
   push_cast(disch:=lia)[E,hx,hp,sz,lz,cp,ha,zap h3,zah]
  .have:Pc (d.lv.drop (i+1))=r:=by rw[<-N,hd];simp[h3]
   push_cast(disch:=lia)[E,hx,hp,sz,lz,cp,ha,zaw h3,zai,D5]
   refine EV (i+1) ⟨h2,this⟩ zaa ?_
   push_cast [ab,ad,af,ae]<;>rfl
 .have E:¬(i:Int)<d.lv.length:=zaa
  have:r=f_:=by rw[<-N,List.drop_eq_nil_of_le zaa];rfl
  subst this
  push_cast(disch:=lia)[E]
def YCh:zCC 6 xJ:=
 EM n9.2 (DP (all_cons UU all_nil) all_nil) (λa h=>Yvb a h)
def LX:Ky:=⟨1,0,0,0,0⟩
def eh:Mv:=⟨4,0,0,(0,DX),DX,DX,⟨0,0,0,0,[],0,DX⟩,[],⟨0,0,0,0,0⟩⟩
def MS:Cse:=OK LX 0 1 5 (0,DX) 100
def xK:=DL (α:=Unit) (λ_=>[]) (λ_=>True) (λ_=>V t_)
def SP:xK []=s_ (V t_):=
 EL (λ_ _ _=>rfl) () trivial
def Yva:@wW GG (tb [(8,WA),(11,Qf),(12,WB)] []) oh.1.code (Du []) [] ⟨DN oh.1.res (V t_)⟩:=by
 have e1:Ie 0 1 5 (0,DX) 100=0:=zab
 have c1:WA [KB LX,I J 0,I J 1,I J 5,U (Hb (0,DX)),I J 100]=s_ (.tup [DY MS,I J 0]):=by
  have:=yIb LX 0 1 5 (0,DX) 100;rw[e1]at this;exact this
 have fk:Ec [I J 0,I J 0,I J 0,I J 0,I J 0] [(0,1,I J 1)]=s_ (Mg LX):=rfl;have ak:ybJ (Mg LX)=KB LX:=rfl;have N:∀x:Cse,DV (s_ (zzB GR)) 279 0 (DY x)=s_ (zzB (DF x (DZ x.jn))):=λx=>WC x (DZ x.jn) rfl 1;have aa:∀c:Int×Dig,Ec (Hb c) []=s_ (Hb c):=λ_=>rfl
 have E:MS=⟨LX,0,1,1,1540,5,0,(0,DX),(0,DX),GJ,-1,0,-1,[]⟩:=by
  rfl
 have hm:Ec E1 [(0,1,I J 4)]=s_ (I J 4::E1.tail):=rfl;have am:∀st,D2 st (U (I J 4::E1.tail))=s_ (Kh eh):=λ_=>rfl;have km:keys (U (I J 4::E1.tail))=[]:=rfl;have ab:Ec [I J 0,I J 0,I J 0,I J 0,I J 0,I J 0,I J 0,I J 0,I J 0,I J 0,I J 0,I J 0,I J 0,I J 0,I J 0,I J 0,I J 0] []=s_ (Eo Iy):=rfl;have ac:ybJ (Eo Iy)=EO Iy:=rfl;have e2:Hr [] Iy MS eh 101=0:=by rw[E];rfl
 have e3:LB [] Iy MS eh 101={MS with ph:=5,wn:=1}:=by rw[SJ e2,E];rfl
 have c2:Qf [O 0 [] f_,EO Iy,DY MS,Kh eh,I J 101]=s_ (.tup [DY {MS with ph:=5,wn:=1},I J 0]):=by
  have:=Zt [] Iy MS eh 101 ⟨zab,rfl,zab,zab⟩;rw[e2,e3]at this;exact this
 have p1:MS.ph=1:=by rw[E]
 have p2:MS.dl=1540:=by rw[E]
 have c3:WB [DY MS]=s_ (V f_):=by
  have:=tt MS;rw[zaz (by rw[E];decide)]at this;exact this
 have c4:WB [DY {MS with ph:=5,wn:=1}]=s_ (V t_):=by
  have:=tt {MS with ph:=5,wn:=1};rw[zba (.inr (.inl rfl))]at this;exact this
 obtain⟨y,hy,ae⟩:∃y:Cse,{MS with ph:=5,wn:=1}=y/\y.wn=1:=⟨_,rfl,rfl⟩;rw[hy]at c2 c4;unfold oh;simp(disch:=first|omega|decide) only[push_cast,↓reduceIte,C3,fk,ak,Yhc,uZ,OM,aa,br,wQ,c1,H8,N,ab,ac,hm,am,km,Gc,G2,Gi,I7,Gj,Hf,c2,GZ,p1,Od,p2,c3,c4,oR,ae]
def YCg:zCC 4 xK:=
 EM oh.2 (DP (all_cons Yke (all_cons uO (all_cons Ykc all_nil))) all_nil) (λa h=>Yva)
