/-
  court: a move of a party.
  Conditions: none; these are lemmas.
-/
import Derived.Test.YtijnglngaogdjaaGreatDoorMkQ
import Derived.Test.YtijnglngaogdjaaGreatDoorSha
import Derived.Test.YtijnglngaogdjaaGreatDoorEngHe
import Derived.Test.YtijnglngaogdjaaGreatDoorFnsJ
import Derived.KernelRfl
open Int renaming reduceNatCast'→CA,reduceNeg→Cz,reduceSub→CP
open List renaming replicate→CD
open Nat renaming reduceAdd→Cy,reduceBEq→CR,reduceEqDiff→Cx,reduceLT→CE,reduceLeDiff→CC,reduceMul→CB
open Prod renaming fst→CS,snd→CT
set_option linter.unusedVariables false
set_option linter.unusedSimpArgs false
namespace Go.Proofs.YtijnglngaogdjaaGreatDoor.PI
open Go
set_option linter.unusedSimpArgs false
set_option maxHeartbeats 8000000
set_option maxRecDepth 20000
set_option linter.unusedVariables false
def JZ(x:Bis):Bool:=if x.h<0 then false else if 16<x.h then false else if x.l<0 then false else if x.h<x.l then false else if 0≤x.i then(if x.i<2 ^ (x.h - x.l).toNat then decide (x.r=x.h - x.l)else false)else false
theorem aE{x:Bis}(h:JZ x=true):0≤x.h∧x.h≤16∧0≤x.l∧x.l≤x.h∧0≤x.i∧x.i<2 ^ (x.h - x.l).toNat∧x.r=x.h - x.l:=by
 unfold JZ at h
 split at h; · cases h
 split at h; · cases h
 split at h; · cases h
 split at h; · cases h
 split at h
 ·split at h
  ·exact⟨by omega,by omega,by omega,by omega,by assumption,by assumption,of_decide_eq_true h⟩
  ·cases h
 ·cases h
variable {k:Nat}
theorem yJh{i:Int}(E:0≤i):i / 2 ^ k=0↔i<2 ^ k:=by
 have I:(0:Int)<2 ^ k:=Int.pow_pos (by decide);constructor
 ·intro h;have:=Int.emod_lt_of_pos i I;have e:=Cc i (2 ^ k);rw[h]at e;omega
 ·intro h;exact Int.ediv_eq_zero_of_lt E h
noncomputable def Wn:List D→Option D:=Dc (α:=Bis) (fun a=>[DF a]) (fun a=>True) (fun a=>.bool (JZ a))
theorem aI(x:Bis):Wn [DF x]=some (.bool (JZ x)):=
 DW (fun a b h=>by simp only[Aa,and_true,V7]at h; simp[h]) (x) trivial
theorem Ycm(x:Bis):@wW GG (tb [] []) Xs.code (C3 [DF x]) [] ⟨Df Xs.res (.bool (JZ x))⟩:=by
 unfold Xs JZ
 by_cases E:x.h<0
 ·simp (disch:=first|omega|decide) only[push_cast,↓reduceIte,Cx,E]
 by_cases I:16<x.h
 ·simp (disch:=first|omega|decide) only[push_cast,↓reduceIte,Cx,E,I]
 by_cases J:x.l<0
 ·simp (disch:=first|omega|decide) only[push_cast,↓reduceIte,Cx,E,I,J]
 by_cases M:x.h<x.l
 ·simp (disch:=first|omega|decide) only[push_cast,↓reduceIte,Cx,E,I,J,M]
 by_cases N:0≤x.i
 ·have e:=yJh (k:=(x.h - x.l).toNat) N
  by_cases O:x.i<2 ^ (x.h - x.l).toNat
  ·simp (disch:=first|omega|decide) only[push_cast,↓reduceIte,Cx,E,I,J,M,N,O,Fa,gJ,e]
  ·simp (disch:=first|omega|decide) only[push_cast,↓reduceIte,Cx,E,I,J,M,N,O,Fa,gJ,e]
 ·simp (disch:=first|omega|decide) only[push_cast,↓reduceIte,Cx,E,I,J,M,N]
theorem lR:Contract Tryz.prog GG 77 Wn:=
 D8 tP (DA all_nil all_nil) (fun a h=>Ycm a)
theorem Yqq(n:Int)(h:0≤n∧n≤60):@wW GG (tb [(51,lC),(162,pU)] []) bD.code (C3 [.int .i64 n]) [] ⟨Df bD.res (CY (IQ n.toNat))⟩:=by
 obtain⟨I,J⟩:=h;unfold bD;simp (disch:=omega) only[push_cast,↓reduceIte,Cx,Ya2];refine Gy (fun i:Nat=>[(0,.int .i64 n),(2,.ptr 0 0),(3,.ptr 1 0),(4,.int .i64 (i:Int))]) (fun i=>[⟨false,1,CW Dl,false⟩,⟨false,1,CW (IQ i),false⟩]) (fun i=>(i:Int)≤n) (fun i=>(n - i).toNat) 0 (by simp only[push_cast,↓reduceIte,Cx,CE,CC,Cy,↓CA] <;> rfl) (by omega) ?_;intro i hi;unfold ka;simp (disch:=omega) only[push_cast,↓reduceIte,Cx];refine E4 (fun E=>?_) (fun E=>?_)
 ·simp (disch:=first|omega|decide) only[push_cast,↓reduceIte,Cx,CE,CC,Cy,yJy,DL];refine Fb (i+1) (by omega) (by omega) ?_;simp only[push_cast] <;> rfl
 ·have e:n.toNat=i:=by omega
  rw[e];simp (disch:=omega) only[push_cast,↓reduceIte,Cx,Cy,E]
def Fo(s:Int)(root:Dig):Nat→Dig
 |0=>root
 |j+1=>if Ei s≤(j:Int)then H7 (Fo s root j) (IQ j)else Fo s root j
noncomputable def al:List D→Option D:=Dc (α:=(Int×Dig)×Int) (fun a=>[.agg (.int .i64 (CS a.1)::CW (CT a.1)),.int .i64 a.2]) (fun a=>0≤a.2∧a.2≤60) (fun a=>CY (Fo a.1.1 a.1.2 a.2.toNat))
theorem iK(c:Int×Dig)(n:Int)(h:0≤n∧n≤60):al [.agg (.int .i64 (CS c)::CW (CT c)),.int .i64 n]=some (CY (Fo c.1 c.2 n.toNat)):=
 DW (fun⟨a0,a1⟩ ⟨b0,b1⟩ h=>by simp only[Aa,D.int.injEq,D.agg.injEq,NU,true_and,and_true]at h; simp[h,Cn]) (c,n) h
theorem yo(c:Int×Dig)(n:Int)(h:0≤n∧n≤60):@wW GG (tb [(20,Qb),(95,Sx),(25,QD)] []) Xu.code (C3 [.agg (.int .i64 (CS c)::CW (CT c)),.int .i64 n]) [] ⟨Df Xu.res (CY (Fo c.1 c.2 n.toNat))⟩:=by
 obtain⟨s,root⟩:=c;obtain⟨J,M⟩:=h;dsimp only;unfold Xu;simp (disch:=omega) only[push_cast,↓EC,↓reduceIte,Cx,CE,Cy,R7,JP,m5];refine Gy (fun i:Nat=>[(2,.ptr 0 0),(4,.ptr 1 0),(5,.ptr 2 0),(6,.ptr 3 0),(11,.int .i64 n),(12,.int .i64 (i:Int))]) (fun i=>[⟨false,1,.int .i64 s::CW root,false⟩,⟨false,1,CW Dl,false⟩,⟨false,1,CW (Fo s root i),false⟩,⟨false,1,CW (IQ i),false⟩]) (fun i=>(i:Int)≤n) (fun i=>(n - i).toNat) 0 (by simp only[push_cast,↓reduceIte,Cx,CE,CC,Cy,↓CA] <;> rfl) (by omega) ?_;intro i hi;unfold jJ;simp (disch:=omega) only[push_cast,↓reduceIte,Cx];refine E4 (fun I=>?_) (fun I=>?_)
 ·simp (disch:=first|omega|decide) only[push_cast,↓reduceIte,Cx,N9,P8,I];refine E4 (fun E=>?_) (fun E=>?_)
  ·simp (disch:=first|omega|decide) only[push_cast,↓reduceIte,Cx,CE,CC,Cy,Lp,DL,E];refine Fb (i+1) (by omega) (by omega) ?_;rw[show Fo s root (i+1)=H7 (Fo s root i) (IQ i)from if_pos E];simp only[push_cast] <;> rfl
  ·simp (disch:=first|omega|decide) only[push_cast,↓reduceIte,Cx,CE,CC,Cy,Lp,DL,E];refine Fb (i+1) (by omega) (by omega) ?_;rw[show Fo s root (i+1)=Fo s root i from if_neg E];simp only[push_cast] <;> rfl
 ·have e:n.toNat=i:=by omega
  rw[e];simp (disch:=omega) only[push_cast,↓reduceIte,Cx,Cy,I]
theorem Ybk:Contract Tryz.prog GG 76 al:=
 D8 ui (DA (all_cons Yg (all_cons fe (all_cons V8 all_nil))) all_nil) (fun a h=>yo a.1 a.2 h)
theorem Ea(st:St)(n sz key off:Nat)(k:IntKind)(i:Int)(E:0≤i)(I:i<(n:Int)):Iu st n sz (.ptr key off) (.int k i)=some (.ptr key (off+i.toNat*sz)):=by
 simp only[Iu,O0 k i E,EZ];rw[if_pos (by omega)]
def Mb(a b:Int×Dig):Bis:=⟨max (Ei a.1) (Ei b.1),max (Ei a.1) (Ei b.1),0,Fo a.1 a.2 (max (Ei a.1) (Ei b.1)).toNat,Fo b.1 b.2 (max (Ei a.1) (Ei b.1)).toNat,false,false,Dl,Dl,Dl,Dl,0⟩
def Kl(a b:Int×Dig):Bis:=if Ei a.1<0 then Gk else if Ei b.1<0 then Gk else if(Mb a b).n0=(Mb a b).n1 then Gk else Mb a b
def G3(a b:Int×Dig):Int:=if Ei a.1<0 then 1 else if Ei b.1<0 then 1 else if(Mb a b).n0=(Mb a b).n1 then 380 else 0
theorem Xf(n:Int):-1≤Ei n∧Ei n≤16:=by
 by_cases h:n<0∨65536<n
 ·rw[Sp h]; omega
 ·have:=fl (n:=n) (by omega) (by omega);omega
noncomputable def N3:List D→Option D:=Dc (α:=(Int×Dig)×(Int×Dig)) (fun a=>[.agg (.int .i64 (CS a.1)::CW (CT a.1)),.agg (.int .i64 (CS a.2)::CW (CT a.2))]) (fun a=>True) (fun a=>.tup [DF (Kl a.1 a.2),.int .i64 (G3 a.1 a.2)])
theorem aH(a:Int×Dig)(b:Int×Dig):N3 [.agg (.int .i64 (CS a)::CW (CT a)),.agg (.int .i64 (CS b)::CW (CT b))]=some (.tup [DF (Kl a b),.int .i64 (G3 a b)]):=
 DW (fun⟨a0,a1⟩ ⟨b0,b1⟩ h=>by simp only[Aa,D.int.injEq,D.agg.injEq,NU,true_and,and_true]at h; simp[h,Cn]) (a,b) trivial
set_option maxHeartbeats 4000000 in
set_option maxRecDepth 20000 in
theorem Ycp(a:Int×Dig)(b:Int×Dig):@wW GG (tb [(25,QD),(76,al)] []) Xr.code (C3 [.agg (.int .i64 (CS a)::CW (CT a)),.agg (.int .i64 (CS b)::CW (CT b))]) [] ⟨Df Xr.res (.tup [DF (Kl a b),.int .i64 (G3 a b)])⟩:=by
 obtain⟨s1,r1⟩:=a;obtain⟨s2,E⟩:=b;have d1:=Xf s1;have d2:=Xf s2;unfold Xr Kl G3;dsimp only
 by_cases I:Ei s1<0
 ·simp (disch:=first|omega|decide) only[push_cast,↓reduceIte,Cx,Cy,JP,P8,N9,I]
 by_cases J:Ei s2<0
 ·simp (disch:=first|omega|decide) only[push_cast,↓reduceIte,Cx,Cy,JP,P8,N9,I,J]
 have c1:=iK (s1,r1) (max (Ei s1) (Ei s2)) ⟨by omega,by omega⟩;have M:=iK (s2,E) (max (Ei s1) (Ei s2)) ⟨by omega,by omega⟩;dsimp only at c1 M;have O:(Mb (s1,r1) (s2,E)).n0=Fo s1 r1 (max (Ei s1) (Ei s2)).toNat:=rfl;have U:(Mb (s1,r1) (s2,E)).n1=Fo s2 E (max (Ei s1) (Ei s2)).toNat:=rfl;have V:Mb (s1,r1) (s2,E)={Gk with h:=max (Ei s1) (Ei s2),l:=max (Ei s1) (Ei s2),n0:=Fo s1 r1 (max (Ei s1) (Ei s2)).toNat,n1:=Fo s2 E (max (Ei s1) (Ei s2)).toNat}:=rfl;rw[O,U,V];generalize Fo s1 r1 (max (Ei s1) (Ei s2)).toNat=p1 at*;generalize Fo s2 E (max (Ei s1) (Ei s2)).toNat=Y at*
 by_cases N:p1=Y
 ·simp (disch:=first|omega|decide) only[push_cast,↓reduceIte,Cx,Cy,CB,JP,P8,WA,N9,I,J,c1,M,N,M3,Ea]
 ·simp (disch:=first|omega|decide) only[push_cast,↓reduceIte,Cx,Cy,CB,JP,P8,WA,N9,I,J,c1,M,N,M3,Ea]
theorem dF:Contract Tryz.prog GG 26 N3:=
 D8 tO (DA (all_cons V8 (all_cons Ybk all_nil)) all_nil) (fun a h=>Ycp a.1 a.2)
def gP(x:Bis)(p:Int):Bool:=if p=0 then x.t0 else x.t1
def QW(x:Bis)(p:Int):Dig:=if p=0 then x.n0 else x.n1
def Il(x:Bis)(p:Int)(l r:Dig):Bis:=if p=0 then {x with t0:=true,l0:=l,r0:=r} else {x with t1:=true,l1:=l,r1:=r}
def SV(x:Bis):Bis:=if x.l0=x.l1 then {Gk with h:=x.h,l:=x.l - 1,i:=2*x.i+1,n0:=x.r0,n1:=x.r1,r:=x.r+1} else {Gk with h:=x.h,l:=x.l - 1,i:=2*x.i,n0:=x.l0,n1:=x.l1,r:=x.r+1}
def Fu(x:Bis)(p:Int)(l r:Dig):Bis:=if JZ x=true∧(p=0∨p=1)then(if x.l=0∨gP x p=true then Gk else if H7 l r=QW x p then(if gP x (1 - p)=true then SV (Il x p l r)else Il x p l r)else Gk)else Gk
def FX(x:Bis)(p:Int)(l r:Dig):Int:=if JZ x=true∧(p=0∨p=1)then(if x.l=0∨gP x p=true then 380 else if H7 l r=QW x p then 0 else 381)else 1
theorem kR{x:Bis}(h:JZ x=true):x.i<65536:=by
 obtain⟨a,b,c,d,e,f,g⟩:=aE h;have:=eO (a:=(x.h - x.l).toNat) (b:=16) (by omega);omega
noncomputable def eH:List D→Option D:=Dc (α:=Bis×Int×Dig×Dig) (fun a=>[DF a.1,.int .i64 a.2.1,CY a.2.2.1,CY a.2.2.2]) (fun a=>-9223372036854775808≤a.2.1∧a.2.1<9223372036854775808) (fun a=>.tup [DF (Fu a.1 a.2.1 a.2.2.1 a.2.2.2),.int .i64 (FX a.1 a.2.1 a.2.2.1 a.2.2.2)])
theorem zq(x:Bis)(p:Int)(l:Dig)(r:Dig)(h:-9223372036854775808≤p∧p<9223372036854775808):eH [DF x,.int .i64 p,CY l,CY r]=some (.tup [DF (Fu x p l r),.int .i64 (FX x p l r)]):=
 DW (fun⟨a0,a1,E,I⟩ ⟨b0,b1,J,M⟩ h=>by simp only[Aa,D.int.injEq,Mk,true_and,and_true,V7]at h; simp[h]) (x,p,l,r) h
set_option maxHeartbeats 4000000 in
set_option maxRecDepth 20000 in
theorem Yks(x:Bis)(p:Int)(l:Dig)(r:Dig)(h:-9223372036854775808≤p∧p<9223372036854775808):@wW GG (tb [(77,Wn),(95,Sx)] []) XS.code (C3 [DF x,.int .i64 p,CY l,CY r]) [] ⟨Df XS.res (.tup [DF (Fu x p l r),.int .i64 (FX x p l r)])⟩:=by
 unfold XS
 by_cases hv:JZ x=true
 ·have O:=aI x;rw[hv]at O
  by_cases hp:p=0∨p=1
  ·obtain⟨v1,v2,v3,v4,v5,v6,v7⟩:=aE hv;have v8:=kR hv;rcases hp with rfl | rfl
   ·have Y:¬ (1:Int)=0:=by decide
    by_cases E:x.l=0
    ·have I:Fu x 0 l r=Gk:=by unfold Fu; rw[if_pos ⟨hv,.inl rfl⟩,if_pos (.inl E)]
     have J:FX x 0 l r=380:=by unfold FX; rw[if_pos ⟨hv,.inl rfl⟩,if_pos (.inl E)]
     rw[I,J];simp (disch:=first|omega|decide) only[push_cast,↓reduceIte,Cx,Cy,O,E]
    by_cases M:x.t0=true
    ·have I:Fu x 0 l r=Gk:=by unfold Fu; rw[if_pos ⟨hv,.inl rfl⟩,if_pos (.inr M)]
     have J:FX x 0 l r=380:=by unfold FX; rw[if_pos ⟨hv,.inl rfl⟩,if_pos (.inr M)]
     rw[I,J];simp (disch:=first|omega|decide) only[push_cast,↓reduceIte,Cx,Cy,CB,O,E,M,Ea]
    have U:x.t0=false:=by simpa using M
    by_cases N:H7 l r=x.n0
    ·by_cases V:x.t1=true
     ·have I:Fu x 0 l r=SV (Il x 0 l r):=by unfold Fu; rw[if_pos ⟨hv,.inl rfl⟩,if_neg (by intro h; rcases h with h | h; exact E h; exact M h),if_pos (show H7 l r=QW x 0 from N)]; exact if_pos V
      have J:FX x 0 l r=0:=by unfold FX; rw[if_pos ⟨hv,.inl rfl⟩,if_neg (by intro h; rcases h with h | h; exact E h; exact M h)]; exact if_pos N
      rw[I,J,show Il x 0 l r={x with t0:=true,l0:=l,r0:=r} from rfl];unfold SV
      by_cases h5:l=x.l1
      ·simp (disch:=first|omega|decide) only[push_cast,↓EC,↓reduceIte,Cx,Cy,CB,CR,CP,O,E,U,N,V,← h5,Ea,Lp,Fa,Mw,DL,M3]
      ·simp (disch:=first|omega|decide) only[push_cast,↓EC,↓reduceIte,Cx,Cy,CB,CR,CP,O,E,U,N,V,h5,Ea,Lp,Fa,Mw,DL,M3]
     ·have ac:x.t1=false:=by simpa using V
      have I:Fu x 0 l r=Il x 0 l r:=by unfold Fu; rw[if_pos ⟨hv,.inl rfl⟩,if_neg (by intro h; rcases h with h | h; exact E h; exact M h),if_pos (show H7 l r=QW x 0 from N)]; exact if_neg V
      have J:FX x 0 l r=0:=by unfold FX; rw[if_pos ⟨hv,.inl rfl⟩,if_neg (by intro h; rcases h with h | h; exact E h; exact M h)]; exact if_pos N
      rw[I,J,show Il x 0 l r={x with t0:=true,l0:=l,r0:=r} from rfl];simp (disch:=first|omega|decide) only[push_cast,↓EC,↓reduceIte,Cx,Cy,CB,CR,CP,O,E,U,N,ac,Ea,Lp,Fa]
    ·have I:Fu x 0 l r=Gk:=by unfold Fu; rw[if_pos ⟨hv,.inl rfl⟩,if_neg (by intro h; rcases h with h | h; exact E h; exact M h)]; exact if_neg N
     have J:FX x 0 l r=381:=by unfold FX; rw[if_pos ⟨hv,.inl rfl⟩,if_neg (by intro h; rcases h with h | h; exact E h; exact M h)]; exact if_neg N
     rw[I,J];simp (disch:=first|omega|decide) only[push_cast,↓reduceIte,Cx,Cy,CB,O,E,U,N,Ea,Lp]
   ·have Y:¬ (1:Int)=0:=by decide
    by_cases E:x.l=0
    ·have I:Fu x 1 l r=Gk:=by unfold Fu; rw[if_pos ⟨hv,.inr rfl⟩,if_pos (.inl E)]
     have J:FX x 1 l r=380:=by unfold FX; rw[if_pos ⟨hv,.inr rfl⟩,if_pos (.inl E)]
     rw[I,J];simp (disch:=first|omega|decide) only[push_cast,↓reduceIte,Cx,Cy,O,E,Y]
    by_cases M:x.t1=true
    ·have I:Fu x 1 l r=Gk:=by unfold Fu; rw[if_pos ⟨hv,.inr rfl⟩,if_pos (.inr M)]
     have J:FX x 1 l r=380:=by unfold FX; rw[if_pos ⟨hv,.inr rfl⟩,if_pos (.inr M)]
     rw[I,J];simp (disch:=first|omega|decide) only[push_cast,↓reduceIte,Cx,Cy,CB,O,E,M,Y,Ea]
    have U:x.t1=false:=by simpa using M
    by_cases N:H7 l r=x.n1
    ·by_cases V:x.t0=true
     ·have I:Fu x 1 l r=SV (Il x 1 l r):=by unfold Fu; rw[if_pos ⟨hv,.inr rfl⟩,if_neg (by intro h; rcases h with h | h; exact E h; exact M h),if_pos (show H7 l r=QW x 1 from N)]; exact if_pos V
      have J:FX x 1 l r=0:=by unfold FX; rw[if_pos ⟨hv,.inr rfl⟩,if_neg (by intro h; rcases h with h | h; exact E h; exact M h)]; exact if_pos N
      rw[I,J,show Il x 1 l r={x with t1:=true,l1:=l,r1:=r} from rfl];unfold SV
      by_cases h5:l=x.l0
      ·simp (disch:=first|omega|decide) only[push_cast,↓EC,↓reduceIte,Cx,Cy,CB,CR,CP,O,E,U,N,V,Y,← h5,Ea,Lp,Fa,Mw,DL,M3]
      ·have h6:¬ x.l0=l:=fun h=>h5 h.symm;simp (disch:=first|omega|decide) only[push_cast,↓EC,↓reduceIte,Cx,Cy,CB,CR,CP,O,E,U,N,V,h5,h6,Y,Ea,Lp,Fa,Mw,DL,M3]
     ·have ac:x.t0=false:=by simpa using V
      have I:Fu x 1 l r=Il x 1 l r:=by unfold Fu; rw[if_pos ⟨hv,.inr rfl⟩,if_neg (by intro h; rcases h with h | h; exact E h; exact M h),if_pos (show H7 l r=QW x 1 from N)]; exact if_neg V
      have J:FX x 1 l r=0:=by unfold FX; rw[if_pos ⟨hv,.inr rfl⟩,if_neg (by intro h; rcases h with h | h; exact E h; exact M h)]; exact if_pos N
      rw[I,J,show Il x 1 l r={x with t1:=true,l1:=l,r1:=r} from rfl];simp (disch:=first|omega|decide) only[push_cast,↓EC,↓reduceIte,Cx,Cy,CB,CR,CP,O,E,U,N,ac,Y,Ea,Lp,Fa]
    ·have I:Fu x 1 l r=Gk:=by unfold Fu; rw[if_pos ⟨hv,.inr rfl⟩,if_neg (by intro h; rcases h with h | h; exact E h; exact M h)]; exact if_neg N
     have J:FX x 1 l r=381:=by unfold FX; rw[if_pos ⟨hv,.inr rfl⟩,if_neg (by intro h; rcases h with h | h; exact E h; exact M h)]; exact if_neg N
     rw[I,J];simp (disch:=first|omega|decide) only[push_cast,↓reduceIte,Cx,Cy,CB,O,E,U,N,Y,Ea,Lp]
  ·have I:Fu x p l r=Gk:=by unfold Fu; exact if_neg fun h=>hp h.2
   have J:FX x p l r=1:=by unfold FX; exact if_neg fun h=>hp h.2
   have p0:¬ p=0:=fun h=>hp (.inl h);have p1:¬ p=1:=fun h=>hp (.inr h);rw[I,J];simp (disch:=first|omega|decide) only[push_cast,↓reduceIte,Cx,Cy,O,p0,p1]
 ·have ad:JZ x=false:=by simpa using hv
  have O:=aI x;rw[ad]at O;have I:Fu x p l r=Gk:=by unfold Fu; exact if_neg fun h=>hv h.1
  have J:FX x p l r=1:=by unfold FX; exact if_neg fun h=>hv h.1
  rw[I,J];simp (disch:=first|omega|decide) only[push_cast,↓reduceIte,Cx,Cy,O]
theorem Ypu:Contract Tryz.prog GG 122 eH:=
 D8 uy (DA (all_cons lR (all_cons fe all_nil)) all_nil) (fun a h=>Yks a.1 a.2.1 a.2.2.1 a.2.2.2 h)
noncomputable def Ydj:List D→Option D:=Dc (α:=Bis×Int×Dig×Dig) (fun a=>[DF a.1,.int .i64 a.2.1,CY a.2.2.1,CY a.2.2.2]) (fun a=>-9223372036854775808≤a.2.1∧a.2.1<9223372036854775808) (fun a=>.tup [DF (Fu a.1 a.2.1 a.2.2.1 a.2.2.2),.int .i64 (FX a.1 a.2.1 a.2.2.1 a.2.2.2)])
theorem Yqs(x:Bis)(p:Int)(l:Dig)(r:Dig)(h:-9223372036854775808≤p∧p<9223372036854775808):Ydj [DF x,.int .i64 p,CY l,CY r]=some (.tup [DF (Fu x p l r),.int .i64 (FX x p l r)]):=
 DW (fun⟨a0,a1,E,I⟩ ⟨b0,b1,J,M⟩ h=>by simp only[Aa,D.int.injEq,Mk,true_and,and_true,V7]at h; simp[h]) (x,p,l,r) h
theorem Ie(st:St)(a b:Dig):DM st (EA a b)=some (EA a b):=QK st (nO a b)
def Ld(x:Bis):Bool:=JZ x && decide (x.l≤0)
def KA(x:Bis):Int:=if Ld x=true then x.i else 0
def HY(x:Bis):Dig:=if Ld x=true then x.n0 else Dl
def HZ(x:Bis):Dig:=if Ld x=true then x.n1 else Dl
noncomputable def RU:List D→Option D:=Dc (α:=Bis) (fun a=>[DF a]) (fun a=>True) (fun a=>.tup [.int .i64 (KA a),.agg (EA (HY a) (HZ a)),.bool (Ld a)])
theorem Wt(x:Bis):RU [DF x]=some (.tup [.int .i64 (KA x),.agg (EA (HY x) (HZ x)),.bool (Ld x)]):=
 DW (fun a b h=>by simp only[Aa,and_true,V7]at h; simp[h]) (x) trivial
set_option maxHeartbeats 4000000 in
set_option maxRecDepth 20000 in
theorem Ykr(x:Bis):@wW GG (tb [(77,Wn)] []) Xn.code (C3 [DF x]) [] ⟨Df Xn.res (.tup [.int .i64 (KA x),.agg (EA (HY x) (HZ x)),.bool (Ld x)])⟩:=by
 have E:=aI x;unfold Xn KA HY HZ Ld
 by_cases hv:JZ x=true
 ·rw[hv]at E ⊢
  by_cases J:0<x.l
  ·have I:¬ x.l≤0:=by omega
   simp (disch:=first|omega|decide) only[push_cast,↓reduceIte,Cx,Ie,E,J,I]
  ·have I:x.l≤0:=by omega
   simp (disch:=first|omega|decide) only[push_cast,↓reduceIte,Cx,Ie,E,J,I]
 ·have M:JZ x=false:=by simpa using hv
  rw[M]at E ⊢;simp (disch:=first|omega|decide) only[push_cast,↓reduceIte,Cx,Ie,E]
theorem cu:Contract Tryz.prog GG 88 RU:=
 D8 yBf (DA (all_cons lR all_nil) all_nil) (fun a h=>Ykr a)
structure Ky where
 kd:Int
 wg:Int
 rr:Int
 rn:Int
 pt:Int
 deriving DecidableEq,Inhabited
def Hk(k:Ky):List D:=[.int .i64 k.kd,.int .i64 k.wg,.int .i64 k.rr,.int .i64 k.rn,.int .i64 k.pt]
def DG(k:Ky):D:=.agg (Hk k)
abbrev Dg(l:List Ky):D:=.slc (nz 5 (l.map DG)) (l.map DG) false
theorem kO{a b:Ky}:Hk a=Hk b↔a=b:=by
 refine⟨fun h=>?_,fun h=>by rw[h]⟩;obtain⟨a1,E,I,J,M⟩:=a;obtain⟨b1,N,O,U,V⟩:=b;simp only[Hk,Aa,D.int.injEq,true_and,and_true]at h;obtain⟨rfl,rfl,rfl,rfl,rfl⟩:=h;rfl
theorem YQ{a b:Ky}:DG a=DG b↔a=b:=by simp only[DG,D.agg.injEq,kO]
variable {a b:List Ky}
theorem YR:a.map DG=b.map DG↔a=b:=by
 refine⟨fun h=>?_,fun h=>by rw[h]⟩
 induction a generalizing b with
 |nil=>cases b with
  |nil=>rfl
  |cons y b=>simp at h
 |cons x a E=>cases b with
  |nil=>simp at h
  |cons y b=>
   simp only[Ax,Aa,YQ]at h;rw[h.1,E h.2]
theorem VQ:Dg a=Dg b↔a=b:=by
 simp only[Dg,D.slc.injEq,and_true,YR];exact⟨fun h=>h.2,fun h=>⟨by rw[h],h⟩⟩
theorem Yb0{a b:List Bool}:a.map D.bool=b.map D.bool↔a=b:=by
 refine⟨fun h=>?_,fun h=>by rw[h]⟩
 induction a generalizing b with
 |nil=>cases b with
  |nil=>rfl
  |cons y b=>simp at h
 |cons x a E=>cases b with
  |nil=>simp at h
  |cons y b=>
   simp only[Ax,Aa,D.bool.injEq]at h;rw[h.1,E h.2]
structure Cse where
 key:Ky
 p0:Int
 p1:Int
 ph:Int
 dl:Int
 a0:Int
 a1:Int
 c0:Int×Dig
 c1:Int×Dig
 b:Bis
 wn:Int
 am:Int
 ct:Int
 jn:List Ky
 deriving DecidableEq
def IW(x:Bis):List Sg:=[.c (.int .i64 x.h),.c (.int .i64 x.l),.c (.int .i64 x.i),.g x.n0,.g x.n1,.c (.bool x.t0),.c (.bool x.t1),.g x.l0,.g x.l1,.g x.r0,.g x.r1,.c (.int .i64 x.r)]
theorem OG(x:Bis):C7 (IW x)=C8 x:=by simp[C7,IW,C8,Sg.cs]
def Jy(k:Ky):List Sg:=[.c (.int .i64 k.kd),.c (.int .i64 k.wg),.c (.int .i64 k.rr),.c (.int .i64 k.rn),.c (.int .i64 k.pt)]
theorem bH(k:Ky):C7 (Jy k)=Hk k:=rfl
def DO(x:Cse)(j:D):List Sg:=Jy x.key++[.c (.int .i64 x.p0),.c (.int .i64 x.p1),.c (.int .i64 x.ph),.c (.int .i64 x.dl),.c (.int .i64 x.a0),.c (.int .i64 x.a1),.c (.int .i64 x.c0.1),.g x.c0.2,.c (.int .i64 x.c1.1),.g x.c1.2]++IW x.b++[.c (.int .i64 x.wn),.c (.int .i64 x.am),.c (.int .i64 x.ct),.c j]
def C6(x:Cse)(j:D):List D:=C7 (DO x j)
def Db(x:Cse):D:=.agg (C6 x (Dg x.jn))
theorem Gb(x:Cse)(j:D):Jn (DO x j):=trivial
theorem LN(x:Cse)(j:D):(C6 x j).length=279:=by
 rw[C6,M5 (Gb x j)]; simp[HR,DO,Jy,IW,Sg.sz]
variable {j:D}
theorem dW{x y:Cse}{i:D}(h:C6 x i=C6 y j):({x with jn:=[]}:Cse)={y with jn:=[]}∧i=j:=by
 obtain⟨J,x0,x1,x2,x3,x4,x5,M,N,xb,x6,x7,x8,xj⟩:=x;obtain⟨O,y0,y1,y2,y3,y4,y5,U,V,yb,y6,y7,y8,yj⟩:=y;obtain⟨a2,a3,a4,a5,a6⟩:=J;obtain⟨a7,a8,a9,ba,bb⟩:=O;obtain⟨bc,bd⟩:=M;obtain⟨be,bf⟩:=N;obtain⟨bg,bh⟩:=U;obtain⟨b1,b2⟩:=V;simp only[C6,DO,Jy,Ae,Ai,C7,Sg.cs,Ku,OG,Aa,D.int.injEq,true_and,Ad]at h;obtain⟨rfl,rfl,rfl,rfl,rfl,rfl,rfl,rfl,rfl,rfl,rfl,rfl,h⟩:=h;obtain⟨Y,E⟩:=A2 h (by simp[DH]);clear h;simp only[Aa,D.int.injEq,true_and]at E;obtain⟨q1,h3⟩:=E;obtain⟨h4,h5⟩:=A2 h3 (by simp[DH]);obtain⟨h6,I⟩:=A2 h5 (by simp[SD]);simp only[Aa,D.int.injEq,true_and,and_true]at I;obtain⟨q2,q3,q4,q5⟩:=I;subst q1 q2 q3 q4 q5;obtain rfl:=Ll Y;obtain rfl:=Ll h4;obtain rfl:=lO h6;exact⟨rfl,rfl⟩
theorem M0{x y:Cse}:Db x=Db y↔x=y:=by
 refine⟨fun h=>?_,fun h=>by rw[h]⟩;simp only[Db,D.agg.injEq]at h;obtain⟨E,I⟩:=dW h;rw[VQ]at I;obtain⟨J,M,N,O,U,V,Y,xc,xe,xb,x6,x7,x8,xj⟩:=x;obtain⟨yk,y0,y1,y2,y3,y4,y5,yc,ye,yb,y6,y7,y8,yj⟩:=y;simp only[Cse.mk.injEq,and_true]at E I ⊢;exact⟨E.1,E.2.1,E.2.2.1,E.2.2.2.1,E.2.2.2.2.1,E.2.2.2.2.2.1,E.2.2.2.2.2.2.1,E.2.2.2.2.2.2.2.1,E.2.2.2.2.2.2.2.2.1,E.2.2.2.2.2.2.2.2.2.1,E.2.2.2.2.2.2.2.2.2.2.1,E.2.2.2.2.2.2.2.2.2.2.2.1,E.2.2.2.2.2.2.2.2.2.2.2.2,I⟩
def bZ:Ky:=⟨0,0,0,0,0⟩
def Gz:Cse:=⟨bZ,0,0,0,0,0,0,(0,Dl),(0,Dl),Gk,0,0,0,[]⟩
structure Mv where
 kd:Int
 pt:Int
 am:Int
 cm:Int×Dig
 lf:Dig
 rt:Dig
 op:Opn
 path:List Dig
 key:Ky
 deriving DecidableEq
abbrev JC(l:List Dig):D:=.slc (nz 32 (l.map CY)) (l.map CY) false
def Hh(o:Opn)(t:D):List Sg:=[.c (.int .i64 o.pc),.c (.int .i64 o.fuel),.c (.int .i64 o.status),.c (.int .i64 o.clause),.c t,.c (.int .i64 o.depth),.g o.rest]
theorem kZ(o:Opn):C7 (Hh o (Eo o.top))=EG o:=by simp[C7,Hh,EG,Sg.cs]
def Mz(m:Mv):List Sg:=[.c (.int .i64 m.kd),.c (.int .i64 m.pt),.c (.int .i64 m.am),.c (.int .i64 m.cm.1),.g m.cm.2,.g m.lf,.g m.rt]++Hh m.op (Eo m.op.top)++[.c (JC m.path)]++Jy m.key
def ID(m:Mv):List D:=C7 (Mz m)
def GU(m:Mv):D:=.agg (ID m)
theorem gz(m:Mv):Jn (Mz m):=trivial
theorem WC(m:Mv):(ID m).length=144:=by
 rw[ID,M5 (gz m)]; simp[HR,Mz,Hh,Jy,Sg.sz]
theorem cT{x y:Mv}:GU x=GU y↔x=y:=by
 refine⟨fun h=>?_,fun h=>by rw[h]⟩;obtain⟨x1,x2,x3,⟨x4,x5⟩,x6,x7,x8,x9,Y⟩:=x;obtain⟨y1,y2,y3,⟨y4,y5⟩,y6,y7,y8,y9,aa⟩:=y;simp only[GU,D.agg.injEq,ID,Mz,Ku,kZ,Ah]at h;simp only[C7,Sg.cs,Ae,Ai,Aa,D.int.injEq,true_and,Ad,Ah]at h;obtain⟨rfl,rfl,rfl,rfl,h⟩:=h;obtain⟨I,g1⟩:=A2 h (by simp[DH]);obtain⟨J,g2⟩:=A2 g1 (by simp[DH]);obtain⟨M,N⟩:=A2 g2 (by simp[DH]);obtain⟨O,E⟩:=A2 N (by simp[JY,WE]);simp only[Aa,JC,D.slc.injEq,and_true,dY,bH,kO]at E;obtain⟨⟨_,U⟩,V⟩:=E;subst U V;obtain rfl:=Ll I;obtain rfl:=Ll J;obtain rfl:=Ll M;obtain rfl:=Qn.1 (congrArg D.agg O);rfl
structure Ply where
 x:Cse
 j:D
 c:List Ins
 v:Int×List Int
 m:Mv
 now:Int
 hv:Fe v
def D5(p:Ply):List Sg:=DO p.x p.j++[.c (Gr p.c),.w 17 (Ef p.v)]++Mz p.m++[.c (.int .i64 p.now)]
def C4(p:Ply):List D:=C7 (D5 p)
theorem Gd(p:Ply):Jn (D5 p):=⟨Je p.hv,trivial⟩
theorem yLq(p:Ply):(C4 p).length=442:=by
 rw[C4,M5 (Gd p)]; simp[HR,D5,DO,Mz,Hh,IW,Jy,Sg.sz]
def It(n:Int):Prop:=-9007199254740992≤n∧n≤9007199254740992
instance (n:Int):Decidable (It n):=inferInstanceAs (Decidable (_∧_))
def JF(x:Cse):Prop:=x.ph=4∨x.ph=5∨x.ph=6
instance (x:Cse):Decidable (JF x):=inferInstanceAs (Decidable (_∨_))
def FG(x:Cse):Prop:=x.ph=1∨x.ph=2∨x.ph=3
instance (x:Cse):Decidable (FG x):=inferInstanceAs (Decidable (_∨_))
def Jf(x:Cse)(w a:Int):Cse:={x with ph:=4,wn:=w,am:=a}
def Oc(x:Cse)(p:Int):Int:=if p=0 then x.a0 else x.a1
def Jg(x:Cse)(p:Int):Int×Dig:=if p=0 then x.c0 else x.c1
def FA(x:Cse)(p:Int):Cse:=if p<0 then Jf x (-1) 0 else Jf x p (Oc x p)
def K1(x:Cse)(n:Int):Int:=if x.a0=n then 0 else if x.a1=n then 1 else -1
def QN(x:Cse)(n:Int):Cse:=Jf x (K1 x n) n
def Q0(x:Cse)(now:Int):Cse:={x with ph:=3,dl:=now+1440}
def JU(c:List Ins)(v:Int×List Int)(x:Cse)(now:Int):Cse×Int:=
 if Ld x.b=true then
  if KA x.b=0 then
   if(Ha c v).2=0 then(FA x (G1 (HY x.b,HZ x.b) (Ha c v)).1,0)else(x,(Ha c v).2)
  else(Q0 x now,0)
 else(x,0)
def Nf(c:List Ins)(v:Int×List Int)(x:Cse)(m:Mv)(now:Int):Cse×Int:=
 if m.pt=1∧x.ph=1 then
  if It m.am then
   let y:Cse:={x with a1:=m.am,c1:=m.cm}
   if G3 x.c0 m.cm=1 then(y,381)
   else if G3 x.c0 m.cm=0 then JU c v {y with b:=Kl x.c0 m.cm,ph:=2,dl:=now+1440} now
   else if x.a0=m.am then(FA y 1,0)
   else if c.length=0 then(QN y 0,0)
   else(Q0 y now,0)
  else(x,1)
 else(x,380)
def QM(c:List Ins)(v:Int×List Int)(x:Cse)(m:Mv)(now:Int):Cse×Int:=
 if x.ph=2 then
  if FX x.b m.pt m.lf m.rt=0 then
   if(Fu x.b m.pt m.lf m.rt).r=x.b.r then({x with b:=Fu x.b m.pt m.lf m.rt},0)
   else JU c v {x with b:=Fu x.b m.pt m.lf m.rt,dl:=now+1440} now
  else(x,FX x.b m.pt m.lf m.rt)
 else(x,380)
def GJ(x:Cse)(p:Int):Int:=if G3 x.c0 x.c1=380 then(Jg x p).1 else if G3 x.c0 x.c1=0 then KA x.b else 0
def G8(x:Cse)(p:Int):Int×Bool:=
 if x.ph=3∧(p=0∨p=1)then
  if GJ x p=0 then(0,false)else(GJ x p - 1,true)
 else(0,false)
def gE(l:List Int):Int:=l.getD (l.length - 1) 0
def QX(c:List Ins)(v:Int×List Int)(x:Cse)(m:Mv):Cse×Int:=
 if(G8 x m.pt).2=true then
  if G3 x.c0 x.c1=380 then
   if G7 (Jg x m.pt) (G8 x m.pt).1 (Ga c v m.op) m.path=true then
    if m.op.status≠0∧(m.op.status≠1∨0<m.op.top.length)then(QN x (if m.op.status=1 then gE m.op.top else 0),0)
    else(x,390)
   else(x,40)
  else
   let i:=(G8 x m.pt).1
   let bef:=if(Jg x m.pt).1≤i then EM else Ga c v m.op
   if 2 ^ (Ei (Jg x m.pt).1).toNat≤i∨G7 (Jg x m.pt) i bef m.path=true then
    if(Fw c v bef m.op).2=0 then(FA x (G1 (HY x.b,HZ x.b) (Fw c v bef m.op)).1,0)
    else(x,(Fw c v bef m.op).2)
   else(x,40)
 else(x,380)
def Q1(x:Cse)(m:Mv):Cse×Int:=if m.pt=0 then({x with ph:=5,wn:=1},0)else(x,380)
def Pp(x:Cse)(m:Mv):Cse×Int:=if m.pt=1 then(FA x 0,0)else if 0≤x.ct then(Jf x 1 x.ct,0)else(x,380)
def Pm(x:Cse)(m:Mv)(now:Int):Cse×Int:=
 if m.pt=1∧x.ph=1∧x.ct<0 then
  if 0≤m.am∧It m.am then({x with ct:=m.am,dl:=now+1440},0)else(x,1)
 else(x,380)
def H2(x:Cse)(m:Mv):Cse×Int:=
 if m.pt=0∧x.ph=1 then
  if x.jn.length<8 then
   if m.key≠x.key∧m.key∉x.jn then({x with jn:=x.jn++[m.key]},0)else(x,1)
  else(x,2)
 else(x,380)
def Gg(c:List Ins)(v:Int×List Int)(x:Cse)(m:Mv)(now:Int):Cse×Int:=
 if m.kd=1 then Nf c v x m now
 else if m.kd=2 then QM c v x m now
 else if m.kd=3 then QX c v x m
 else if m.kd=4 then Q1 x m
 else if m.kd=5 then Pp x m
 else if m.kd=6 then Pm x m now
 else H2 x m
def FU(c:List Ins)(v:Int×List Int)(x:Cse)(m:Mv)(now:Int):Int:=
 if FG x then
  if(1≤m.kd∧m.kd≤7)∧0≤now∧now≤1073741824∧(m.pt=0∨m.pt=1)then
   if now≤x.dl then(Gg c v x m now).2 else 401
  else 1
 else 400
def GP(c:List Ins)(v:Int×List Int)(x:Cse)(m:Mv)(now:Int):Cse:=if FU c v x m now=0 then(Gg c v x m now).1 else Gz
def Gj(p q n:Int)(c:Int×Dig)(now:Int):Int:=
 if min p q<0∨16≤max p q∨p=q∨¬ It n∨now<0∨1073741824<now then 1 else if c.1<0∨65536<c.1 then 381 else 0
def LA(k:Ky)(p q n:Int)(c:Int×Dig)(now:Int):Cse:=
 if Gj p q n c now=0 then⟨k,p,q,1,now+1440,n,0,c,(0,Dl),Gk,-1,0,-1,[]⟩else Gz
def FV(x:Cse):Int:=if x.ph=1 then 0 else if x.ph=2∧x.b.t0≠x.b.t1 then(if x.b.t0=true then 0 else 1)else -1
def JG(x:Cse)(now:Int):Cse:=if FG x∧x.dl<now then {FA x (FV x)with ph:=6} else x
section
variable (p:Ply) (sz:Nat) (lent:Bool)
theorem Hv:Dn (some ⟨false,sz,C4 p,lent⟩) 1 false 7=some (.int .i64 p.x.ph):=GR (l:=D5 p) rfl rfl (Gd p)
theorem Yz:Dn (some ⟨false,sz,C4 p,lent⟩) 1 false 9=some (.int .i64 p.x.a0):=GR (l:=D5 p) rfl rfl (Gd p)
theorem YA:Dn (some ⟨false,sz,C4 p,lent⟩) 1 false 10=some (.int .i64 p.x.a1):=GR (l:=D5 p) rfl rfl (Gd p)
theorem bQ:Dn (some ⟨false,sz,C4 p,lent⟩) 1 false 274=some (.int .i64 p.x.b.r):=GR (l:=D5 p) rfl rfl (Gd p)
theorem Rb:Dn (some ⟨false,sz,C4 p,lent⟩) 1 false 277=some (.int .i64 p.x.ct):=GR (l:=D5 p) rfl rfl (Gd p)
theorem SN:Dn (some ⟨false,sz,C4 p,lent⟩) 1 false 278=some p.j:=GR (l:=D5 p) rfl rfl (Gd p)
theorem FT:Dn (some ⟨false,sz,C4 p,lent⟩) 1 false 279=some (Gr p.c):=GR (l:=D5 p) rfl rfl (Gd p)
theorem En:Dn (some ⟨false,sz,C4 p,lent⟩) 1 false 298=some (.int .i64 p.m.pt):=GR (l:=D5 p) rfl rfl (Gd p)
theorem Mf:Dn (some ⟨false,sz,C4 p,lent⟩) 1 false 299=some (.int .i64 p.m.am):=GR (l:=D5 p) rfl rfl (Gd p)
theorem H3:Dn (some ⟨false,sz,C4 p,lent⟩) 1 false 435=some (JC p.m.path):=GR (l:=D5 p) rfl rfl (Gd p)
theorem Ym1:Dn (some ⟨false,sz,C4 p,lent⟩) 1 false 441=some (.int .i64 p.now):=GR (l:=D5 p) rfl rfl (Gd p)
theorem YU:Dn (some ⟨false,sz,C4 p,lent⟩) 5 true 0=some (DG p.x.key):=Iy (l:=D5 p) rfl rfl (Gd p) rfl
theorem dQ:Dn (some ⟨false,sz,C4 p,lent⟩) 279 true 0=some (.agg (C6 p.x p.j)):=Iy (l:=D5 p) rfl rfl (Gd p) rfl
theorem FB:Dn (some ⟨false,sz,C4 p,lent⟩) 33 true 11=some (.agg (.int .i64 p.x.c0.1::CW p.x.c0.2)):=Iy (l:=D5 p) rfl rfl (Gd p) (by simp[C7,Sg.cs])
theorem FC:Dn (some ⟨false,sz,C4 p,lent⟩) 33 true 44=some (.agg (.int .i64 p.x.c1.1::CW p.x.c1.2)):=Iy (l:=D5 p) rfl rfl (Gd p) (by simp[C7,Sg.cs])
theorem Hu:Dn (some ⟨false,sz,C4 p,lent⟩) 198 true 77=some (DF p.x.b):=Iy (l:=D5 p) rfl rfl (Gd p) (by rw[DF,← OG]; rfl)
theorem F8:Dn (some ⟨false,sz,C4 p,lent⟩) 17 true 280=some (Ev p.v):=Iy (l:=D5 p) rfl rfl (Gd p) (by simp[C7,Sg.cs,Ev])
theorem Rc:Dn (some ⟨false,sz,C4 p,lent⟩) 33 true 300=some (.agg (.int .i64 p.m.cm.1::CW p.m.cm.2)):=Iy (l:=D5 p) rfl rfl (Gd p) (by simp[C7,Sg.cs])
theorem YB:Dn (some ⟨false,sz,C4 p,lent⟩) 32 true 333=some (CY p.m.lf):=Iy (l:=D5 p) rfl rfl (Gd p) (by simp[C7,Sg.cs,CY])
theorem Yr:Dn (some ⟨false,sz,C4 p,lent⟩) 32 true 365=some (CY p.m.rt):=Iy (l:=D5 p) rfl rfl (Gd p) (by simp[C7,Sg.cs,CY])
theorem Gv:Dn (some ⟨false,sz,C4 p,lent⟩) 38 true 397=some (DS p.m.op):=Iy (l:=D5 p) rfl rfl (Gd p) (by rw[DS,← kZ]; rfl)
theorem YV:Dn (some ⟨false,sz,C4 p,lent⟩) 5 true 436=some (DG p.m.key):=Iy (l:=D5 p) rfl rfl (Gd p) rfl
end
section
variable (p:Ply) (sz:Nat)
theorem Tf(n:Int):DQ (some ⟨false,sz,C4 p,false⟩) 1 7 (.int .i64 n)=some ⟨false,sz,C4 {p with x:={p.x with ph:=n}},false⟩:=JN (l:=D5 p) (X:=[.c (.int .i64 n)]) rfl rfl (Gd p) rfl rfl rfl rfl
theorem Yrv(n:Int):DQ (some ⟨false,sz,C4 p,false⟩) 1 8 (.int .i64 n)=some ⟨false,sz,C4 {p with x:={p.x with dl:=n}},false⟩:=JN (l:=D5 p) (X:=[.c (.int .i64 n)]) rfl rfl (Gd p) rfl rfl rfl rfl
theorem Rh(n:Int):DQ (some ⟨false,sz,C4 p,false⟩) 1 10 (.int .i64 n)=some ⟨false,sz,C4 {p with x:={p.x with a1:=n}},false⟩:=JN (l:=D5 p) (X:=[.c (.int .i64 n)]) rfl rfl (Gd p) rfl rfl rfl rfl
theorem sO(n:Int):DQ (some ⟨false,sz,C4 p,false⟩) 1 275 (.int .i64 n)=some ⟨false,sz,C4 {p with x:={p.x with wn:=n}},false⟩:=JN (l:=D5 p) (X:=[.c (.int .i64 n)]) rfl rfl (Gd p) rfl rfl rfl rfl
theorem Yrx(n:Int):DQ (some ⟨false,sz,C4 p,false⟩) 1 276 (.int .i64 n)=some ⟨false,sz,C4 {p with x:={p.x with am:=n}},false⟩:=JN (l:=D5 p) (X:=[.c (.int .i64 n)]) rfl rfl (Gd p) rfl rfl rfl rfl
theorem Yrw(n:Int):DQ (some ⟨false,sz,C4 p,false⟩) 1 277 (.int .i64 n)=some ⟨false,sz,C4 {p with x:={p.x with ct:=n}},false⟩:=JN (l:=D5 p) (X:=[.c (.int .i64 n)]) rfl rfl (Gd p) rfl rfl rfl rfl
theorem td(k t f l:Nat):DQ (some ⟨false,sz,C4 p,false⟩) 1 278 (.row k t f l)=some ⟨false,sz,C4 {p with j:=.row k t f l},false⟩:=JN (l:=D5 p) (X:=[.c (.row k t f l)]) rfl rfl (Gd p) rfl rfl rfl rfl
theorem Ri(c:Int×Dig):DQ (some ⟨false,sz,C4 p,false⟩) 33 44 (.agg (.int .i64 c.1::CW c.2))=some ⟨false,sz,C4 {p with x:={p.x with c1:=c}},false⟩:=
 JN (l:=D5 p) (X:=[.c (.int .i64 c.1),.g c.2]) rfl rfl (Gd p) rfl (by simp[C7,Sg.cs,D.cells]) (by simp[C7,Sg.cs,DH]) (by simp only[C7,Sg.cs,Ad,Ae,Ai,A3,IC]; rfl)
theorem SW(b:Bis):DQ (some ⟨false,sz,C4 p,false⟩) 198 77 (DF b)=some ⟨false,sz,C4 {p with x:={p.x with b:=b}},false⟩:=
 JN (l:=D5 p) (X:=IW b) rfl rfl (Gd p) rfl (by rw[OG]; rfl) (by rw[OG,SD]) (by rw[OG]; exact fu b)
end
noncomputable def KW(R:List D→St→D×Int×St→Prop):List D→St→Option (D×Int×St):=fun ds st=>@dite _ (∃ r,R ds st r) (Classical.propDecidable _) (fun h=>some h.choose) (fun _=>none)
variable {r:D×Int×St}{st:St}{ds:List D}
theorem mW{R:List D→St→D×Int×St→Prop}(h:KW R ds st=some r):R ds st r:=by
 unfold KW at h
 split at h
 ·grind
 ·cases h
def Is(R:List D→St→D×Int×St→Prop):Prop:=∀ ds st r r',R ds st r→R ds st r'→r=r'
theorem cM{R:List D→St→D×Int×St→Prop}(I:Is R)(h:R ds st r):KW R ds st=some r:=by
 have E:∃ r,R ds st r:=⟨r,h⟩;unfold KW;rw[dif_pos E,I _ _ _ _ E.choose_spec h]
noncomputable def Ep(R:List D→St→D×Int×St→Prop):List D→St→Option (D×St):=fun ds st=>match KW R ds st with
 |some (d,e,st')=>if e=0 then some (d,st')else none
 |none=>none
noncomputable def F1(R:List D→St→D×Int×St→Prop):List D→St→Option (Nat×D×St):=fun ds st=>match KW R ds st with
 |some (_,e,st')=>if e=0 then none else some (125,.int .i64 e,st')
 |none=>none
variable {d:D}{st':St}
theorem Tc{R:List D→St→D×Int×St→Prop}(E:Is R)(h:R ds st (d,0,st')):Ep R ds st=some (d,st'):=by
 simp only[Ep,cM E h,if_true]
variable {e:Int}
theorem Tb{R:List D→St→D×Int×St→Prop}(E:Is R)(h:R ds st (d,e,st'))(I:e≠0):Ep R ds st=none:=by
 simp only[Ep,cM E h,if_neg I]
theorem RF{R:List D→St→D×Int×St→Prop}(E:Is R)(h:R ds st (d,e,st'))(I:e≠0):F1 R ds st=some (125,.int .i64 e,st'):=by
 simp only[F1,cM E h,if_neg I]
def LY(res:List PRes)(d:D)(e:Int)(st':St)(x:Ex)(fr:Frame)(st:St):Prop:=match x with
 |.exit _=>False
 |.panic t y=>¬ e=0∧t=125∧y=.int .i64 e∧st=st'
 |_=>e=0∧@on _ (DI ⟨fr,st⟩ res) ⟨fun l=>(Dz l,st)=(d,st')⟩
theorem Ydy(res:List PRes)(d:D)(e:Int)(st':St)(fr:Frame)(st:St):LY res d e st' .ret fr st=(e=0∧@on _ (DI ⟨fr,st⟩ res) ⟨fun l=>(Dz l,st)=(d,st')⟩):=(rfl)
theorem xR(res:List PRes)(d:D)(e:Int)(st':St)(fr:Frame)(st:St):LY res d e st' .next fr st=(e=0∧@on _ (DI ⟨fr,st⟩ res) ⟨fun l=>(Dz l,st)=(d,st')⟩):=(rfl)
theorem yRd(res:List PRes)(d:D)(e:Int)(st':St)(t:Nat)(y:D)(fr:Frame)(st:St):LY res d e st' (.panic t y) fr st=(¬ e=0∧t=125∧y=.int .i64 e∧st=st'):=(rfl)
theorem JX{T:Tbl}{il:List Nat}{f:Nat}{hints:List (List Nat)}{F:PF}{R:List D→St→D×Int×St→Prop}(M:Dq Tryz.prog il f hints=some F)(N:TblOK Tryz.prog GG T)
  (h:∀ ds st d e st',R ds st (d,e,st')→@wW GG T F.code (C3 ds) st ⟨LY F.res d e st'⟩) (O:T.y=fun _ _ _=>none:=by rfl):IContract Tryz.prog GG f (Ep R)∧O8 Tryz.prog GG f (F1 R):=by
 constructor
 ·refine IB M N (fun ds st r E=>?_) O;unfold Ep at E
  split at E
  case h_2=>cases E
  rename_i d e st' J
  split at E
  case isFalse=>cases E
  rename_i he;simp only[AN]at E;subst E; subst he;refine Zz (Kk _ _ _ _ _ (Ir (h _ _ _ _ _ (mW J))) fun x fr st I=>?_)
  cases x with
  |exit i=>exact I.elim
  |panic t y=>exact absurd rfl I.1
  |next=>unfold Gm; exact I.2
  |ret=>unfold Gm; exact I.2
 ·refine yGn M N (fun ds st r E=>?_) O;unfold F1 at E
  split at E
  case h_2=>cases E
  rename_i d e st' J
  split at E
  case isTrue=>cases E
  rename_i he;simp only[AN]at E;subst E;refine Zz (Kk _ _ _ _ _ (Ir (h _ _ _ _ _ (mW J))) fun x fr st I=>?_)
  cases x with
  |exit i=>exact I.elim
  |panic t y=>obtain⟨_,rfl,rfl,rfl⟩:=I; unfold LX; rfl
  |next=>exact absurd I.1 he
  |ret=>exact absurd I.1 he
attribute [irreducible] LY
attribute [push_cast] Ydy xR yRd
abbrev CK(f:Nat)(R:List D→St→D×Int×St→Prop):Prop:=IContract Tryz.prog GG f (Ep R)∧O8 Tryz.prog GG f (F1 R)
def HD(ds:List D)(st:St)(r:D×Int×St):Prop:=∃ (b:Bool) (e:Int),ds=[.bool b,.int .i64 e]∧(b=false→e≠0)∧r=(.tup [],if b=true then 0 else e,st)
theorem eK:Is HD:=by
 rintro ds st r E ⟨b,e,rfl,_,rfl⟩ ⟨b',I,h,_,rfl⟩;grind
theorem Dr(e:Int)(st:St):Ep HD [.bool true,.int .i64 e] st=some (.tup [],st):=Tc eK ⟨true,e,rfl,(fun h=>by cases h),rfl⟩
theorem D4(E:e≠0)(st:St):Ep HD [.bool false,.int .i64 e] st=none:=Tb eK (e:=e) ⟨false,e,rfl,fun _=>E,rfl⟩ E
theorem D3(E:e≠0)(st:St):F1 HD [.bool false,.int .i64 e] st=some (125,.int .i64 e,st):=RF eK (e:=e) (d:=.tup []) ⟨false,e,rfl,fun _=>E,rfl⟩ E
theorem I8:CK 73 HD:=by
 refine JX (T:=tb [] []) yDp (DA all_nil all_nil) ?_;rintro ds st d e st' ⟨b,E,rfl,hb,h⟩;simp only[AA]at h;obtain⟨rfl,rfl,rfl⟩:=h;unfold iI
 cases b with
 |true=>simp (disch:=first|omega|decide) only[push_cast,↓reduceIte,and_true]
 |false=>
  have he:=hb rfl;simp (disch:=first|omega|decide) only[push_cast,↓reduceIte,Cx,he,and_true,not_false_eq_true]
def Lv(ds:List D)(st:St)(r:D×Int×St):Prop:=∃ (e:Int),ds=[.int .i64 e]∧r=(.tup [],e,st)
theorem eL:Is Lv:=by
 rintro ds st r E ⟨e,rfl,rfl⟩ ⟨I,h,rfl⟩;grind
theorem Hg(st:St):Ep Lv [.int .i64 0] st=some (.tup [],st):=Tc eL ⟨0,rfl,rfl⟩
theorem Ik(E:e≠0)(st:St):Ep Lv [.int .i64 e] st=none:=Tb eL (e:=e) ⟨e,rfl,rfl⟩ E
theorem My(E:e≠0)(st:St):F1 Lv [.int .i64 e] st=some (125,.int .i64 e,st):=RF eL (e:=e) (d:=.tup []) ⟨e,rfl,rfl⟩ E
noncomputable abbrev tJ:Tbl:=Lr [] [(73,Ep HD)] [(73,F1 HD)]
theorem Qh:CK 123 Lv:=by
 refine JX (T:=tJ) yDo (MN all_nil (all_cons I8.1 all_nil) (all_cons I8.2 all_nil)) ?_;rintro ds st d e st' ⟨E,rfl,h⟩;simp only[AA]at h;obtain⟨rfl,rfl,rfl⟩:=h;unfold iJ
 by_cases he:e=0
 ·have g:=eq_true he;simp (disch:=first|omega|decide) only[push_cast,↓reduceIte,Cx,g,decide_true,Dr,and_true]
 ·simp (disch:=first|omega|decide) only[push_cast,↓reduceIte,Cx,he,decide_false,D4,D3,and_true,not_false_eq_true]
def GK{α:Type}[DecidableEq α](a:α):List α→Nat→Int
 |[],_=>-1
 |x::r,i=>if a=x then i else GK a r (i+1)
theorem dO{α:Type}[DecidableEq α][Inhabited α](a:α)(l:List α){i:Nat}(h:i<l.length):GK a (l.drop i) i=if a=l.getD i default then(i:Int)else GK a (l.drop (i+1)) (i+1):=by
 rw[Bd h,GK];simp[Ao,h]
theorem kK{α:Type}[DecidableEq α](a:α):∀ (l:List α) (i:Nat),(0≤GK a l i↔a∈l)∧-1≤GK a l i
 |[],i=>by simp[GK]
 |x::r,i=>by
  unfold GK;have E:=kK a r (i+1)
  by_cases h:a=x
  ·rw[if_pos h]; subst h; simp
  ·rw[if_neg h];exact⟨by rw[E.1]; simp[h],E.2⟩
theorem Ynp(n a b:Int):GK n [a,b] 0=if a=n then 0 else if b=n then 1 else -1:=by
 show(if n=a then((0:Nat):Int)else if n=b then((1:Nat):Int)else -1)=_
 by_cases h:n=a
 ·subst h; simp
 ·have I:¬ a=n:=fun e=>h e.symm
  by_cases E:n=b
  ·subst E; simp[h,I]
  ·have J:¬ b=n:=fun e=>E e.symm;simp[h,I,E,J]
noncomputable def YE:List D→Option D:=Dc (α:=List Int×Int) (fun a=>[.slc (nz 1 (a.1.map nI)) (a.1.map nI) false,.int .i64 a.2]) (fun a=>a.1.length≤4294967296) (fun a=>.int .i64 (GK a.2 a.1 0))
theorem Yhp(l:List Int)(n:Int)(h:l.length≤4294967296):YE [.slc (nz 1 (l.map nI)) (l.map nI) false,.int .i64 n]=some (.int .i64 (GK n l 0)):=
 DW (fun⟨a0,a1⟩ ⟨b0,b1⟩ h=>by simp only[Aa,D.slc.injEq,D.int.injEq,true_and,and_true,Qm]at h; simp[h]) (l,n) h
theorem Ts(l:List Int)(n:Int)(h:l.length≤4294967296):@wW GG (tb [] []) X9.code (C3 [.slc (nz 1 (l.map nI)) (l.map nI) false,.int .i64 n]) [] ⟨Df X9.res (.int .i64 (GK n l 0))⟩:=by
 unfold X9;simp (disch:=first|omega|decide) only[push_cast,↓reduceIte,Cx,Cz];refine Gy (fun i:Nat=>[(0,.slc (nz 1 (l.map nI)) (l.map nI) false),(1,.int .i64 n),(7,.int .i64 (l.length:Int)),(8,.int .i64 (i:Int))]) (fun _=>[]) (fun i=>i≤l.length∧GK n l 0=GK n (l.drop i) i) (fun i=>l.length - i) 0 (by simp only[push_cast,↓reduceIte,Cx,↓CA] <;> rfl) ⟨Bf _,rfl⟩ ?_;rintro i ⟨hi,E⟩;unfold j8;simp (disch:=first|omega|decide) only[push_cast,↓reduceIte,Cx];refine E4 (fun N=>?_) (fun N=>?_)
 ·have M:i<l.length:=by omega
  rw[dO _ _ M]at E
  have J:∀ st:St,FY st 1 (.slc (nz 1 (l.map nI)) (l.map nI) false) (.int .i64 (i:Int))=some (.eptr (nI (l.getD i default)) 0):=fun st=>by
   have:=Lh st 1 nI l false .i64 (i:Int) (by omega) (by omega);rwa [Bg]at this
  generalize l.getD i default=x at*
  by_cases I:n=x
  ·rw[if_pos I]at E;simp (disch:=first|omega|decide) only[push_cast,↓reduceIte,Cx,Cz,J,nI,I];rw[← E,I]
  ·rw[if_neg I]at E;simp (disch:=first|omega|decide) only[push_cast,↓reduceIte,Cx,J,nI,I,DL];refine Fb (i+1) (by exact⟨by omega,E⟩) (by omega) ?_;simp only[push_cast] <;> rfl
 ·obtain rfl:i=l.length:=by omega
  rw[Ba]at E;simp (disch:=first|omega|decide) only[push_cast,↓reduceIte,Cz,E,GK]
theorem Vk:Contract Tryz.prog GG 160 YE:=
 D8 vb (DA all_nil all_nil) (fun a h=>Ts a.1 a.2 h)
noncomputable def Td:List D→Option D:=Dc (α:=List Bool×Bool) (fun a=>[.slc (nz 1 (a.1.map D.bool)) (a.1.map D.bool) false,.bool a.2]) (fun a=>a.1.length≤4294967296) (fun a=>.int .i64 (GK a.2 a.1 0))
theorem Yhq(l:List Bool)(n:Bool)(h:l.length≤4294967296):Td [.slc (nz 1 (l.map D.bool)) (l.map D.bool) false,.bool n]=some (.int .i64 (GK n l 0)):=
 DW (fun⟨a0,a1⟩ ⟨b0,b1⟩ h=>by simp only[Aa,D.slc.injEq,D.bool.injEq,and_true,Yb0]at h; simp[h]) (l,n) h
theorem Tt(l:List Bool)(n:Bool)(h:l.length≤4294967296):@wW GG (tb [] []) X8.code (C3 [.slc (nz 1 (l.map D.bool)) (l.map D.bool) false,.bool n]) [] ⟨Df X8.res (.int .i64 (GK n l 0))⟩:=by
 unfold X8;simp (disch:=first|omega|decide) only[push_cast,↓reduceIte,Cx,Cz];refine Gy (fun i:Nat=>[(0,.slc (nz 1 (l.map D.bool)) (l.map D.bool) false),(1,.bool n),(7,.int .i64 (l.length:Int)),(8,.int .i64 (i:Int))]) (fun _=>[]) (fun i=>i≤l.length∧GK n l 0=GK n (l.drop i) i) (fun i=>l.length - i) 0 (by simp only[push_cast,↓reduceIte,Cx,↓CA] <;> rfl) ⟨Bf _,rfl⟩ ?_;rintro i ⟨hi,E⟩;unfold j9;simp (disch:=first|omega|decide) only[push_cast,↓reduceIte,Cx];refine E4 (fun U=>?_) (fun U=>?_)
 ·have O:i<l.length:=by omega
  rw[dO _ _ O]at E
  have J:∀ st:St,FY st 1 (.slc (nz 1 (l.map D.bool)) (l.map D.bool) false) (.int .i64 (i:Int))=some (.eptr (.bool (l.getD i default)) 0):=fun st=>by
   have:=Lh st 1 D.bool l false .i64 (i:Int) (by omega) (by omega);rwa [Bg]at this
  have M:∀ (st:St) (b:Bool),EV st 1 false (.eptr (.bool b) 0)=some (.bool b):=fun _ _=>rfl;generalize l.getD i default=x at*
  by_cases I:n=x
  ·rw[if_pos I]at E;subst I;have N:(n == n)=true:=by simp
   simp (disch:=first|omega|decide) only[push_cast,↓reduceIte,Cx,Cz,J,M,N,E]
  ·rw[if_neg I]at E;have N:(n == x)=false:=by simpa using I
   simp (disch:=first|omega|decide) only[push_cast,↓reduceIte,Cx,J,M,N,DL];refine Fb (i+1) (by exact⟨by omega,E⟩) (by omega) ?_;simp only[push_cast] <;> rfl
 ·obtain rfl:i=l.length:=by omega
  rw[Ba]at E;simp (disch:=first|omega|decide) only[push_cast,↓reduceIte,Cz,E,GK]
theorem Vl:Contract Tryz.prog GG 78 Td:=
 D8 vn (DA all_nil all_nil) (fun a h=>Tt a.1 a.2 h)
theorem I4(E:Bool)(a b:Ky):Gn [0,0,0,0,0] E (DG a) (DG b)=some (.bool (decide (a=b) != E)):=by
 obtain⟨a1,I,J,M,N⟩:=a;obtain⟨b1,O,U,V,Y⟩:=b
 have h:Ey [0,0,0,0,0] (Hk ⟨a1,I,J,M,N⟩) (Hk ⟨b1,O,U,V,Y⟩)=some (decide ((⟨a1,I,J,M,N⟩:Ky)=⟨b1,O,U,V,Y⟩)):=by
  simp only[Hk,Ey,H6,if_true,BW,Ky.mk.injEq,AN];rw[BZ];simp
 simp only[Gn,DG,h,Ag]
theorem RN(k:Ky):(Hk k).all El=true:=rfl
theorem Lc(k:Ky):Dv (DG k)=some (Hk k):=rfl
theorem QP(sz:Nat)(lent:Bool)(k:Ky):Dn (some ⟨false,sz,Hk k,lent⟩) 5 true 0=some (DG k):=KJ sz lent _ 5 rfl
theorem Yt(st:St)(k:Ky):EV st 5 true (.eptr (DG k) 0)=some (DG k):=rfl
theorem Q8(st:St)(k:Ky):DN st (DG k)=some (DG k):=QB st (RN k)
theorem cE(k:Ky):keys (DG k)=[]:=QJ (RN k)
theorem rF(k:Ky):hk (DG k)=[]:=RS (RN k)
theorem ld(n:Nat)(σ:List Nat)(k:Ky):(Hk k).map (Ed n σ)=Hk k:=N6 n σ (RN k)
theorem sv(k:Ky):(Hk k).flatMap hk=[]:=OZ (RN k)
theorem bM(st:St)(l:List Ky)(t:Bool)(i:Nat)(h:i<l.length):FY st 5 (.slc (nz 5 (l.map DG)) (l.map DG) t) (.int .i64 (i:Int))=some (.eptr (DG (l.getD i default)) 0):=by
 have:=Lh st 5 DG l t .i64 (i:Int) (by omega) (by omega);rwa [Bg]at this
noncomputable def bU:List D→Option D:=Dc (α:=List Ky×Ky) (fun a=>[.slc (nz 5 (a.1.map DG)) (a.1.map DG) false,DG a.2]) (fun a=>a.1.length≤4294967296) (fun a=>.int .i64 (GK a.2 a.1 0))
theorem Yho(l:List Ky)(n:Ky)(h:l.length≤4294967296):bU [.slc (nz 5 (l.map DG)) (l.map DG) false,DG n]=some (.int .i64 (GK n l 0)):=
 DW (fun⟨a0,a1⟩ ⟨b0,b1⟩ h=>by simp only[Aa,D.slc.injEq,and_true,YQ,YR]at h; simp[h]) (l,n) h
theorem Tr(l:List Ky)(n:Ky)(h:l.length≤4294967296):@wW GG (tb [] []) Yb.code (C3 [.slc (nz 5 (l.map DG)) (l.map DG) false,DG n]) [] ⟨Df Yb.res (.int .i64 (GK n l 0))⟩:=by
 unfold Yb;simp (disch:=first|omega|decide) only[push_cast,↓reduceIte,Cx,Cz,Lc];refine Gy (fun i:Nat=>[(0,.slc (nz 5 (l.map DG)) (l.map DG) false),(3,.ptr 0 0),(7,.int .i64 (l.length:Int)),(8,.int .i64 (i:Int))]) (fun _=>[⟨false,1,Hk n,false⟩]) (fun i=>i≤l.length∧GK n l 0=GK n (l.drop i) i) (fun i=>l.length - i) 0 (by simp only[push_cast,↓reduceIte,Cx,CE,CC,↓CA,ld,sv] <;> rfl) ⟨Bf _,rfl⟩ ?_;rintro i ⟨hi,E⟩;unfold kf;simp (disch:=first|omega|decide) only[push_cast,↓reduceIte,Cx];refine E4 (fun N=>?_) (fun N=>?_)
 ·have J:i<l.length:=by omega
  rw[dO _ _ J]at E;have M:=fun st=>bM st l false i J;generalize l.getD i default=x at*
  by_cases I:n=x
  ·rw[if_pos I]at E;subst I;have O:decide (n=n)=true:=by simp
   simp (disch:=first|omega|decide) only[push_cast,↓reduceIte,Cx,Cz,M,QP,Yt,I4,E]
  ·rw[if_neg I]at E;simp (disch:=first|omega|decide) only[push_cast,↓reduceIte,Cx,CE,CC,M,QP,Yt,I4,I,DL];refine Fb (i+1) (by exact⟨by omega,E⟩) (by omega) ?_;simp only[push_cast,ld,sv] <;> rfl
 ·obtain rfl:i=l.length:=by omega
  rw[Ba]at E;simp (disch:=first|omega|decide) only[push_cast,↓reduceIte,Cz,E,GK]
theorem Vj:Contract Tryz.prog GG 161 bU:=
 D8 vo (DA all_nil all_nil) (fun a h=>Tr a.1 a.2 h)
noncomputable def YD:List D→Option D:=Dc (α:=List Ky×Ky) (fun a=>[.slc (nz 5 (a.1.map DG)) (a.1.map DG) false,DG a.2]) (fun a=>a.1.length≤4294967296) (fun a=>.bool (decide (a.2∈a.1)))
theorem Yhu(l:List Ky)(n:Ky)(h:l.length≤4294967296):YD [.slc (nz 5 (l.map DG)) (l.map DG) false,DG n]=some (.bool (decide (n∈l))):=
 DW (fun⟨a0,a1⟩ ⟨b0,b1⟩ h=>by simp only[Aa,D.slc.injEq,and_true,YQ,YR]at h; simp[h]) (l,n) h
theorem Tu(l:List Ky)(n:Ky)(h:l.length≤4294967296):@wW GG (tb [(161,bU)] []) Yd.code (C3 [.slc (nz 5 (l.map DG)) (l.map DG) false,DG n]) [] ⟨Df Yd.res (.bool (decide (n∈l)))⟩:=by
 unfold Yd;have c1:=Yho l n h;have m:=(kK n l 0).1;generalize GK n l 0=z at*
 by_cases E:0≤z
 ·have hm:decide (n∈l)=true:=by simp[m.1 E]
  simp (disch:=first|omega|decide) only[push_cast,↓reduceIte,Cx,Lc,QP,Q8,c1,E,hm]
 ·have hm:decide (n∈l)=false:=by simp; exact fun q=>E (m.2 q)
  simp (disch:=first|omega|decide) only[push_cast,↓reduceIte,Cx,Lc,QP,Q8,c1,E,hm]
theorem Vm:Contract Tryz.prog GG 126 YD:=
 D8 vr (DA (all_cons Vj all_nil) all_nil) (fun a h=>Tu a.1 a.2 h)
theorem RepV.emptyT{w:World}{g:Ghost}{sz E:Nat}{v:Value}(h:RepV w g st (.slc sz [] true) v):RepV w g st (.slc E [] true) v:=by
 cases h with
 |slcE _ _ a cap h=>exact .slcE _ _ a cap h
 |slc _ _ b off cap _ val I=>exact absurd rfl I
noncomputable def ta:List D→St→Option (D×St):=HH (α:=List Ky×St) (fun a=>([.slc (nz 5 (a.1.map DG)) (a.1.map DG) false],a.2)) (fun a=>a.1.length≤4294900000)
 (fun a=>if a.1=[]then(.slc 0 [] true,a.2)else(.row a.2.length a.1.length 0 a.1.length,a.2++[⟨true,5,a.1.map DG,false⟩]))
theorem Yhw(l:List Ky)(st:St)(h:l.length≤4294900000):ta [.slc (nz 5 (l.map DG)) (l.map DG) false] st=some (if l=[]then(.slc 0 [] true,st)else(.row st.length l.length 0 l.length,st++[⟨true,5,l.map DG,false⟩])):=
 RQ (fun a b e=>by
  simp only[AA,Aa,D.slc.injEq,YR,and_true]at e;rw[e.1.2,e.2]) ((l,st):List Ky×St) h rfl
def cl0:List PI:=[{dst:=some 2,op:=.mov (.c (.slc 0 [] true))}]
def clA:PC:=.seq (.ops [{dst:=some 2,op:=.mov (.c (.slc 0 [] true))}]) .ret
def ga:PC:=.seq (.ops [{dst:=some 5,op:=.bslc 5 []},{dst:=some 6,op:=.mov (.s 0)},{dst:=some 7,op:=.app 5 40 (.s 5) (.s 6)},{dst:=some 2,op:=.mov (.s 7)}]) .ret
theorem Yhe(T:Tbl)(l:List Ky)(st:St)(h:l.length≤4294900000)(fr:Frame)(J:fr 0=.slc (nz 5 (l.map DG)) (l.map DG) false) :
  ∃ E,ga.exec GG T 0 ⟨fr,st⟩=some (.ret,⟨E,if l=[]then st else st++[⟨true,5,l.map DG,false⟩]⟩)∧E 2=if l=[]then .slc 5 [] true else .row st.length l.length 0 l.length:=by
 have M:D7 st 5 40 (.slc 5 [] true) (.slc (nz 5 (l.map DG)) (l.map DG) false)=some (if l=[]then .slc 5 [] true else .row st.length l.length 0 l.length,if l=[]then st else st++[⟨true,5,l.map DG,false⟩]):=by
  by_cases hl:l=[]
  ·subst hl;exact oK st 5 40 5 0 [] false (by decide)
  ·have I:l.map DG≠[]:=by simpa using hl
   rw[pH DG st 5 5 40 l false (by decide) (by omega) (by omega),Qg _ _ _ I,OH _ _ I,if_neg hl,if_neg hl,Bh]
 simp only[ga,PC.exec,ED,PI.exec,PI.wanted,POp.exec,De,Bk,DZ,Cw,CE,decide_true,Az,Ap,B8,Bf,if_true,lend,BG,Frame.put,Frame.set,J,Cx,if_false,show ¬ (5:Nat)=6 from by decide,show ¬ (0:Nat)=5 from by decide,show ¬ (0:Nat)=6 from by decide,M];exact⟨_,rfl,rfl⟩
theorem sk:IContract Tryz.prog GG 127 ta:=by
 refine Yhd (T:=tb [] []) (il:=[]) (DA all_nil all_nil) rfl (l0:=cl0) (pA:=clA) (pB:=ga) (res:=[.tmp 2]) (t3:=3) (e:=58) Tryz.func127 (by kernel_rfl) rfl (by kernel_rfl) (by kernel_rfl) (by kernel_rfl) (by kernel_rfl) (by kernel_rfl) rfl rfl rfl (by decide) Tryz.underlying63 ?_;intro ds st d st' N;obtain⟨⟨l,st0⟩,ha,J,E⟩:=eE N;simp only[AA]at ha;obtain⟨rfl,rfl⟩:=ha;dsimp only at J E;refine⟨_,_,_,(C3 [.slc (nz 5 (l.map DG)) (l.map DG) false]).set 2 (.slc 0 [] true),rfl,rfl,rfl,fun he=>?_,?_⟩
 ·obtain rfl:l=[]:=by simpa using he
  rw[if_pos rfl]at E;simp only[AA]at E;obtain⟨rfl,rfl⟩:=E;exact⟨0,_,_,rfl,rfl,rfl,fun w g v h=>h.emptyT⟩
 ·obtain⟨O,M,I⟩:=Yhe (tb [] []) l st0 J ((((C3 [.slc (nz 5 (l.map DG)) (l.map DG) false]).set 2 (.slc 0 [] true)).set 3 (.slc (nz 5 (l.map DG)) (l.map DG) false)).set 4 (.bool false)) rfl
  by_cases hl:l=[]
  ·subst hl;rw[if_pos rfl]at E I;simp only[AA]at E;obtain⟨rfl,rfl⟩:=E;exact⟨0,_,[.slc 5 [] true],M,by rw[if_pos rfl],by simp only[ew,eu,I]; rfl,fun w g v h=>h.emptyT⟩
  ·rw[if_neg hl]at E I;simp only[AA]at E;obtain⟨rfl,rfl⟩:=E;exact⟨0,_,[.row st0.length l.length 0 l.length],M,by rw[if_neg hl],by simp only[ew,eu,I]; rfl,fun w g v h=>h⟩
theorem we(l:List Ky):El (Dg l)=true:=by
 simp[El,Kj]
theorem fh(x:Cse){p:D→Bool}(E:∀ k n,p (.int k n)=true)(J:∀ b,p (.bool b)=true)(M:p j=true):(C6 x j).all p=true:=by
 have N:∀ d,(CW d).all p=true:=fun d=>Kt (fun b=>E _ _) d;refine M4 E fun s I=>?_;simp only[DO,Jy,IW,Ae,Ai,Aw,AB,or_false]at I;rcases I with rfl | rfl | rfl | rfl | rfl | rfl | rfl | rfl | rfl | rfl | rfl | rfl | rfl | rfl | rfl | rfl | rfl | rfl | rfl | rfl | rfl | rfl | rfl | rfl | rfl | rfl | rfl | rfl | rfl | rfl | rfl <;> simp[Sg.cs,E,J,M,N]
theorem M1(x:Cse)(hj:j.isCell=true):(C6 x j).all D.isCell=true:=fh x (fun _ _=>rfl) (fun _=>rfl) hj
theorem Qu(x:Cse):(C6 x (Dg x.jn)).all El=true:=fh x (fun _ _=>rfl) (fun _=>rfl) (we _)
theorem Et(x:Cse):Dv (Db x)=some (C6 x (Dg x.jn)):=by
 simp only[Dv,Db,D.cells,M1 x (j:=Dg x.jn) rfl,if_true]
theorem Ej(st:St)(x:Cse):DN st (Db x)=some (Db x):=QB st (Qu x)
theorem E3(x:Cse):keys (Db x)=[]:=QJ (Qu x)
section
variable (x:Cse) (j:D) (sz:Nat) (lent:Bool)
theorem ET:Dn (some ⟨false,sz,C6 x j,lent⟩) 1 false 7=some (.int .i64 x.ph):=GR (l:=DO x j) rfl rfl (Gb x j)
theorem G2:Dn (some ⟨false,sz,C6 x j,lent⟩) 1 false 8=some (.int .i64 x.dl):=GR (l:=DO x j) rfl rfl (Gb x j)
theorem sI:Dn (some ⟨false,sz,C6 x j,lent⟩) 1 false 9=some (.int .i64 x.a0):=GR (l:=DO x j) rfl rfl (Gb x j)
theorem Ytj:Dn (some ⟨false,sz,C6 x j,lent⟩) 1 false 10=some (.int .i64 x.a1):=GR (l:=DO x j) rfl rfl (Gb x j)
theorem sK:Dn (some ⟨false,sz,C6 x j,lent⟩) 1 false 11=some (.int .i64 x.c0.1):=GR (l:=DO x j) rfl rfl (Gb x j)
theorem sL:Dn (some ⟨false,sz,C6 x j,lent⟩) 1 false 44=some (.int .i64 x.c1.1):=GR (l:=DO x j) rfl rfl (Gb x j)
theorem Ra:Dn (some ⟨false,sz,C6 x j,lent⟩) 1 false 275=some (.int .i64 x.wn):=GR (l:=DO x j) rfl rfl (Gb x j)
theorem Yw:Dn (some ⟨false,sz,C6 x j,lent⟩) 1 false 276=some (.int .i64 x.am):=GR (l:=DO x j) rfl rfl (Gb x j)
theorem sJ:Dn (some ⟨false,sz,C6 x j,lent⟩) 1 false 277=some (.int .i64 x.ct):=GR (l:=DO x j) rfl rfl (Gb x j)
theorem JT:Dn (some ⟨false,sz,C6 x j,lent⟩) 1 false 278=some j:=GR (l:=DO x j) rfl rfl (Gb x j)
theorem Mm:Dn (some ⟨false,sz,C6 x j,lent⟩) 5 true 0=some (DG x.key):=Iy (l:=DO x j) rfl rfl (Gb x j) rfl
theorem Ng:Dn (some ⟨false,sz,C6 x j,lent⟩) 2 true 5=some (.agg [.int .i64 x.p0,.int .i64 x.p1]):=Iy (l:=DO x j) rfl rfl (Gb x j) rfl
theorem QS:Dn (some ⟨false,sz,C6 x j,lent⟩) 2 true 9=some (.agg [.int .i64 x.a0,.int .i64 x.a1]):=Iy (l:=DO x j) rfl rfl (Gb x j) rfl
theorem Mc:Dn (some ⟨false,sz,C6 x j,lent⟩) 33 true 11=some (.agg (.int .i64 x.c0.1::CW x.c0.2)):=Iy (l:=DO x j) rfl rfl (Gb x j) (by simp[C7,Sg.cs])
theorem Md:Dn (some ⟨false,sz,C6 x j,lent⟩) 33 true 44=some (.agg (.int .i64 x.c1.1::CW x.c1.2)):=Iy (l:=DO x j) rfl rfl (Gb x j) (by simp[C7,Sg.cs])
theorem Zo:Dn (some ⟨false,sz,C6 x j,lent⟩) 2 true 144=some (.agg [.bool x.b.t0,.bool x.b.t1]):=Iy (l:=DO x j) rfl rfl (Gb x j) rfl
theorem Og:Dn (some ⟨false,sz,C6 x j,lent⟩) 198 true 77=some (DF x.b):=Iy (l:=DO x j) rfl rfl (Gb x j) (by rw[DF,← OG]; rfl)
def Gq(a b:Int×Dig):List D:=(.int .i64 a.1::CW a.2)++(.int .i64 b.1::CW b.2)
theorem S6:Dn (some ⟨false,sz,C6 x j,lent⟩) 66 true 11=some (.agg (Gq x.c0 x.c1)):=Iy (l:=DO x j) rfl rfl (Gb x j) (by simp[C7,Sg.cs,Gq])
theorem EX:Dn (some ⟨false,sz,C6 x j,lent⟩) 279 true 0=some (.agg (C6 x j)):=KJ sz lent _ 279 (LN x j)
end
theorem FF(x:Cse):D.agg (C6 x (Dg x.jn))=Db x:=rfl
theorem Jb:ER=C6 Gz (.slc 0 [] true):=(rfl)
noncomputable def Sm:List D→Option D:=Dc (α:=Int) (fun a=>[.int .i64 a]) (fun a=>True) (fun a=>.bool (decide (It a)))
theorem aG(n:Int):Sm [.int .i64 n]=some (.bool (decide (It n))):=
 DW (fun a b h=>by simp only[Aa,D.int.injEq,true_and,and_true]at h; simp[h]) (n) trivial
theorem Ycs(n:Int):@wW GG (tb [] []) Xw.code (C3 [.int .i64 n]) [] ⟨Df Xw.res (.bool (decide (It n)))⟩:=by
 unfold Xw
 by_cases E:-9007199254740992≤n
 ·by_cases I:n≤9007199254740992
  ·have e:decide (It n)=true:=decide_eq_true ⟨E,I⟩;simp (disch:=first|omega|decide) only[push_cast,↓reduceIte,Cx,Cz,E,I,e]
  ·have e:decide (It n)=false:=decide_eq_false fun q=>I q.2;simp (disch:=first|omega|decide) only[push_cast,↓reduceIte,Cx,Cz,E,I,e]
 ·have e:decide (It n)=false:=decide_eq_false fun q=>E q.1;simp (disch:=first|omega|decide) only[push_cast,↓reduceIte,Cx,Cz,E,e]
theorem dE:Contract Tryz.prog GG 64 Sm:=
 D8 tR (DA all_nil all_nil) (fun a h=>Ycs a)
noncomputable def RV:List D→Option D:=Dc (α:=Cse) (fun a=>[Db a]) (fun a=>True) (fun a=>.bool (decide (FG a)))
theorem So(x:Cse):RV [Db x]=some (.bool (decide (FG x))):=
 DW (fun a b h=>by simp only[Aa,and_true,M0]at h; simp[h]) (x) trivial
theorem Ykj(x:Cse):@wW GG (tb [] []) XN.code (C3 [Db x]) [] ⟨Df XN.res (.bool (decide (FG x)))⟩:=by
 unfold XN
 by_cases E:x.ph=1
 ·have e:decide (FG x)=true:=by simp[FG,E]
  simp (disch:=first|omega|decide) only[push_cast,↓reduceIte,Cx,Et,ET,E,e]
 by_cases I:x.ph=2
 ·have e:decide (FG x)=true:=by simp[FG,I]
  have g:=eq_true I;simp (disch:=first|omega|decide) only[push_cast,↓reduceIte,Cx,Et,ET,E,g,e]
 by_cases J:x.ph=3
 ·have e:decide (FG x)=true:=by simp[FG,J]
  have g:=eq_true J;simp (disch:=first|omega|decide) only[push_cast,↓reduceIte,Cx,Et,ET,E,I,g,e]
 ·have e:decide (FG x)=false:=by simp[FG,E,I,J]
  simp (disch:=first|omega|decide) only[push_cast,↓reduceIte,Cx,Et,ET,E,I,J,e]
theorem tq:Contract Tryz.prog GG 74 RV:=
 D8 ua (DA all_nil all_nil) (fun a h=>Ykj a)
noncomputable def OY:List D→Option D:=Dc (α:=Cse) (fun a=>[Db a]) (fun a=>True) (fun a=>.bool (decide (JF a)))
theorem aw(x:Cse):OY [Db x]=some (.bool (decide (JF x))):=
 DW (fun a b h=>by simp only[Aa,and_true,M0]at h; simp[h]) (x) trivial
theorem Ykk(x:Cse):@wW GG (tb [] []) W9.code (C3 [Db x]) [] ⟨Df W9.res (.bool (decide (JF x)))⟩:=by
 unfold W9
 by_cases E:x.ph=4
 ·have e:decide (JF x)=true:=by simp[JF,E]
  simp (disch:=first|omega|decide) only[push_cast,↓reduceIte,Cx,Et,ET,E,e]
 by_cases I:x.ph=5
 ·have e:decide (JF x)=true:=by simp[JF,I]
  have g:=eq_true I;simp (disch:=first|omega|decide) only[push_cast,↓reduceIte,Cx,Et,ET,E,g,e]
 by_cases J:x.ph=6
 ·have e:decide (JF x)=true:=by simp[JF,J]
  have g:=eq_true J;simp (disch:=first|omega|decide) only[push_cast,↓reduceIte,Cx,Et,ET,E,I,g,e]
 ·have e:decide (JF x)=false:=by simp[JF,E,I,J]
  simp (disch:=first|omega|decide) only[push_cast,↓reduceIte,Cx,Et,ET,E,I,J,e]
theorem cG:Contract Tryz.prog GG 31 OY:=
 D8 yDs (DA all_nil all_nil) (fun a h=>Ykk a)
def Er(b:UInt8):Dig:=⟨b::CD 31 0,by simp⟩
theorem vv(b:UInt8):DD (CW Dl) [(0,1,Da b)]=some (CW (Er b)):=by
 have h:CW Dl=(CD 32 (0:UInt8)).map Da:=rfl;rw[h,Na Da (fun _=>rfl) _ _ _ _ (by simp),M3];rfl
def PU(h l i:Int)(a b:Dig)(r:Int):Bis:=⟨h,l,i,a,b,false,false,Dl,Dl,Dl,Dl,r⟩
theorem rq:Ei 1=0:=by decide +kernel
abbrev TQ:Ty:=.agg [.int .i64,.int .i64,.int .i64,.agg [.agg (CD 32 (.int .u8)),.agg (CD 32 (.int .u8))],.agg [.bool,.bool],.agg [.agg (CD 32 (.int .u8)),.agg (CD 32 (.int .u8))],.agg [.agg (CD 32 (.int .u8)),.agg (CD 32 (.int .u8))],.int .i64]
theorem bF(h:Has (.agg [.agg (CD 32 (.int .u8)),.agg (CD 32 (.int .u8))]) d):∃ a b,d=.agg (EA a b):=by
 obtain⟨x,y,rfl,E,I⟩:=Qk h;obtain⟨a,rfl⟩:=cA E;obtain⟨b,rfl⟩:=cA I;exact⟨a,b,rfl⟩
theorem Yoi(h:Has TQ d):∃ x:Bis,d=DF x:=by
 cases h with
 |agg _ xs I E=>
  match xs,I with
  |[J,M,N,O,U,V,Y,x7],_=>
   obtain⟨h,rfl,_⟩:=I9 (E 0 _ J rfl rfl);obtain⟨l,rfl,_⟩:=I9 (E 1 _ M rfl rfl);obtain⟨i,rfl,_⟩:=I9 (E 2 _ N rfl rfl);obtain⟨n0,n1,rfl⟩:=bF (E 3 _ O rfl rfl);obtain⟨y0,y1,rfl,g0,g1⟩:=Qk (E 4 _ U rfl rfl);obtain⟨t0,rfl⟩:=mg g0;obtain⟨t1,rfl⟩:=mg g1;obtain⟨l0,l1,rfl⟩:=bF (E 5 _ V rfl rfl);obtain⟨r0,r1,rfl⟩:=bF (E 6 _ Y rfl rfl);obtain⟨r,rfl,_⟩:=I9 (E 7 _ x7 rfl rfl);refine⟨⟨h,l,i,n0,n1,t0,t1,l0,l1,r0,r1,r⟩,?_⟩;simp[DF,C8,EA,D.cells]
def Ul(a b:List Dig)(lv i:Int):Int:=if rV a (lv - 1).toNat (2*i)=rV b (lv - 1).toNat (2*i)then 2*i+1 else 2*i
def idxS(a b:List Dig)(h:Int):Nat→Int
 |0=>0
 |k+1=>Ul a b (h - k) (idxS a b h k)
variable {c:List Ins} {v:Int×List Int} {x:Cse} {m:Mv} {now:Int}
theorem OO(h:FU c v x m now≠0):GP c v x m now=Gz:=if_neg h
theorem RO(h:FU c v x m now=0):GP c v x m now=(Gg c v x m now).1:=if_pos h
theorem oN(h:¬ FG x):FU c v x m now=400:=if_neg h
def E6(m:Mv)(now:Int):Prop:=(1≤m.kd∧m.kd≤7)∧0≤now∧now≤1073741824∧(m.pt=0∨m.pt=1)
theorem Yen(h:FG x)(E:¬ E6 m now):FU c v x m now=1:=by
 unfold FU; rw[if_pos h]; exact if_neg E
theorem oO(h:FG x)(E:E6 m now)(I:¬ now≤x.dl):FU c v x m now=401:=by
 unfold FU E6 at *; rw[if_pos h,if_pos E]; exact if_neg I
theorem Wl(h:FG x)(E:E6 m now)(I:now≤x.dl):FU c v x m now=(Gg c v x m now).2:=by
 unfold FU E6 at *; rw[if_pos h,if_pos E]; exact if_pos I
def Ysz(x:Cse)(m:Mv):Prop:=((m.kd=1∨m.kd=6)∧(m.pt=0∨x.ph≠1))∨(m.kd=4∧m.pt=1)∨(m.kd=7∧(m.pt=1∨x.ph≠1))∨(m.kd=2∧x.ph≠2)∨(m.kd=3∧x.ph≠3)
theorem mT(h:FG x)(I:E6 m now)(J:now≤x.dl)(hn:Ysz x m):FU c v x m now=380:=by
 rw[Wl h I J];unfold Gg;rcases hn with⟨hk | hk,E⟩ | ⟨hk,E⟩ | ⟨hk,E⟩ | ⟨hk,E⟩ | ⟨hk,E⟩
 ·rw[if_pos hk]; unfold Nf; rw[if_neg (by omega)]
 ·rw[if_neg (by omega),if_neg (by omega),if_neg (by omega),if_neg (by omega),if_neg (by omega),if_pos hk]; unfold Pm; rw[if_neg (by omega)]
 ·rw[if_neg (by omega),if_neg (by omega),if_neg (by omega),if_pos hk]; unfold Q1; rw[if_neg (by omega)]
 ·rw[if_neg (by omega),if_neg (by omega),if_neg (by omega),if_neg (by omega),if_neg (by omega),if_neg (by omega)]; unfold H2; rw[if_neg (by omega)]
 ·rw[if_neg (by omega),if_pos hk]; unfold QM; rw[if_neg E]
 ·rw[if_neg (by omega),if_neg (by omega),if_pos hk]; unfold QX G8; rw[if_neg (by simp[E])]
structure Keep (x y:Cse):Prop where
 key:y.key=x.key
 p0:y.p0=x.p0
 p1:y.p1=x.p1
 a0:y.a0=x.a0
 c0:y.c0=x.c0
 dl:y.ph≤3→x.dl≤y.dl
theorem Keep.refl(x:Cse):Keep x x:=⟨rfl,rfl,rfl,rfl,rfl,fun _=>Int.le_refl _⟩
structure Live (x:Cse) (now:Int):Prop where
 ph:1≤x.ph∧x.ph≤6
 dl:x.ph≤3→x.dl≤now+1440
 wn:-1≤x.wn∧x.wn≤1
 bv:JZ x.b=true
theorem Yqr(x:Cse)(n:Int):-1≤K1 x n∧K1 x n≤1:=by
 unfold K1; split
 ·omega
 ·omega
theorem yIv(E:Dig×Dig)(d:Dig):-1≤OA E d∧OA E d≤1:=by
 unfold OA; split
 ·omega
 ·omega
theorem aR(E:Dig×Dig)(r:Dig×Int):-1≤(G1 E r).1∧(G1 E r).1≤1:=by
 unfold G1; split
 ·exact yIv ..
 ·simp
def F6(st:St)(k:Nat)(p:Ply):Prop:=st[k]?=some ⟨false,1,C4 p,false⟩
variable {p:Ply}
theorem KO(h:F6 st k p):k<st.length:=(Ac.1 h).1
theorem Yhi{a b:List Ins}:Gr a=Gr b↔a=b:=by
 refine⟨fun h=>?_,fun h=>by rw[h]⟩;simp only[Gr,D.slc.injEq,and_true]at h;exact J2.1 h.2
theorem mV{q:Ply}(h:C4 p=C4 q)(M:p.j=Dg p.x.jn)(N:q.j=Dg q.x.jn):p=q:=by
 obtain⟨I,pj,pc,pv,pm,pn,O⟩:=p;obtain⟨qx,qj,qc,qv,qm,qn,U⟩:=q;dsimp only at M N;simp only[C4,D5,Ku,Ah]at h;obtain⟨h1,V⟩:=A2 h ((LN I pj).trans (LN qx qj).symm);simp only[C7,Sg.cs,Ae,Ai,Ad,Aa,Yhi]at V;obtain⟨rfl,h3⟩:=V;obtain⟨h4,h5⟩:=A2 h3 ((Je O).trans (Je U).symm);obtain⟨h6,Y⟩:=A2 h5 ((WC pm).trans (WC qm).symm);simp only[Aa,D.int.injEq,true_and,and_true]at Y;obtain rfl:=Y;obtain rfl:=cT.1 (congrArg D.agg h6);obtain rfl:=KI.1 (congrArg D.agg h4);obtain⟨E,h9⟩:=dW h1;subst h9;have J:I.jn=qx.jn:=VQ.1 (M.symm.trans N)
 have:I=qx:=by
  obtain⟨xk,x0,x1,x2,x3,x4,x5,xc,xe,xb,x6,x7,x8,xj⟩:=I;obtain⟨yk,y0,y1,y2,y3,y4,y5,yc,ye,yb,y6,y7,y8,yj⟩:=qx;simp only[Cse.mk.injEq,and_true]at E J ⊢;exact⟨E.1,E.2.1,E.2.2.1,E.2.2.2.1,E.2.2.2.2.1,E.2.2.2.2.2.1,E.2.2.2.2.2.2.1,E.2.2.2.2.2.2.2.1,E.2.2.2.2.2.2.2.2.1,E.2.2.2.2.2.2.2.2.2.1,E.2.2.2.2.2.2.2.2.2.2.1,E.2.2.2.2.2.2.2.2.2.2.2.1,E.2.2.2.2.2.2.2.2.2.2.2.2,J⟩
 subst this;rfl
section
variable {α:Type} (enc:α→List D) (pre:Ply→α→Prop) (F:Ply→α→Cse×Int×St)
def Ji(ds:List D)(st:St)(r:D×Int×St):Prop:=∃ (k:Nat) (p:Ply) (a:α),p.j=Dg p.x.jn∧F6 st k p∧pre p a∧ds=.ptr k 0::enc a∧r=(.tup [],(F p a).2.1,Ds st k (C4 {p with x:=(F p a).1})++(F p a).2.2)
variable {enc pre F}
theorem M7(hi:∀ a b,enc a=enc b→a=b):Is (Ji enc pre F):=by
 rintro ds st r J ⟨k,p,a,hj,hk,_,rfl,rfl⟩ ⟨k',p',M,I,E,_,h,rfl⟩;simp only[Aa,D.ptr.injEq,and_true]at h;obtain⟨rfl,h⟩:=h;obtain rfl:=hi _ _ h;unfold F6 at hk E;rw[hk]at E;simp only[AN,PI.Obj.mk.injEq,true_and,and_true]at E;obtain rfl:=mV E hj I;rfl
theorem P9(hi:∀ a b,enc a=enc b→a=b){a:α}(hj:p.j=Dg p.x.jn)(hk:F6 st k p)(E:pre p a)(I:(F p a).2.1=0) :
  Ep (Ji enc pre F) (.ptr k 0::enc a) st=some (.tup [],Ds st k (C4 {p with x:=(F p a).1})++(F p a).2.2):=
 Tc (M7 hi) ⟨k,p,a,hj,hk,E,rfl,by rw[I]⟩
theorem Yms(hi:∀ a b,enc a=enc b→a=b){a:α}(hj:p.j=Dg p.x.jn)(hk:F6 st k p)(E:pre p a)(I:(F p a).2.1≠0) :
  Ep (Ji enc pre F) (.ptr k 0::enc a) st=none:=Tb (M7 hi) ⟨k,p,a,hj,hk,E,rfl,rfl⟩ I
theorem Ys9(hi:∀ a b,enc a=enc b→a=b){a:α}(hj:p.j=Dg p.x.jn)(hk:F6 st k p)(E:pre p a)(I:(F p a).2.1≠0) :
  F1 (Ji enc pre F) (.ptr k 0::enc a) st=some (125,.int .i64 (F p a).2.1,Ds st k (C4 {p with x:=(F p a).1})++(F p a).2.2):=
 RF (M7 hi) ⟨k,p,a,hj,hk,E,rfl,rfl⟩ I
end
theorem IM(h:F6 st k p)(l:St):F6 (st++l) k p:=by
 unfold F6; rw[HE (KO h)]; exact h
theorem O2(h:k<st.length)(p:Ply):F6 (Ds st k (C4 p)) k p:=LI h _
theorem N2(h:F6 st k p):Ds st k (C4 p)=st:=by
 unfold F6 at h;obtain⟨I,E⟩:=Ac.1 h;unfold Ds;rw[← E,List.set_getElem_self]
def Ia:Unit→List D:=fun _=>[]
def GZ:Int→List D:=fun n=>[.int .i64 n]
def Ka:Int×Int→List D:=fun a=>[.int .i64 a.1,.int .i64 a.2]
theorem LL:∀ a b,Ia a=Ia b→a=b:=fun _ _ _=>rfl
theorem dZ:∀ a b,GZ a=GZ b→a=b:=fun a b h=>by simpa[GZ]using h
theorem lS:∀ a b,Ka a=Ka b→a=b:=fun a b h=>by
 simp only[Ka,Aa,D.int.injEq,true_and,and_true]at h;exact Prod.ext h.1 h.2
def NC(p:Ply)(a:Int×Int):Cse×Int×St:=(Jf p.x a.1 a.2,0,[])
abbrev L9:=Ji Ka (fun _ _=>True) NC
theorem dV:CK 125 L9:=by
 refine JX (T:=tb [] []) jT (DA all_nil all_nil) ?_;rintro ds st d e st' ⟨k,p,⟨w,a⟩,hj,hk,_,rfl,h⟩;simp only[AA]at h;obtain⟨rfl,rfl,rfl⟩:=h;have E:=KO hk;unfold F6 at hk;unfold bw;simp (disch:=first|omega|decide) only[push_cast,↓reduceIte,Cx,Ka,NC,Jf,Dw,hk,Tf,sO,Yrx,H8,LI E,KP,Ad,and_true]
noncomputable abbrev hJ:Tbl:=tb [] [(125,Ep L9)]
theorem au(hj:p.j=Dg p.x.jn)(hk:F6 st k p)(w a:Int):Ep L9 [.ptr k 0,.int .i64 w,.int .i64 a] st=some (.tup [],Ds st k (C4 {p with x:=Jf p.x w a})):=by
 have:=P9 (F:=NC) (pre:=fun _ _=>True) lS (a:=(w,a)) hj hk trivial rfl;rw[show(NC p (w,a)).2.2=[]from rfl,Ad]at this;exact this
def KU(p:Ply)(a:Int):Cse×Int×St:=(FA p.x a,0,[])
abbrev K6:=Ji GZ (fun _ a=>a≤1) KU
theorem YX:CK 79 K6:=by
 refine JX (T:=hJ) jN (DA all_nil (all_cons dV.1 all_nil)) ?_;rintro ds st d e st' ⟨k,p,a,hj,hk,ha,rfl,h⟩;simp only[AA]at h;obtain⟨rfl,rfl,rfl⟩:=h;have M:=KO hk;have E:=fun w a=>au hj hk w a;unfold F6 at hk;unfold bt
 by_cases I:a<0
 ·simp (disch:=first|omega|decide) only[push_cast,↓reduceIte,Cx,Cz,GZ,KU,FA,I,E,Ad,and_true]
 ·have J:a=0∨a=1:=by omega
  rcases J with rfl | rfl
  ·have e:FA p.x 0=Jf p.x 0 p.x.a0:=by unfold FA Oc; rw[if_neg (by omega),if_pos rfl]
   simp (disch:=first|omega|decide) only[push_cast,↓reduceIte,Cx,CB,Cz,GZ,KU,e,I,Dw,hk,Ea,Yz,E,Ad,and_true]
  ·have e:FA p.x 1=Jf p.x 1 p.x.a1:=by unfold FA Oc; rw[if_neg (by omega),if_neg (by omega)]
   simp (disch:=first|omega|decide) only[push_cast,↓reduceIte,Cx,Cy,CB,Cz,GZ,KU,e,I,Dw,hk,Ea,YA,E,Ad,and_true]
theorem R9(hj:p.j=Dg p.x.jn)(hk:F6 st k p){a:Int}(E:a≤1):Ep K6 [.ptr k 0,.int .i64 a] st=some (.tup [],Ds st k (C4 {p with x:=FA p.x a})):=by
 have:=P9 (F:=KU) (pre:=fun _ a=>a≤1) dZ (a:=a) hj hk E rfl;rw[show(KU p a).2.2=[]from rfl,Ad]at this;exact this
theorem Yua(hk:st[k]?=some ⟨false,1,C4 p,false⟩):DN st (.bsl k 9 2 1 false)=some (.slc 1 [.int .i64 p.x.a0,.int .i64 p.x.a1] false):=by
 have E:Km st k 9 2 1 false=some [.int .i64 p.x.a0,.int .i64 p.x.a1]:=by
  unfold Km;rw[hk];dsimp only;rw[yLq,if_pos (by decide)];rfl
 simp only[DN,Du,Hm,E];rfl
def Ny(p:Ply)(n:Int):Cse×Int×St:=(QN p.x n,0,[])
abbrev NI:=Ji GZ (fun _ _=>True) Ny
theorem mw:CK 120 NI:=by
 refine JX (T:=tb [(160,YE)] [(125,Ep L9)]) uK (DA (all_cons Vk all_nil) (all_cons dV.1 all_nil)) ?_;rintro ds st d e st' ⟨k,p,a,hj,hk,ha,rfl,h⟩;simp only[AA]at h;obtain⟨rfl,rfl,rfl⟩:=h;have E:=fun w a=>au hj hk w a
 have ci:YE [.slc 1 [.int .i64 p.x.a0,.int .i64 p.x.a1] false,.int .i64 a]=some (.int .i64 (K1 p.x a)):=by
  have:=Yhp [p.x.a0,p.x.a1] a (by simp);rw[Ynp]at this;exact this
 unfold F6 at hk;have hi:=Yua hk;have I:NR 2 1 false (.ptr k 9) none none=some (.bsl k 9 2 1 false):=rfl;have Dm:keys (.bsl k 9 2 1 false)=[k]:=rfl;unfold jK;simp (disch:=first|omega|decide) only[push_cast,↓reduceIte,Cx,GZ,Ny,QN,Dw,I,hi,ci,E,Ad,and_true]
theorem ax(hj:p.j=Dg p.x.jn)(hk:F6 st k p)(a:Int):Ep NI [.ptr k 0,.int .i64 a] st=some (.tup [],Ds st k (C4 {p with x:=QN p.x a})):=by
 have:=P9 (F:=Ny) (pre:=fun _ _=>True) dZ (a:=a) hj hk trivial rfl;rw[show(Ny p a).2.2=[]from rfl,Ad]at this;exact this
def Ls(p:Ply):Prop:=0≤p.now∧p.now≤1073741824
def Nz(p:Ply)(_:Unit):Cse×Int×St:=({p.x with dl:=p.now+1440},0,[])
abbrev JE:=Ji Ia (fun p _=>Ls p) Nz
theorem We:CK 118 JE:=by
 refine JX (T:=tb [] []) uS (DA all_nil all_nil) ?_;rintro ds st d e st' ⟨k,p,a,hj,hk,ha,rfl,h⟩;simp only[AA]at h;obtain⟨rfl,rfl,rfl⟩:=h;obtain⟨n1,I⟩:=ha;have E:=KO hk;unfold F6 at hk;unfold jU;simp (disch:=first|omega|decide) only[push_cast,↓reduceIte,Cx,Ia,Nz,Dw,hk,Ym1,DL,Yrv,H8,Ad,and_true]
theorem WU(hj:p.j=Dg p.x.jn)(hk:F6 st k p)(hn:Ls p):Ep JE [.ptr k 0] st=some (.tup [],Ds st k (C4 {p with x:={p.x with dl:=p.now+1440}})):=by
 have:=P9 (F:=Nz) (pre:=fun p _=>Ls p) LL (a:=()) hj hk hn rfl;rw[show(Nz p ()).2.2=[]from rfl,Ad]at this;exact this
def Nq(p:Ply)(_:Unit):Cse×Int×St:=(Q0 p.x p.now,0,[])
abbrev NG:=Ji Ia (fun p _=>Ls p) Nq
theorem tE:CK 121 NG:=by
 refine JX (T:=tb [] [(118,Ep JE)]) uB (DA all_nil (all_cons We.1 all_nil)) ?_;rintro ds st d e st' ⟨k,p,a,hj,hk,ha,rfl,h⟩;simp only[AA]at h;obtain⟨rfl,rfl,rfl⟩:=h;have E:=KO hk;have ce:=WU (st:=Ds st k (C4 {p with x:={p.x with ph:=3}})) (k:=k) (p:={p with x:={p.x with ph:=3}}) hj (O2 E _) ha;unfold F6 at hk;unfold jy;simp (disch:=first|omega|decide) only[push_cast,↓reduceIte,Cx,Ia,Nq,Q0,Dw,hk,Tf,H8,ce,KP,Ad,and_true]
theorem mv(hj:p.j=Dg p.x.jn)(hk:F6 st k p)(hn:Ls p):Ep NG [.ptr k 0] st=some (.tup [],Ds st k (C4 {p with x:=Q0 p.x p.now})):=by
 have:=P9 (F:=Nq) (pre:=fun p _=>Ls p) LL (a:=()) hj hk hn rfl;rw[show(Nq p ()).2.2=[]from rfl,Ad]at this;exact this
theorem Gc(st:St)(c:List Ins):DN st (Gr c)=some (Gr c):=QB st (d:=Gr c) (by simp[Gr,Iv,El,Kj])
theorem Ja(c:List Ins):keys (Gr c)=[]:=rfl
theorem HI:((380:Int)=0)=False:=by simp
theorem fL:((381:Int)=0)=False:=by simp
theorem Un:((1:Int)=0)=False:=by simp
theorem n2e:((2:Int)=0)=False:=by simp
theorem Rs:((40:Int)=0)=False:=by simp
theorem Nv:((390:Int)=0)=False:=by simp
def Fc(p:Int×Dig):List D:=.int .i64 p.1::CW p.2
def Q5(c:List Ins)(v:Int×List Int)(x:Cse):St:=⟨false,1,EA (HY x.b) (HZ x.b),false⟩::(if Ld x.b=true∧KA x.b=0 then [⟨false,1,Fc (G1 (HY x.b,HZ x.b) (Ha c v)),false⟩]else [])
def LW(p:Ply)(_:Unit):Cse×Int×St:=((JU p.c p.v p.x p.now).1,(JU p.c p.v p.x p.now).2,Q5 p.c p.v p.x)
def J5(p:Ply)(_:Unit):Prop:=p.c.length≤4294967296∧Ls p
abbrev JD:=Ji Ia J5 LW
noncomputable abbrev gY:Tbl:=Lr [(88,RU),(14,Wm)] [(123,Ep Lv),(79,Ep K6),(121,Ep NG)] [(123,F1 Lv)]
theorem Wf:CK 119 JD:=by
 refine JX (T:=gY) uT (MN (all_cons cu (all_cons Yh1 all_nil)) (all_cons Qh.1 (all_cons YX.1 (all_cons tE.1 all_nil))) (all_cons Qh.2 all_nil)) ?_;rintro ds st d e st' ⟨k,p,a,hj,hk,⟨hc,hn⟩,rfl,h⟩;simp only[AA]at h;obtain⟨rfl,rfl,rfl⟩:=h;have N:=KO hk;have hs:Ds st k (C4 {p with x:=p.x})=st:=N2 hk;have E:=Wt p.x.b;have V:Wm [Gr p.c,Ev p.v,.agg (EA (HY p.x.b) (HZ p.x.b))]=some (.tup [D0 (G1 (HY p.x.b,HZ p.x.b) (Ha p.c p.v)),.int .i64 (Ha p.c p.v).2]):=yM5 p.c p.v (HY p.x.b,HZ p.x.b) ⟨by omega,p.hv⟩;have ab:=(aR (HY p.x.b,HZ p.x.b) (Ha p.c p.v)).2;have cr:∀ l,_:=fun l=>R9 (st:=st++l) hj (IM hk l) ab;have cs:∀ l,_:=fun l=>mv (st:=st++l) hj (IM hk l) hn;have O:∀ l:St,(st++l)[k]?=some ⟨false,1,C4 p,false⟩:=fun l=>IM hk l;have J:st[k]?=some ⟨false,1,C4 p,false⟩:=hk;unfold jV Ia LW JU Q5
 by_cases I:Ld p.x.b=true
 ·by_cases Y:KA p.x.b=0
  ·by_cases M:(Ha p.c p.v).2=0
   ·have g2:=eq_true Y;have g3:=eq_true M;rw[I]at E;rw[M]at V;simp (disch:=first|omega|decide) only[push_cast,↓reduceIte,Cx,Dw,J,O,Gc,Ja,EW,Hc,Ie,Hg,D0,Fc,Ah,Ae,Ai,Ad,Ab,Ak,Ap,Am,DJ,DK,EE,EF,Hx N,and_self,decide_true,Hu,FT,F8,E,V,cr,I,g2,M]
   ·have g2:=eq_true Y;rw[I]at E;simp (disch:=first|omega|decide) only[push_cast,↓reduceIte,Cx,Dw,J,O,Gc,Ja,EW,Hc,Ie,Ik,My,hs,D0,Fc,Ah,Ae,Ai,Ad,Ab,Ak,Ap,Am,DJ,DK,EE,EF,and_self,not_false_eq_true,decide_true,Hu,FT,F8,E,V,I,g2,M]
  ·rw[I]at E;simp (disch:=first|omega|decide) only[push_cast,↓reduceIte,Cx,Dw,J,Am,EE,EF,Hx N,and_self,and_false,decide_false,Hu,E,cs,I,Y]
 ·have U:Ld p.x.b=false:=by simpa using I
  rw[U]at E;simp (disch:=first|omega|decide) only[push_cast,↓reduceIte,Cx,Dw,J,hs,Am,EE,EF,and_self,false_and,Hu,E,U,Al]
section
variable {st:St} {k:Nat} {p:Ply} (hj:p.j=Dg p.x.jn) (hk:F6 st k p) (hc:p.c.length≤4294967296) (hn:Ls p)
include hj hk hc hn
theorem mu(h:(JU p.c p.v p.x p.now).2=0):Ep JD [.ptr k 0] st=some (.tup [],Ds st k (C4 {p with x:=(JU p.c p.v p.x p.now).1})++Q5 p.c p.v p.x):=
 P9 (F:=LW) (pre:=J5) LL (a:=()) hj hk ⟨hc,hn⟩ h
theorem nE(h:(JU p.c p.v p.x p.now).2≠0):Ep JD [.ptr k 0] st=none:=Yms (F:=LW) (pre:=J5) LL (a:=()) hj hk ⟨hc,hn⟩ h
theorem nF(h:(JU p.c p.v p.x p.now).2≠0):F1 JD [.ptr k 0] st=some (125,.int .i64 (JU p.c p.v p.x p.now).2,Ds st k (C4 {p with x:=(JU p.c p.v p.x p.now).1})++Q5 p.c p.v p.x):=
 Ys9 (F:=LW) (pre:=J5) LL (a:=()) hj hk ⟨hc,hn⟩ h
end
def Pu(p:Ply)(_:Unit):Cse×Int×St:=((Q1 p.x p.m).1,(Q1 p.x p.m).2,[])
abbrev PY:=Ji Ia (fun _ _=>True) Pu
theorem qg:CK 69 PY:=by
 refine JX (T:=tJ) uW (MN all_nil (all_cons I8.1 all_nil) (all_cons I8.2 all_nil)) ?_;rintro ds st d e st' ⟨k,p,a,hj,hk,_,rfl,h⟩;simp only[AA]at h;obtain⟨rfl,rfl,rfl⟩:=h;have I:=KO hk;have M:Ds st k (C4 {p with x:=p.x})=st:=N2 hk;have N:∀ l:St,(st++l)[k]?=some ⟨false,1,C4 p,false⟩:=fun l=>IM hk l;have E:st[k]?=some ⟨false,1,C4 p,false⟩:=hk;unfold j0 Ia Pu Q1
 by_cases J:p.m.pt=0
 ·have g1:=eq_true J;simp (disch:=first|omega|decide) only[push_cast,↓reduceIte,Cx,Cy,Dw,E,Dr,H8,Ad,Am,Cy,and_self,decide_true,En,g1,Tf,sO,LI I,KP]
 ·simp (disch:=first|omega|decide) only[push_cast,↓reduceIte,Cy,Dw,E,D4,D3,M,Ad,Am,Cy,and_self,not_false_eq_true,decide_false,HI,En,J]
def PR(p:Ply)(_:Unit):Cse×Int×St:=((Pp p.x p.m).1,(Pp p.x p.m).2,[])
abbrev P1:=Ji Ia (fun _ _=>True) PR
theorem pR:CK 70 P1:=by
 refine JX (T:=Lr [] [(73,Ep HD),(79,Ep K6),(125,Ep L9)] [(73,F1 HD)]) u7 (MN all_nil (all_cons I8.1 (all_cons YX.1 (all_cons dV.1 all_nil))) (all_cons I8.2 all_nil)) ?_;rintro ds st d e st' ⟨k,p,a,hj,hk,_,rfl,h⟩;simp only[AA]at h;obtain⟨rfl,rfl,rfl⟩:=h;have O:=KO hk;have M:Ds st k (C4 {p with x:=p.x})=st:=N2 hk;have U:∀ l:St,(st++l)[k]?=some ⟨false,1,C4 p,false⟩:=fun l=>IM hk l;have E:st[k]?=some ⟨false,1,C4 p,false⟩:=hk;have c1:=R9 hj hk (a:=0) (by omega);have N:=au hj hk 1 p.x.ct;unfold jW Ia PR Pp
 by_cases I:p.m.pt=1
 ·have g1:=eq_true I;simp (disch:=first|omega|decide) only[push_cast,↓reduceIte,Cx,Cy,Dw,E,Ad,Am,Cy,and_self,decide_true,En,g1,c1]
 ·by_cases J:0≤p.x.ct
  ·simp (disch:=first|omega|decide) only[push_cast,↓reduceIte,Cx,Cy,Dw,E,Dr,Ad,Am,Cy,and_self,decide_true,decide_false,En,Rb,I,J,N]
  ·simp (disch:=first|omega|decide) only[push_cast,↓reduceIte,Cx,Cy,Dw,E,D4,D3,M,Ad,Am,Cy,and_self,not_false_eq_true,decide_false,HI,En,Rb,I,J]
def PQ(p:Ply)(_:Unit):Cse×Int×St:=((Pm p.x p.m p.now).1,(Pm p.x p.m p.now).2,[])
abbrev P0:=Ji Ia (fun p _=>Ls p) PQ
theorem pS:CK 71 P0:=by
 refine JX (T:=Lr [(64,Sm)] [(73,Ep HD),(118,Ep JE)] [(73,F1 HD)]) u9 (MN (all_cons dE all_nil) (all_cons I8.1 (all_cons We.1 all_nil)) (all_cons I8.2 all_nil)) ?_;rintro ds st d e st' ⟨k,p,a,hj,hk,hn,rfl,h⟩;simp only[AA]at h;obtain⟨rfl,rfl,rfl⟩:=h;have U:=KO hk;have I:Ds st k (C4 {p with x:=p.x})=st:=N2 hk;have aa:∀ l:St,(st++l)[k]?=some ⟨false,1,C4 p,false⟩:=fun l=>IM hk l;have E:st[k]?=some ⟨false,1,C4 p,false⟩:=hk;have J:=aG p.m.am;have ce:=WU (st:=Ds st k (C4 {p with x:={p.x with ct:=p.m.am}})) (k:=k) (p:={p with x:={p.x with ct:=p.m.am}}) hj (O2 U _) hn;unfold jX Ia PQ Pm
 by_cases V:p.m.pt=1
 ·have g1:=eq_true V
  by_cases Y:p.x.ph=1
  ·have g2:=eq_true Y
   by_cases M:p.x.ct<0
   ·by_cases O:0≤p.m.am
    ·by_cases N:It p.m.am
     ·simp only[N,decide_true]at J;simp (disch:=first|omega|decide) only[push_cast,↓reduceIte,Cx,Cy,Dw,E,Dr,H8,Ad,Am,Cy,and_self,decide_true,En,Hv,Rb,Mf,g1,g2,M,O,N,J,Yrw,ce,KP]
     ·simp only[N,decide_false]at J;simp (disch:=first|omega|decide) only[push_cast,↓reduceIte,Cx,Cy,Dw,E,Dr,D4,D3,I,Ad,Am,Cy,and_self,and_false,not_false_eq_true,decide_true,Un,En,Hv,Rb,Mf,g1,g2,M,O,N,J]
    ·simp (disch:=first|omega|decide) only[push_cast,↓reduceIte,Cx,Cy,Dw,E,Dr,D4,D3,I,Ad,Am,Cy,and_self,false_and,not_false_eq_true,decide_true,decide_false,Un,En,Hv,Rb,Mf,g1,g2,M,O]
   ·simp (disch:=first|omega|decide) only[push_cast,↓reduceIte,Cx,Cy,Dw,E,D4,D3,I,Ad,Am,Cy,and_self,and_false,not_false_eq_true,decide_true,decide_false,HI,En,Hv,Rb,g1,g2,M]
  ·simp (disch:=first|omega|decide) only[push_cast,↓reduceIte,Cx,Cy,Dw,E,D4,D3,I,Ad,Am,Cy,and_self,and_false,false_and,not_false_eq_true,decide_true,decide_false,HI,En,Hv,g1,Y]
 ·simp (disch:=first|omega|decide) only[push_cast,↓reduceIte,Cx,Cy,Dw,E,D4,D3,I,Ad,Am,Cy,and_self,false_and,not_false_eq_true,decide_false,HI,En,V]
def HW(x:Cse)(m:Mv):Cse:={x with a1:=m.am,c1:=m.cm}
def Ho(x:Cse)(m:Mv)(now:Int):Cse:={x with a1:=m.am,c1:=m.cm,b:=Kl x.c0 m.cm,ph:=2,dl:=now+1440}
def rz(c:List Ins)(v:Int×List Int)(x:Cse)(m:Mv)(now:Int):St:=
 if m.pt=1∧x.ph=1 then
  if It m.am then⟨false,1,C8 (Kl x.c0 m.cm),false⟩::(if G3 x.c0 m.cm=0 then Q5 c v (Ho x m now)else [])
  else []
 else []
def PW(p:Ply)(_:Unit):Cse×Int×St:=((Nf p.c p.v p.x p.m p.now).1,(Nf p.c p.v p.x p.m p.now).2,rz p.c p.v p.x p.m p.now)
abbrev P3:=Ji Ia J5 PW
theorem sW(st:St)(c:List Ins):EH st false (Gr c)=some (.int .i64 (c.length:Int)):=by
 simp[EH,IZ,Gr,EK]
noncomputable abbrev hU:Tbl:=Lr [(64,Sm),(26,N3)]
 [(73,Ep HD),(118,Ep JE),(119,Ep JD),(79,Ep K6),(120,Ep NI),(121,Ep NG)]
 [(73,F1 HD),(119,F1 JD)]
theorem nM:CK 66 P3:=by
 refine JX (T:=hU) uR (MN (all_cons dE (all_cons dF all_nil)) (all_cons I8.1 (all_cons We.1 (all_cons Wf.1 (all_cons YX.1 (all_cons mw.1 (all_cons tE.1 all_nil)))))) (all_cons I8.2 (all_cons Wf.2 all_nil))) ?_;rintro ds st d e st' ⟨k,p,a,hj,hk,⟨hc,hn⟩,rfl,h⟩;simp only[AA]at h;obtain⟨rfl,rfl,rfl⟩:=h;have E:=KO hk;have hs:Ds st k (C4 {p with x:=p.x})=st:=N2 hk;have a8:∀ l:St,(st++l)[k]?=some ⟨false,1,C4 p,false⟩:=fun l=>IM hk l;have I:st[k]?=some ⟨false,1,C4 p,false⟩:=hk;have M:=aG p.m.am;have U:N3 [.agg (.int .i64 p.x.c0.1::CW p.x.c0.2),.agg (.int .i64 p.m.cm.1::CW p.m.cm.2)]=some (.tup [DF (Kl p.x.c0 p.m.cm),.int .i64 (G3 p.x.c0 p.m.cm)]):=aH p.x.c0 p.m.cm;have Y:=fun C=>LI E C;have O:=fun C m=>OU E C m;unfold jP Ia PW Nf rz
 by_cases h1:p.m.pt=1
 ·have g1:=eq_true h1
  by_cases h2:p.x.ph=1
  ·have g2:=eq_true h2
   by_cases N:It p.m.am
   ·simp only[N,decide_true]at M
    -- a2 case with a2 answer
    have aa:∀ l,F6 (Ds st k (C4 {p with x:=HW p.x p.m})++l) k {p with x:=HW p.x p.m}:=fun l=>IM (O2 E _) l
    by_cases V:G3 p.x.c0 p.m.cm=1
    ·rw[V]at U;have n0:¬ (1:Int)=0:=by decide
     simp (disch:=first|omega|decide) only[push_cast,↓EC,↓reduceIte,Cx,Cy,CB,Dw,I,Dr,D4,D3,H8,Ae,Ai,Am,Cy,EE,EF,and_self,not_false_eq_true,decide_true,fL,En,Hv,Mf,Rc,FB,FC,g1,g2,N,V,M,U,Rh,Ri,Y,KP,Ea,n0]
    ·by_cases h7:G3 p.x.c0 p.m.cm=0
     ·have g7:=eq_true h7
      have ce:∀ l:St,Ep JE [.ptr k 0] (Ds st k (C4 {p with x:={HW p.x p.m with b:=Kl p.x.c0 p.m.cm,ph:=2}})++l)=some (.tup [],Ds (Ds st k (C4 {p with x:={HW p.x p.m with b:=Kl p.x.c0 p.m.cm,ph:=2}})++l) k (C4 {p with x:=Ho p.x p.m p.now})):=
       fun l=>WU (p:={p with x:={HW p.x p.m with b:=Kl p.x.c0 p.m.cm,ph:=2}}) hj (IM (O2 E _) l) hn
      have ab:∀ l,F6 (Ds st k (C4 {p with x:=Ho p.x p.m p.now})++l) k {p with x:=Ho p.x p.m p.now}:=fun l=>IM (O2 E _) l
      by_cases J:(JU p.c p.v (Ho p.x p.m p.now) p.now).2=0
      ·have cs:=fun l=>mu (p:={p with x:=Ho p.x p.m p.now}) hj (ab l) hc hn J;have g8:=eq_true J;simp only[HW,Ho]at ce cs J g8;simp (disch:=first|omega|decide) only[push_cast,↓EC,↓reduceIte,Cx,Cy,CB,Dw,I,Dr,H8,Ah,Ae,Ai,Am,Cy,EE,EF,and_self,decide_true,decide_false,En,Hv,Mf,Rc,FB,FC,g1,g2,N,V,g7,M,U,Rh,Ri,SW,Tf,Y,O,KP,Mq E,Ea,ce,cs,J,Ho]
      ·have cs:=fun l=>nE (p:={p with x:=Ho p.x p.m p.now}) hj (ab l) hc hn J;have cx:=fun l=>nF (p:={p with x:=Ho p.x p.m p.now}) hj (ab l) hc hn J;simp only[HW,Ho]at ce cs cx J;simp (disch:=first|omega|decide) only[push_cast,↓EC,↓reduceIte,Cx,Cy,CB,Dw,I,Dr,H8,Ah,Ae,Ai,Am,Cy,EE,EF,and_self,not_false_eq_true,decide_true,decide_false,En,Hv,Mf,Rc,FB,FC,g1,g2,N,V,g7,M,U,Rh,Ri,SW,Tf,Y,O,KP,Mq E,Ea,ce,cs,cx,J,Ho]
     ·have cr:=fun l=>R9 (p:={p with x:=HW p.x p.m}) hj (aa l) (a:=1) (by omega);have cj:=fun l=>ax (p:={p with x:=HW p.x p.m}) hj (aa l) 0;have ct:=fun l=>mv (p:={p with x:=HW p.x p.m}) hj (aa l) hn;simp only[HW]at cr cj ct
      by_cases J:p.x.a0=p.m.am
      ·have g8:=eq_true J;simp (disch:=first|omega|decide) only[push_cast,↓EC,↓reduceIte,Cx,Cy,CB,Dw,I,Dr,H8,Ae,Ai,Am,Cy,EE,EF,and_self,decide_true,decide_false,En,Hv,Mf,Rc,FB,FC,Yz,YA,g1,g2,N,V,h7,M,U,Rh,Ri,Y,O,KP,Mq E,Ea,cr,g8]
      ·by_cases h9:p.c.length=0
       ·have g9:((p.c.length:Int)=0)=True:=by simp[h9]
        simp (disch:=first|omega|decide) only[push_cast,↓EC,↓reduceIte,Cx,Cy,CB,Dw,I,Dr,H8,Ae,Ai,Am,Cy,EE,EF,and_self,decide_true,decide_false,En,Hv,Mf,Rc,FB,FC,Yz,YA,FT,sW,g1,g2,N,V,h7,M,U,Rh,Ri,Y,O,KP,Mq E,Ea,cj,J,h9]
       ·have g9:((p.c.length:Int)=0)=False:=by simp; simpa using h9
        simp (disch:=first|omega|decide) only[push_cast,↓EC,↓reduceIte,Cx,Cy,CB,Dw,I,Dr,H8,Ae,Ai,Am,Cy,EE,EF,and_self,decide_true,decide_false,En,Hv,Mf,Rc,FB,FC,Yz,YA,FT,sW,g1,g2,N,V,h7,M,U,Rh,Ri,Y,O,KP,Mq E,Ea,ct,J,g9,h9]
   ·simp only[N,decide_false]at M;simp (disch:=first|omega|decide) only[push_cast,↓reduceIte,Cx,Cy,Dw,I,Dr,D4,D3,hs,Ad,Am,Cy,and_self,not_false_eq_true,decide_true,Un,En,Hv,Mf,g1,g2,N,M]
  ·simp (disch:=first|omega|decide) only[push_cast,↓reduceIte,Cx,Cy,Dw,I,D4,D3,hs,Ad,Am,Cy,and_self,and_false,not_false_eq_true,decide_true,decide_false,HI,En,Hv,g1,h2]
 ·simp (disch:=first|omega|decide) only[push_cast,↓reduceIte,Cx,Cy,Dw,I,D4,D3,hs,Ad,Am,Cy,and_self,false_and,not_false_eq_true,decide_false,HI,En,h1]
def L6(x:Cse)(m:Mv):Cse:={x with b:=Fu x.b m.pt m.lf m.rt}
def Hl(x:Cse)(m:Mv)(now:Int):Cse:={x with b:=Fu x.b m.pt m.lf m.rt,dl:=now+1440}
def rH(c:List Ins)(v:Int×List Int)(x:Cse)(m:Mv)(now:Int):St:=
 if x.ph=2 then⟨false,1,C8 (Fu x.b m.pt m.lf m.rt),false⟩::(if FX x.b m.pt m.lf m.rt=0 then(if(Fu x.b m.pt m.lf m.rt).r=x.b.r then []else Q5 c v (Hl x m now))else [])else []
def PO(p:Ply)(_:Unit):Cse×Int×St:=((QM p.c p.v p.x p.m p.now).1,(QM p.c p.v p.x p.m p.now).2,rH p.c p.v p.x p.m p.now)
def Ve(p:Ply)(u:Unit):Prop:=J5 p u∧(p.m.pt=0∨p.m.pt=1)
abbrev PZ:=Ji Ia Ve PO
noncomputable abbrev gZ:Tbl:=Lr [(122,eH)]
 [(73,Ep HD),(123,Ep Lv),(118,Ep JE),(119,Ep JD)]
 [(73,F1 HD),(123,F1 Lv),(119,F1 JD)]
theorem qd:CK 67 PZ:=by
 refine JX (T:=gZ) uV (MN (all_cons Ypu all_nil) (all_cons I8.1 (all_cons Qh.1 (all_cons We.1 (all_cons Wf.1 all_nil)))) (all_cons I8.2 (all_cons Qh.2 (all_cons Wf.2 all_nil)))) ?_;rintro ds st d e st' ⟨k,p,a,hj,hk,⟨⟨hc,hn⟩,hp⟩,rfl,h⟩;simp only[AA]at h;obtain⟨rfl,rfl,rfl⟩:=h;have E:=KO hk;have Y:Ds st k (C4 {p with x:=p.x})=st:=N2 hk;have N:∀ l:St,(st++l)[k]?=some ⟨false,1,C4 p,false⟩:=fun l=>IM hk l;have I:st[k]?=some ⟨false,1,C4 p,false⟩:=hk;have O:=zq p.x.b p.m.pt p.m.lf p.m.rt (by omega);have hz:=fun C=>LI E C;have ae:=fun C m=>OU E C m;unfold jZ Ia PO QM rH
 by_cases h1:p.x.ph=2
 ·have g1:=eq_true h1
  by_cases M:FX p.x.b p.m.pt p.m.lf p.m.rt=0
  ·have g2:=eq_true M;rw[M]at O
   by_cases V:(Fu p.x.b p.m.pt p.m.lf p.m.rt).r=p.x.b.r
   ·have g3:=eq_true V;simp (disch:=first|omega|decide) only[push_cast,↓reduceIte,Cx,Cy,Dw,I,N,Hg,Dr,H8,Am,Cy,EE,EF,Hx E,and_self,decide_true,Hv,Hu,En,YB,Yr,bQ,g1,g3,M,O,SW]
   ·have ce:∀ l:St,Ep JE [.ptr k 0] (Ds st k (C4 {p with x:=L6 p.x p.m})++l)=some (.tup [],Ds (Ds st k (C4 {p with x:=L6 p.x p.m})++l) k (C4 {p with x:=Hl p.x p.m p.now})):=
     fun l=>WU (p:={p with x:=L6 p.x p.m}) hj (IM (O2 E _) l) hn
    have U:∀ l,F6 (Ds st k (C4 {p with x:=Hl p.x p.m p.now})++l) k {p with x:=Hl p.x p.m p.now}:=fun l=>IM (O2 E _) l
    by_cases J:(JU p.c p.v (Hl p.x p.m p.now) p.now).2=0
    ·have cs:=fun l=>mu (p:={p with x:=Hl p.x p.m p.now}) hj (U l) hc hn J;have g8:=eq_true J;simp only[L6,Hl]at ce cs J g8;simp (disch:=first|omega|decide) only[push_cast,↓reduceIte,Cx,Cy,Dw,I,N,Hg,Dr,H8,Ah,Ae,Ai,Am,Cy,EE,EF,Hx E,and_self,decide_true,decide_false,Hv,Hu,En,YB,Yr,bQ,g1,V,M,O,SW,Mq E,ce,cs,J,Hl]
    ·have cs:=fun l=>nE (p:={p with x:=Hl p.x p.m p.now}) hj (U l) hc hn J;have cx:=fun l=>nF (p:={p with x:=Hl p.x p.m p.now}) hj (U l) hc hn J;simp only[L6,Hl]at ce cs cx J;simp (disch:=first|omega|decide) only[push_cast,↓reduceIte,Cx,Cy,Dw,I,N,Hg,Dr,H8,Ah,Ae,Ai,Am,Cy,EE,EF,Hx E,and_self,not_false_eq_true,decide_true,decide_false,Hv,Hu,En,YB,Yr,bQ,g1,V,M,O,SW,Mq E,ce,cs,cx,J,Hl]
  ·simp (disch:=first|omega|decide) only[push_cast,↓reduceIte,Cx,Cy,Dw,I,Ik,My,Dr,Y,Am,Cy,EE,EF,and_self,not_false_eq_true,decide_true,Hv,Hu,En,YB,Yr,g1,M,O]
 ·simp (disch:=first|omega|decide) only[push_cast,↓reduceIte,Dw,I,D4,D3,Y,Ad,Am,and_self,not_false_eq_true,decide_false,HI,Hv,h1]
noncomputable def Rd:List D→Option ((Nat→D)×(Nat→List PI.Obj)):=fun ds=>@dite _ (∃ l:List Ky,l.length≤4294900000∧ds=[Dg l]) (Classical.propDecidable _)
 (fun h=>some (if h.choose=[]then(fun _=>.slc 0 [] true,fun _=>[])else(fun n=>.row n h.choose.length 0 h.choose.length,fun _=>[⟨true,5,h.choose.map DG,false⟩]))) (fun _=>none)
theorem nL(l:List Ky)(h:l.length≤4294900000):Rd [Dg l]=some (if l=[]then(fun _=>.slc 0 [] true,fun _=>[])else(fun n=>.row n l.length 0 l.length,fun _=>[⟨true,5,l.map DG,false⟩])):=by
 have E:∃ q:List Ky,q.length≤4294900000∧[Dg l]=[Dg q]:=⟨l,h,rfl⟩;unfold Rd;rw[dif_pos E];have I:=E.choose_spec.2;generalize E.choose=q at*;simp only[Aa,and_true,VQ]at I;subst I;rfl
theorem Yu7:IContract Tryz.prog GG 127 (fun ds st=>(Rd ds).map fun r=>(r.1 st.length,st++r.2 st.length)):=
 sk.or sk fun ds st r h=>.inl (by
  simp only[BH]at h;obtain⟨r0,E,rfl⟩:=h
  have I:∃ l:List Ky,l.length≤4294900000∧ds=[Dg l]:=by
   unfold Rd at E
   split at E
   ·assumption
   ·cases E
  obtain⟨l,hl,rfl⟩:=I;rw[nL l hl]at E;rw[Yhw l st hl];simp only[AN]at E;subst E
  split <;> simp)
noncomputable def K5:Tbl:={p:=DY [(126,YD)],i:=DY [(73,Ep HD)],m:=DY [(127,Rd)],x:=DY [(73,F1 HD)]}
theorem TM(n:Nat):K5.p n=DY [(126,YD)] n:=(rfl)
theorem TO(n:Nat):K5.i n=DY [(73,Ep HD)] n:=(rfl)
theorem TN(n:Nat):K5.m n=DY [(127,Rd)] n:=(rfl)
theorem TL(n:Nat):K5.x n=DY [(73,F1 HD)] n:=(rfl)
attribute [push_cast] TM TO TN TL
theorem Yrr:TblOK Tryz.prog GG K5:=
 ⟨fun _ _ E=>.inl (by
   have:=JO E;simp only[AM,AA]at this;obtain⟨rfl,rfl⟩:=this;exact⟨by decide,Vm⟩),fun _ _ E=>(by
   have:=JO E;simp only[AM,AA]at this;obtain⟨rfl,rfl⟩:=this;exact I8.1),fun _ _ E=>(by
   have:=JO E;simp only[AM,AA]at this;obtain⟨rfl,rfl⟩:=this;exact Yu7),fun _ _ E=>(by cases E),fun _ _ E=>(by
   have:=JO E;simp only[AM,AA]at this;obtain⟨rfl,rfl⟩:=this;exact I8.2),fun _ _ E=>(by cases E)⟩
def IS(ds:List D)(st:St)(r:D×Int×St):Prop:=∃ (k:Nat) (p:Ply),p.j=Dg p.x.jn∧F6 st k p∧ds=[.ptr k 0]∧
 r=if(H2 p.x p.m).2=0 then(.tup [],0,Ds st k (C4 {p with j:=.row st.length (p.x.jn.length+1) 0 (p.x.jn.length+1)})++[⟨true,5,(p.x.jn++[p.m.key]).map DG,false⟩])else(.tup [],(H2 p.x p.m).2,st)
theorem cB:Is IS:=by
 rintro ds st r J ⟨k,p,hj,hk,rfl,rfl⟩ ⟨k',p',I,E,h,rfl⟩;simp only[Aa,D.ptr.injEq,and_true]at h;obtain rfl:=h;unfold F6 at hk E;rw[hk]at E;simp only[AN,PI.Obj.mk.injEq,true_and,and_true]at E;obtain rfl:=mV E hj I;rfl
theorem sX(k:Ky):E0 5 [DG k]=some (.slc 5 [DG k] true):=rfl
theorem Yp9(st:St)(k:Ky):D7 st 5 40 (.slc 0 [] true) (.slc 5 [DG k] true)=some (.row st.length 1 0 1,st++[⟨true,5,[DG k],false⟩]):=by
 simp[D7,Gt]
theorem Yp8(st:St)(l:List Ky)(k:Ky)(h:l.length≤100):D7 (st++[⟨true,5,l.map DG,false⟩]) 5 40 (.row st.length l.length 0 l.length) (.slc 5 [DG k] true)=some (.row st.length (l.length+1) 0 (l.length+1),st++[⟨true,5,(l++[k]).map DG,false⟩]):=by
 have E:(l.length+1)*40≤140737488355328:=by omega
 have I:l.length+1≤4294967296:=by omega
 simp[D7,Gt,E,I]
theorem tC:CK 72 IS:=by
 refine JX (T:=K5) uJ Yrr ?_;rintro ds st d e st' ⟨k,p,hj,hk,rfl,h⟩;have I:=KO hk;have hs:Ds st k (C4 {p with x:=p.x})=st:=N2 hk;have ac:∀ l:St,(st++l)[k]?=some ⟨false,1,C4 p,false⟩:=fun l=>IM hk l;have E:st[k]?=some ⟨false,1,C4 p,false⟩:=hk;have U:∀ st:St,EH st false (Dg p.x.jn)=some (.int .i64 (p.x.jn.length:Int)):=fun st=>by simp[EH,IZ,EK]
 have hz:=fun C=>LI I C;unfold jH
 by_cases J:p.m.pt=0
 ·have g1:=eq_true J
  by_cases M:p.x.ph=1
  ·have g2:=eq_true M
   by_cases Y:p.x.jn.length<8
   ·have N:((p.x.jn.length:Int)<8)=True:=eq_true (by omega);have V:=Yhu p.x.jn p.m.key (by omega)
    by_cases O:p.m.key=p.x.key
    ·have g4:=eq_true O;have e:H2 p.x p.m=(p.x,1):=by unfold H2; rw[if_pos ⟨J,M⟩,if_pos Y,if_neg (by simp[O])]
     rw[e,if_neg (by simp)]at h;simp only[AA]at h;obtain⟨rfl,rfl,rfl⟩:=h;simp (disch:=first|omega|decide) only[push_cast,↓reduceIte,Cx,Cy,Dw,E,Dr,D4,D3,Am,Cy,and_self,not_false_eq_true,decide_true,Un,En,Hv,SN,hj,U,YV,YU,I4,g1,g2,N,g4]
    ·by_cases h5:p.m.key∈p.x.jn
     ·have e:H2 p.x p.m=(p.x,1):=by unfold H2; rw[if_pos ⟨J,M⟩,if_pos Y,if_neg (by simp[h5])]
      rw[e,if_neg (by simp)]at h;simp only[AA]at h;obtain⟨rfl,rfl,rfl⟩:=h;simp only[h5,decide_true]at V;simp (disch:=first|omega|decide) only[push_cast,↓reduceIte,Cx,Cy,Dw,E,Dr,D4,D3,Am,Cy,and_self,not_false_eq_true,decide_true,decide_false,Un,En,Hv,SN,hj,U,YV,YU,I4,Q8,g1,g2,N,O,V]
     ·have e:H2 p.x p.m=({p.x with jn:=p.x.jn++[p.m.key]},0):=by unfold H2; rw[if_pos ⟨J,M⟩,if_pos Y,if_pos ⟨O,h5⟩]
      rw[e,if_pos rfl]at h;simp only[AA]at h;obtain⟨rfl,rfl,rfl⟩:=h;simp only[h5,decide_false]at V;have cm:=nL p.x.jn (by omega)
      by_cases h6:p.x.jn=[]
      ·rw[if_pos h6]at cm;have e1:(p.x.jn++[p.m.key]).map DG=[DG p.m.key]:=by rw[h6]; rfl
       have e2:p.x.jn.length+1=1:=by rw[h6]; rfl
       rw[e1,e2];simp (disch:=first|omega|decide) only[push_cast,↓EC,↓reduceIte,Cx,Cy,Dw,E,ac,Dr,H8,Ae,Ai,Ad,Am,Cy,Hx I,and_self,decide_true,decide_false,En,Hv,SN,hj,U,YV,YU,I4,Q8,cE,g1,g2,N,O,V,cm,Yp9,td,rF,sX,eq_true I]
      ·rw[if_neg h6]at cm;have a1:=Yp8 st p.x.jn p.m.key (by omega);simp (disch:=first|omega|decide) only[push_cast,↓EC,↓reduceIte,Cx,Cy,Dw,E,ac,Dr,H8,Ae,Ai,Ad,Am,Cy,Hx I,and_self,decide_true,decide_false,En,Hv,SN,hj,U,YV,YU,I4,Q8,cE,g1,g2,N,O,V,cm,a1,td,rF,sX,eq_true I]
   ·have N:((p.x.jn.length:Int)<8)=False:=eq_false (by omega);have e:H2 p.x p.m=(p.x,2):=by unfold H2; rw[if_pos ⟨J,M⟩,if_neg Y]
    rw[e,if_neg (by simp)]at h;simp only[AA]at h;obtain⟨rfl,rfl,rfl⟩:=h;simp (disch:=first|omega|decide) only[push_cast,↓reduceIte,Cx,Cy,Dw,E,Dr,D4,D3,Am,Cy,and_self,not_false_eq_true,decide_true,decide_false,n2e,En,Hv,SN,hj,U,g1,g2,N]
  ·have e:H2 p.x p.m=(p.x,380):=by unfold H2; rw[if_neg (fun q=>M q.2)]
   rw[e,if_neg (by simp)]at h;simp only[AA]at h;obtain⟨rfl,rfl,rfl⟩:=h;simp (disch:=first|omega|decide) only[push_cast,↓reduceIte,Cx,Cy,Dw,E,D4,D3,Am,Cy,and_self,not_false_eq_true,decide_true,decide_false,HI,En,Hv,g1,M]
 ·have e:H2 p.x p.m=(p.x,380):=by unfold H2; rw[if_neg (fun q=>J q.1)]
  rw[e,if_neg (by simp)]at h;simp only[AA]at h;obtain⟨rfl,rfl,rfl⟩:=h;simp (disch:=first|omega|decide) only[push_cast,↓reduceIte,Cx,Cy,Dw,E,D4,D3,Am,Cy,and_self,not_false_eq_true,decide_false,HI,En,J]
theorem yMv(x:Bis):0≤KA x∧KA x<65536:=by
 unfold KA
 split
 ·rename_i h;unfold Ld at h;simp only[Af]at h;have hv:=h.1;have:=aE hv;have:=kR hv;omega
 ·omega
theorem aq{a b:Int×Dig}(h:G3 a b≠1):(0≤a.1∧a.1≤65536∧0≤Ei a.1)∧(0≤b.1∧b.1≤65536∧0≤Ei b.1):=by
 unfold G3 at h
 have key:∀ n:Int,¬ Ei n<0→0≤n∧n≤65536∧0≤Ei n:=by
  intro n hn
  by_cases q:n<0∨65536<n
  ·rw[Sp q]at hn; omega
  ·omega
 split at h
 ·exact absurd rfl h
 rename_i E
 split at h
 ·exact absurd rfl h
 rename_i I;exact⟨key _ E,key _ I⟩
theorem oJ{x:Cse}{p:Int}(E:p=0∨p=1):0≤GJ x p∧GJ x p≤65536:=by
 unfold GJ
 split
 ·rename_i h;obtain⟨I,J⟩:=aq (a:=x.c0) (b:=x.c1) (by rw[h]; decide);unfold Jg
  split <;> omega
 split
 ·have:=yMv x.b; omega
 ·omega
noncomputable def eY:List D→Option D:=Dc (α:=Cse×Int) (fun a=>[Db a.1,.int .i64 a.2]) (fun a=>True) (fun a=>.tup [.int .i64 (G8 a.1 a.2).1,.bool (G8 a.1 a.2).2])
theorem zr(x:Cse)(p:Int):eY [Db x,.int .i64 p]=some (.tup [.int .i64 (G8 x p).1,.bool (G8 x p).2]):=
 DW (fun⟨a0,a1⟩ ⟨b0,b1⟩ h=>by simp only[Aa,D.int.injEq,true_and,and_true,M0]at h; simp[h]) (x,p) trivial
set_option maxHeartbeats 4000000 in
set_option maxRecDepth 20000 in
theorem Ykn(x:Cse)(p:Int):@wW GG (tb [(26,N3),(88,RU)] []) Xv.code (C3 [Db x,.int .i64 p]) [] ⟨Df Xv.res (.tup [.int .i64 (G8 x p).1,.bool (G8 x p).2])⟩:=by
 have M:N3 [.agg (.int .i64 x.c0.1::CW x.c0.2),.agg (.int .i64 x.c1.1::CW x.c1.2)]=some (.tup [DF (Kl x.c0 x.c1),.int .i64 (G3 x.c0 x.c1)]):=aH x.c0 x.c1;have cd:=Wt x.b;unfold Xv
 by_cases h1:x.ph=3
 ·have g1:=eq_true h1
  by_cases N:p=0∨p=1
  ·have hr:=oJ (x:=x) N;have e:G8 x p=if GJ x p=0 then(0,false)else(GJ x p - 1,true):=if_pos ⟨h1,N⟩
   by_cases J:G3 x.c0 x.c1=380
   ·have U:GJ x p=(Jg x p).1:=if_pos J;rw[U]at e hr;have g3:=eq_true J;rcases N with rfl | rfl
    ·have ec:(Jg x 0).1=x.c0.1:=rfl;rw[ec]at e hr
     by_cases E:x.c0.1=0
     ·have O:=eq_true E;rw[if_pos E]at e;rw[e];simp (disch:=first|omega|decide) only[push_cast,↓reduceIte,Cx,Cy,CB,Et,ET,Mc,Md,sK,M,g1,g3,O,Ea]
     ·rw[if_neg E]at e;rw[e];simp (disch:=first|omega|decide) only[push_cast,↓reduceIte,Cx,Cy,CB,Et,ET,Mc,Md,sK,M,g1,g3,E,Ea,Fa]
    ·have ec:(Jg x 1).1=x.c1.1:=rfl;rw[ec]at e hr;have n1:((1:Int)=0)=False:=by simp
     by_cases E:x.c1.1=0
     ·have O:=eq_true E;rw[if_pos E]at e;rw[e];simp (disch:=first|omega|decide) only[push_cast,↓reduceIte,Cx,Cy,CB,Et,ET,Mc,Md,sL,M,g1,g3,O,Ea,n1]
     ·rw[if_neg E]at e;rw[e];simp (disch:=first|omega|decide) only[push_cast,↓reduceIte,Cx,Cy,CB,Et,ET,Mc,Md,sL,M,g1,g3,E,Ea,Fa,n1]
   ·by_cases V:G3 x.c0 x.c1=0
    ·have U:GJ x p=KA x.b:=by unfold GJ; rw[if_neg J,if_pos V]
     rw[U]at e hr;have g5:=eq_true V
     have I:((p=0)=True)∨(((p=0)=False)∧((p=1)=True)):=by
      rcases N with h | h
      ·exact .inl (eq_true h)
      ·exact .inr ⟨eq_false (by omega),eq_true h⟩
     by_cases E:KA x.b=0
     ·have O:=eq_true E;rw[if_pos E]at e;rw[e];rcases I with I | ⟨I,Y⟩
      ·simp (disch:=first|omega|decide) only[push_cast,↓reduceIte,Cx,Cy,CB,Et,ET,Mc,Md,Og,M,cd,g1,J,g5,O,I,Ea]
      ·simp (disch:=first|omega|decide) only[push_cast,↓reduceIte,Cx,Cy,CB,Et,ET,Mc,Md,Og,M,cd,g1,J,g5,O,I,Y,Ea]
     ·rw[if_neg E]at e;rw[e];rcases I with I | ⟨I,Y⟩
      ·simp (disch:=first|omega|decide) only[push_cast,↓reduceIte,Cx,Cy,CB,Et,ET,Mc,Md,Og,M,cd,g1,J,g5,E,I,Ea,Fa]
      ·simp (disch:=first|omega|decide) only[push_cast,↓reduceIte,Cx,Cy,CB,Et,ET,Mc,Md,Og,M,cd,g1,J,g5,E,I,Y,Ea,Fa]
    ·have U:GJ x p=0:=by unfold GJ; rw[if_neg J,if_neg V]
     rw[U,if_pos rfl]at e;rw[e]
     have I:((p=0)=True)∨(((p=0)=False)∧((p=1)=True)):=by
      rcases N with h | h
      ·exact .inl (eq_true h)
      ·exact .inr ⟨eq_false (by omega),eq_true h⟩
     rcases I with I | ⟨I,Y⟩
     ·simp (disch:=first|omega|decide) only[push_cast,↓reduceIte,Cx,Cy,CB,Et,ET,Mc,Md,M,g1,J,V,I,Ea]
     ·simp (disch:=first|omega|decide) only[push_cast,↓reduceIte,Cx,Cy,CB,Et,ET,Mc,Md,M,g1,J,V,I,Y,Ea]
  ·have J:¬ p=0:=fun h=>N (.inl h);have E:¬ p=1:=fun h=>N (.inr h);have e:G8 x p=(0,false):=if_neg (fun q=>N q.2);rw[e];simp (disch:=first|omega|decide) only[push_cast,↓reduceIte,Cx,Et,ET,g1,J,E]
 ·have e:G8 x p=(0,false):=if_neg (fun q=>h1 q.1);rw[e];simp (disch:=first|omega|decide) only[push_cast,↓reduceIte,Cx,Et,ET,h1]
theorem Ypq:Contract Tryz.prog GG 34 eY:=
 D8 uj (DA (all_cons dF (all_cons cu all_nil)) all_nil) (fun a h=>Ykn a.1 a.2)
theorem pI{x:Cse}{p:Int}(h:(G8 x p).2=true):0≤(G8 x p).1∧(G8 x p).1<65536∧G3 x.c0 x.c1≠1:=by
 unfold G8 at h ⊢
 by_cases E:x.ph=3∧(p=0∨p=1)
 ·rw[if_pos E]at h ⊢;have J:=oJ (x:=x) E.2
  by_cases I:GJ x p=0
  ·rw[if_pos I]at h; cases h
  ·rw[if_neg I];refine⟨by dsimp only; omega,by dsimp only; omega,fun e=>I ?_⟩;unfold GJ;rw[if_neg (by rw[e]; decide),if_neg (by rw[e]; decide)]
 ·rw[if_neg E]at h; cases h
theorem wL(hj:p.j=Dg p.x.jn)(sz:Nat)(lent:Bool):Dn (some ⟨false,sz,C4 p,lent⟩) 279 true 0=some (Db p.x):=by
 rw[dQ,hj]; rfl
theorem s8{n:Int}(E:0≤n)(I:n≤16):Dd .shl (.int .i64 1) (.int .i64 n)=some (.int .i64 (2 ^ n.toNat)):=by
 obtain⟨k,rfl⟩:=Bc E;have:∀ k:Fin 17,K3 (k.val:Int)=2 ^ ((k.val:Int)).toNat:=by decide
 rw[SU E,this ⟨k,by omega⟩]
theorem Gx:Kz=Es 0 0 0 0 (.slc 0 [] true) 0 Dl:=rfl
variable {n:Nat}
theorem RP{key:Nat}(f:Nat→D)(E:∀ k,f k≠.junk)(h:Ix f (Eu n [] key)=f key)(σ:List Nat):Ix f (Eu n σ key)=f key:=by
 unfold Eu at h ⊢
 by_cases hk:key<n
 ·rw[if_pos hk]; rfl
 ·rw[if_neg hk]at h;exact absurd h.symm (E key)
theorem mX(σ:List Nat){x:D}(h:F2 n [] x=x):F2 n σ x=x:=by
 cases x with
 |row key tot off len=>exact RP (fun k=>.row k tot off len) (fun k e=>by cases e) h σ
 |bsl key off j sz ag=>exact RP (fun k=>.bsl k off j sz ag) (fun k e=>by cases e) h σ
 |ptr key off=>exact RP (fun k=>.ptr k off) (fun k e=>by cases e) h σ
 |rptr key tot i off=>exact RP (fun k=>.rptr k tot i off) (fun k e=>by cases e) h σ
 |mapv key=>exact RP .mapv (fun k e=>by cases e) h σ
 |_=>exact h
theorem mZ(σ:List Nat){x:D}(h:Ek n [] x=x):Ek n σ x=x:=by
 cases x with
 |clo f l=>
  simp only[Ek,D.clo.injEq,true_and]at h ⊢;exact LH fun y E=>mX σ (Pg h y E)
 |_=>unfold Ek at h ⊢; exact mX σ h
theorem Yl2(σ:List Nat){x:D}(h:Ed n [] x=x):Ed n σ x=x:=by
 cases x with
 |agg l=>
  simp only[Ed,D.agg.injEq]at h ⊢;exact LH fun y E=>mZ σ (Pg h y E)
 |tup l=>unfold Ed at h ⊢; exact h
 |_=>unfold Ed at h ⊢; exact mZ σ h
theorem Yl3(h:StOK st)(σ:List Nat):IP st.length σ st=st:=by
 rw[YZ];refine LH fun o E=>?_;obtain⟨row,sz,els,lent⟩:=o
 cases row with
 |true=>rfl
 |false=>
  show(⟨false,sz,els.map (Ed st.length σ),lent⟩:PI.Obj)=_
  rw[LH fun x I=>?_];exact Yl2 σ (h _ E rfl x I)
theorem Gw(S l:St):(S++l).take S.length=S:=by simp
theorem Gf(S l:St)(k:Nat):(S++l).getD (S.length+k) default=l.getD k default:=by
 rw[Ao,DJ,← Ao]
theorem Gu(S l:St):(S++l).getD S.length default=l.getD 0 default:=Gf S l 0
theorem yL1(o:Opn):(EG o).all El=true:=by
 rw[JY];simp only[Es,A3,Lo];simp[El,Eo,Kj]
theorem GA(n:Nat)(σ:List Nat)(o:Opn):(EG o).map (Ed n σ)=EG o:=N6 n σ (yL1 o)
theorem YS(lent:Bool)(o:Opn):Dn (some ⟨false,1,EG o,lent⟩) 1 false 4=some (Eo o.top):=by rw[JY]; exact bK ..
def Eg(c:List Ins)(v:Int×List Int)(x:Cse)(m:Mv):Dig:=if G3 x.c0 x.c1=380 then Ga c v m.op else if(Jg x m.pt).1≤(G8 x m.pt).1 then EM else Ga c v m.op
def Ug(c:List Ins)(v:Int×List Int)(x:Cse)(m:Mv):St:=
 if(G8 x m.pt).2=true then
  [⟨false,1,.int .i64 (Jg x m.pt).1::CW (Jg x m.pt).2,false⟩,⟨false,1,EG m.op,false⟩,⟨false,1,CW (Eg c v x m),false⟩,⟨false,1,C8 (Kl x.c0 x.c1),false⟩]++
  (if G3 x.c0 x.c1=380 then []
   else if 2 ^ (Ei (Jg x m.pt).1).toNat≤(G8 x m.pt).1∨G7 (Jg x m.pt) (G8 x m.pt).1 (Eg c v x m) m.path=true then
   [⟨false,1,EA (HY x.b) (HZ x.b),false⟩,⟨false,1,Fc (G1 (HY x.b,HZ x.b) (Fw c v (Eg c v x m) m.op)),false⟩]
   else [])
 else []
def PG(p:Ply)(_:Unit):Cse×Int×St:=((QX p.c p.v p.x p.m).1,(QX p.c p.v p.x p.m).2,Ug p.c p.v p.x p.m)
def Uf(p:Ply)(_:Unit):Prop:=p.c.length≤4294967296∧p.m.op.top.length≤4294967295∧(p.m.pt=0∨p.m.pt=1)
def Nu(ds:List D)(st:St)(r:D×Int×St):Prop:=StOK st∧Ji Ia Uf PG ds st r
theorem Ymh:Is Nu:=fun ds st r E h I=>M7 LL ds st r E h.2 I.2
noncomputable abbrev VF:Tbl:=Lr [(34,eY),(40,RE),(26,N3),(124,Ph),(20,Qb),(25,QD),(88,RU),(16,RT)]
 [(73,Ep HD),(123,Ep Lv),(120,Ep NI),(79,Ep K6)]
 [(73,F1 HD),(123,F1 Lv)]
theorem Yk4:TblOK Tryz.prog GG VF:=MN (all_cons Ypq (all_cons sg (all_cons dF (all_cons yM8 (all_cons Yg (all_cons V8 (all_cons cu (all_cons Ypv all_nil)))))))) (all_cons I8.1 (all_cons Qh.1 (all_cons mw.1 (all_cons YX.1 all_nil)))) (all_cons I8.2 (all_cons Qh.2 all_nil))
set_option maxHeartbeats 8000000 in
set_option maxRecDepth 20000 in
theorem tD:CK 68 Nu:=by
 refine JX (T:=VF) uA Yk4 ?_;rintro ds st d e st' ⟨b7,k,p,a,hj,hk,⟨hc,b3,O⟩,rfl,h⟩;simp only[AA]at h;obtain⟨rfl,rfl,rfl⟩:=h;have E:=KO hk;have hs:Ds st k (C4 {p with x:=p.x})=st:=N2 hk;have N:∀ l:St,(st++l)[k]?=some ⟨false,1,C4 p,false⟩:=fun l=>IM hk l;have J:st[k]?=some ⟨false,1,C4 p,false⟩:=hk;have U:=zr p.x p.m.pt;have cb:N3 [.agg (.int .i64 p.x.c0.1::CW p.x.c0.2),.agg (.int .i64 p.x.c1.1::CW p.x.c1.2)]=some (.tup [DF (Kl p.x.c0 p.x.c1),.int .i64 (G3 p.x.c0 p.x.c1)]):=aH p.x.c0 p.x.c1;have cl:RE [Gr p.c,Ev p.v,DS p.m.op]=some (CY (Ga p.c p.v p.m.op)):=fg p.c p.v p.m.op ⟨hc,p.hv,by omega⟩;have M:=wL hj;unfold jx Ia PG QX Ug
 cases h1:(G8 p.x p.m.pt).2 with
 |false=>
  rw[h1]at U;simp (disch:=first|omega|decide) only[push_cast,↓reduceIte,Cx,Cy,Dw,J,D4,D3,hs,Ad,Am,Cy,and_self,not_false_eq_true,HI,M,En,Ej,E3,U,Al]
 |true=>
  rw[h1]at U;have I:=Yl3 b7
  -- b8 b2 of b8 ca
  have q1:(st.length<st.length)=False:=by simp
  have q2:(st.length+1<st.length)=False:=by simp
  have q3:(st.length=st.length+1)=False:=by simp
  have q4:(st.length+1=st.length)=False:=by simp
  have q5:(st.length == k)=false:=by simp; omega
  have q6:(st.length+1 == k)=false:=by simp; omega
  have q7:(st.length == st.length+1)=false:=by simp
  have q8:(st.length+1 == st.length)=false:=by simp
  rcases O with O | O
  ·have g0:=eq_true O;simp only[O]at h1 U ⊢;have ec:Jg p.x 0=p.x.c0:=rfl;obtain⟨i0,i1,nb⟩:=pI h1;obtain⟨b0,b1⟩:=aq nb;have hz:=fun C=>LI E C;have b9:=fun C m=>OU E C m;obtain⟨i,hi⟩:∃ i,(G8 p.x 0).1=i:=⟨_,rfl⟩;rw[hi]at U i0 i1
   by_cases h2:G3 p.x.c0 p.x.c1=380
   ·have g2:=eq_true h2;have ci:Ph [.agg (.int .i64 p.x.c0.1::CW p.x.c0.2),.int .i64 i,CY (Ga p.c p.v p.m.op),JC p.m.path]=some (.bool (G7 p.x.c0 i (Ga p.c p.v p.m.op) p.m.path)):=XI p.x.c0 i (Ga p.c p.v p.m.op) p.m.path (by omega)
    cases h3:G7 p.x.c0 i (Ga p.c p.v p.m.op) p.m.path with
    |false=>
     rw[h3]at ci;simp (disch:=first|omega|decide) only[push_cast,↓EC,↓reduceIte,Cx,Cy,CB,Dw,J,N,Gc,EW,Dr,D4,D3,hs,Ah,Ae,Ai,Ad,Ab,Ak,Ap,Am,Cy,DJ,DK,EE,EF,and_self,not_false_eq_true,decide_true,Rs,M,En,FB,FC,Gv,FT,F8,H3,O,ec,hi,Ea,Ej,E3,Ft,U,cb,cl,I,Gw,Gf,Gu,q1,q2,q3,q4,q5,q6,GA,AF,Av,beq_self_eq_true,Az,eq_true E,Gx,Fx,Gi,FZ,Eg,g2,ci,h3,Al]
    |true=>
     rw[h3]at ci;have be:∀ l,F6 (st++l) k p:=fun l=>IM hk l;have cj:=fun n l=>ax (p:=p) hj (be l) n
     by_cases Y:p.m.op.status=0
     ·have g4:=eq_true Y;simp (disch:=first|omega|decide) only[push_cast,↓EC,↓reduceIte,Cx,Cy,CB,Dw,J,N,Gc,EW,Dr,D4,D3,hs,Ah,Ae,Ai,Ad,Ab,Ak,Ap,Am,Cy,DJ,DK,EE,EF,and_self,false_and,not_false_eq_true,decide_true,Nv,M,En,FB,FC,Gv,FT,F8,H3,O,ec,hi,Ea,Ej,E3,Ft,U,cb,cl,I,Gw,Gf,Gu,q1,q2,q3,q4,q5,q6,GA,AF,Av,beq_self_eq_true,Az,eq_true E,Gx,Fx,Gi,FZ,Ml,Eg,g2,ci,h3,g4,not_true_eq_false]
     ·by_cases h5:p.m.op.status=1
      ·have g5:=eq_true h5
       by_cases V:0<p.m.op.top.length
       ·have g6:(0<(p.m.op.top.length:Int))=True:=eq_true (by omega)
        have ix:∀ st:St,FY st 1 (Eo p.m.op.top) (.int .i64 ((p.m.op.top.length:Int) - 1))=some (.eptr (nI (gE p.m.op.top)) 0):=fun st=>by
         have:=Yn st p.m.op.top false (p.m.op.top.length - 1) (by omega);rw[show((p.m.op.top.length - 1:Nat):Int)=(p.m.op.top.length:Int) - 1 by omega]at this;exact this
        simp (disch:=first|omega|decide) only[push_cast,↓EC,↓reduceIte,Cx,Cy,CB,Dw,J,N,Gc,EW,Dr,Ah,Ae,Ai,Ad,Ab,Ak,Ap,Am,Cy,DJ,DK,EE,EF,Hx E,and_self,not_false_eq_true,decide_true,decide_false,M,En,FB,FC,Gv,FT,F8,H3,O,ec,hi,Ea,Ej,E3,Ft,U,cb,cl,I,Gw,Gf,Gu,q1,q2,q3,q4,q5,q6,GA,AF,Av,beq_self_eq_true,Az,eq_true E,Gx,Fx,Gi,FZ,Ml,YS,Hw,Eg,g2,ci,h3,Y,g5,g6,V,ix,Yu,Fa,cj,not_true_eq_false,or_true]
       ·have g6:(0<(p.m.op.top.length:Int))=False:=eq_false (by omega);simp (disch:=first|omega|decide) only[push_cast,↓EC,↓reduceIte,Cx,Cy,CB,Dw,J,N,Gc,EW,Dr,D4,D3,hs,Ah,Ae,Ai,Ad,Ab,Ak,Ap,Am,Cy,DJ,DK,EE,EF,and_self,and_false,not_false_eq_true,decide_true,decide_false,Nv,M,En,FB,FC,Gv,FT,F8,H3,O,ec,hi,Ea,Ej,E3,Ft,U,cb,cl,I,Gw,Gf,Gu,q1,q2,q3,q4,q5,q6,GA,AF,Av,beq_self_eq_true,Az,eq_true E,Gx,Fx,Gi,FZ,Ml,YS,Hw,Eg,g2,ci,h3,Y,g5,g6,V,not_true_eq_false,or_self]
      ·simp (disch:=first|omega|decide) only[push_cast,↓EC,↓reduceIte,Cx,Cy,CB,Dw,J,N,Gc,EW,Dr,Ah,Ae,Ai,Ad,Ab,Ak,Ap,Am,Cy,DJ,DK,EE,EF,Hx E,and_self,not_false_eq_true,decide_true,decide_false,M,En,FB,FC,Gv,FT,F8,H3,O,ec,hi,Ea,Ej,E3,Ft,U,cb,cl,I,Gw,Gf,Gu,q1,q2,q3,q4,q5,q6,GA,AF,Av,beq_self_eq_true,Az,eq_true E,Gx,Fx,Gi,FZ,Ml,Eg,g2,ci,h3,Y,h5,true_or,cj]
   ·obtain⟨B,hB⟩:∃ B,(if p.x.c0.1≤i then EM else Ga p.c p.v p.m.op)=B:=⟨_,rfl⟩;have ci:Ph [.agg (.int .i64 p.x.c0.1::CW p.x.c0.2),.int .i64 i,CY B,JC p.m.path]=some (.bool (G7 p.x.c0 i B p.m.path)):=XI p.x.c0 i B p.m.path (by omega);have cd:=Wt p.x.b;have cs:RT [Gr p.c,Ev p.v,CY B,.agg (EA (HY p.x.b) (HZ p.x.b)),DS p.m.op]=some (.tup [D0 (G1 (HY p.x.b,HZ p.x.b) (Fw p.c p.v B p.m.op)),.int .i64 (Fw p.c p.v B p.m.op).2]):=pJ p.c p.v B (HY p.x.b,HZ p.x.b) p.m.op ⟨hc,p.hv,b3⟩;have cD:=N9 p.x.c0.1;have dr:=Xf p.x.c0.1;have sh:=s8 (n:=Ei p.x.c0.1) (by omega) (by omega);have bh:=(aR (HY p.x.b,HZ p.x.b) (Fw p.c p.v B p.m.op)).2;have cr:=fun l=>R9 (p:=p) hj (IM hk l) bh;have a9:=R7
    by_cases h3:p.x.c0.1≤i
    ·have g3:=eq_true h3;rw[if_pos h3]at hB;subst hB
     by_cases Y:2 ^ (Ei p.x.c0.1).toNat≤i
     ·by_cases V:(Fw p.c p.v EM p.m.op).2=0
      ·have g6:=eq_true V;simp (disch:=first|omega|decide) only[push_cast,↓EC,↓reduceIte,Cx,Cy,CB,Dw,J,N,Gc,Ja,EW,Hc,Ie,Hg,Dr,D0,Fc,Ah,Ae,Ai,Ad,Ab,Ak,Ap,Am,Cy,DJ,DK,EE,EF,Hx E,and_self,decide_true,decide_false,M,En,FB,FC,Gv,FT,F8,Hu,O,ec,hi,Ea,Ej,E3,Ft,Jc,U,cb,cl,I,Gw,Gf,Gu,q1,q2,q3,q4,q5,q6,GA,AF,Av,beq_self_eq_true,Az,eq_true E,Gx,Fx,Gi,FZ,Eg,h2,a9,g3,cD,sh,eq_true Y,cd,cs,cr,V,true_or]
      ·simp (disch:=first|omega|decide) only[push_cast,↓EC,↓reduceIte,Cx,Cy,CB,Dw,J,N,Gc,Ja,EW,Hc,Ie,Ik,My,Dr,hs,D0,Fc,Ah,Ae,Ai,Ad,Ab,Ak,Ap,Am,Cy,DJ,DK,EE,EF,and_self,not_false_eq_true,decide_true,decide_false,M,En,FB,FC,Gv,FT,F8,Hu,O,ec,hi,Ea,Ej,E3,Ft,Jc,U,cb,cl,I,Gw,Gf,Gu,q1,q2,q3,q4,q5,q6,GA,AF,Av,beq_self_eq_true,Az,eq_true E,Gx,Fx,Gi,FZ,Eg,h2,a9,g3,cD,sh,eq_true Y,cd,cs,V,true_or]
     ·cases h5:G7 p.x.c0 i EM p.m.path with
      |false=>
       rw[h5]at ci;simp (disch:=first|omega|decide) only[push_cast,↓EC,↓reduceIte,Cx,Cy,CB,Dw,J,N,Gc,EW,Dr,D4,D3,hs,Ah,Ae,Ai,Ad,Ab,Ak,Ap,Am,Cy,DJ,DK,EE,EF,and_self,not_false_eq_true,decide_true,decide_false,Rs,M,En,FB,FC,Gv,FT,F8,H3,O,ec,hi,Ea,Ej,E3,Ft,U,cb,cl,I,Gw,Gf,Gu,q1,q2,q3,q4,q5,q6,GA,AF,Av,beq_self_eq_true,Az,eq_true E,Gx,Fx,Gi,FZ,Eg,h2,ci,a9,g3,cD,sh,Y,h5,Al,or_self]
      |true=>
       rw[h5]at ci
       by_cases V:(Fw p.c p.v EM p.m.op).2=0
       ·have g6:=eq_true V;simp (disch:=first|omega|decide) only[push_cast,↓EC,↓reduceIte,Cx,Cy,CB,Dw,J,N,Gc,Ja,EW,Hc,Ie,Hg,Dr,D0,Fc,Ah,Ae,Ai,Ad,Ab,Ak,Ap,Am,Cy,DJ,DK,EE,EF,Hx E,and_self,decide_true,decide_false,M,En,FB,FC,Gv,FT,F8,H3,Hu,O,ec,hi,Ea,Ej,E3,Ft,Jc,U,cb,cl,I,Gw,Gf,Gu,q1,q2,q3,q4,q5,q6,GA,AF,Av,beq_self_eq_true,Az,eq_true E,Gx,Fx,Gi,FZ,Eg,h2,ci,a9,g3,cD,sh,Y,h5,cd,cs,cr,V,or_true]
       ·simp (disch:=first|omega|decide) only[push_cast,↓EC,↓reduceIte,Cx,Cy,CB,Dw,J,N,Gc,Ja,EW,Hc,Ie,Ik,My,Dr,hs,D0,Fc,Ah,Ae,Ai,Ad,Ab,Ak,Ap,Am,Cy,DJ,DK,EE,EF,and_self,not_false_eq_true,decide_true,decide_false,M,En,FB,FC,Gv,FT,F8,H3,Hu,O,ec,hi,Ea,Ej,E3,Ft,Jc,U,cb,cl,I,Gw,Gf,Gu,q1,q2,q3,q4,q5,q6,GA,AF,Av,beq_self_eq_true,Az,eq_true E,Gx,Fx,Gi,FZ,Eg,h2,ci,a9,g3,cD,sh,Y,h5,cd,cs,V,or_true]
    ·rw[if_neg h3]at hB;subst hB;have g3:=h3
     by_cases Y:2 ^ (Ei p.x.c0.1).toNat≤i
     ·by_cases V:(Fw p.c p.v (Ga p.c p.v p.m.op) p.m.op).2=0
      ·have g6:=eq_true V;simp (disch:=first|omega|decide) only[push_cast,↓EC,↓reduceIte,Cx,Cy,CB,Dw,J,N,Gc,Ja,EW,Hc,Ie,Hg,Dr,D0,Fc,Ah,Ae,Ai,Ad,Ab,Ak,Ap,Am,Cy,DJ,DK,EE,EF,Hx E,and_self,decide_true,decide_false,M,En,FB,FC,Gv,FT,F8,Hu,O,ec,hi,Ea,Ej,E3,Ft,Jc,U,cb,cl,I,Gw,Gf,Gu,q1,q2,q3,q4,q5,q6,GA,AF,Av,beq_self_eq_true,Az,eq_true E,Gx,Fx,Gi,FZ,Eg,h2,g3,cD,sh,eq_true Y,cd,cs,cr,V,true_or]
      ·simp (disch:=first|omega|decide) only[push_cast,↓EC,↓reduceIte,Cx,Cy,CB,Dw,J,N,Gc,Ja,EW,Hc,Ie,Ik,My,Dr,hs,D0,Fc,Ah,Ae,Ai,Ad,Ab,Ak,Ap,Am,Cy,DJ,DK,EE,EF,and_self,not_false_eq_true,decide_true,decide_false,M,En,FB,FC,Gv,FT,F8,Hu,O,ec,hi,Ea,Ej,E3,Ft,Jc,U,cb,cl,I,Gw,Gf,Gu,q1,q2,q3,q4,q5,q6,GA,AF,Av,beq_self_eq_true,Az,eq_true E,Gx,Fx,Gi,FZ,Eg,h2,g3,cD,sh,eq_true Y,cd,cs,V,true_or]
     ·cases h5:G7 p.x.c0 i (Ga p.c p.v p.m.op) p.m.path with
      |false=>
       rw[h5]at ci;simp (disch:=first|omega|decide) only[push_cast,↓EC,↓reduceIte,Cx,Cy,CB,Dw,J,N,Gc,EW,Dr,D4,D3,hs,Ah,Ae,Ai,Ad,Ab,Ak,Ap,Am,Cy,DJ,DK,EE,EF,and_self,not_false_eq_true,decide_false,Rs,M,En,FB,FC,Gv,FT,F8,H3,O,ec,hi,Ea,Ej,E3,Ft,U,cb,cl,I,Gw,Gf,Gu,q1,q2,q3,q4,q5,q6,GA,AF,Av,beq_self_eq_true,Az,eq_true E,Gx,Fx,Gi,FZ,Eg,h2,ci,g3,cD,sh,Y,h5,Al,or_self]
      |true=>
       rw[h5]at ci
       by_cases V:(Fw p.c p.v (Ga p.c p.v p.m.op) p.m.op).2=0
       ·have g6:=eq_true V;simp (disch:=first|omega|decide) only[push_cast,↓EC,↓reduceIte,Cx,Cy,CB,Dw,J,N,Gc,Ja,EW,Hc,Ie,Hg,Dr,D0,Fc,Ah,Ae,Ai,Ad,Ab,Ak,Ap,Am,Cy,DJ,DK,EE,EF,Hx E,and_self,decide_false,M,En,FB,FC,Gv,FT,F8,H3,Hu,O,ec,hi,Ea,Ej,E3,Ft,Jc,U,cb,cl,I,Gw,Gf,Gu,q1,q2,q3,q4,q5,q6,GA,AF,Av,beq_self_eq_true,Az,eq_true E,Gx,Fx,Gi,FZ,Eg,h2,ci,g3,cD,sh,Y,h5,cd,cs,cr,V,or_true]
       ·simp (disch:=first|omega|decide) only[push_cast,↓EC,↓reduceIte,Cx,Cy,CB,Dw,J,N,Gc,Ja,EW,Hc,Ie,Ik,My,Dr,hs,D0,Fc,Ah,Ae,Ai,Ad,Ab,Ak,Ap,Am,Cy,DJ,DK,EE,EF,and_self,not_false_eq_true,decide_false,M,En,FB,FC,Gv,FT,F8,H3,Hu,O,ec,hi,Ea,Ej,E3,Ft,Jc,U,cb,cl,I,Gw,Gf,Gu,q1,q2,q3,q4,q5,q6,GA,AF,Av,beq_self_eq_true,Az,eq_true E,Gx,Fx,Gi,FZ,Eg,h2,ci,g3,cD,sh,Y,h5,cd,cs,V,or_true]
  ·have g0:=eq_true O;simp only[O]at h1 U ⊢;have ec:Jg p.x 1=p.x.c1:=rfl;obtain⟨i0,i1,nb⟩:=pI h1;obtain⟨b0,b1⟩:=aq nb;have hz:=fun C=>LI E C;have b9:=fun C m=>OU E C m;obtain⟨i,hi⟩:∃ i,(G8 p.x 1).1=i:=⟨_,rfl⟩;rw[hi]at U i0 i1
   by_cases h2:G3 p.x.c0 p.x.c1=380
   ·have g2:=eq_true h2;have ci:Ph [.agg (.int .i64 p.x.c1.1::CW p.x.c1.2),.int .i64 i,CY (Ga p.c p.v p.m.op),JC p.m.path]=some (.bool (G7 p.x.c1 i (Ga p.c p.v p.m.op) p.m.path)):=XI p.x.c1 i (Ga p.c p.v p.m.op) p.m.path (by omega)
    cases h3:G7 p.x.c1 i (Ga p.c p.v p.m.op) p.m.path with
    |false=>
     rw[h3]at ci;simp (disch:=first|omega|decide) only[push_cast,↓EC,↓reduceIte,Cx,Cy,CB,Dw,J,N,Gc,EW,Dr,D4,D3,hs,Ah,Ae,Ai,Ad,Ab,Ak,Ap,Am,Cy,DJ,DK,EE,EF,and_self,not_false_eq_true,decide_true,Rs,M,En,FB,FC,Gv,FT,F8,H3,O,ec,hi,Ea,Ej,E3,Ft,U,cb,cl,I,Gw,Gf,Gu,q1,q2,q3,q4,q5,q6,GA,AF,Av,beq_self_eq_true,Az,eq_true E,Gx,Fx,Gi,FZ,Eg,g2,ci,h3,Al]
    |true=>
     rw[h3]at ci;have be:∀ l,F6 (st++l) k p:=fun l=>IM hk l;have cj:=fun n l=>ax (p:=p) hj (be l) n
     by_cases Y:p.m.op.status=0
     ·have g4:=eq_true Y;simp (disch:=first|omega|decide) only[push_cast,↓EC,↓reduceIte,Cx,Cy,CB,Dw,J,N,Gc,EW,Dr,D4,D3,hs,Ah,Ae,Ai,Ad,Ab,Ak,Ap,Am,Cy,DJ,DK,EE,EF,and_self,false_and,not_false_eq_true,decide_true,Nv,M,En,FB,FC,Gv,FT,F8,H3,O,ec,hi,Ea,Ej,E3,Ft,U,cb,cl,I,Gw,Gf,Gu,q1,q2,q3,q4,q5,q6,GA,AF,Av,beq_self_eq_true,Az,eq_true E,Gx,Fx,Gi,FZ,Ml,Eg,g2,ci,h3,g4,not_true_eq_false]
     ·by_cases h5:p.m.op.status=1
      ·have g5:=eq_true h5
       by_cases V:0<p.m.op.top.length
       ·have g6:(0<(p.m.op.top.length:Int))=True:=eq_true (by omega)
        have ix:∀ st:St,FY st 1 (Eo p.m.op.top) (.int .i64 ((p.m.op.top.length:Int) - 1))=some (.eptr (nI (gE p.m.op.top)) 0):=fun st=>by
         have:=Yn st p.m.op.top false (p.m.op.top.length - 1) (by omega);rw[show((p.m.op.top.length - 1:Nat):Int)=(p.m.op.top.length:Int) - 1 by omega]at this;exact this
        simp (disch:=first|omega|decide) only[push_cast,↓EC,↓reduceIte,Cx,Cy,CB,Dw,J,N,Gc,EW,Dr,Ah,Ae,Ai,Ad,Ab,Ak,Ap,Am,Cy,DJ,DK,EE,EF,Hx E,and_self,not_false_eq_true,decide_true,decide_false,M,En,FB,FC,Gv,FT,F8,H3,O,ec,hi,Ea,Ej,E3,Ft,U,cb,cl,I,Gw,Gf,Gu,q1,q2,q3,q4,q5,q6,GA,AF,Av,beq_self_eq_true,Az,eq_true E,Gx,Fx,Gi,FZ,Ml,YS,Hw,Eg,g2,ci,h3,Y,g5,g6,V,ix,Yu,Fa,cj,not_true_eq_false,or_true]
       ·have g6:(0<(p.m.op.top.length:Int))=False:=eq_false (by omega);simp (disch:=first|omega|decide) only[push_cast,↓EC,↓reduceIte,Cx,Cy,CB,Dw,J,N,Gc,EW,Dr,D4,D3,hs,Ah,Ae,Ai,Ad,Ab,Ak,Ap,Am,Cy,DJ,DK,EE,EF,and_self,and_false,not_false_eq_true,decide_true,decide_false,Nv,M,En,FB,FC,Gv,FT,F8,H3,O,ec,hi,Ea,Ej,E3,Ft,U,cb,cl,I,Gw,Gf,Gu,q1,q2,q3,q4,q5,q6,GA,AF,Av,beq_self_eq_true,Az,eq_true E,Gx,Fx,Gi,FZ,Ml,YS,Hw,Eg,g2,ci,h3,Y,g5,g6,V,not_true_eq_false,or_self]
      ·simp (disch:=first|omega|decide) only[push_cast,↓EC,↓reduceIte,Cx,Cy,CB,Dw,J,N,Gc,EW,Dr,Ah,Ae,Ai,Ad,Ab,Ak,Ap,Am,Cy,DJ,DK,EE,EF,Hx E,and_self,not_false_eq_true,decide_true,decide_false,M,En,FB,FC,Gv,FT,F8,H3,O,ec,hi,Ea,Ej,E3,Ft,U,cb,cl,I,Gw,Gf,Gu,q1,q2,q3,q4,q5,q6,GA,AF,Av,beq_self_eq_true,Az,eq_true E,Gx,Fx,Gi,FZ,Ml,Eg,g2,ci,h3,Y,h5,true_or,cj]
   ·obtain⟨B,hB⟩:∃ B,(if p.x.c1.1≤i then EM else Ga p.c p.v p.m.op)=B:=⟨_,rfl⟩;have ci:Ph [.agg (.int .i64 p.x.c1.1::CW p.x.c1.2),.int .i64 i,CY B,JC p.m.path]=some (.bool (G7 p.x.c1 i B p.m.path)):=XI p.x.c1 i B p.m.path (by omega);have cd:=Wt p.x.b;have cs:RT [Gr p.c,Ev p.v,CY B,.agg (EA (HY p.x.b) (HZ p.x.b)),DS p.m.op]=some (.tup [D0 (G1 (HY p.x.b,HZ p.x.b) (Fw p.c p.v B p.m.op)),.int .i64 (Fw p.c p.v B p.m.op).2]):=pJ p.c p.v B (HY p.x.b,HZ p.x.b) p.m.op ⟨hc,p.hv,b3⟩;have cD:=N9 p.x.c1.1;have dr:=Xf p.x.c1.1;have sh:=s8 (n:=Ei p.x.c1.1) (by omega) (by omega);have bh:=(aR (HY p.x.b,HZ p.x.b) (Fw p.c p.v B p.m.op)).2;have cr:=fun l=>R9 (p:=p) hj (IM hk l) bh;have a9:=R7
    by_cases h3:p.x.c1.1≤i
    ·have g3:=eq_true h3;rw[if_pos h3]at hB;subst hB
     by_cases Y:2 ^ (Ei p.x.c1.1).toNat≤i
     ·by_cases V:(Fw p.c p.v EM p.m.op).2=0
      ·have g6:=eq_true V;simp (disch:=first|omega|decide) only[push_cast,↓EC,↓reduceIte,Cx,Cy,CB,Dw,J,N,Gc,Ja,EW,Hc,Ie,Hg,Dr,D0,Fc,Ah,Ae,Ai,Ad,Ab,Ak,Ap,Am,Cy,DJ,DK,EE,EF,Hx E,and_self,decide_true,decide_false,M,En,FB,FC,Gv,FT,F8,Hu,O,ec,hi,Ea,Ej,E3,Ft,Jc,U,cb,cl,I,Gw,Gf,Gu,q1,q2,q3,q4,q5,q6,GA,AF,Av,beq_self_eq_true,Az,eq_true E,Gx,Fx,Gi,FZ,Eg,h2,a9,g3,cD,sh,eq_true Y,cd,cs,cr,V,true_or]
      ·simp (disch:=first|omega|decide) only[push_cast,↓EC,↓reduceIte,Cx,Cy,CB,Dw,J,N,Gc,Ja,EW,Hc,Ie,Ik,My,Dr,hs,D0,Fc,Ah,Ae,Ai,Ad,Ab,Ak,Ap,Am,Cy,DJ,DK,EE,EF,and_self,not_false_eq_true,decide_true,decide_false,M,En,FB,FC,Gv,FT,F8,Hu,O,ec,hi,Ea,Ej,E3,Ft,Jc,U,cb,cl,I,Gw,Gf,Gu,q1,q2,q3,q4,q5,q6,GA,AF,Av,beq_self_eq_true,Az,eq_true E,Gx,Fx,Gi,FZ,Eg,h2,a9,g3,cD,sh,eq_true Y,cd,cs,V,true_or]
     ·cases h5:G7 p.x.c1 i EM p.m.path with
      |false=>
       rw[h5]at ci;simp (disch:=first|omega|decide) only[push_cast,↓EC,↓reduceIte,Cx,Cy,CB,Dw,J,N,Gc,EW,Dr,D4,D3,hs,Ah,Ae,Ai,Ad,Ab,Ak,Ap,Am,Cy,DJ,DK,EE,EF,and_self,not_false_eq_true,decide_true,decide_false,Rs,M,En,FB,FC,Gv,FT,F8,H3,O,ec,hi,Ea,Ej,E3,Ft,U,cb,cl,I,Gw,Gf,Gu,q1,q2,q3,q4,q5,q6,GA,AF,Av,beq_self_eq_true,Az,eq_true E,Gx,Fx,Gi,FZ,Eg,h2,ci,a9,g3,cD,sh,Y,h5,Al,or_self]
      |true=>
       rw[h5]at ci
       by_cases V:(Fw p.c p.v EM p.m.op).2=0
       ·have g6:=eq_true V;simp (disch:=first|omega|decide) only[push_cast,↓EC,↓reduceIte,Cx,Cy,CB,Dw,J,N,Gc,Ja,EW,Hc,Ie,Hg,Dr,D0,Fc,Ah,Ae,Ai,Ad,Ab,Ak,Ap,Am,Cy,DJ,DK,EE,EF,Hx E,and_self,decide_true,decide_false,M,En,FB,FC,Gv,FT,F8,H3,Hu,O,ec,hi,Ea,Ej,E3,Ft,Jc,U,cb,cl,I,Gw,Gf,Gu,q1,q2,q3,q4,q5,q6,GA,AF,Av,beq_self_eq_true,Az,eq_true E,Gx,Fx,Gi,FZ,Eg,h2,ci,a9,g3,cD,sh,Y,h5,cd,cs,cr,V,or_true]
       ·simp (disch:=first|omega|decide) only[push_cast,↓EC,↓reduceIte,Cx,Cy,CB,Dw,J,N,Gc,Ja,EW,Hc,Ie,Ik,My,Dr,hs,D0,Fc,Ah,Ae,Ai,Ad,Ab,Ak,Ap,Am,Cy,DJ,DK,EE,EF,and_self,not_false_eq_true,decide_true,decide_false,M,En,FB,FC,Gv,FT,F8,H3,Hu,O,ec,hi,Ea,Ej,E3,Ft,Jc,U,cb,cl,I,Gw,Gf,Gu,q1,q2,q3,q4,q5,q6,GA,AF,Av,beq_self_eq_true,Az,eq_true E,Gx,Fx,Gi,FZ,Eg,h2,ci,a9,g3,cD,sh,Y,h5,cd,cs,V,or_true]
    ·rw[if_neg h3]at hB;subst hB;have g3:=h3
     by_cases Y:2 ^ (Ei p.x.c1.1).toNat≤i
     ·by_cases V:(Fw p.c p.v (Ga p.c p.v p.m.op) p.m.op).2=0
      ·have g6:=eq_true V;simp (disch:=first|omega|decide) only[push_cast,↓EC,↓reduceIte,Cx,Cy,CB,Dw,J,N,Gc,Ja,EW,Hc,Ie,Hg,Dr,D0,Fc,Ah,Ae,Ai,Ad,Ab,Ak,Ap,Am,Cy,DJ,DK,EE,EF,Hx E,and_self,decide_true,decide_false,M,En,FB,FC,Gv,FT,F8,Hu,O,ec,hi,Ea,Ej,E3,Ft,Jc,U,cb,cl,I,Gw,Gf,Gu,q1,q2,q3,q4,q5,q6,GA,AF,Av,beq_self_eq_true,Az,eq_true E,Gx,Fx,Gi,FZ,Eg,h2,g3,cD,sh,eq_true Y,cd,cs,cr,V,true_or]
      ·simp (disch:=first|omega|decide) only[push_cast,↓EC,↓reduceIte,Cx,Cy,CB,Dw,J,N,Gc,Ja,EW,Hc,Ie,Ik,My,Dr,hs,D0,Fc,Ah,Ae,Ai,Ad,Ab,Ak,Ap,Am,Cy,DJ,DK,EE,EF,and_self,not_false_eq_true,decide_true,decide_false,M,En,FB,FC,Gv,FT,F8,Hu,O,ec,hi,Ea,Ej,E3,Ft,Jc,U,cb,cl,I,Gw,Gf,Gu,q1,q2,q3,q4,q5,q6,GA,AF,Av,beq_self_eq_true,Az,eq_true E,Gx,Fx,Gi,FZ,Eg,h2,g3,cD,sh,eq_true Y,cd,cs,V,true_or]
     ·cases h5:G7 p.x.c1 i (Ga p.c p.v p.m.op) p.m.path with
      |false=>
       rw[h5]at ci;simp (disch:=first|omega|decide) only[push_cast,↓EC,↓reduceIte,Cx,Cy,CB,Dw,J,N,Gc,EW,Dr,D4,D3,hs,Ah,Ae,Ai,Ad,Ab,Ak,Ap,Am,Cy,DJ,DK,EE,EF,and_self,not_false_eq_true,decide_false,Rs,M,En,FB,FC,Gv,FT,F8,H3,O,ec,hi,Ea,Ej,E3,Ft,U,cb,cl,I,Gw,Gf,Gu,q1,q2,q3,q4,q5,q6,GA,AF,Av,beq_self_eq_true,Az,eq_true E,Gx,Fx,Gi,FZ,Eg,h2,ci,g3,cD,sh,Y,h5,Al,or_self]
      |true=>
       rw[h5]at ci
       by_cases V:(Fw p.c p.v (Ga p.c p.v p.m.op) p.m.op).2=0
       ·have g6:=eq_true V;simp (disch:=first|omega|decide) only[push_cast,↓EC,↓reduceIte,Cx,Cy,CB,Dw,J,N,Gc,Ja,EW,Hc,Ie,Hg,Dr,D0,Fc,Ah,Ae,Ai,Ad,Ab,Ak,Ap,Am,Cy,DJ,DK,EE,EF,Hx E,and_self,decide_false,M,En,FB,FC,Gv,FT,F8,H3,Hu,O,ec,hi,Ea,Ej,E3,Ft,Jc,U,cb,cl,I,Gw,Gf,Gu,q1,q2,q3,q4,q5,q6,GA,AF,Av,beq_self_eq_true,Az,eq_true E,Gx,Fx,Gi,FZ,Eg,h2,ci,g3,cD,sh,Y,h5,cd,cs,cr,V,or_true]
       ·simp (disch:=first|omega|decide) only[push_cast,↓EC,↓reduceIte,Cx,Cy,CB,Dw,J,N,Gc,Ja,EW,Hc,Ie,Ik,My,Dr,hs,D0,Fc,Ah,Ae,Ai,Ad,Ab,Ak,Ap,Am,Cy,DJ,DK,EE,EF,and_self,not_false_eq_true,decide_false,M,En,FB,FC,Gv,FT,F8,H3,Hu,O,ec,hi,Ea,Ej,E3,Ft,Jc,U,cb,cl,I,Gw,Gf,Gu,q1,q2,q3,q4,q5,q6,GA,AF,Av,beq_self_eq_true,Az,eq_true E,Gx,Fx,Gi,FZ,Eg,h2,ci,g3,cD,sh,Y,h5,cd,cs,V,or_true]
end Go.Proofs.YtijnglngaogdjaaGreatDoor.PI
namespace Go.Proofs.YtijnglngaogdjaaGreatDoor.PI
open Go Go.RowKit
set_option linter.unusedSimpArgs false
set_option linter.unusedVariables false
variable {u v:Value}{x:Operand}{w:World}{a:Act}{o:Oper}
section
variable {P:Program} {G:C9}
structure PH2 where
 t:Nat
 js:List Nat
 vs:Nat
 js2:List Nat
 l:List PI
def PH2.run(G:C9)(F:PH2):Nat→D→List D→St→Option St:=fun t d das st=>
 if t=F.t∧KB d=true then(ED G Uk F.l ⟨SI ((SI (C3 das) F.js).set F.vs d) F.js2,st⟩).map (·.st)else none
section
variable {n:Nat} {ops:Array Oper} {Q:Exit→Act→List Go.Frame→World→Prop} {i:Nat} {rest:List Nat} {a:Act} {cs:List Go.Frame} {w:World} {o:Oper}
theorem Lm(E:ops[i]?=some o)(I:o.guard=none)(J:(execOp a.eval o).run P w=.ok (.value v) w)(h:wpOpsSIn Fence.wide n P ops Q rest (a.put o.dst v) cs w):wpOpsSIn Fence.wide n P ops Q (i::rest) a cs w:=by
 have hw:Region.wanted o (yielded ops a.tmps)=true:=by simp[Region.wanted,I]
 simp only[wpOpsSIn,E,hw,if_true,J];exact⟨fun _ _=>trivial,h⟩
theorem wJ(E:ops[i]?=some o)(I:o.guard=none)(J:(execOp a.eval o).run P w=.ok .recover w)(hc:recoverD cs=none)(h:wpOpsSIn Fence.wide n P ops Q rest (a.put o.dst .nilIface) cs w):wpOpsSIn Fence.wide n P ops Q (i::rest) a cs w:=by
 have hw:Region.wanted o (yielded ops a.tmps)=true:=by simp[Region.wanted,I]
 simp only[wpOpsSIn,E,hw,if_true,J,hc];exact⟨fun _ _=>trivial,h⟩
theorem wK{cs':List Go.Frame}(E:ops[i]?=some o)(I:o.guard=none)(J:(execOp a.eval o).run P w=.ok .recover w)(hc:recoverD cs=some (v,cs'))(h:wpOpsSIn Fence.wide n P ops Q rest (a.put o.dst v) cs' w):wpOpsSIn Fence.wide n P ops Q (i::rest) a cs w:=by
 have hw:Region.wanted o (yielded ops a.tmps)=true:=by simp[Region.wanted,I]
 simp only[wpOpsSIn,E,hw,if_true,J,hc];exact⟨fun _ _=>trivial,h⟩
end
theorem NS(h:o.op=.move x∨o.op=.assign x):(execOp a.eval o).run P w=.ok (.value (a.eval x)) w:=by
 rcases h with h | h
 ·simp only[execOp,h]; rfl
 ·simp only[execOp,h]; rfl
theorem nm(h:o.op=.extract x 0)(E:a.eval x=.tuple #[u,v]):(execOp a.eval o).run P w=.ok (.value u) w:=by
 simp only[execOp,h,E]; rfl
theorem np(h:o.op=.extract x 1)(E:a.eval x=.tuple #[u,v]):(execOp a.eval o).run P w=.ok (.value v) w:=by
 simp only[execOp,h,E]; rfl
theorem Ygm{f i0 i1 r d d2 v k vs ok c t1 xt:Nat}{fn:Func}{o0 o1 o2 o3 o4 o5 o6 o7:Oper}{body:Code}{l:List PI}{z:Value}
  (hfn:P.funcs[f]?=some fn) (hname:(fn.name == "runtime.NumGoroutine")=false) (hres:fn.results=#[])
  (hc:fn.body=some (.seq (.region i0 #[o0,o1,o2,o3,o4,o5,o6] false) (.seq (.region i1 #[o7] false) (.cond (.tmp c) body .skip))))
  (h0:o0.op=.call {callee:=.builtin .recover,args:=#[],argTypes:=#[]}∧o0.dst=some r∧o0.guard=none)
  (h1:o1.op=.typeAssert (.tmp r) xt t1 true∧o1.dst=some d∧o1.guard=none)
  (h2:o2.op=.move (.tmp d)∧o2.dst=some d2∧o2.guard=none)
  (h3:o3.op=.extract (.tmp d2) 0∧o3.dst=some v∧o3.guard=none)
  (h4:o4.op=.extract (.tmp d2) 1∧o4.dst=some k∧o4.guard=none)
  (h5:o5.op=.assign (.tmp v)∧o5.dst=some vs∧o5.guard=none)
  (h6:o6.op=.assign (.tmp k)∧o6.dst=some ok∧o6.guard=none)
  (h7:o7.op=.move (.tmp ok)∧o7.dst=some c∧o7.guard=none)
  (hlt:(r<fn.ntmps∧d<fn.ntmps∧d2<fn.ntmps∧v<fn.ntmps)∧k<fn.ntmps∧vs<fn.ntmps∧ok<fn.ntmps∧c<fn.ntmps)
  (hne:d2≠v∧v≠k∧k≠vs)
  (ht1:bG P t1=true) (hiz:((P.info? t1).bind fun i=>i.zero)=some z) (hb:Jk P fn.ntmps body=some l) :
  Sh P G f (PH2.run G ⟨t1,[r,d,d2,v,k],vs,[ok,c],l⟩):=by
 refine⟨⟨fn,hfn,by rw[hc]; rfl,hname⟩,?_⟩;obtain⟨u,ht1,hu1⟩:=yMm ht1;obtain⟨zi,hi,hz⟩:=Ay.1 hiz;intro base w g st das ws hS hG hlen hrep;obtain⟨hF0,hs0⟩:=Ydb (m:=fn.ntmps) hlen hrep;obtain⟨h0a,h0b,h0c⟩:=h0;obtain⟨h1a,h1b,h1c⟩:=h1;obtain⟨h2a,h2b,h2c⟩:=h2;obtain⟨h3a,h3b,h3c⟩:=h3;obtain⟨h4a,h4b,h4c⟩:=h4;obtain⟨h5a,h5b,h5c⟩:=h5;obtain⟨h6a,h6b,h6c⟩:=h6;obtain⟨h7a,h7b,h7c⟩:=h7;obtain⟨⟨l1,l2,l3,l4⟩,l5,l6,l7,l8⟩:=hlt;obtain⟨n1,n2,n3⟩:=hne
 have hresults:∀ (tm:Array Value) (w':World),(results fn tm).run P w'=.ok (.tuple #[]) w':=by
  intro tm w';simp[results,hres]
 generalize ha0:({tmps:=ws.toArray++Array.replicate (fn.ntmps - ws.toArray.size) undef,defers:=[]}:Act)=a0 at*;have hd0:a0.defers=[]:=by rw[← ha0]
 have hs0':fn.ntmps≤a0.tmps.size:=by rw[← ha0]; exact hs0
 have ho1:({dst:=o1.dst,op:=.typeAssert (.tmp r) xt t1 true,type:=o1.type,pos:=o1.pos,after:=o1.after,guard:=o1.guard}:Oper)=o1:=by rw[← h1a]
 refine⟨?_,?_⟩
 ·refine callsDIn_of_wpSIn hfn hc trivial fun c₀ cs hu=>?_;rw[ha0];refine wpSIn_seq (wpSIn_region ?_);have hr:recoverD (c₀::cs)=none:=by simp[recoverD,hu]
  show wpOpsSIn _ _ _ _ _ [0,1,2,3,4,5,6] _ _ _
  refine wJ (o:=o0) rfl h0c (iz h0a) hr ?_;rw[h0b];have e1:(a0.put (some r) .nilIface).eval (.tmp r)=.nilIface:=KN (by omega);have he1:=xX (P:=P) ht1 hu1 hi hz (x:=.tmp r) e1 (dst:=o1.dst) (ty:=o1.type) (xt:=xt) (pos:=o1.pos) (after:=o1.after) (guard:=o1.guard) w;rw[ho1]at he1;generalize hA1:a0.put (some r) .nilIface=a1 at*;have s1:fn.ntmps≤a1.tmps.size:=by rw[← hA1,J3]; exact hs0'
  have f1:a1.defers=[]:=by rw[← hA1]; simp[Act.put,hd0]
  refine Lm (o:=o1) rfl h1c he1 ?_;rw[h1b];have e2:(a1.put (some d) (.tuple #[z,.bool false])).eval (.tmp d)=.tuple #[z,.bool false]:=KN (by omega);generalize hA2:a1.put (some d) (.tuple #[z,.bool false])=a2 at*;have s2:fn.ntmps≤a2.tmps.size:=by rw[← hA2,J3]; exact s1
  have f2:a2.defers=[]:=by rw[← hA2]; simp[Act.put,f1]
  refine Lm (o:=o2) rfl h2c (NS (.inl h2a)) ?_;rw[h2b,e2];have e3:(a2.put (some d2) (.tuple #[z,.bool false])).eval (.tmp d2)=.tuple #[z,.bool false]:=KN (by omega);generalize hA3:a2.put (some d2) (.tuple #[z,.bool false])=a3 at*;have s3:fn.ntmps≤a3.tmps.size:=by rw[← hA3,J3]; exact s2
  have f3:a3.defers=[]:=by rw[← hA3]; simp[Act.put,f2]
  refine Lm (o:=o3) rfl h3c (nm h3a e3) ?_;rw[h3b];have e4:(a3.put (some v) z).eval (.tmp d2)=.tuple #[z,.bool false]:=by rw[SF n1]; exact e3
  generalize hA4:a3.put (some v) z=a4 at*;have s4:fn.ntmps≤a4.tmps.size:=by rw[← hA4,J3]; exact s3
  have f4:a4.defers=[]:=by rw[← hA4]; simp[Act.put,f3]
  refine Lm (o:=o4) rfl h4c (np h4a e4) ?_;rw[h4b];have e5:(a4.put (some k) (.bool false)).eval (.tmp k)=.bool false:=KN (by omega);generalize hA5:a4.put (some k) (.bool false)=a5 at*;have s5:fn.ntmps≤a5.tmps.size:=by rw[← hA5,J3]; exact s4
  have f5:a5.defers=[]:=by rw[← hA5]; simp[Act.put,f4]
  refine Lm (o:=o5) rfl h5c (NS (.inr h5a)) ?_;rw[h5b];have e6:(a5.put (some vs) (a5.eval (.tmp v))).eval (.tmp k)=.bool false:=by rw[SF n3]; exact e5
  generalize hA6:a5.put (some vs) (a5.eval (.tmp v))=a6 at*;have s6:fn.ntmps≤a6.tmps.size:=by rw[← hA6,J3]; exact s5
  have f6:a6.defers=[]:=by rw[← hA6]; simp[Act.put,f5]
  refine Lm (o:=o6) rfl h6c (NS (.inr h6a)) ?_;rw[h6b,e6];have e7:(a6.put (some ok) (.bool false)).eval (.tmp ok)=.bool false:=KN (by omega);generalize hA7:a6.put (some ok) (.bool false)=a7 at*;have s7:fn.ntmps≤a7.tmps.size:=by rw[← hA7,J3]; exact s6
  have f7:a7.defers=[]:=by rw[← hA7]; simp[Act.put,f6]
  refine wpSIn_of_wpIn rfl (wpIn_seq (wpIn_region_list ?_));simp only[wpListIn,Region.wanted,h7c,if_true];refine⟨fun _ _=>trivial,?_⟩
  show o7.uponIn _ _ _ _ _ _ ((execOp a7.eval o7).run P w)
  rw[NS (.inl h7a),Oper.uponIn_value,h7b,e7]
  show Code.wpIn _ _ _ _ _ _ _
  refine wpIn_cond_false (KN (by omega)) (wpIn_skip ?_);refine⟨by simp[Act.put,f7],.returning,by rw[← hu],_,hresults _ _,rfl,rfl,g,Go1.refl hS⟩
 ·intro t dv st' hrun;unfold PH2.run at hrun
  split at hrun
  case isFalse=>cases hrun
  rename_i hcnd;obtain⟨rfl,hi'⟩:=hcnd;simp only[BH]at hrun;obtain⟨s',hx,rfl⟩:=hrun;refine callsDIn_of_wpSIn hfn hc trivial fun c₀ cs hu=>?_;rw[ha0];refine wpSIn_seq (wpSIn_region ?_);have hr:recoverD (c₀::cs)=some (.iface t (F7 dv),{c₀ with mode:=.panicking (VI t dv)}::cs):=by simp[recoverD,hu,KH,VI]
  show wpOpsSIn _ _ _ _ _ [0,1,2,3,4,5,6] _ _ _
  refine wK (o:=o0) rfl h0c (iz h0a) hr ?_;rw[h0b];have e1:(a0.put (some r) (.iface t (F7 dv))).eval (.tmp r)=.iface t (F7 dv):=KN (by omega);have he1:=xW (P:=P) ht1 hu1 (x:=.tmp r) e1 (dst:=o1.dst) (ty:=o1.type) (xt:=xt) (pos:=o1.pos) (after:=o1.after) (guard:=o1.guard) w;rw[ho1]at he1;have g1:FR w g st ((C3 das).set r .junk) (a0.put (some r) (.iface t (F7 dv))):=hF0.put (dst:=some r) (fun t e=>by cases e; omega) (.junk _);generalize hA1:a0.put (some r) (.iface t (F7 dv))=a1 at*;have s1:fn.ntmps≤a1.tmps.size:=by rw[← hA1,J3]; exact hs0'
  have f1:a1.defers=[]:=by rw[← hA1]; simp[Act.put,hd0]
  refine Lm (o:=o1) rfl h1c he1 ?_;rw[h1b];have e2:(a1.put (some d) (.tuple #[F7 dv,.bool true])).eval (.tmp d)=.tuple #[F7 dv,.bool true]:=KN (by omega);have g2:FR w g st (((C3 das).set r .junk).set d .junk) (a1.put (some d) (.tuple #[F7 dv,.bool true])):=g1.put (dst:=some d) (fun t e=>by cases e; omega) (.junk _);generalize hA2:a1.put (some d) (.tuple #[F7 dv,.bool true])=a2 at*;have s2:fn.ntmps≤a2.tmps.size:=by rw[← hA2,J3]; exact s1
  have f2:a2.defers=[]:=by rw[← hA2]; simp[Act.put,f1]
  refine Lm (o:=o2) rfl h2c (NS (.inl h2a)) ?_;rw[h2b,e2];have e3:(a2.put (some d2) (.tuple #[F7 dv,.bool true])).eval (.tmp d2)=.tuple #[F7 dv,.bool true]:=KN (by omega);have g3:FR w g st ((((C3 das).set r .junk).set d .junk).set d2 .junk) (a2.put (some d2) (.tuple #[F7 dv,.bool true])):=g2.put (dst:=some d2) (fun t e=>by cases e; omega) (.junk _);generalize hA3:a2.put (some d2) (.tuple #[F7 dv,.bool true])=a3 at*;have s3:fn.ntmps≤a3.tmps.size:=by rw[← hA3,J3]; exact s2
  have f3:a3.defers=[]:=by rw[← hA3]; simp[Act.put,f2]
  refine Lm (o:=o3) rfl h3c (nm h3a e3) ?_;rw[h3b];have e4:(a3.put (some v) (F7 dv)).eval (.tmp d2)=.tuple #[F7 dv,.bool true]:=by rw[SF n1]; exact e3
  have q4:(a3.put (some v) (F7 dv)).eval (.tmp v)=F7 dv:=KN (by omega);have g4:FR w g st (((((C3 das).set r .junk).set d .junk).set d2 .junk).set v .junk) (a3.put (some v) (F7 dv)):=g3.put (dst:=some v) (fun t e=>by cases e; omega) (.junk _);generalize hA4:a3.put (some v) (F7 dv)=a4 at*;have s4:fn.ntmps≤a4.tmps.size:=by rw[← hA4,J3]; exact s3
  have f4:a4.defers=[]:=by rw[← hA4]; simp[Act.put,f3]
  refine Lm (o:=o4) rfl h4c (np h4a e4) ?_;rw[h4b];have e5:(a4.put (some k) (.bool true)).eval (.tmp k)=.bool true:=KN (by omega);have q5:(a4.put (some k) (.bool true)).eval (.tmp v)=F7 dv:=by rw[SF n2]; exact q4
  have g5:FR w g st ((((((C3 das).set r .junk).set d .junk).set d2 .junk).set v .junk).set k .junk) (a4.put (some k) (.bool true)):=g4.put (dst:=some k) (fun t e=>by cases e; omega) (.junk _);generalize hA5:a4.put (some k) (.bool true)=a5 at*;have s5:fn.ntmps≤a5.tmps.size:=by rw[← hA5,J3]; exact s4
  have f5:a5.defers=[]:=by rw[← hA5]; simp[Act.put,f4]
  refine Lm (o:=o5) rfl h5c (NS (.inr h5a)) ?_;rw[h5b,q5];have e6:(a5.put (some vs) (F7 dv)).eval (.tmp k)=.bool true:=by rw[SF n3]; exact e5
  have g6:FR w g st (((((((C3 das).set r .junk).set d .junk).set d2 .junk).set v .junk).set k .junk).set vs dv) (a5.put (some vs) (F7 dv)):=g5.put (dst:=some vs) (fun t e=>by cases e; omega) (yQv hi');generalize hA6:a5.put (some vs) (F7 dv)=a6 at*;have s6:fn.ntmps≤a6.tmps.size:=by rw[← hA6,J3]; exact s5
  have f6:a6.defers=[]:=by rw[← hA6]; simp[Act.put,f5]
  refine Lm (o:=o6) rfl h6c (NS (.inr h6a)) ?_;rw[h6b,e6];have e7:(a6.put (some ok) (.bool true)).eval (.tmp ok)=.bool true:=KN (by omega);have g7:FR w g st ((((((((C3 das).set r .junk).set d .junk).set d2 .junk).set v .junk).set k .junk).set vs dv).set ok .junk) (a6.put (some ok) (.bool true)):=g6.put (dst:=some ok) (fun t e=>by cases e; omega) (.junk _);generalize hA7:a6.put (some ok) (.bool true)=a7 at*;have s7:fn.ntmps≤a7.tmps.size:=by rw[← hA7,J3]; exact s6
  have f7:a7.defers=[]:=by rw[← hA7]; simp[Act.put,f6]
  refine wpSIn_of_wpIn rfl (wpIn_seq (wpIn_region_list ?_));simp only[wpListIn,Region.wanted,h7c,if_true];refine⟨fun _ _=>trivial,?_⟩
  show o7.uponIn _ _ _ _ _ _ ((execOp a7.eval o7).run P w)
  rw[NS (.inl h7a),Oper.uponIn_value,h7b,e7]
  show Code.wpIn _ _ _ _ _ _ _
  refine wpIn_cond_true (KN (by omega)) ?_;refine dC (w0:=w) (g0:=g) (st0:=st) (dl:=[]) body l _ s' _ w _ hb hx ⟨g,Go1.refl hS,?_,hG,⟨[],by simp[Act.put,f7],trivial⟩,by rw[J3]; exact s7⟩ ?_
  ·exact g7.put (dst:=some c) (fun t e=>by cases e; omega) (.junk _)
  ·rintro a' w' ⟨g',h'⟩ hd';refine⟨by rw[hd']; simp[Act.put,f7],.panicking (VI t dv),rfl,_,hresults _ _,rfl,rfl,g',h'.go1⟩
end
end Go.Proofs.YtijnglngaogdjaaGreatDoor.PI
namespace Go.Proofs.YtijnglngaogdjaaGreatDoor.PI
open Go
set_option linter.unusedSimpArgs false
set_option linter.unusedVariables false
def Rm:PH2:=⟨125,[5,6,4,7,8],2,[3,9],[{dst:=some 10,op:=.bld ER []},{dst:=some 11,op:=.mov (.s 2)},{dst:=none,op:=.stor 279 (.s 0) (.s 10)},{dst:=none,op:=.stor 1 (.s 1) (.s 11)}]⟩
set_option maxRecDepth 20000 in
theorem Vi:Sh Tryz.prog GG 65 (PH2.run GG Rm):=
 Ygm (fn:=Tryz.f65) (z:=.int .i64 0) (by kernel_rfl) rfl rfl rfl ⟨rfl,rfl,rfl⟩ ⟨rfl,rfl,rfl⟩ ⟨rfl,rfl,rfl⟩ ⟨rfl,rfl,rfl⟩ ⟨rfl,rfl,rfl⟩ ⟨rfl,rfl,rfl⟩ ⟨rfl,rfl,rfl⟩ ⟨rfl,rfl,rfl⟩ (by decide) (by decide) (by kernel_rfl) (by kernel_rfl) (by kernel_rfl)
theorem R5:ER.length=279:=by rw[Jb]; exact LN _ _
theorem oV:ER.all D.isCell=true:=by rw[Jb]; exact M1 _ rfl
theorem yKw(l xs:List D)(h:xs.length=l.length):E8 l 0 xs=xs:=by
 simp[E8,h]
theorem MV(E o1 o2:PI.Obj)(rest:St)(e:Int):PH2.run GG Rm 125 (.int .i64 e) [.ptr 3 0,.ptr 4 0] (E::o1::o2::⟨false,1,ER,false⟩::⟨false,1,[.int .i64 0],false⟩::rest)=
  some (E::o1::o2::⟨false,1,ER,false⟩::⟨false,1,[.int .i64 e],false⟩::rest):=by
 have s1:E8 ER 0 ER=ER:=yKw _ _ rfl;have s2:E8 [.int .i64 0] 0 [.int .i64 e]=[.int .i64 e]:=rfl;unfold PH2.run;have hc:125=Rm.t∧KB (.int .i64 e)=true:=⟨rfl,rfl⟩;rw[if_pos hc];simp[Rm,ED,PI.exec,PI.wanted,POp.exec,SI,Frame.set,Frame.put,De,C3,D.cells,D.isCell,La,DD,Uk,s1,s2,R5,oV]
def hP:HX:=fun f=>if f=65 then some (PH2.run GG Rm)else none
theorem Lt:hP 65=some (PH2.run GG Rm):=(rfl)
theorem UT:∀ f h,hP f=some h→Sh Tryz.prog GG f h:=by
 intro f h e;unfold hP at e
 split at e
 ·rename_i hf;simp only[AN]at e;subst e; subst hf;exact Vi
 ·cases e
theorem LM(f:Nat)(E ds:List D)(h:f<5000000):MK (.clo f E) ds=some (f,ds++E):=by simp only[MK,if_pos h]
def PE:List (Int×Nat):=[(1,66),(2,67),(3,68),(4,69),(5,70),(6,71),(7,72)]
def GN(i:Nat):List D:=(PE.take i).map fun p=>.agg [.int .i64 p.1,.clo p.2 []]
theorem HQ:JR (some ⟨false,2,[],false⟩) 2 [0] (.int .i64 1) (.clo 66 [])=some ⟨false,2,GN 1,false⟩:=(rfl)
theorem HP:JR (some ⟨false,2,GN 1,false⟩) 2 [0] (.int .i64 2) (.clo 67 [])=some ⟨false,2,GN 2,false⟩:=(rfl)
theorem HO:JR (some ⟨false,2,GN 2,false⟩) 2 [0] (.int .i64 3) (.clo 68 [])=some ⟨false,2,GN 3,false⟩:=(rfl)
theorem HN:JR (some ⟨false,2,GN 3,false⟩) 2 [0] (.int .i64 4) (.clo 69 [])=some ⟨false,2,GN 4,false⟩:=(rfl)
theorem HM:JR (some ⟨false,2,GN 4,false⟩) 2 [0] (.int .i64 5) (.clo 70 [])=some ⟨false,2,GN 5,false⟩:=(rfl)
theorem HL:JR (some ⟨false,2,GN 5,false⟩) 2 [0] (.int .i64 6) (.clo 71 [])=some ⟨false,2,GN 6,false⟩:=(rfl)
theorem HK:JR (some ⟨false,2,GN 6,false⟩) 2 [0] (.int .i64 7) (.clo 72 [])=some ⟨false,2,GN 7,false⟩:=(rfl)
theorem fS:KZ (some ⟨false,2,GN 7,false⟩) 2 [0] true .nilf (.int .i64 1)=some (.tup [.clo 66 [],.bool true]):=(rfl)
theorem fR:KZ (some ⟨false,2,GN 7,false⟩) 2 [0] true .nilf (.int .i64 2)=some (.tup [.clo 67 [],.bool true]):=(rfl)
theorem fQ:KZ (some ⟨false,2,GN 7,false⟩) 2 [0] true .nilf (.int .i64 3)=some (.tup [.clo 68 [],.bool true]):=(rfl)
theorem fP:KZ (some ⟨false,2,GN 7,false⟩) 2 [0] true .nilf (.int .i64 4)=some (.tup [.clo 69 [],.bool true]):=(rfl)
theorem fO:KZ (some ⟨false,2,GN 7,false⟩) 2 [0] true .nilf (.int .i64 5)=some (.tup [.clo 70 [],.bool true]):=(rfl)
theorem fN:KZ (some ⟨false,2,GN 7,false⟩) 2 [0] true .nilf (.int .i64 6)=some (.tup [.clo 71 [],.bool true]):=(rfl)
theorem fM:KZ (some ⟨false,2,GN 7,false⟩) 2 [0] true .nilf (.int .i64 7)=some (.tup [.clo 72 [],.bool true]):=(rfl)
theorem Uq{k:Int}(h:¬ (1≤k∧k≤7)):KZ (some ⟨false,2,GN 7,false⟩) 2 [0] true .nilf (.int .i64 k)=some (.tup [.nilf,.bool false]):=by
 have E:∀ n:Int,1≤n→n≤7→(k == n)=false:=fun n a b=>by simp; omega
 simp[KZ,GN,PE,PI.Obj.isMap,HC,Ki,H6,Fs,D.mk,E]
theorem RJ:EB.length=144:=by simp[EB,zI,Kz,DH]
theorem cL(p:Ply):C4 p=C7 [.w 279 (C6 p.x p.j),.c (Gr p.c),.w 17 (Ef p.v),.w 144 (ID p.m),.c (.int .i64 p.now)]:=by
 simp[C4,D5,Ku,C7,Sg.cs,C6,ID]
theorem cU(m:Mv):(ID m).all D.isCell=true:=by
 refine M4 (fun _ _=>rfl) fun s E=>?_;simp only[Mz,Hh,Jy,Ae,Ai,Aw,AB,or_false]at E;rcases E with rfl | rfl | rfl | rfl | rfl | rfl | rfl | rfl | rfl | rfl | rfl | rfl | rfl | rfl | rfl | rfl | rfl | rfl | rfl | rfl <;> simp[Sg.cs,D.isCell,IC,Eo]
theorem mJ(m:Mv):(ID m).all El=true:=by
 refine M4 (fun _ _=>rfl) fun s E=>?_;simp only[Mz,Hh,Jy,Ae,Ai,Aw,AB,or_false]at E;rcases E with rfl | rfl | rfl | rfl | rfl | rfl | rfl | rfl | rfl | rfl | rfl | rfl | rfl | rfl | rfl | rfl | rfl | rfl | rfl | rfl <;> simp[Sg.cs,El,Lo,Eo,Kj]
theorem Ly(m:Mv):Dv (GU m)=some (ID m):=by simp only[Dv,GU,D.cells,cU,if_true]
theorem YT(sz:Nat)(lent:Bool)(m:Mv):Dn (some ⟨false,sz,ID m,lent⟩) 144 true 0=some (GU m):=KJ sz lent _ 144 (WC m)
theorem Me(sz:Nat)(lent:Bool)(m:Mv):Dn (some ⟨false,sz,ID m,lent⟩) 1 false 0=some (.int .i64 m.kd):=GR (l:=Mz m) rfl rfl (gz m)
theorem OC(sz:Nat)(lent:Bool)(m:Mv):Dn (some ⟨false,sz,ID m,lent⟩) 1 false 1=some (.int .i64 m.pt):=GR (l:=Mz m) rfl rfl (gz m)
theorem Yg0(p:Ply)(hj:p.j=Dg p.x.jn):DD Oo [(0,279,Db p.x),(279,1,Gr p.c),(280,17,Ev p.v),(297,144,GU p.m),(441,1,.int .i64 p.now)]=some (C4 p):=by
 have J:Oo=C7 [.w 279 ER,.c (.slc 0 [] true),.w 17 (zI 17),.w 144 EB,.c (.int .i64 0)]:=by simp[Oo,C7,Sg.cs]
 have l1:=LN p.x p.j;have E:=Je p.hv;have I:=WC p.m;refine(Ih (l:=[.w 279 ER,.c (.slc 0 [] true),.w 17 (zI 17),.w 144 EB,.c (.int .i64 0)]) (A:=[]) (B:=[.w 279 ER]) (C:=[.c (.slc 0 [] true),.w 17 (zI 17),.w 144 EB,.c (.int .i64 0)]) (X:=[.w 279 (C6 p.x p.j)]) J rfl ⟨R5,rfl,RJ,trivial⟩ rfl (by rw[hj]; simp[C7,Sg.cs,Db,D.cells]) (by simp[C7,Sg.cs,l1]) (by simp[C7,Sg.cs]; exact Aj.1 (M1 p.x (j:=p.j) (by rw[hj]; rfl)))).trans ?_;refine(Ih (l:=[.w 279 (C6 p.x p.j),.c (.slc 0 [] true),.w 17 (zI 17),.w 144 EB,.c (.int .i64 0)]) (A:=[.w 279 (C6 p.x p.j)]) (B:=[.c (.slc 0 [] true)]) (C:=[.w 17 (zI 17),.w 144 EB,.c (.int .i64 0)]) (X:=[.c (Gr p.c)]) rfl rfl ⟨l1,rfl,RJ,trivial⟩ rfl rfl rfl rfl).trans ?_;refine(Ih (l:=[.w 279 (C6 p.x p.j),.c (Gr p.c),.w 17 (zI 17),.w 144 EB,.c (.int .i64 0)]) (A:=[.w 279 (C6 p.x p.j),.c (Gr p.c)]) (B:=[.w 17 (zI 17)]) (C:=[.w 144 EB,.c (.int .i64 0)]) (X:=[.w 17 (Ef p.v)]) rfl rfl ⟨l1,rfl,RJ,trivial⟩ rfl (by simp[C7,Sg.cs,Ev,D.cells]) (by simp[C7,Sg.cs,E]) (by simp[C7,Sg.cs,Ef,D.isCell,nI])).trans ?_;refine(Ih (l:=[.w 279 (C6 p.x p.j),.c (Gr p.c),.w 17 (Ef p.v),.w 144 EB,.c (.int .i64 0)]) (A:=[.w 279 (C6 p.x p.j),.c (Gr p.c),.w 17 (Ef p.v)]) (B:=[.w 144 EB]) (C:=[.c (.int .i64 0)]) (X:=[.w 144 (ID p.m)]) rfl rfl ⟨l1,E,RJ,trivial⟩ rfl (by simp[C7,Sg.cs,GU,D.cells]) (by simp[C7,Sg.cs,I]) (by simp[C7,Sg.cs]; exact Aj.1 (cU p.m))).trans ?_;refine(Ih (l:=[.w 279 (C6 p.x p.j),.c (Gr p.c),.w 17 (Ef p.v),.w 144 (ID p.m),.c (.int .i64 0)]) (A:=[.w 279 (C6 p.x p.j),.c (Gr p.c),.w 17 (Ef p.v),.w 144 (ID p.m)]) (B:=[.c (.int .i64 0)]) (C:=[]) (X:=[.c (.int .i64 p.now)]) rfl rfl ⟨l1,E,I,trivial⟩ rfl rfl rfl rfl).trans ?_;rw[cL]; rfl
theorem yS(x:Cse):∃ A:List D,A.all El=true∧∀ j,C6 x j=A++[j]:=by
 refine⟨C7 (Jy x.key++[.c (.int .i64 x.p0),.c (.int .i64 x.p1),.c (.int .i64 x.ph),.c (.int .i64 x.dl),.c (.int .i64 x.a0),.c (.int .i64 x.a1),.c (.int .i64 x.c0.1),.g x.c0.2,.c (.int .i64 x.c1.1),.g x.c1.2]++IW x.b++[.c (.int .i64 x.wn),.c (.int .i64 x.am),.c (.int .i64 x.ct)]),?_,fun j=>?_⟩
 ·refine M4 (fun _ _=>rfl) fun s E=>?_;simp only[Jy,IW,Ae,Ai,Aw,AB,or_false]at E;rcases E with rfl | rfl | rfl | rfl | rfl | rfl | rfl | rfl | rfl | rfl | rfl | rfl | rfl | rfl | rfl | rfl | rfl | rfl | rfl | rfl | rfl | rfl | rfl | rfl | rfl | rfl | rfl | rfl | rfl | rfl <;> simp[Sg.cs,El,Lo]
 ·simp[C6,DO,Ku,C7,Sg.cs]
theorem Sb(st:St)(x:Cse)(j:D):DN st (.agg (C6 x j))=(Du st j).map fun y=>.agg (C6 x y):=by
 obtain⟨A,E,h⟩:=yS x;rw[h j];simp only[DN,Su st [j] E,DM,h];cases Du st j <;> rfl
theorem wo(st:St)(x:Cse)(l:List Ky):DN st (.agg (C6 x (Dg l)))=some (.agg (C6 x (Dg l))):=by
 rw[Sb];simp[Du,Kj]
theorem M6(st:St):DN st (.agg ER)=some (Db Gz):=by
 rw[Jb,Sb]; rfl
theorem LF(x y:Cse)(i j:D)(hj:j.isCell=true)(sz:Nat):DQ (some ⟨false,sz,C6 x i,false⟩) 279 0 (.agg (C6 y j))=some ⟨false,sz,C6 y j,false⟩:=Lj sz _ _ 279 (LN _ _) (LN _ _) (M1 y hj)
theorem eQ(y:Cse)(j:D)(hj:j.isCell=true)(sz:Nat):DQ (some ⟨false,sz,ER,false⟩) 279 0 (.agg (C6 y j))=some ⟨false,sz,C6 y j,false⟩:=Lj sz _ _ 279 R5 (LN _ _) (M1 y hj)
theorem MT(sz:Nat)(lent:Bool):Dn (some ⟨false,sz,ER,lent⟩) 279 true 0=some (.agg ER):=KJ sz lent _ 279 R5
theorem Jm:Dv (.agg ER)=some ER:=by simp only[Dv,D.cells,oV,if_true]
end Go.Proofs.YtijnglngaogdjaaGreatDoor.PI
