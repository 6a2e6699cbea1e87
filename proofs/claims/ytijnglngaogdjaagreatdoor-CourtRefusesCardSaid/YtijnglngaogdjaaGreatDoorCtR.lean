/-
  What recovers from panics with values of one type, by an assertion that tells whether it holds.
  Conditions: none; these are definitions and lemmas.
-/
import Derived.Test.YtijnglngaogdjaaGreatDoorMkQ
import Derived.Test.YtijnglngaogdjaaGreatDoorSha
import Derived.Test.YtijnglngaogdjaaGreatDoorEngHe
import Derived.Test.YtijnglngaogdjaaGreatDoorFnsJ
import Derived.KernelRfl
open Int renaming reduceNatCast'→CC,reduceNeg→CB,reduceSub→CR
open List renaming replicate→CF
open Nat renaming reduceAdd→CA,reduceBEq→CT,reduceEqDiff→Cz,reduceLT→CG,reduceLeDiff→CE,reduceMul→CD
open Prod renaming fst→CU,snd→CV
set_option linter.unusedVariables false
set_option linter.unusedSimpArgs false
namespace Go.Proofs.YtijnglngaogdjaaGreatDoor.PI
open Go
set_option linter.unusedSimpArgs false
set_option maxHeartbeats 8000000
set_option maxRecDepth 20000
set_option linter.unusedVariables false
def J3(x:Bis):Bool:=if x.h<0 then false else if 16<x.h then false else if x.l<0 then false else if x.h<x.l then false else if 0≤x.i then(if x.i<2 ^ (x.h - x.l).toNat then decide (x.r=x.h - x.l)else false)else false
theorem bk{x:Bis}(h:J3 x=true):0≤x.h∧x.h≤16∧0≤x.l∧x.l≤x.h∧0≤x.i∧x.i<2 ^ (x.h - x.l).toNat∧x.r=x.h - x.l:=by
 unfold J3 at h
 split at h; · cases h
 split at h; · cases h
 split at h; · cases h
 split at h; · cases h
 split at h
 ·split at h
  ·exact⟨by omega,by omega,by omega,by omega,by assumption,by assumption,of_decide_eq_true h⟩
  ·cases h
 ·cases h
variable {k:Nat}
theorem yJz{i:Int}(E:0≤i):i / 2 ^ k=0↔i<2 ^ k:=by
 have I:(0:Int)<2 ^ k:=Int.pow_pos (by decide);constructor
 ·intro h;have:=Int.emod_lt_of_pos i I;have e:=Cd i (2 ^ k);rw[h]at e;omega
 ·intro h;exact Int.ediv_eq_zero_of_lt E h
noncomputable def Wz:List D→Option D:=Dd (α:=Bis) (fun a=>[DI a]) (fun a=>True) (fun a=>.bool (J3 a))
theorem aM(x:Bis):Wz [DI x]=some (.bool (J3 x)):=
 DW (fun a b h=>by simp only[Aa,and_true,VP]at h; simp[h]) (x) trivial
theorem Yc0(x:Bis):@wW GG (tb [] []) XG.code (C4 [DI x]) [] ⟨Dg XG.res (.bool (J3 x))⟩:=by
 unfold XG J3
 by_cases E:x.h<0
 ·simp (disch:=first|omega|decide) only[push_cast,↓reduceIte,Cz,E]
 by_cases I:16<x.h
 ·simp (disch:=first|omega|decide) only[push_cast,↓reduceIte,Cz,E,I]
 by_cases J:x.l<0
 ·simp (disch:=first|omega|decide) only[push_cast,↓reduceIte,Cz,E,I,J]
 by_cases M:x.h<x.l
 ·simp (disch:=first|omega|decide) only[push_cast,↓reduceIte,Cz,E,I,J,M]
 by_cases N:0≤x.i
 ·have e:=yJz (k:=(x.h - x.l).toNat) N
  by_cases O:x.i<2 ^ (x.h - x.l).toNat
  ·simp (disch:=first|omega|decide) only[push_cast,↓reduceIte,Cz,E,I,J,M,N,O,Fh,ic,e]
  ·simp (disch:=first|omega|decide) only[push_cast,↓reduceIte,Cz,E,I,J,M,N,O,Fh,ic,e]
 ·simp (disch:=first|omega|decide) only[push_cast,↓reduceIte,Cz,E,I,J,M,N]
theorem lS:Contract Tryz.prog GG 77 Wz:=
 D9 ub (DB all_nil all_nil) (fun a h=>Yc0 a)
theorem Yrb(n:Int)(h:0≤n∧n≤60):@wW GG (tb [(51,lC),(162,pW)] []) bN.code (C4 [.int .i64 n]) [] ⟨Dg bN.res (C0 (I2 n.toNat))⟩:=by
 obtain⟨I,J⟩:=h;unfold bN;simp (disch:=omega) only[push_cast,↓reduceIte,Cz,Ybg];refine GF (fun i:Nat=>[(0,.int .i64 n),(2,.ptr 0 0),(3,.ptr 1 0),(4,.int .i64 (i:Int))]) (fun i=>[⟨false,1,CY Dn,false⟩,⟨false,1,CY (I2 i),false⟩]) (fun i=>(i:Int)≤n) (fun i=>(n - i).toNat) 0 (by simp only[push_cast,↓reduceIte,Cz,CG,CE,CA,↓CC] <;> rfl) (by omega) ?_;intro i hi;unfold kA;simp (disch:=omega) only[push_cast,↓reduceIte,Cz];refine E8 (fun E=>?_) (fun E=>?_)
 ·simp (disch:=first|omega|decide) only[push_cast,↓reduceIte,Cz,CG,CE,CA,yKj,DP];refine Fi (i+1) (by omega) (by omega) ?_;simp only[push_cast] <;> rfl
 ·have e:n.toNat=i:=by omega
  rw[e];simp (disch:=omega) only[push_cast,↓reduceIte,Cz,CA,E]
def Fv(s:Int)(root:Dig):Nat→Dig
 |0=>root
 |j+1=>if Ek s≤(j:Int)then Ij (Fv s root j) (I2 j)else Fv s root j
noncomputable def aF:List D→Option D:=Dd (α:=(Int×Dig)×Int) (fun a=>[.agg (.int .i64 (CU a.1)::CY (CV a.1)),.int .i64 a.2]) (fun a=>0≤a.2∧a.2≤60) (fun a=>C0 (Fv a.1.1 a.1.2 a.2.toNat))
theorem je(c:Int×Dig)(n:Int)(h:0≤n∧n≤60):aF [.agg (.int .i64 (CU c)::CY (CV c)),.int .i64 n]=some (C0 (Fv c.1 c.2 n.toNat)):=
 DW (fun⟨a0,a1⟩ ⟨b0,b1⟩ h=>by simp only[Aa,D.int.injEq,D.agg.injEq,N5,true_and,and_true]at h; simp[h,Cp]) (c,n) h
theorem yX(c:Int×Dig)(n:Int)(h:0≤n∧n≤60):@wW GG (tb [(20,Qm),(95,Sx),(25,QM)] []) XR.code (C4 [.agg (.int .i64 (CU c)::CY (CV c)),.int .i64 n]) [] ⟨Dg XR.res (C0 (Fv c.1 c.2 n.toNat))⟩:=by
 obtain⟨s,root⟩:=c;obtain⟨J,M⟩:=h;dsimp only;unfold XR;simp (disch:=omega) only[push_cast,↓EH,↓reduceIte,Cz,CG,CA,Sc,JV,mC];refine GF (fun i:Nat=>[(2,.ptr 0 0),(4,.ptr 1 0),(5,.ptr 2 0),(6,.ptr 3 0),(11,.int .i64 n),(12,.int .i64 (i:Int))]) (fun i=>[⟨false,1,.int .i64 s::CY root,false⟩,⟨false,1,CY Dn,false⟩,⟨false,1,CY (Fv s root i),false⟩,⟨false,1,CY (I2 i),false⟩]) (fun i=>(i:Int)≤n) (fun i=>(n - i).toNat) 0 (by simp only[push_cast,↓reduceIte,Cz,CG,CE,CA,↓CC] <;> rfl) (by omega) ?_;intro i hi;unfold jS;simp (disch:=omega) only[push_cast,↓reduceIte,Cz];refine E8 (fun I=>?_) (fun I=>?_)
 ·simp (disch:=first|omega|decide) only[push_cast,↓reduceIte,Cz,Oi,Qs,I];refine E8 (fun E=>?_) (fun E=>?_)
  ·simp (disch:=first|omega|decide) only[push_cast,↓reduceIte,Cz,CG,CE,CA,LF,DP,E];refine Fi (i+1) (by omega) (by omega) ?_;rw[show Fv s root (i+1)=Ij (Fv s root i) (I2 i)from if_pos E];simp only[push_cast] <;> rfl
  ·simp (disch:=first|omega|decide) only[push_cast,↓reduceIte,Cz,CG,CE,CA,LF,DP,E];refine Fi (i+1) (by omega) (by omega) ?_;rw[show Fv s root (i+1)=Fv s root i from if_neg E];simp only[push_cast] <;> rfl
 ·have e:n.toNat=i:=by omega
  rw[e];simp (disch:=omega) only[push_cast,↓reduceIte,Cz,CA,I]
theorem Yby:Contract Tryz.prog GG 76 aF:=
 D9 uq (DB (all_cons Yq (all_cons fv (all_cons VQ all_nil))) all_nil) (fun a h=>yX a.1 a.2 h)
theorem Ep(st:St)(n sz key off:Nat)(k:IntKind)(i:Int)(E:0≤i)(I:i<(n:Int)):IE st n sz (.ptr key off) (.int k i)=some (.ptr key (off+i.toNat*sz)):=by
 simp only[IE,Pe k i E,E3];rw[if_pos (by omega)]
def Mr(a b:Int×Dig):Bis:=⟨max (Ek a.1) (Ek b.1),max (Ek a.1) (Ek b.1),0,Fv a.1 a.2 (max (Ek a.1) (Ek b.1)).toNat,Fv b.1 b.2 (max (Ek a.1) (Ek b.1)).toNat,false,false,Dn,Dn,Dn,Dn,0⟩
def Ku(a b:Int×Dig):Bis:=if Ek a.1<0 then Gq else if Ek b.1<0 then Gq else if(Mr a b).n0=(Mr a b).n1 then Gq else Mr a b
def G9(a b:Int×Dig):Int:=if Ek a.1<0 then 1 else if Ek b.1<0 then 1 else if(Mr a b).n0=(Mr a b).n1 then 380 else 0
theorem Xr(n:Int):-1≤Ek n∧Ek n≤16:=by
 by_cases h:n<0∨65536<n
 ·rw[SB h]; omega
 ·have:=fA (n:=n) (by omega) (by omega);omega
noncomputable def Oe:List D→Option D:=Dd (α:=(Int×Dig)×(Int×Dig)) (fun a=>[.agg (.int .i64 (CU a.1)::CY (CV a.1)),.agg (.int .i64 (CU a.2)::CY (CV a.2))]) (fun a=>True) (fun a=>.tup [DI (Ku a.1 a.2),.int .i64 (G9 a.1 a.2)])
theorem bo(a:Int×Dig)(b:Int×Dig):Oe [.agg (.int .i64 (CU a)::CY (CV a)),.agg (.int .i64 (CU b)::CY (CV b))]=some (.tup [DI (Ku a b),.int .i64 (G9 a b)]):=
 DW (fun⟨a0,a1⟩ ⟨b0,b1⟩ h=>by simp only[Aa,D.int.injEq,D.agg.injEq,N5,true_and,and_true]at h; simp[h,Cp]) (a,b) trivial
set_option maxHeartbeats 4000000 in
set_option maxRecDepth 20000 in
theorem Yc3(a:Int×Dig)(b:Int×Dig):@wW GG (tb [(25,QM),(76,aF)] []) XF.code (C4 [.agg (.int .i64 (CU a)::CY (CV a)),.agg (.int .i64 (CU b)::CY (CV b))]) [] ⟨Dg XF.res (.tup [DI (Ku a b),.int .i64 (G9 a b)])⟩:=by
 obtain⟨s1,r1⟩:=a;obtain⟨s2,E⟩:=b;have d1:=Xr s1;have d2:=Xr s2;unfold XF Ku G9;dsimp only
 by_cases I:Ek s1<0
 ·simp (disch:=first|omega|decide) only[push_cast,↓reduceIte,Cz,CA,JV,Qs,Oi,I]
 by_cases J:Ek s2<0
 ·simp (disch:=first|omega|decide) only[push_cast,↓reduceIte,Cz,CA,JV,Qs,Oi,I,J]
 have c1:=je (s1,r1) (max (Ek s1) (Ek s2)) ⟨by omega,by omega⟩;have M:=je (s2,E) (max (Ek s1) (Ek s2)) ⟨by omega,by omega⟩;dsimp only at c1 M;have O:(Mr (s1,r1) (s2,E)).n0=Fv s1 r1 (max (Ek s1) (Ek s2)).toNat:=rfl;have U:(Mr (s1,r1) (s2,E)).n1=Fv s2 E (max (Ek s1) (Ek s2)).toNat:=rfl;have V:Mr (s1,r1) (s2,E)={Gq with h:=max (Ek s1) (Ek s2),l:=max (Ek s1) (Ek s2),n0:=Fv s1 r1 (max (Ek s1) (Ek s2)).toNat,n1:=Fv s2 E (max (Ek s1) (Ek s2)).toNat}:=rfl;rw[O,U,V];generalize Fv s1 r1 (max (Ek s1) (Ek s2)).toNat=p1 at*;generalize Fv s2 E (max (Ek s1) (Ek s2)).toNat=Y at*
 by_cases N:p1=Y
 ·simp (disch:=first|omega|decide) only[push_cast,↓reduceIte,Cz,CA,CD,JV,Qs,WT,Oi,I,J,c1,M,N,Nd,Ep]
 ·simp (disch:=first|omega|decide) only[push_cast,↓reduceIte,Cz,CA,CD,JV,Qs,WT,Oi,I,J,c1,M,N,Nd,Ep]
theorem dO:Contract Tryz.prog GG 26 Oe:=
 D9 ua (DB (all_cons VQ (all_cons Yby all_nil)) all_nil) (fun a h=>Yc3 a.1 a.2)
def hJ(x:Bis)(p:Int):Bool:=if p=0 then x.t0 else x.t1
def QX(x:Bis)(p:Int):Dig:=if p=0 then x.n0 else x.n1
def Iy(x:Bis)(p:Int)(l r:Dig):Bis:=if p=0 then {x with t0:=true,l0:=l,r0:=r} else {x with t1:=true,l1:=l,r1:=r}
def SY(x:Bis):Bis:=if x.l0=x.l1 then {Gq with h:=x.h,l:=x.l - 1,i:=2*x.i+1,n0:=x.r0,n1:=x.r1,r:=x.r+1} else {Gq with h:=x.h,l:=x.l - 1,i:=2*x.i,n0:=x.l0,n1:=x.l1,r:=x.r+1}
def FB(x:Bis)(p:Int)(l r:Dig):Bis:=if J3 x=true∧(p=0∨p=1)then(if x.l=0∨hJ x p=true then Gq else if Ij l r=QX x p then(if hJ x (1 - p)=true then SY (Iy x p l r)else Iy x p l r)else Gq)else Gq
def Fz(x:Bis)(p:Int)(l r:Dig):Int:=if J3 x=true∧(p=0∨p=1)then(if x.l=0∨hJ x p=true then 380 else if Ij l r=QX x p then 0 else 381)else 1
theorem kJ{x:Bis}(h:J3 x=true):x.i<65536:=by
 obtain⟨a,b,c,d,e,f,g⟩:=bk h;have:=eJ (a:=(x.h - x.l).toNat) (b:=16) (by omega);omega
noncomputable def fm:List D→Option D:=Dd (α:=Bis×Int×Dig×Dig) (fun a=>[DI a.1,.int .i64 a.2.1,C0 a.2.2.1,C0 a.2.2.2]) (fun a=>-9223372036854775808≤a.2.1∧a.2.1<9223372036854775808) (fun a=>.tup [DI (FB a.1 a.2.1 a.2.2.1 a.2.2.2),.int .i64 (Fz a.1 a.2.1 a.2.2.1 a.2.2.2)])
theorem yL(x:Bis)(p:Int)(l:Dig)(r:Dig)(h:-9223372036854775808≤p∧p<9223372036854775808):fm [DI x,.int .i64 p,C0 l,C0 r]=some (.tup [DI (FB x p l r),.int .i64 (Fz x p l r)]):=
 DW (fun⟨a0,a1,E,I⟩ ⟨b0,b1,J,M⟩ h=>by simp only[Aa,D.int.injEq,MA,true_and,and_true,VP]at h; simp[h]) (x,p,l,r) h
set_option maxHeartbeats 4000000 in
set_option maxRecDepth 20000 in
theorem Yk7(x:Bis)(p:Int)(l:Dig)(r:Dig)(h:-9223372036854775808≤p∧p<9223372036854775808):@wW GG (tb [(77,Wz),(95,Sx)] []) X6.code (C4 [DI x,.int .i64 p,C0 l,C0 r]) [] ⟨Dg X6.res (.tup [DI (FB x p l r),.int .i64 (Fz x p l r)])⟩:=by
 unfold X6
 by_cases hv:J3 x=true
 ·have O:=aM x;rw[hv]at O
  by_cases hp:p=0∨p=1
  ·obtain⟨v1,v2,v3,v4,v5,v6,v7⟩:=bk hv;have v8:=kJ hv;rcases hp with rfl | rfl
   ·have Y:¬ (1:Int)=0:=by decide
    by_cases E:x.l=0
    ·have I:FB x 0 l r=Gq:=by unfold FB; rw[if_pos ⟨hv,.inl rfl⟩,if_pos (.inl E)]
     have J:Fz x 0 l r=380:=by unfold Fz; rw[if_pos ⟨hv,.inl rfl⟩,if_pos (.inl E)]
     rw[I,J];simp (disch:=first|omega|decide) only[push_cast,↓reduceIte,Cz,CA,O,E]
    by_cases M:x.t0=true
    ·have I:FB x 0 l r=Gq:=by unfold FB; rw[if_pos ⟨hv,.inl rfl⟩,if_pos (.inr M)]
     have J:Fz x 0 l r=380:=by unfold Fz; rw[if_pos ⟨hv,.inl rfl⟩,if_pos (.inr M)]
     rw[I,J];simp (disch:=first|omega|decide) only[push_cast,↓reduceIte,Cz,CA,CD,O,E,M,Ep]
    have U:x.t0=false:=by simpa using M
    by_cases N:Ij l r=x.n0
    ·by_cases V:x.t1=true
     ·have I:FB x 0 l r=SY (Iy x 0 l r):=by unfold FB; rw[if_pos ⟨hv,.inl rfl⟩,if_neg (by intro h; rcases h with h | h; exact E h; exact M h),if_pos (show Ij l r=QX x 0 from N)]; exact if_pos V
      have J:Fz x 0 l r=0:=by unfold Fz; rw[if_pos ⟨hv,.inl rfl⟩,if_neg (by intro h; rcases h with h | h; exact E h; exact M h)]; exact if_pos N
      rw[I,J,show Iy x 0 l r={x with t0:=true,l0:=l,r0:=r} from rfl];unfold SY
      by_cases h5:l=x.l1
      ·simp (disch:=first|omega|decide) only[push_cast,↓EH,↓reduceIte,Cz,CA,CD,CT,CR,O,E,U,N,V,← h5,Ep,LF,Fh,MH,DP,Nd]
      ·simp (disch:=first|omega|decide) only[push_cast,↓EH,↓reduceIte,Cz,CA,CD,CT,CR,O,E,U,N,V,h5,Ep,LF,Fh,MH,DP,Nd]
     ·have ac:x.t1=false:=by simpa using V
      have I:FB x 0 l r=Iy x 0 l r:=by unfold FB; rw[if_pos ⟨hv,.inl rfl⟩,if_neg (by intro h; rcases h with h | h; exact E h; exact M h),if_pos (show Ij l r=QX x 0 from N)]; exact if_neg V
      have J:Fz x 0 l r=0:=by unfold Fz; rw[if_pos ⟨hv,.inl rfl⟩,if_neg (by intro h; rcases h with h | h; exact E h; exact M h)]; exact if_pos N
      rw[I,J,show Iy x 0 l r={x with t0:=true,l0:=l,r0:=r} from rfl];simp (disch:=first|omega|decide) only[push_cast,↓EH,↓reduceIte,Cz,CA,CD,CT,CR,O,E,U,N,ac,Ep,LF,Fh]
    ·have I:FB x 0 l r=Gq:=by unfold FB; rw[if_pos ⟨hv,.inl rfl⟩,if_neg (by intro h; rcases h with h | h; exact E h; exact M h)]; exact if_neg N
     have J:Fz x 0 l r=381:=by unfold Fz; rw[if_pos ⟨hv,.inl rfl⟩,if_neg (by intro h; rcases h with h | h; exact E h; exact M h)]; exact if_neg N
     rw[I,J];simp (disch:=first|omega|decide) only[push_cast,↓reduceIte,Cz,CA,CD,O,E,U,N,Ep,LF]
   ·have Y:¬ (1:Int)=0:=by decide
    by_cases E:x.l=0
    ·have I:FB x 1 l r=Gq:=by unfold FB; rw[if_pos ⟨hv,.inr rfl⟩,if_pos (.inl E)]
     have J:Fz x 1 l r=380:=by unfold Fz; rw[if_pos ⟨hv,.inr rfl⟩,if_pos (.inl E)]
     rw[I,J];simp (disch:=first|omega|decide) only[push_cast,↓reduceIte,Cz,CA,O,E,Y]
    by_cases M:x.t1=true
    ·have I:FB x 1 l r=Gq:=by unfold FB; rw[if_pos ⟨hv,.inr rfl⟩,if_pos (.inr M)]
     have J:Fz x 1 l r=380:=by unfold Fz; rw[if_pos ⟨hv,.inr rfl⟩,if_pos (.inr M)]
     rw[I,J];simp (disch:=first|omega|decide) only[push_cast,↓reduceIte,Cz,CA,CD,O,E,M,Y,Ep]
    have U:x.t1=false:=by simpa using M
    by_cases N:Ij l r=x.n1
    ·by_cases V:x.t0=true
     ·have I:FB x 1 l r=SY (Iy x 1 l r):=by unfold FB; rw[if_pos ⟨hv,.inr rfl⟩,if_neg (by intro h; rcases h with h | h; exact E h; exact M h),if_pos (show Ij l r=QX x 1 from N)]; exact if_pos V
      have J:Fz x 1 l r=0:=by unfold Fz; rw[if_pos ⟨hv,.inr rfl⟩,if_neg (by intro h; rcases h with h | h; exact E h; exact M h)]; exact if_pos N
      rw[I,J,show Iy x 1 l r={x with t1:=true,l1:=l,r1:=r} from rfl];unfold SY
      by_cases h5:l=x.l0
      ·simp (disch:=first|omega|decide) only[push_cast,↓EH,↓reduceIte,Cz,CA,CD,CT,CR,O,E,U,N,V,Y,← h5,Ep,LF,Fh,MH,DP,Nd]
      ·have h6:¬ x.l0=l:=fun h=>h5 h.symm;simp (disch:=first|omega|decide) only[push_cast,↓EH,↓reduceIte,Cz,CA,CD,CT,CR,O,E,U,N,V,h5,h6,Y,Ep,LF,Fh,MH,DP,Nd]
     ·have ac:x.t0=false:=by simpa using V
      have I:FB x 1 l r=Iy x 1 l r:=by unfold FB; rw[if_pos ⟨hv,.inr rfl⟩,if_neg (by intro h; rcases h with h | h; exact E h; exact M h),if_pos (show Ij l r=QX x 1 from N)]; exact if_neg V
      have J:Fz x 1 l r=0:=by unfold Fz; rw[if_pos ⟨hv,.inr rfl⟩,if_neg (by intro h; rcases h with h | h; exact E h; exact M h)]; exact if_pos N
      rw[I,J,show Iy x 1 l r={x with t1:=true,l1:=l,r1:=r} from rfl];simp (disch:=first|omega|decide) only[push_cast,↓EH,↓reduceIte,Cz,CA,CD,CT,CR,O,E,U,N,ac,Y,Ep,LF,Fh]
    ·have I:FB x 1 l r=Gq:=by unfold FB; rw[if_pos ⟨hv,.inr rfl⟩,if_neg (by intro h; rcases h with h | h; exact E h; exact M h)]; exact if_neg N
     have J:Fz x 1 l r=381:=by unfold Fz; rw[if_pos ⟨hv,.inr rfl⟩,if_neg (by intro h; rcases h with h | h; exact E h; exact M h)]; exact if_neg N
     rw[I,J];simp (disch:=first|omega|decide) only[push_cast,↓reduceIte,Cz,CA,CD,O,E,U,N,Y,Ep,LF]
  ·have I:FB x p l r=Gq:=by unfold FB; exact if_neg fun h=>hp h.2
   have J:Fz x p l r=1:=by unfold Fz; exact if_neg fun h=>hp h.2
   have p0:¬ p=0:=fun h=>hp (.inl h);have p1:¬ p=1:=fun h=>hp (.inr h);rw[I,J];simp (disch:=first|omega|decide) only[push_cast,↓reduceIte,Cz,CA,O,p0,p1]
 ·have ad:J3 x=false:=by simpa using hv
  have O:=aM x;rw[ad]at O;have I:FB x p l r=Gq:=by unfold FB; exact if_neg fun h=>hv h.1
  have J:Fz x p l r=1:=by unfold Fz; exact if_neg fun h=>hv h.1
  rw[I,J];simp (disch:=first|omega|decide) only[push_cast,↓reduceIte,Cz,CA,O]
theorem Yqf:Contract Tryz.prog GG 122 fm:=
 D9 uI (DB (all_cons lS (all_cons fv all_nil)) all_nil) (fun a h=>Yk7 a.1 a.2.1 a.2.2.1 a.2.2.2 h)
noncomputable def Ydy:List D→Option D:=Dd (α:=Bis×Int×Dig×Dig) (fun a=>[DI a.1,.int .i64 a.2.1,C0 a.2.2.1,C0 a.2.2.2]) (fun a=>-9223372036854775808≤a.2.1∧a.2.1<9223372036854775808) (fun a=>.tup [DI (FB a.1 a.2.1 a.2.2.1 a.2.2.2),.int .i64 (Fz a.1 a.2.1 a.2.2.1 a.2.2.2)])
theorem Yrd(x:Bis)(p:Int)(l:Dig)(r:Dig)(h:-9223372036854775808≤p∧p<9223372036854775808):Ydy [DI x,.int .i64 p,C0 l,C0 r]=some (.tup [DI (FB x p l r),.int .i64 (Fz x p l r)]):=
 DW (fun⟨a0,a1,E,I⟩ ⟨b0,b1,J,M⟩ h=>by simp only[Aa,D.int.injEq,MA,true_and,and_true,VP]at h; simp[h]) (x,p,l,r) h
theorem Is(st:St)(a b:Dig):DQ st (EF a b)=some (EF a b):=QT st (ot a b)
def Lm(x:Bis):Bool:=J3 x && decide (x.l≤0)
def KK(x:Bis):Int:=if Lm x=true then x.i else 0
def Ia(x:Bis):Dig:=if Lm x=true then x.n0 else Dn
def Ib(x:Bis):Dig:=if Lm x=true then x.n1 else Dn
noncomputable def R7:List D→Option D:=Dd (α:=Bis) (fun a=>[DI a]) (fun a=>True) (fun a=>.tup [.int .i64 (KK a),.agg (EF (Ia a) (Ib a)),.bool (Lm a)])
theorem WK(x:Bis):R7 [DI x]=some (.tup [.int .i64 (KK x),.agg (EF (Ia x) (Ib x)),.bool (Lm x)]):=
 DW (fun a b h=>by simp only[Aa,and_true,VP]at h; simp[h]) (x) trivial
set_option maxHeartbeats 4000000 in
set_option maxRecDepth 20000 in
theorem Yk6(x:Bis):@wW GG (tb [(77,Wz)] []) Xx.code (C4 [DI x]) [] ⟨Dg Xx.res (.tup [.int .i64 (KK x),.agg (EF (Ia x) (Ib x)),.bool (Lm x)])⟩:=by
 have E:=aM x;unfold Xx KK Ia Ib Lm
 by_cases hv:J3 x=true
 ·rw[hv]at E ⊢
  by_cases J:0<x.l
  ·have I:¬ x.l≤0:=by omega
   simp (disch:=first|omega|decide) only[push_cast,↓reduceIte,Cz,Is,E,J,I]
  ·have I:x.l≤0:=by omega
   simp (disch:=first|omega|decide) only[push_cast,↓reduceIte,Cz,Is,E,J,I]
 ·have M:J3 x=false:=by simpa using hv
  rw[M]at E ⊢;simp (disch:=first|omega|decide) only[push_cast,↓reduceIte,Cz,Is,E]
theorem cG:Contract Tryz.prog GG 88 R7:=
 D9 yBt (DB (all_cons lS all_nil) all_nil) (fun a h=>Yk6 a)
structure Ky where
 kd:Int
 wg:Int
 rr:Int
 rn:Int
 pt:Int
 deriving DecidableEq,Inhabited
def Ho(k:Ky):List D:=[.int .i64 k.kd,.int .i64 k.wg,.int .i64 k.rr,.int .i64 k.rn,.int .i64 k.pt]
def DH(k:Ky):D:=.agg (Ho k)
abbrev Di(l:List Ky):D:=.slc (nz 5 (l.map DH)) (l.map DH) false
theorem kQ{a b:Ky}:Ho a=Ho b↔a=b:=by
 refine⟨fun h=>?_,fun h=>by rw[h]⟩;obtain⟨a1,E,I,J,M⟩:=a;obtain⟨b1,N,O,U,V⟩:=b;simp only[Ho,Aa,D.int.injEq,true_and,and_true]at h;obtain⟨rfl,rfl,rfl,rfl,rfl⟩:=h;rfl
theorem Y7{a b:Ky}:DH a=DH b↔a=b:=by simp only[DH,D.agg.injEq,kQ]
variable {a b:List Ky}
theorem Y8:a.map DH=b.map DH↔a=b:=by
 refine⟨fun h=>?_,fun h=>by rw[h]⟩
 induction a generalizing b with
 |nil=>cases b with
  |nil=>rfl
  |cons y b=>simp at h
 |cons x a E=>cases b with
  |nil=>simp at h
  |cons y b=>
   simp only[Ax,Aa,Y7]at h;rw[h.1,E h.2]
theorem Wh:Di a=Di b↔a=b:=by
 simp only[Di,D.slc.injEq,and_true,Y8];exact⟨fun h=>h.2,fun h=>⟨by rw[h],h⟩⟩
theorem Yce{a b:List Bool}:a.map D.bool=b.map D.bool↔a=b:=by
 refine⟨fun h=>?_,fun h=>by rw[h]⟩
 induction a generalizing b with
 |nil=>cases b with
  |nil=>rfl
  |cons y b=>simp at h
 |cons x a E=>cases b with
  |nil=>simp at h
  |cons y b=>
   simp only[Ax,Aa,D.bool.injEq]at h;rw[h.1,E h.2]
structure Cse where
 key:Ky
 p0:Int
 p1:Int
 ph:Int
 dl:Int
 a0:Int
 a1:Int
 c0:Int×Dig
 c1:Int×Dig
 b:Bis
 wn:Int
 am:Int
 ct:Int
 jn:List Ky
 deriving DecidableEq
def I7(x:Bis):List Sg:=[.c (.int .i64 x.h),.c (.int .i64 x.l),.c (.int .i64 x.i),.g x.n0,.g x.n1,.c (.bool x.t0),.c (.bool x.t1),.g x.l0,.g x.l1,.g x.r0,.g x.r1,.c (.int .i64 x.r)]
theorem O0(x:Bis):C9 (I7 x)=Da x:=by simp[C9,I7,Da,Sg.cs]
def JI(k:Ky):List Sg:=[.c (.int .i64 k.kd),.c (.int .i64 k.wg),.c (.int .i64 k.rr),.c (.int .i64 k.rn),.c (.int .i64 k.pt)]
theorem YA(k:Ky):C9 (JI k)=Ho k:=rfl
def Ee(x:Cse)(j:D):List Sg:=JI x.key++[.c (.int .i64 x.p0),.c (.int .i64 x.p1),.c (.int .i64 x.ph),.c (.int .i64 x.dl),.c (.int .i64 x.a0),.c (.int .i64 x.a1),.c (.int .i64 x.c0.1),.g x.c0.2,.c (.int .i64 x.c1.1),.g x.c1.2]++I7 x.b++[.c (.int .i64 x.wn),.c (.int .i64 x.am),.c (.int .i64 x.ct),.c j]
def C8(x:Cse)(j:D):List D:=C9 (Ee x j)
def De(x:Cse):D:=.agg (C8 x (Di x.jn))
theorem He(x:Cse)(j:D):Jx (Ee x j):=trivial
theorem L0(x:Cse)(j:D):(C8 x j).length=279:=by
 rw[C8,Ng (He x j)]; simp[H2,Ee,JI,I7,Sg.sz]
variable {j:D}
theorem dR{x y:Cse}{i:D}(h:C8 x i=C8 y j):({x with jn:=[]}:Cse)={y with jn:=[]}∧i=j:=by
 obtain⟨J,x0,x1,x2,x3,x4,x5,M,N,xb,x6,x7,x8,xj⟩:=x;obtain⟨O,y0,y1,y2,y3,y4,y5,U,V,yb,y6,y7,y8,yj⟩:=y;obtain⟨a2,a3,a4,a5,a6⟩:=J;obtain⟨a7,a8,a9,ba,bb⟩:=O;obtain⟨bc,bd⟩:=M;obtain⟨be,bf⟩:=N;obtain⟨bg,bh⟩:=U;obtain⟨b1,b2⟩:=V;simp only[C8,Ee,JI,Ae,Ai,C9,Sg.cs,Ka,O0,Aa,D.int.injEq,true_and,Ad]at h;obtain⟨rfl,rfl,rfl,rfl,rfl,rfl,rfl,rfl,rfl,rfl,rfl,rfl,h⟩:=h;obtain⟨Y,E⟩:=A2 h (by simp[DJ]);clear h;simp only[Aa,D.int.injEq,true_and]at E;obtain⟨q1,h3⟩:=E;obtain⟨h4,h5⟩:=A2 h3 (by simp[DJ]);obtain⟨h6,I⟩:=A2 h5 (by simp[SE]);simp only[Aa,D.int.injEq,true_and,and_true]at I;obtain⟨q2,q3,q4,q5⟩:=I;subst q1 q2 q3 q4 q5;obtain rfl:=Lz Y;obtain rfl:=Lz h4;obtain rfl:=lP h6;exact⟨rfl,rfl⟩
theorem Nb{x y:Cse}:De x=De y↔x=y:=by
 refine⟨fun h=>?_,fun h=>by rw[h]⟩;simp only[De,D.agg.injEq]at h;obtain⟨E,I⟩:=dR h;rw[Wh]at I;obtain⟨J,M,N,O,U,V,Y,xc,xe,xb,x6,x7,x8,xj⟩:=x;obtain⟨yk,y0,y1,y2,y3,y4,y5,yc,ye,yb,y6,y7,y8,yj⟩:=y;simp only[Cse.mk.injEq,and_true]at E I ⊢;exact⟨E.1,E.2.1,E.2.2.1,E.2.2.2.1,E.2.2.2.2.1,E.2.2.2.2.2.1,E.2.2.2.2.2.2.1,E.2.2.2.2.2.2.2.1,E.2.2.2.2.2.2.2.2.1,E.2.2.2.2.2.2.2.2.2.1,E.2.2.2.2.2.2.2.2.2.2.1,E.2.2.2.2.2.2.2.2.2.2.2.1,E.2.2.2.2.2.2.2.2.2.2.2.2,I⟩
def cE:Ky:=⟨0,0,0,0,0⟩
def FF:Cse:=⟨cE,0,0,0,0,0,0,(0,Dn),(0,Dn),Gq,0,0,0,[]⟩
structure Mv where
 kd:Int
 pt:Int
 am:Int
 cm:Int×Dig
 lf:Dig
 rt:Dig
 op:Opn
 path:List Dig
 key:Ky
 deriving DecidableEq
abbrev H5(l:List Dig):D:=.slc (nz 32 (l.map C0)) (l.map C0) false
def Hl(o:Opn)(t:D):List Sg:=[.c (.int .i64 o.pc),.c (.int .i64 o.fuel),.c (.int .i64 o.status),.c (.int .i64 o.clause),.c t,.c (.int .i64 o.depth),.g o.rest]
theorem cT(o:Opn):C9 (Hl o (El o.top))=EJ o:=by simp[C9,Hl,EJ,Sg.cs]
def K9(m:Mv):List Sg:=[.c (.int .i64 m.kd),.c (.int .i64 m.pt),.c (.int .i64 m.am),.c (.int .i64 m.cm.1),.g m.cm.2,.g m.lf,.g m.rt]++Hl m.op (El m.op.top)++[.c (H5 m.path)]++JI m.key
def HS(m:Mv):List D:=C9 (K9 m)
def F3(m:Mv):D:=.agg (HS m)
theorem SW(m:Mv):Jx (K9 m):=trivial
theorem WV(m:Mv):(HS m).length=144:=by
 rw[HS,Ng (SW m)]; simp[H2,K9,Hl,JI,Sg.sz]
theorem cR{x y:Mv}:F3 x=F3 y↔x=y:=by
 refine⟨fun h=>?_,fun h=>by rw[h]⟩;obtain⟨x1,x2,x3,⟨x4,x5⟩,x6,x7,x8,x9,Y⟩:=x;obtain⟨y1,y2,y3,⟨y4,y5⟩,y6,y7,y8,y9,aa⟩:=y;simp only[F3,D.agg.injEq,HS,K9,Ka,cT,Ag]at h;simp only[C9,Sg.cs,Ae,Ai,Aa,D.int.injEq,true_and,Ad,Ag]at h;obtain⟨rfl,rfl,rfl,rfl,h⟩:=h;obtain⟨I,g1⟩:=A2 h (by simp[DJ]);obtain⟨J,g2⟩:=A2 g1 (by simp[DJ]);obtain⟨M,N⟩:=A2 g2 (by simp[DJ]);obtain⟨O,E⟩:=A2 N (by simp[J7,WX]);simp only[Aa,H5,D.slc.injEq,and_true,dU,YA,kQ]at E;obtain⟨⟨_,U⟩,V⟩:=E;subst U V;obtain rfl:=Lz I;obtain rfl:=Lz J;obtain rfl:=Lz M;obtain rfl:=QG.1 (congrArg D.agg O);rfl
structure Ply where
 x:Cse
 j:D
 c:List Ins
 v:Int×List Int
 m:Mv
 now:Int
 hv:Fe v
def D6(p:Ply):List Sg:=Ee p.x p.j++[.c (Gw p.c),.w 17 (Eh p.v)]++K9 p.m++[.c (.int .i64 p.now)]
def C6(p:Ply):List D:=C9 (D6 p)
theorem Gi(p:Ply):Jx (D6 p):=⟨Jl p.hv,trivial⟩
theorem yL9(p:Ply):(C6 p).length=442:=by
 rw[C6,Ng (Gi p)]; simp[H2,D6,Ee,K9,Hl,I7,JI,Sg.sz]
def Il(n:Int):Prop:=-9007199254740992≤n∧n≤9007199254740992
instance (n:Int):Decidable (Il n):=inferInstanceAs (Decidable (_∧_))
def J0(x:Cse):Prop:=x.ph=4∨x.ph=5∨x.ph=6
instance (x:Cse):Decidable (J0 x):=inferInstanceAs (Decidable (_∨_))
def F0(x:Cse):Prop:=x.ph=1∨x.ph=2∨x.ph=3
instance (x:Cse):Decidable (F0 x):=inferInstanceAs (Decidable (_∨_))
def Jn(x:Cse)(w a:Int):Cse:={x with ph:=4,wn:=w,am:=a}
def QV(x:Cse)(p:Int):Int:=if p=0 then x.a0 else x.a1
def IS(x:Cse)(p:Int):Int×Dig:=if p=0 then x.c0 else x.c1
def FM(x:Cse)(p:Int):Cse:=if p<0 then Jn x (-1) 0 else Jn x p (QV x p)
def Lc(x:Cse)(n:Int):Int:=if x.a0=n then 0 else if x.a1=n then 1 else -1
def QY(x:Cse)(n:Int):Cse:=Jn x (Lc x n) n
def Q9(x:Cse)(now:Int):Cse:={x with ph:=3,dl:=now+1440}
def Jq(c:List Ins)(v:Int×List Int)(x:Cse)(now:Int):Cse×Int:=
 if Lm x.b=true then
  if KK x.b=0 then
   if(GO c v).2=0 then(FM x (G8 (Ia x.b,Ib x.b) (GO c v)).1,0)else(x,(GO c v).2)
  else(Q9 x now,0)
 else(x,0)
def L5(c:List Ins)(v:Int×List Int)(x:Cse)(m:Mv)(now:Int):Cse×Int:=
 if m.pt=1∧x.ph=1 then
  if Il m.am then
   let y:Cse:={x with a1:=m.am,c1:=m.cm}
   if G9 x.c0 m.cm=1 then(y,381)
   else if G9 x.c0 m.cm=0 then Jq c v {y with b:=Ku x.c0 m.cm,ph:=2,dl:=now+1440} now
   else if x.a0=m.am then(FM y 1,0)
   else if c.length=0 then(QY y 0,0)
   else(Q9 y now,0)
  else(x,1)
 else(x,380)
def Ow(c:List Ins)(v:Int×List Int)(x:Cse)(m:Mv)(now:Int):Cse×Int:=
 if x.ph=2 then
  if Fz x.b m.pt m.lf m.rt=0 then
   if(FB x.b m.pt m.lf m.rt).r=x.b.r then({x with b:=FB x.b m.pt m.lf m.rt},0)
   else Jq c v {x with b:=FB x.b m.pt m.lf m.rt,dl:=now+1440} now
  else(x,Fz x.b m.pt m.lf m.rt)
 else(x,380)
def GS(x:Cse)(p:Int):Int:=if G9 x.c0 x.c1=380 then(IS x p).1 else if G9 x.c0 x.c1=0 then KK x.b else 0
def GZ(x:Cse)(p:Int):Int×Bool:=
 if x.ph=3∧(p=0∨p=1)then
  if GS x p=0 then(0,false)else(GS x p - 1,true)
 else(0,false)
def gP(l:List Int):Int:=l.getD (l.length - 1) 0
def Oy(c:List Ins)(v:Int×List Int)(x:Cse)(m:Mv):Cse×Int:=
 if(GZ x m.pt).2=true then
  if G9 x.c0 x.c1=380 then
   if Hc (IS x m.pt) (GZ x m.pt).1 (F1 c v m.op) m.path=true then
    if m.op.status≠0∧(m.op.status≠1∨0<m.op.top.length)then(QY x (if m.op.status=1 then gP m.op.top else 0),0)
    else(x,390)
   else(x,40)
  else
   let i:=(GZ x m.pt).1
   let bef:=if(IS x m.pt).1≤i then EI else F1 c v m.op
   if 2 ^ (Ek (IS x m.pt).1).toNat≤i∨Hc (IS x m.pt) i bef m.path=true then
    if(E6 c v bef m.op).2=0 then(FM x (G8 (Ia x.b,Ib x.b) (E6 c v bef m.op)).1,0)
    else(x,(E6 c v bef m.op).2)
   else(x,40)
 else(x,380)
def PL(x:Cse)(m:Mv):Cse×Int:=if m.pt=0 then({x with ph:=5,wn:=1},0)else(x,380)
def Ot(x:Cse)(m:Mv):Cse×Int:=if m.pt=1 then(FM x 0,0)else if 0≤x.ct then(Jn x 1 x.ct,0)else(x,380)
def Ou(x:Cse)(m:Mv)(now:Int):Cse×Int:=
 if m.pt=1∧x.ph=1∧x.ct<0 then
  if 0≤m.am∧Il m.am then({x with ct:=m.am,dl:=now+1440},0)else(x,1)
 else(x,380)
def HH(x:Cse)(m:Mv):Cse×Int:=
 if m.pt=0∧x.ph=1 then
  if x.jn.length<8 then
   if m.key≠x.key∧m.key∉x.jn then({x with jn:=x.jn++[m.key]},0)else(x,1)
  else(x,2)
 else(x,380)
def F4(c:List Ins)(v:Int×List Int)(x:Cse)(m:Mv)(now:Int):Cse×Int:=
 if m.kd=1 then L5 c v x m now
 else if m.kd=2 then Ow c v x m now
 else if m.kd=3 then Oy c v x m
 else if m.kd=4 then PL x m
 else if m.kd=5 then Ot x m
 else if m.kd=6 then Ou x m now
 else HH x m
def Fg(c:List Ins)(v:Int×List Int)(x:Cse)(m:Mv)(now:Int):Int:=
 if F0 x then
  if(1≤m.kd∧m.kd≤7)∧0≤now∧now≤1073741824∧(m.pt=0∨m.pt=1)then
   if now≤x.dl then(F4 c v x m now).2 else 401
  else 1
 else 400
def GL(c:List Ins)(v:Int×List Int)(x:Cse)(m:Mv)(now:Int):Cse:=if Fg c v x m now=0 then(F4 c v x m now).1 else FF
def Gl(p q n:Int)(c:Int×Dig)(now:Int):Int:=
 if min p q<0∨16≤max p q∨p=q∨¬ Il n∨now<0∨1073741824<now then 1 else if c.1<0∨65536<c.1 then 381 else 0
def LM(k:Ky)(p q n:Int)(c:Int×Dig)(now:Int):Cse:=
 if Gl p q n c now=0 then⟨k,p,q,1,now+1440,n,0,c,(0,Dn),Gq,-1,0,-1,[]⟩else FF
def Hz(x:Cse):Int:=if x.ph=1 then 0 else if x.ph=2∧x.b.t0≠x.b.t1 then(if x.b.t0=true then 0 else 1)else -1
def KJ(x:Cse)(now:Int):Cse:=if F0 x∧x.dl<now then {FM x (Hz x)with ph:=6} else x
section
variable (p:Ply) (sz:Nat) (lent:Bool)
theorem HA:Dq (some ⟨false,sz,C6 p,lent⟩) 1 false 7=some (.int .i64 p.x.ph):=Hg (l:=D6 p) rfl rfl (Gi p)
theorem YC:Dq (some ⟨false,sz,C6 p,lent⟩) 1 false 9=some (.int .i64 p.x.a0):=Hg (l:=D6 p) rfl rfl (Gi p)
theorem YD:Dq (some ⟨false,sz,C6 p,lent⟩) 1 false 10=some (.int .i64 p.x.a1):=Hg (l:=D6 p) rfl rfl (Gi p)
theorem bX:Dq (some ⟨false,sz,C6 p,lent⟩) 1 false 274=some (.int .i64 p.x.b.r):=Hg (l:=D6 p) rfl rfl (Gi p)
theorem Rd:Dq (some ⟨false,sz,C6 p,lent⟩) 1 false 277=some (.int .i64 p.x.ct):=Hg (l:=D6 p) rfl rfl (Gi p)
theorem SN:Dq (some ⟨false,sz,C6 p,lent⟩) 1 false 278=some p.j:=Hg (l:=D6 p) rfl rfl (Gi p)
theorem FZ:Dq (some ⟨false,sz,C6 p,lent⟩) 1 false 279=some (Gw p.c):=Hg (l:=D6 p) rfl rfl (Gi p)
theorem Et:Dq (some ⟨false,sz,C6 p,lent⟩) 1 false 298=some (.int .i64 p.m.pt):=Hg (l:=D6 p) rfl rfl (Gi p)
theorem Mu:Dq (some ⟨false,sz,C6 p,lent⟩) 1 false 299=some (.int .i64 p.m.am):=Hg (l:=D6 p) rfl rfl (Gi p)
theorem Ic:Dq (some ⟨false,sz,C6 p,lent⟩) 1 false 435=some (H5 p.m.path):=Hg (l:=D6 p) rfl rfl (Gi p)
theorem Ynh:Dq (some ⟨false,sz,C6 p,lent⟩) 1 false 441=some (.int .i64 p.now):=Hg (l:=D6 p) rfl rfl (Gi p)
theorem Y3:Dq (some ⟨false,sz,C6 p,lent⟩) 5 true 0=some (DH p.x.key):=II (l:=D6 p) rfl rfl (Gi p) rfl
theorem eU:Dq (some ⟨false,sz,C6 p,lent⟩) 279 true 0=some (.agg (C8 p.x p.j)):=II (l:=D6 p) rfl rfl (Gi p) rfl
theorem FI:Dq (some ⟨false,sz,C6 p,lent⟩) 33 true 11=some (.agg (.int .i64 p.x.c0.1::CY p.x.c0.2)):=II (l:=D6 p) rfl rfl (Gi p) (by simp[C9,Sg.cs])
theorem FJ:Dq (some ⟨false,sz,C6 p,lent⟩) 33 true 44=some (.agg (.int .i64 p.x.c1.1::CY p.x.c1.2)):=II (l:=D6 p) rfl rfl (Gi p) (by simp[C9,Sg.cs])
theorem Hy:Dq (some ⟨false,sz,C6 p,lent⟩) 198 true 77=some (DI p.x.b):=II (l:=D6 p) rfl rfl (Gi p) (by rw[DI,← O0]; rfl)
theorem Gd:Dq (some ⟨false,sz,C6 p,lent⟩) 17 true 280=some (Ev p.v):=II (l:=D6 p) rfl rfl (Gi p) (by simp[C9,Sg.cs,Ev])
theorem Re:Dq (some ⟨false,sz,C6 p,lent⟩) 33 true 300=some (.agg (.int .i64 p.m.cm.1::CY p.m.cm.2)):=II (l:=D6 p) rfl rfl (Gi p) (by simp[C9,Sg.cs])
theorem YE:Dq (some ⟨false,sz,C6 p,lent⟩) 32 true 333=some (C0 p.m.lf):=II (l:=D6 p) rfl rfl (Gi p) (by simp[C9,Sg.cs,C0])
theorem YF:Dq (some ⟨false,sz,C6 p,lent⟩) 32 true 365=some (C0 p.m.rt):=II (l:=D6 p) rfl rfl (Gi p) (by simp[C9,Sg.cs,C0])
theorem GB:Dq (some ⟨false,sz,C6 p,lent⟩) 38 true 397=some (DN p.m.op):=II (l:=D6 p) rfl rfl (Gi p) (by rw[DN,← cT]; rfl)
theorem Y4:Dq (some ⟨false,sz,C6 p,lent⟩) 5 true 436=some (DH p.m.key):=II (l:=D6 p) rfl rfl (Gi p) rfl
end
section
variable (p:Ply) (sz:Nat)
theorem Tj(n:Int):DY (some ⟨false,sz,C6 p,false⟩) 1 7 (.int .i64 n)=some ⟨false,sz,C6 {p with x:={p.x with ph:=n}},false⟩:=KQ (l:=D6 p) (X:=[.c (.int .i64 n)]) rfl rfl (Gi p) rfl rfl rfl rfl
theorem Ysi(n:Int):DY (some ⟨false,sz,C6 p,false⟩) 1 8 (.int .i64 n)=some ⟨false,sz,C6 {p with x:={p.x with dl:=n}},false⟩:=KQ (l:=D6 p) (X:=[.c (.int .i64 n)]) rfl rfl (Gi p) rfl rfl rfl rfl
theorem Rp(n:Int):DY (some ⟨false,sz,C6 p,false⟩) 1 10 (.int .i64 n)=some ⟨false,sz,C6 {p with x:={p.x with a1:=n}},false⟩:=KQ (l:=D6 p) (X:=[.c (.int .i64 n)]) rfl rfl (Gi p) rfl rfl rfl rfl
theorem sV(n:Int):DY (some ⟨false,sz,C6 p,false⟩) 1 275 (.int .i64 n)=some ⟨false,sz,C6 {p with x:={p.x with wn:=n}},false⟩:=KQ (l:=D6 p) (X:=[.c (.int .i64 n)]) rfl rfl (Gi p) rfl rfl rfl rfl
theorem Ysk(n:Int):DY (some ⟨false,sz,C6 p,false⟩) 1 276 (.int .i64 n)=some ⟨false,sz,C6 {p with x:={p.x with am:=n}},false⟩:=KQ (l:=D6 p) (X:=[.c (.int .i64 n)]) rfl rfl (Gi p) rfl rfl rfl rfl
theorem Ysj(n:Int):DY (some ⟨false,sz,C6 p,false⟩) 1 277 (.int .i64 n)=some ⟨false,sz,C6 {p with x:={p.x with ct:=n}},false⟩:=KQ (l:=D6 p) (X:=[.c (.int .i64 n)]) rfl rfl (Gi p) rfl rfl rfl rfl
theorem sU(k t f l:Nat):DY (some ⟨false,sz,C6 p,false⟩) 1 278 (.row k t f l)=some ⟨false,sz,C6 {p with j:=.row k t f l},false⟩:=KQ (l:=D6 p) (X:=[.c (.row k t f l)]) rfl rfl (Gi p) rfl rfl rfl rfl
theorem Rq(c:Int×Dig):DY (some ⟨false,sz,C6 p,false⟩) 33 44 (.agg (.int .i64 c.1::CY c.2))=some ⟨false,sz,C6 {p with x:={p.x with c1:=c}},false⟩:=
 KQ (l:=D6 p) (X:=[.c (.int .i64 c.1),.g c.2]) rfl rfl (Gi p) rfl (by simp[C9,Sg.cs,D.cells]) (by simp[C9,Sg.cs,DJ]) (by simp only[C9,Sg.cs,Ad,Ae,Ai,A3,IL]; rfl)
theorem SZ(b:Bis):DY (some ⟨false,sz,C6 p,false⟩) 198 77 (DI b)=some ⟨false,sz,C6 {p with x:={p.x with b:=b}},false⟩:=
 KQ (l:=D6 p) (X:=I7 b) rfl rfl (Gi p) rfl (by rw[O0]; rfl) (by rw[O0,SE]) (by rw[O0]; exact fu b)
end
noncomputable def K6(R:List D→St→D×Int×St→Prop):List D→St→Option (D×Int×St):=fun ds st=>@dite _ (∃ r,R ds st r) (Classical.propDecidable _) (fun h=>some h.choose) (fun _=>none)
variable {r:D×Int×St}{st:St}{ds:List D}
theorem mS{R:List D→St→D×Int×St→Prop}(h:K6 R ds st=some r):R ds st r:=by
 unfold K6 at h
 split at h
 ·grind
 ·cases h
def ID(R:List D→St→D×Int×St→Prop):Prop:=∀ ds st r r',R ds st r→R ds st r'→r=r'
theorem dI{R:List D→St→D×Int×St→Prop}(I:ID R)(h:R ds st r):K6 R ds st=some r:=by
 have E:∃ r,R ds st r:=⟨r,h⟩;unfold K6;rw[dif_pos E,I _ _ _ _ E.choose_spec h]
noncomputable def Eu(R:List D→St→D×Int×St→Prop):List D→St→Option (D×St):=fun ds st=>match K6 R ds st with
 |some (d,e,st')=>if e=0 then some (d,st')else none
 |none=>none
noncomputable def F8(R:List D→St→D×Int×St→Prop):List D→St→Option (Nat×D×St):=fun ds st=>match K6 R ds st with
 |some (_,e,st')=>if e=0 then none else some (125,.int .i64 e,st')
 |none=>none
variable {d:D}{st':St}
theorem Tg{R:List D→St→D×Int×St→Prop}(E:ID R)(h:R ds st (d,0,st')):Eu R ds st=some (d,st'):=by
 simp only[Eu,dI E h,if_true]
variable {e:Int}
theorem Tl{R:List D→St→D×Int×St→Prop}(E:ID R)(h:R ds st (d,e,st'))(I:e≠0):Eu R ds st=none:=by
 simp only[Eu,dI E h,if_neg I]
theorem RE{R:List D→St→D×Int×St→Prop}(E:ID R)(h:R ds st (d,e,st'))(I:e≠0):F8 R ds st=some (125,.int .i64 e,st'):=by
 simp only[F8,dI E h,if_neg I]
def Me(res:List PRes)(d:D)(e:Int)(st':St)(x:Ex)(fr:Frame)(st:St):Prop:=match x with
 |.exit _=>False
 |.panic t y=>¬ e=0∧t=125∧y=.int .i64 e∧st=st'
 |_=>e=0∧@on _ (DK ⟨fr,st⟩ res) ⟨fun l=>(DC l,st)=(d,st')⟩
theorem Yed(res:List PRes)(d:D)(e:Int)(st':St)(fr:Frame)(st:St):Me res d e st' .ret fr st=(e=0∧@on _ (DK ⟨fr,st⟩ res) ⟨fun l=>(DC l,st)=(d,st')⟩):=(rfl)
theorem xD(res:List PRes)(d:D)(e:Int)(st':St)(fr:Frame)(st:St):Me res d e st' .next fr st=(e=0∧@on _ (DK ⟨fr,st⟩ res) ⟨fun l=>(DC l,st)=(d,st')⟩):=(rfl)
theorem yRp(res:List PRes)(d:D)(e:Int)(st':St)(t:Nat)(y:D)(fr:Frame)(st:St):Me res d e st' (.panic t y) fr st=(¬ e=0∧t=125∧y=.int .i64 e∧st=st'):=(rfl)
theorem J5{T:Tbl}{il:List Nat}{f:Nat}{hints:List (List Nat)}{F:PF}{R:List D→St→D×Int×St→Prop}(M:Ds Tryz.prog il f hints=some F)(N:TblOK Tryz.prog GG T)
  (h:∀ ds st d e st',R ds st (d,e,st')→@wW GG T F.code (C4 ds) st ⟨Me F.res d e st'⟩) (O:T.y=fun _ _ _=>none:=by rfl):IContract Tryz.prog GG f (Eu R)∧Pq Tryz.prog GG f (F8 R):=by
 constructor
 ·refine IM M N (fun ds st r E=>?_) O;unfold Eu at E
  split at E
  case h_2=>cases E
  rename_i d e st' J
  split at E
  case isFalse=>cases E
  rename_i he;simp only[AN]at E;subst E; subst he;refine ZO (Kt _ _ _ _ _ (IC (h _ _ _ _ _ (mS J))) fun x fr st I=>?_)
  cases x with
  |exit i=>exact I.elim
  |panic t y=>exact absurd rfl I.1
  |next=>unfold Gs; exact I.2
  |ret=>unfold Gs; exact I.2
 ·refine yG6 M N (fun ds st r E=>?_) O;unfold F8 at E
  split at E
  case h_2=>cases E
  rename_i d e st' J
  split at E
  case isTrue=>cases E
  rename_i he;simp only[AN]at E;subst E;refine ZO (Kt _ _ _ _ _ (IC (h _ _ _ _ _ (mS J))) fun x fr st I=>?_)
  cases x with
  |exit i=>exact I.elim
  |panic t y=>obtain⟨_,rfl,rfl,rfl⟩:=I; unfold Md; rfl
  |next=>exact absurd I.1 he
  |ret=>exact absurd I.1 he
attribute [irreducible] Me
attribute [push_cast] Yed xD yRp
abbrev CK(f:Nat)(R:List D→St→D×Int×St→Prop):Prop:=IContract Tryz.prog GG f (Eu R)∧Pq Tryz.prog GG f (F8 R)
def HJ(ds:List D)(st:St)(r:D×Int×St):Prop:=∃ (b:Bool) (e:Int),ds=[.bool b,.int .i64 e]∧(b=false→e≠0)∧r=(.tup [],if b=true then 0 else e,st)
theorem eE:ID HJ:=by
 rintro ds st r E ⟨b,e,rfl,_,rfl⟩ ⟨b',I,h,_,rfl⟩;grind
theorem Dt(e:Int)(st:St):Eu HJ [.bool true,.int .i64 e] st=some (.tup [],st):=Tg eE ⟨true,e,rfl,(fun h=>by cases h),rfl⟩
theorem D5(E:e≠0)(st:St):Eu HJ [.bool false,.int .i64 e] st=none:=Tl eE (e:=e) ⟨false,e,rfl,fun _=>E,rfl⟩ E
theorem D4(E:e≠0)(st:St):F8 HJ [.bool false,.int .i64 e] st=some (125,.int .i64 e,st):=RE eE (e:=e) (d:=.tup []) ⟨false,e,rfl,fun _=>E,rfl⟩ E
theorem Ji:CK 73 HJ:=by
 refine J5 (T:=tb [] []) yD6 (DB all_nil all_nil) ?_;rintro ds st d e st' ⟨b,E,rfl,hb,h⟩;simp only[AA]at h;obtain⟨rfl,rfl,rfl⟩:=h;unfold jc
 cases b with
 |true=>simp (disch:=first|omega|decide) only[push_cast,↓reduceIte,and_true]
 |false=>
  have he:=hb rfl;simp (disch:=first|omega|decide) only[push_cast,↓reduceIte,Cz,he,and_true,not_false_eq_true]
def LJ(ds:List D)(st:St)(r:D×Int×St):Prop:=∃ (e:Int),ds=[.int .i64 e]∧r=(.tup [],e,st)
theorem eF:ID LJ:=by
 rintro ds st r E ⟨e,rfl,rfl⟩ ⟨I,h,rfl⟩;grind
theorem Hk(st:St):Eu LJ [.int .i64 0] st=some (.tup [],st):=Tg eF ⟨0,rfl,rfl⟩
theorem Ix(E:e≠0)(st:St):Eu LJ [.int .i64 e] st=none:=Tl eF (e:=e) ⟨e,rfl,rfl⟩ E
theorem MJ(E:e≠0)(st:St):F8 LJ [.int .i64 e] st=some (125,.int .i64 e,st):=RE eF (e:=e) (d:=.tup []) ⟨e,rfl,rfl⟩ E
noncomputable abbrev tW:Tbl:=LH [] [(73,Eu HJ)] [(73,F8 HJ)]
theorem Qk:CK 123 LJ:=by
 refine J5 (T:=tW) yD5 (MW all_nil (all_cons Ji.1 all_nil) (all_cons Ji.2 all_nil)) ?_;rintro ds st d e st' ⟨E,rfl,h⟩;simp only[AA]at h;obtain⟨rfl,rfl,rfl⟩:=h;unfold jd
 by_cases he:e=0
 ·have g:=eq_true he;simp (disch:=first|omega|decide) only[push_cast,↓reduceIte,Cz,g,decide_true,Dt,and_true]
 ·simp (disch:=first|omega|decide) only[push_cast,↓reduceIte,Cz,he,decide_false,D5,D4,and_true,not_false_eq_true]
def GU{α:Type}[DecidableEq α](a:α):List α→Nat→Int
 |[],_=>-1
 |x::r,i=>if a=x then i else GU a r (i+1)
theorem eS{α:Type}[DecidableEq α][Inhabited α](a:α)(l:List α){i:Nat}(h:i<l.length):GU a (l.drop i) i=if a=l.getD i default then(i:Int)else GU a (l.drop (i+1)) (i+1):=by
 rw[Be h,GU];simp[Ao,h]
theorem kU{α:Type}[DecidableEq α](a:α):∀ (l:List α) (i:Nat),(0≤GU a l i↔a∈l)∧-1≤GU a l i
 |[],i=>by simp[GU]
 |x::r,i=>by
  unfold GU;have E:=kU a r (i+1)
  by_cases h:a=x
  ·rw[if_pos h]; subst h; simp
  ·rw[if_neg h];exact⟨by rw[E.1]; simp[h],E.2⟩
theorem Yn6(n a b:Int):GU n [a,b] 0=if a=n then 0 else if b=n then 1 else -1:=by
 show(if n=a then((0:Nat):Int)else if n=b then((1:Nat):Int)else -1)=_
 by_cases h:n=a
 ·subst h; simp
 ·have I:¬ a=n:=fun e=>h e.symm
  by_cases E:n=b
  ·subst E; simp[h,I]
  ·have J:¬ b=n:=fun e=>E e.symm;simp[h,I,E,J]
noncomputable def YO:List D→Option D:=Dd (α:=List Int×Int) (fun a=>[.slc (nz 1 (a.1.map nI)) (a.1.map nI) false,.int .i64 a.2]) (fun a=>a.1.length≤4294967296) (fun a=>.int .i64 (GU a.2 a.1 0))
theorem Yh5(l:List Int)(n:Int)(h:l.length≤4294967296):YO [.slc (nz 1 (l.map nI)) (l.map nI) false,.int .i64 n]=some (.int .i64 (GU n l 0)):=
 DW (fun⟨a0,a1⟩ ⟨b0,b1⟩ h=>by simp only[Aa,D.slc.injEq,D.int.injEq,true_and,and_true,QF]at h; simp[h]) (l,n) h
theorem TB(l:List Int)(n:Int)(h:l.length≤4294967296):@wW GG (tb [] []) Yg.code (C4 [.slc (nz 1 (l.map nI)) (l.map nI) false,.int .i64 n]) [] ⟨Dg Yg.res (.int .i64 (GU n l 0))⟩:=by
 unfold Yg;simp (disch:=first|omega|decide) only[push_cast,↓reduceIte,Cz,CB];refine GF (fun i:Nat=>[(0,.slc (nz 1 (l.map nI)) (l.map nI) false),(1,.int .i64 n),(7,.int .i64 (l.length:Int)),(8,.int .i64 (i:Int))]) (fun _=>[]) (fun i=>i≤l.length∧GU n l 0=GU n (l.drop i) i) (fun i=>l.length - i) 0 (by simp only[push_cast,↓reduceIte,Cz,↓CC] <;> rfl) ⟨Bg _,rfl⟩ ?_;rintro i ⟨hi,E⟩;unfold kx;simp (disch:=first|omega|decide) only[push_cast,↓reduceIte,Cz];refine E8 (fun N=>?_) (fun N=>?_)
 ·have M:i<l.length:=by omega
  rw[eS _ _ M]at E
  have J:∀ st:St,F5 st 1 (.slc (nz 1 (l.map nI)) (l.map nI) false) (.int .i64 (i:Int))=some (.eptr (nI (l.getD i default)) 0):=fun st=>by
   have:=Lt st 1 nI l false .i64 (i:Int) (by omega) (by omega);rwa [Bh]at this
  generalize l.getD i default=x at*
  by_cases I:n=x
  ·rw[if_pos I]at E;simp (disch:=first|omega|decide) only[push_cast,↓reduceIte,Cz,CB,J,nI,I];rw[← E,I]
  ·rw[if_neg I]at E;simp (disch:=first|omega|decide) only[push_cast,↓reduceIte,Cz,J,nI,I,DP];refine Fi (i+1) (by exact⟨by omega,E⟩) (by omega) ?_;simp only[push_cast] <;> rfl
 ·obtain rfl:i=l.length:=by omega
  rw[Ba]at E;simp (disch:=first|omega|decide) only[push_cast,↓reduceIte,CB,E,GU]
theorem Vs:Contract Tryz.prog GG 160 YO:=
 D9 vv (DB all_nil all_nil) (fun a h=>TB a.1 a.2 h)
noncomputable def Th:List D→Option D:=Dd (α:=List Bool×Bool) (fun a=>[.slc (nz 1 (a.1.map D.bool)) (a.1.map D.bool) false,.bool a.2]) (fun a=>a.1.length≤4294967296) (fun a=>.int .i64 (GU a.2 a.1 0))
theorem Yh6(l:List Bool)(n:Bool)(h:l.length≤4294967296):Th [.slc (nz 1 (l.map D.bool)) (l.map D.bool) false,.bool n]=some (.int .i64 (GU n l 0)):=
 DW (fun⟨a0,a1⟩ ⟨b0,b1⟩ h=>by simp only[Aa,D.slc.injEq,D.bool.injEq,and_true,Yce]at h; simp[h]) (l,n) h
theorem TC(l:List Bool)(n:Bool)(h:l.length≤4294967296):@wW GG (tb [] []) Yl.code (C4 [.slc (nz 1 (l.map D.bool)) (l.map D.bool) false,.bool n]) [] ⟨Dg Yl.res (.int .i64 (GU n l 0))⟩:=by
 unfold Yl;simp (disch:=first|omega|decide) only[push_cast,↓reduceIte,Cz,CB];refine GF (fun i:Nat=>[(0,.slc (nz 1 (l.map D.bool)) (l.map D.bool) false),(1,.bool n),(7,.int .i64 (l.length:Int)),(8,.int .i64 (i:Int))]) (fun _=>[]) (fun i=>i≤l.length∧GU n l 0=GU n (l.drop i) i) (fun i=>l.length - i) 0 (by simp only[push_cast,↓reduceIte,Cz,↓CC] <;> rfl) ⟨Bg _,rfl⟩ ?_;rintro i ⟨hi,E⟩;unfold kz;simp (disch:=first|omega|decide) only[push_cast,↓reduceIte,Cz];refine E8 (fun U=>?_) (fun U=>?_)
 ·have O:i<l.length:=by omega
  rw[eS _ _ O]at E
  have J:∀ st:St,F5 st 1 (.slc (nz 1 (l.map D.bool)) (l.map D.bool) false) (.int .i64 (i:Int))=some (.eptr (.bool (l.getD i default)) 0):=fun st=>by
   have:=Lt st 1 D.bool l false .i64 (i:Int) (by omega) (by omega);rwa [Bh]at this
  have M:∀ (st:St) (b:Bool),E1 st 1 false (.eptr (.bool b) 0)=some (.bool b):=fun _ _=>rfl;generalize l.getD i default=x at*
  by_cases I:n=x
  ·rw[if_pos I]at E;subst I;have N:(n == n)=true:=by simp
   simp (disch:=first|omega|decide) only[push_cast,↓reduceIte,Cz,CB,J,M,N,E]
  ·rw[if_neg I]at E;have N:(n == x)=false:=by simpa using I
   simp (disch:=first|omega|decide) only[push_cast,↓reduceIte,Cz,J,M,N,DP];refine Fi (i+1) (by exact⟨by omega,E⟩) (by omega) ?_;simp only[push_cast] <;> rfl
 ·obtain rfl:i=l.length:=by omega
  rw[Ba]at E;simp (disch:=first|omega|decide) only[push_cast,↓reduceIte,CB,E,GU]
theorem Vt:Contract Tryz.prog GG 78 Th:=
 D9 vE (DB all_nil all_nil) (fun a h=>TC a.1 a.2 h)
theorem Jd(E:Bool)(a b:Ky):Gt [0,0,0,0,0] E (DH a) (DH b)=some (.bool (decide (a=b) != E)):=by
 obtain⟨a1,I,J,M,N⟩:=a;obtain⟨b1,O,U,V,Y⟩:=b
 have h:EC [0,0,0,0,0] (Ho ⟨a1,I,J,M,N⟩) (Ho ⟨b1,O,U,V,Y⟩)=some (decide ((⟨a1,I,J,M,N⟩:Ky)=⟨b1,O,U,V,Y⟩)):=by
  simp only[Ho,EC,Ii,if_true,BX,Ky.mk.injEq,AN];rw[B0];simp
 simp only[Gt,DH,h,Ah]
theorem RP(k:Ky):(Ho k).all Eo=true:=rfl
theorem Lr(k:Ky):Dx (DH k)=some (Ho k):=rfl
theorem Q0(sz:Nat)(lent:Bool)(k:Ky):Dq (some ⟨false,sz,Ho k,lent⟩) 5 true 0=some (DH k):=KT sz lent _ 5 rfl
theorem YJ(st:St)(k:Ky):E1 st 5 true (.eptr (DH k) 0)=some (DH k):=rfl
theorem Rm(st:St)(k:Ky):DO st (DH k)=some (DH k):=Ph st (RP k)
theorem dj(k:Ky):keys (DH k)=[]:=Pn (RP k)
theorem rO(k:Ky):hk (DH k)=[]:=R5 (RP k)
theorem ll(n:Nat)(σ:List Nat)(k:Ky):(Ho k).map (Ef n σ)=Ho k:=Oh n σ (RP k)
theorem ti(k:Ky):(Ho k).flatMap hk=[]:=Pd (RP k)
theorem bR(st:St)(l:List Ky)(t:Bool)(i:Nat)(h:i<l.length):F5 st 5 (.slc (nz 5 (l.map DH)) (l.map DH) t) (.int .i64 (i:Int))=some (.eptr (DH (l.getD i default)) 0):=by
 have:=Lt st 5 DH l t .i64 (i:Int) (by omega) (by omega);rwa [Bh]at this
noncomputable def cv:List D→Option D:=Dd (α:=List Ky×Ky) (fun a=>[.slc (nz 5 (a.1.map DH)) (a.1.map DH) false,DH a.2]) (fun a=>a.1.length≤4294967296) (fun a=>.int .i64 (GU a.2 a.1 0))
theorem Yh4(l:List Ky)(n:Ky)(h:l.length≤4294967296):cv [.slc (nz 5 (l.map DH)) (l.map DH) false,DH n]=some (.int .i64 (GU n l 0)):=
 DW (fun⟨a0,a1⟩ ⟨b0,b1⟩ h=>by simp only[Aa,D.slc.injEq,and_true,Y7,Y8]at h; simp[h]) (l,n) h
theorem TA(l:List Ky)(n:Ky)(h:l.length≤4294967296):@wW GG (tb [] []) Yn.code (C4 [.slc (nz 5 (l.map DH)) (l.map DH) false,DH n]) [] ⟨Dg Yn.res (.int .i64 (GU n l 0))⟩:=by
 unfold Yn;simp (disch:=first|omega|decide) only[push_cast,↓reduceIte,Cz,CB,Lr];refine GF (fun i:Nat=>[(0,.slc (nz 5 (l.map DH)) (l.map DH) false),(3,.ptr 0 0),(7,.int .i64 (l.length:Int)),(8,.int .i64 (i:Int))]) (fun _=>[⟨false,1,Ho n,false⟩]) (fun i=>i≤l.length∧GU n l 0=GU n (l.drop i) i) (fun i=>l.length - i) 0 (by simp only[push_cast,↓reduceIte,Cz,CG,CE,↓CC,ll,ti] <;> rfl) ⟨Bg _,rfl⟩ ?_;rintro i ⟨hi,E⟩;unfold kB;simp (disch:=first|omega|decide) only[push_cast,↓reduceIte,Cz];refine E8 (fun N=>?_) (fun N=>?_)
 ·have J:i<l.length:=by omega
  rw[eS _ _ J]at E;have M:=fun st=>bR st l false i J;generalize l.getD i default=x at*
  by_cases I:n=x
  ·rw[if_pos I]at E;subst I;have O:decide (n=n)=true:=by simp
   simp (disch:=first|omega|decide) only[push_cast,↓reduceIte,Cz,CB,M,Q0,YJ,Jd,E]
  ·rw[if_neg I]at E;simp (disch:=first|omega|decide) only[push_cast,↓reduceIte,Cz,CG,CE,M,Q0,YJ,Jd,I,DP];refine Fi (i+1) (by exact⟨by omega,E⟩) (by omega) ?_;simp only[push_cast,ll,ti] <;> rfl
 ·obtain rfl:i=l.length:=by omega
  rw[Ba]at E;simp (disch:=first|omega|decide) only[push_cast,↓reduceIte,CB,E,GU]
theorem Vr:Contract Tryz.prog GG 161 cv:=
 D9 vG (DB all_nil all_nil) (fun a h=>TA a.1 a.2 h)
noncomputable def YN:List D→Option D:=Dd (α:=List Ky×Ky) (fun a=>[.slc (nz 5 (a.1.map DH)) (a.1.map DH) false,DH a.2]) (fun a=>a.1.length≤4294967296) (fun a=>.bool (decide (a.2∈a.1)))
theorem Yia(l:List Ky)(n:Ky)(h:l.length≤4294967296):YN [.slc (nz 5 (l.map DH)) (l.map DH) false,DH n]=some (.bool (decide (n∈l))):=
 DW (fun⟨a0,a1⟩ ⟨b0,b1⟩ h=>by simp only[Aa,D.slc.injEq,and_true,Y7,Y8]at h; simp[h]) (l,n) h
theorem TD(l:List Ky)(n:Ky)(h:l.length≤4294967296):@wW GG (tb [(161,cv)] []) Yo.code (C4 [.slc (nz 5 (l.map DH)) (l.map DH) false,DH n]) [] ⟨Dg Yo.res (.bool (decide (n∈l)))⟩:=by
 unfold Yo;have c1:=Yh4 l n h;have m:=(kU n l 0).1;generalize GU n l 0=z at*
 by_cases E:0≤z
 ·have hm:decide (n∈l)=true:=by simp[m.1 E]
  simp (disch:=first|omega|decide) only[push_cast,↓reduceIte,Cz,Lr,Q0,Rm,c1,E,hm]
 ·have hm:decide (n∈l)=false:=by simp; exact fun q=>E (m.2 q)
  simp (disch:=first|omega|decide) only[push_cast,↓reduceIte,Cz,Lr,Q0,Rm,c1,E,hm]
theorem Vu:Contract Tryz.prog GG 126 YN:=
 D9 vH (DB (all_cons Vr all_nil) all_nil) (fun a h=>TD a.1 a.2 h)
theorem RepV.emptyT{w:World}{g:Ghost}{sz E:Nat}{v:Value}(h:RepV w g st (.slc sz [] true) v):RepV w g st (.slc E [] true) v:=by
 cases h with
 |slcE _ _ a cap h=>exact .slcE _ _ a cap h
 |slc _ _ b off cap _ val I=>exact absurd rfl I
noncomputable def sR:List D→St→Option (D×St):=HO (α:=List Ky×St) (fun a=>([.slc (nz 5 (a.1.map DH)) (a.1.map DH) false],a.2)) (fun a=>a.1.length≤4294900000)
 (fun a=>if a.1=[]then(.slc 0 [] true,a.2)else(.row a.2.length a.1.length 0 a.1.length,a.2++[⟨true,5,a.1.map DH,false⟩]))
theorem Yic(l:List Ky)(st:St)(h:l.length≤4294900000):sR [.slc (nz 5 (l.map DH)) (l.map DH) false] st=some (if l=[]then(.slc 0 [] true,st)else(.row st.length l.length 0 l.length,st++[⟨true,5,l.map DH,false⟩])):=
 R3 (fun a b e=>by
  simp only[AA,Aa,D.slc.injEq,Y8,and_true]at e;rw[e.1.2,e.2]) ((l,st):List Ky×St) h rfl
def cl0:List PI:=[{dst:=some 2,op:=.mov (.c (.slc 0 [] true))}]
def clA:PC:=.seq (.ops [{dst:=some 2,op:=.mov (.c (.slc 0 [] true))}]) .ret
def gx:PC:=.seq (.ops [{dst:=some 5,op:=.bslc 5 []},{dst:=some 6,op:=.mov (.s 0)},{dst:=some 7,op:=.app 5 40 (.s 5) (.s 6)},{dst:=some 2,op:=.mov (.s 7)}]) .ret
theorem Yhu(T:Tbl)(l:List Ky)(st:St)(h:l.length≤4294900000)(fr:Frame)(J:fr 0=.slc (nz 5 (l.map DH)) (l.map DH) false) :
  ∃ E,gx.exec GG T 0 ⟨fr,st⟩=some (.ret,⟨E,if l=[]then st else st++[⟨true,5,l.map DH,false⟩]⟩)∧E 2=if l=[]then .slc 5 [] true else .row st.length l.length 0 l.length:=by
 have M:D8 st 5 40 (.slc 5 [] true) (.slc (nz 5 (l.map DH)) (l.map DH) false)=some (if l=[]then .slc 5 [] true else .row st.length l.length 0 l.length,if l=[]then st else st++[⟨true,5,l.map DH,false⟩]):=by
  by_cases hl:l=[]
  ·subst hl;exact oC st 5 40 5 0 [] false (by decide)
  ·have I:l.map DH≠[]:=by simpa using hl
   rw[pM DH st 5 5 40 l false (by decide) (by omega) (by omega),Qj _ _ _ I,O1 _ _ I,if_neg hl,if_neg hl,Bd]
 simp only[gx,PC.exec,EK,PI.exec,PI.wanted,POp.exec,Dh,Bk,D0,Cy,CG,decide_true,Az,Ap,B9,Bg,if_true,lend,BG,Frame.put,Frame.set,J,Cz,if_false,show ¬ (5:Nat)=6 from by decide,show ¬ (0:Nat)=5 from by decide,show ¬ (0:Nat)=6 from by decide,M];exact⟨_,rfl,rfl⟩
theorem ta:IContract Tryz.prog GG 127 sR:=by
 refine Yht (T:=tb [] []) (il:=[]) (DB all_nil all_nil) rfl (l0:=cl0) (pA:=clA) (pB:=gx) (res:=[.tmp 2]) (t3:=3) (e:=58) Tryz.func127 (by kernel_rfl) rfl (by kernel_rfl) (by kernel_rfl) (by kernel_rfl) (by kernel_rfl) (by kernel_rfl) rfl rfl rfl (by decide) Tryz.underlying63 ?_;intro ds st d st' N;obtain⟨⟨l,st0⟩,ha,J,E⟩:=fi N;simp only[AA]at ha;obtain⟨rfl,rfl⟩:=ha;dsimp only at J E;refine⟨_,_,_,(C4 [.slc (nz 5 (l.map DH)) (l.map DH) false]).set 2 (.slc 0 [] true),rfl,rfl,rfl,fun he=>?_,?_⟩
 ·obtain rfl:l=[]:=by simpa using he
  rw[if_pos rfl]at E;simp only[AA]at E;obtain⟨rfl,rfl⟩:=E;exact⟨0,_,_,rfl,rfl,rfl,fun w g v h=>h.emptyT⟩
 ·obtain⟨O,M,I⟩:=Yhu (tb [] []) l st0 J ((((C4 [.slc (nz 5 (l.map DH)) (l.map DH) false]).set 2 (.slc 0 [] true)).set 3 (.slc (nz 5 (l.map DH)) (l.map DH) false)).set 4 (.bool false)) rfl
  by_cases hl:l=[]
  ·subst hl;rw[if_pos rfl]at E I;simp only[AA]at E;obtain⟨rfl,rfl⟩:=E;exact⟨0,_,[.slc 5 [] true],M,by rw[if_pos rfl],by simp only[eO,eN,I]; rfl,fun w g v h=>h.emptyT⟩
  ·rw[if_neg hl]at E I;simp only[AA]at E;obtain⟨rfl,rfl⟩:=E;exact⟨0,_,[.row st0.length l.length 0 l.length],M,by rw[if_neg hl],by simp only[eO,eN,I]; rfl,fun w g v h=>h⟩
theorem wo(l:List Ky):Eo (Di l)=true:=by
 simp[Eo,Kq]
theorem fJ(x:Cse){p:D→Bool}(E:∀ k n,p (.int k n)=true)(J:∀ b,p (.bool b)=true)(M:p j=true):(C8 x j).all p=true:=by
 have N:∀ d,(CY d).all p=true:=fun d=>KC (fun b=>E _ _) d;refine Nf E fun s I=>?_;simp only[Ee,JI,I7,Ae,Ai,Aw,AB,or_false]at I;rcases I with rfl | rfl | rfl | rfl | rfl | rfl | rfl | rfl | rfl | rfl | rfl | rfl | rfl | rfl | rfl | rfl | rfl | rfl | rfl | rfl | rfl | rfl | rfl | rfl | rfl | rfl | rfl | rfl | rfl | rfl | rfl <;> simp[Sg.cs,E,J,M,N]
theorem Nc(x:Cse)(hj:j.isCell=true):(C8 x j).all D.isCell=true:=fJ x (fun _ _=>rfl) (fun _=>rfl) hj
theorem QO(x:Cse):(C8 x (Di x.jn)).all Eo=true:=fJ x (fun _ _=>rfl) (fun _=>rfl) (wo _)
theorem Em(x:Cse):Dx (De x)=some (C8 x (Di x.jn)):=by
 simp only[Dx,De,D.cells,Nc x (j:=Di x.jn) rfl,if_true]
theorem Eb(st:St)(x:Cse):DO st (De x)=some (De x):=Ph st (QO x)
theorem E0(x:Cse):keys (De x)=[]:=Pn (QO x)
section
variable (x:Cse) (j:D) (sz:Nat) (lent:Bool)
theorem EO:Dq (some ⟨false,sz,C8 x j,lent⟩) 1 false 7=some (.int .i64 x.ph):=Hg (l:=Ee x j) rfl rfl (He x j)
theorem HK:Dq (some ⟨false,sz,C8 x j,lent⟩) 1 false 8=some (.int .i64 x.dl):=Hg (l:=Ee x j) rfl rfl (He x j)
theorem sH:Dq (some ⟨false,sz,C8 x j,lent⟩) 1 false 11=some (.int .i64 x.c0.1):=Hg (l:=Ee x j) rfl rfl (He x j)
theorem sI:Dq (some ⟨false,sz,C8 x j,lent⟩) 1 false 44=some (.int .i64 x.c1.1):=Hg (l:=Ee x j) rfl rfl (He x j)
theorem Rc:Dq (some ⟨false,sz,C8 x j,lent⟩) 1 false 275=some (.int .i64 x.wn):=Hg (l:=Ee x j) rfl rfl (He x j)
theorem YB:Dq (some ⟨false,sz,C8 x j,lent⟩) 1 false 276=some (.int .i64 x.am):=Hg (l:=Ee x j) rfl rfl (He x j)
theorem sG:Dq (some ⟨false,sz,C8 x j,lent⟩) 1 false 277=some (.int .i64 x.ct):=Hg (l:=Ee x j) rfl rfl (He x j)
theorem Ns:Dq (some ⟨false,sz,C8 x j,lent⟩) 1 false 278=some j:=Hg (l:=Ee x j) rfl rfl (He x j)
theorem MC:Dq (some ⟨false,sz,C8 x j,lent⟩) 5 true 0=some (DH x.key):=II (l:=Ee x j) rfl rfl (He x j) rfl
theorem Nt:Dq (some ⟨false,sz,C8 x j,lent⟩) 2 true 5=some (.agg [.int .i64 x.p0,.int .i64 x.p1]):=II (l:=Ee x j) rfl rfl (He x j) rfl
theorem Q3:Dq (some ⟨false,sz,C8 x j,lent⟩) 2 true 9=some (.agg [.int .i64 x.a0,.int .i64 x.a1]):=II (l:=Ee x j) rfl rfl (He x j) rfl
theorem Ms:Dq (some ⟨false,sz,C8 x j,lent⟩) 33 true 11=some (.agg (.int .i64 x.c0.1::CY x.c0.2)):=II (l:=Ee x j) rfl rfl (He x j) (by simp[C9,Sg.cs])
theorem Mt:Dq (some ⟨false,sz,C8 x j,lent⟩) 33 true 44=some (.agg (.int .i64 x.c1.1::CY x.c1.2)):=II (l:=Ee x j) rfl rfl (He x j) (by simp[C9,Sg.cs])
theorem ZF:Dq (some ⟨false,sz,C8 x j,lent⟩) 2 true 144=some (.agg [.bool x.b.t0,.bool x.b.t1]):=II (l:=Ee x j) rfl rfl (He x j) rfl
theorem OC:Dq (some ⟨false,sz,C8 x j,lent⟩) 198 true 77=some (DI x.b):=II (l:=Ee x j) rfl rfl (He x j) (by rw[DI,← O0]; rfl)
def Gv(a b:Int×Dig):List D:=(.int .i64 a.1::CY a.2)++(.int .i64 b.1::CY b.2)
theorem Td:Dq (some ⟨false,sz,C8 x j,lent⟩) 66 true 11=some (.agg (Gv x.c0 x.c1)):=II (l:=Ee x j) rfl rfl (He x j) (by simp[C9,Sg.cs,Gv])
theorem EP:Dq (some ⟨false,sz,C8 x j,lent⟩) 279 true 0=some (.agg (C8 x j)):=KT sz lent _ 279 (L0 x j)
end
theorem Ft(x:Cse):D.agg (C8 x (Di x.jn))=De x:=rfl
theorem IW:EW=C8 FF (.slc 0 [] true):=(rfl)
noncomputable def Sm:List D→Option D:=Dd (α:=Int) (fun a=>[.int .i64 a]) (fun a=>True) (fun a=>.bool (decide (Il a)))
theorem bn(n:Int):Sm [.int .i64 n]=some (.bool (decide (Il n))):=
 DW (fun a b h=>by simp only[Aa,D.int.injEq,true_and,and_true]at h; simp[h]) (n) trivial
theorem Yc6(n:Int):@wW GG (tb [] []) XH.code (C4 [.int .i64 n]) [] ⟨Dg XH.res (.bool (decide (Il n)))⟩:=by
 unfold XH
 by_cases E:-9007199254740992≤n
 ·by_cases I:n≤9007199254740992
  ·have e:decide (Il n)=true:=decide_eq_true ⟨E,I⟩;simp (disch:=first|omega|decide) only[push_cast,↓reduceIte,Cz,CB,E,I,e]
  ·have e:decide (Il n)=false:=decide_eq_false fun q=>I q.2;simp (disch:=first|omega|decide) only[push_cast,↓reduceIte,Cz,CB,E,I,e]
 ·have e:decide (Il n)=false:=decide_eq_false fun q=>E q.1;simp (disch:=first|omega|decide) only[push_cast,↓reduceIte,Cz,CB,E,e]
theorem dN:Contract Tryz.prog GG 64 Sm:=
 D9 ud (DB all_nil all_nil) (fun a h=>Yc6 a)
noncomputable def RW:List D→Option D:=Dd (α:=Cse) (fun a=>[De a]) (fun a=>True) (fun a=>.bool (decide (F0 a)))
theorem SA(x:Cse):RW [De x]=some (.bool (decide (F0 x))):=
 DW (fun a b h=>by simp only[Aa,and_true,Nb]at h; simp[h]) (x) trivial
theorem Yky(x:Cse):@wW GG (tb [] []) XT.code (C4 [De x]) [] ⟨Dg XT.res (.bool (decide (F0 x)))⟩:=by
 unfold XT
 by_cases E:x.ph=1
 ·have e:decide (F0 x)=true:=by simp[F0,E]
  simp (disch:=first|omega|decide) only[push_cast,↓reduceIte,Cz,Em,EO,E,e]
 by_cases I:x.ph=2
 ·have e:decide (F0 x)=true:=by simp[F0,I]
  have g:=eq_true I;simp (disch:=first|omega|decide) only[push_cast,↓reduceIte,Cz,Em,EO,E,g,e]
 by_cases J:x.ph=3
 ·have e:decide (F0 x)=true:=by simp[F0,J]
  have g:=eq_true J;simp (disch:=first|omega|decide) only[push_cast,↓reduceIte,Cz,Em,EO,E,I,g,e]
 ·have e:decide (F0 x)=false:=by simp[F0,E,I,J]
  simp (disch:=first|omega|decide) only[push_cast,↓reduceIte,Cz,Em,EO,E,I,J,e]
theorem tA:Contract Tryz.prog GG 74 RW:=
 D9 uu (DB all_nil all_nil) (fun a h=>Yky a)
noncomputable def VY:List D→Option D:=Dd (α:=Cse) (fun a=>[De a]) (fun a=>True) (fun a=>.bool (decide (J0 a)))
theorem pg(x:Cse):VY [De x]=some (.bool (decide (J0 x))):=
 DW (fun a b h=>by simp only[Aa,and_true,Nb]at h; simp[h]) (x) trivial
theorem Ykz(x:Cse):@wW GG (tb [] []) Xj.code (C4 [De x]) [] ⟨Dg Xj.res (.bool (decide (J0 x)))⟩:=by
 unfold Xj
 by_cases E:x.ph=4
 ·have e:decide (J0 x)=true:=by simp[J0,E]
  simp (disch:=first|omega|decide) only[push_cast,↓reduceIte,Cz,Em,EO,E,e]
 by_cases I:x.ph=5
 ·have e:decide (J0 x)=true:=by simp[J0,I]
  have g:=eq_true I;simp (disch:=first|omega|decide) only[push_cast,↓reduceIte,Cz,Em,EO,E,g,e]
 by_cases J:x.ph=6
 ·have e:decide (J0 x)=true:=by simp[J0,J]
  have g:=eq_true J;simp (disch:=first|omega|decide) only[push_cast,↓reduceIte,Cz,Em,EO,E,I,g,e]
 ·have e:decide (J0 x)=false:=by simp[J0,E,I,J]
  simp (disch:=first|omega|decide) only[push_cast,↓reduceIte,Cz,Em,EO,E,I,J,e]
theorem tz:Contract Tryz.prog GG 31 VY:=
 D9 yD9 (DB all_nil all_nil) (fun a h=>Ykz a)
def Ew(b:UInt8):Dig:=⟨b::CF 31 0,by simp⟩
theorem Yad(b:UInt8):DF (CY Dn) [(0,1,Dc b)]=some (CY (Ew b)):=by
 have h:CY Dn=(CF 32 (0:UInt8)).map Dc:=rfl;rw[h,Nm Dc (fun _=>rfl) _ _ _ _ (by simp),Nd];rfl
def P7(h l i:Int)(a b:Dig)(r:Int):Bis:=⟨h,l,i,a,b,false,false,Dn,Dn,Dn,Dn,r⟩
theorem rC:Ek 1=0:=by decide +kernel
abbrev TY:Ty:=.agg [.int .i64,.int .i64,.int .i64,.agg [.agg (CF 32 (.int .u8)),.agg (CF 32 (.int .u8))],.agg [.bool,.bool],.agg [.agg (CF 32 (.int .u8)),.agg (CF 32 (.int .u8))],.agg [.agg (CF 32 (.int .u8)),.agg (CF 32 (.int .u8))],.int .i64]
theorem bP(h:Has (.agg [.agg (CF 32 (.int .u8)),.agg (CF 32 (.int .u8))]) d):∃ a b,d=.agg (EF a b):=by
 obtain⟨x,y,rfl,E,I⟩:=O9 h;obtain⟨a,rfl⟩:=OU E;obtain⟨b,rfl⟩:=OU I;exact⟨a,b,rfl⟩
theorem Yo0(h:Has TY d):∃ x:Bis,d=DI x:=by
 cases h with
 |agg _ xs I E=>
  match xs,I with
  |[J,M,N,O,U,V,Y,x7],_=>
   obtain⟨h,rfl,_⟩:=Gp (E 0 _ J rfl rfl);obtain⟨l,rfl,_⟩:=Gp (E 1 _ M rfl rfl);obtain⟨i,rfl,_⟩:=Gp (E 2 _ N rfl rfl);obtain⟨n0,n1,rfl⟩:=bP (E 3 _ O rfl rfl);obtain⟨y0,y1,rfl,g0,g1⟩:=O9 (E 4 _ U rfl rfl);obtain⟨t0,rfl⟩:=mP g0;obtain⟨t1,rfl⟩:=mP g1;obtain⟨l0,l1,rfl⟩:=bP (E 5 _ V rfl rfl);obtain⟨r0,r1,rfl⟩:=bP (E 6 _ Y rfl rfl);obtain⟨r,rfl,_⟩:=Gp (E 7 _ x7 rfl rfl);refine⟨⟨h,l,i,n0,n1,t0,t1,l0,l1,r0,r1,r⟩,?_⟩;simp[DI,Da,EF,D.cells]
def Ut(a b:List Dig)(lv i:Int):Int:=if rQ a (lv - 1).toNat (2*i)=rQ b (lv - 1).toNat (2*i)then 2*i+1 else 2*i
def idxS(a b:List Dig)(h:Int):Nat→Int
 |0=>0
 |k+1=>Ut a b (h - k) (idxS a b h k)
variable {c:List Ins} {v:Int×List Int} {x:Cse} {m:Mv} {now:Int}
theorem Ydc(o:Option Int):(Jt o).2=0∨(Jt o).2=2∨(Jt o).2=200:=by
 cases o with
 |none=>exact .inr (.inr rfl)
 |some s=>
  simp only[Jt];grind
theorem nw(c:List Ins):(GH c).2=0∨(GH c).2=2∨(GH c).2=200:=by
 unfold GH
 split
 ·simp
 split
 ·simp
 ·exact Ydc _
theorem Yo6(c:List Ins)(v:Int×List Int):(GO c v).2=0∨(GO c v).2=2∨(GO c v).2=200:=by
 unfold GO
 split
 ·simp
 split
 ·exact nw c
 ·simp
theorem Ymm(c:List Ins)(s:Sta)(b:Int):Ih c s b=0∨Ih c s b=1∨Ih c s b=2∨Ih c s b=200∨Ih c s b=211:=by
 unfold Ih
 split
 ·simp
 split
 ·rcases nw c with h | h | h <;> simp[h]
 omega
theorem Ydp(c:List Ins)(o:Opn):Jg c o=0∨Jg c o=1∨Jg c o=2∨Jg c o=200∨Jg c o=211∨Jg c o=390:=by
 unfold Jg
 split
 ·omega
 ·rcases Ymm c (HP o) o.depth with h | h | h | h | h <;> simp[h]
theorem Ylv(c:List Ins)(v:Int×List Int)(b:Dig)(o:Opn):(E6 c v b o).2=0∨(E6 c v b o).2=1∨(E6 c v b o).2=2∨(E6 c v b o).2=200∨(E6 c v b o).2=211∨(E6 c v b o).2=390:=by
 unfold E6
 split
 ·simp
 split
 ·simp
 split
 ·simp
 ·exact Ydp c o
theorem Ypj(x:Bis)(p:Int)(l r:Dig):Fz x p l r=0∨Fz x p l r=1∨Fz x p l r=380∨Fz x p l r=381:=by
 unfold Fz;omega
def GM(e:Int):Prop:=0≤e∧e<400
theorem sO(c:List Ins)(v:Int×List Int)(x:Cse)(now:Int):GM (Jq c v x now).2:=by
 unfold Jq GM
 split
 ·split
  ·split
   ·simp
   ·rcases Yo6 c v with h | h | h <;> simp[h]
  ·simp
 ·simp
theorem Ywx(c:List Ins)(v:Int×List Int)(x:Cse)(m:Mv)(now:Int):GM (L5 c v x m now).2:=by
 unfold L5
 split
 ·split
  ·dsimp only
   split
   ·simp[GM]
   split
   ·exact sO ..
   split
   ·simp[GM]
   split <;> simp[GM]
  ·simp[GM]
 ·simp[GM]
theorem Yvt(c:List Ins)(v:Int×List Int)(x:Cse)(m:Mv)(now:Int):GM (Ow c v x m now).2:=by
 unfold Ow
 split
 ·split
  ·split
   ·simp[GM]
   ·exact sO ..
  ·rcases Ypj x.b m.pt m.lf m.rt with h | h | h | h <;> simp[h,GM]
 ·simp[GM]
theorem Yti(c:List Ins)(v:Int×List Int)(x:Cse)(m:Mv):GM (Oy c v x m).2:=by
 unfold Oy
 split
 ·split
  ·split
   ·split <;> simp[GM]
   ·simp[GM]
  ·dsimp only;have h:=Ylv c v (if(IS x m.pt).1≤(GZ x m.pt).1 then EI else F1 c v m.op) m.op;generalize (if(IS x m.pt).1≤(GZ x m.pt).1 then EI else F1 c v m.op)=E at*
   split
   ·split
    ·simp[GM]
    ·unfold GM;omega
   ·simp[GM]
 ·simp[GM]
theorem Yts(c:List Ins)(v:Int×List Int)(x:Cse)(m:Mv)(now:Int):GM (F4 c v x m now).2:=by
 unfold F4
 split; · exact Ywx ..
 split; · exact Yvt ..
 split; · exact Yti ..
 split; · unfold PL; split <;> simp[GM]
 split
 ·unfold Ot
  split
  ·simp[GM]
  ·split <;> simp[GM]
 split
 ·unfold Ou
  split
  ·split <;> simp[GM]
  ·simp[GM]
 ·unfold HH
  split
  ·split
   ·split <;> simp[GM]
   ·simp[GM]
  ·simp[GM]
theorem Lw(h:Fg c v x m now≠0):GL c v x m now=FF:=if_neg h
theorem RU(h:Fg c v x m now=0):GL c v x m now=(F4 c v x m now).1:=if_pos h
theorem Wq(h:¬ F0 x):Fg c v x m now=400:=if_neg h
def EY(m:Mv)(now:Int):Prop:=(1≤m.kd∧m.kd≤7)∧0≤now∧now≤1073741824∧(m.pt=0∨m.pt=1)
theorem nm(h:F0 x)(E:¬ EY m now):Fg c v x m now=1:=by
 unfold Fg; rw[if_pos h]; exact if_neg E
theorem ZW(h:F0 x)(E:EY m now)(I:¬ now≤x.dl):Fg c v x m now=401:=by
 unfold Fg EY at *; rw[if_pos h,if_pos E]; exact if_neg I
theorem Sh(h:F0 x)(E:EY m now)(I:now≤x.dl):Fg c v x m now=(F4 c v x m now).2:=by
 unfold Fg EY at *; rw[if_pos h,if_pos E]; exact if_pos I
theorem xP(h:F0 x)(E:EY m now)(I:now≤x.dl):Fg c v x m now≠400∧Fg c v x m now≠401:=by
 rw[Sh h E I];have:=Yts c v x m now;unfold GM at this;omega
def Rh(x:Cse)(m:Mv):Prop:=((m.kd=1∨m.kd=6)∧(m.pt=0∨x.ph≠1))∨(m.kd=4∧m.pt=1)∨(m.kd=7∧(m.pt=1∨x.ph≠1))∨(m.kd=2∧x.ph≠2)∨(m.kd=3∧x.ph≠3)
theorem eH(h:F0 x)(I:EY m now)(J:now≤x.dl)(hn:Rh x m):Fg c v x m now=380:=by
 rw[Sh h I J];unfold F4;rcases hn with⟨hk | hk,E⟩ | ⟨hk,E⟩ | ⟨hk,E⟩ | ⟨hk,E⟩ | ⟨hk,E⟩
 ·rw[if_pos hk]; unfold L5; rw[if_neg (by omega)]
 ·rw[if_neg (by omega),if_neg (by omega),if_neg (by omega),if_neg (by omega),if_neg (by omega),if_pos hk]; unfold Ou; rw[if_neg (by omega)]
 ·rw[if_neg (by omega),if_neg (by omega),if_neg (by omega),if_pos hk]; unfold PL; rw[if_neg (by omega)]
 ·rw[if_neg (by omega),if_neg (by omega),if_neg (by omega),if_neg (by omega),if_neg (by omega),if_neg (by omega)]; unfold HH; rw[if_neg (by omega)]
 ·rw[if_neg (by omega),if_pos hk]; unfold Ow; rw[if_neg E]
 ·rw[if_neg (by omega),if_neg (by omega),if_pos hk]; unfold Oy GZ; rw[if_neg (by simp[E])]
structure Keep (x y:Cse):Prop where
 key:y.key=x.key
 p0:y.p0=x.p0
 p1:y.p1=x.p1
 a0:y.a0=x.a0
 c0:y.c0=x.c0
 dl:y.ph≤3→x.dl≤y.dl
theorem Keep.refl(x:Cse):Keep x x:=⟨rfl,rfl,rfl,rfl,rfl,fun _=>Int.le_refl _⟩
structure Live (x:Cse) (now:Int):Prop where
 ph:1≤x.ph∧x.ph≤6
 dl:x.ph≤3→x.dl≤now+1440
 wn:-1≤x.wn∧x.wn≤1
 bv:J3 x.b=true
theorem Yrc(x:Cse)(n:Int):-1≤Lc x n∧Lc x n≤1:=by
 unfold Lc; split
 ·omega
 ·omega
theorem yJd(E:Dig×Dig)(d:Dig):-1≤OQ E d∧OQ E d≤1:=by
 unfold OQ; split
 ·omega
 ·omega
theorem bp(E:Dig×Dig)(r:Dig×Int):-1≤(G8 E r).1∧(G8 E r).1≤1:=by
 unfold G8; split
 ·exact yJd ..
 ·simp
def Ge(st:St)(k:Nat)(p:Ply):Prop:=st[k]?=some ⟨false,1,C6 p,false⟩
variable {p:Ply}
theorem KX(h:Ge st k p):k<st.length:=(Ac.1 h).1
theorem Yhy{a b:List Ins}:Gw a=Gw b↔a=b:=by
 refine⟨fun h=>?_,fun h=>by rw[h]⟩;simp only[Gw,D.slc.injEq,and_true]at h;exact J9.1 h.2
theorem mR{q:Ply}(h:C6 p=C6 q)(M:p.j=Di p.x.jn)(N:q.j=Di q.x.jn):p=q:=by
 obtain⟨I,pj,pc,pv,pm,pn,O⟩:=p;obtain⟨qx,qj,qc,qv,qm,qn,U⟩:=q;dsimp only at M N;simp only[C6,D6,Ka,Ag]at h;obtain⟨h1,V⟩:=A2 h ((L0 I pj).trans (L0 qx qj).symm);simp only[C9,Sg.cs,Ae,Ai,Ad,Aa,Yhy]at V;obtain⟨rfl,h3⟩:=V;obtain⟨h4,h5⟩:=A2 h3 ((Jl O).trans (Jl U).symm);obtain⟨h6,Y⟩:=A2 h5 ((WV pm).trans (WV qm).symm);simp only[Aa,D.int.injEq,true_and,and_true]at Y;obtain rfl:=Y;obtain rfl:=cR.1 (congrArg D.agg h6);obtain rfl:=KS.1 (congrArg D.agg h4);obtain⟨E,h9⟩:=dR h1;subst h9;have J:I.jn=qx.jn:=Wh.1 (M.symm.trans N)
 have:I=qx:=by
  obtain⟨xk,x0,x1,x2,x3,x4,x5,xc,xe,xb,x6,x7,x8,xj⟩:=I;obtain⟨yk,y0,y1,y2,y3,y4,y5,yc,ye,yb,y6,y7,y8,yj⟩:=qx;simp only[Cse.mk.injEq,and_true]at E J ⊢;exact⟨E.1,E.2.1,E.2.2.1,E.2.2.2.1,E.2.2.2.2.1,E.2.2.2.2.2.1,E.2.2.2.2.2.2.1,E.2.2.2.2.2.2.2.1,E.2.2.2.2.2.2.2.2.1,E.2.2.2.2.2.2.2.2.2.1,E.2.2.2.2.2.2.2.2.2.2.1,E.2.2.2.2.2.2.2.2.2.2.2.1,E.2.2.2.2.2.2.2.2.2.2.2.2,J⟩
 subst this;rfl
section
variable {α:Type} (enc:α→List D) (pre:Ply→α→Prop) (F:Ply→α→Cse×Int×St)
def Jo(ds:List D)(st:St)(r:D×Int×St):Prop:=∃ (k:Nat) (p:Ply) (a:α),p.j=Di p.x.jn∧Ge st k p∧pre p a∧ds=.ptr k 0::enc a∧r=(.tup [],(F p a).2.1,Du st k (C6 {p with x:=(F p a).1})++(F p a).2.2)
variable {enc pre F}
theorem Ni(hi:∀ a b,enc a=enc b→a=b):ID (Jo enc pre F):=by
 rintro ds st r J ⟨k,p,a,hj,hk,_,rfl,rfl⟩ ⟨k',p',M,I,E,_,h,rfl⟩;simp only[Aa,D.ptr.injEq,and_true]at h;obtain⟨rfl,h⟩:=h;obtain rfl:=hi _ _ h;unfold Ge at hk E;rw[hk]at E;simp only[AN,PI.Obj.mk.injEq,true_and,and_true]at E;obtain rfl:=mR E hj I;rfl
theorem Qt(hi:∀ a b,enc a=enc b→a=b){a:α}(hj:p.j=Di p.x.jn)(hk:Ge st k p)(E:pre p a)(I:(F p a).2.1=0) :
  Eu (Jo enc pre F) (.ptr k 0::enc a) st=some (.tup [],Du st k (C6 {p with x:=(F p a).1})++(F p a).2.2):=
 Tg (Ni hi) ⟨k,p,a,hj,hk,E,rfl,by rw[I]⟩
theorem Ym8(hi:∀ a b,enc a=enc b→a=b){a:α}(hj:p.j=Di p.x.jn)(hk:Ge st k p)(E:pre p a)(I:(F p a).2.1≠0) :
  Eu (Jo enc pre F) (.ptr k 0::enc a) st=none:=Tl (Ni hi) ⟨k,p,a,hj,hk,E,rfl,rfl⟩ I
theorem Ytx(hi:∀ a b,enc a=enc b→a=b){a:α}(hj:p.j=Di p.x.jn)(hk:Ge st k p)(E:pre p a)(I:(F p a).2.1≠0) :
  F8 (Jo enc pre F) (.ptr k 0::enc a) st=some (125,.int .i64 (F p a).2.1,Du st k (C6 {p with x:=(F p a).1})++(F p a).2.2):=
 RE (Ni hi) ⟨k,p,a,hj,hk,E,rfl,rfl⟩ I
end
theorem IZ(h:Ge st k p)(l:St):Ge (st++l) k p:=by
 unfold Ge; rw[HL (KX h)]; exact h
theorem Pg(h:k<st.length)(p:Ply):Ge (Du st k (C6 p)) k p:=LW h _
theorem Od(h:Ge st k p):Du st k (C6 p)=st:=by
 unfold Ge at h;obtain⟨I,E⟩:=Ac.1 h;unfold Du;rw[← E,List.set_getElem_self]
def Io:Unit→List D:=fun _=>[]
def G6:Int→List D:=fun n=>[.int .i64 n]
def Ki:Int×Int→List D:=fun a=>[.int .i64 a.1,.int .i64 a.2]
theorem LX:∀ a b,Io a=Io b→a=b:=fun _ _ _=>rfl
theorem dV:∀ a b,G6 a=G6 b→a=b:=fun a b h=>by simpa[G6]using h
theorem me:∀ a b,Ki a=Ki b→a=b:=fun a b h=>by
 simp only[Ki,Aa,D.int.injEq,true_and,and_true]at h;exact Prod.ext h.1 h.2
def NO(p:Ply)(a:Int×Int):Cse×Int×St:=(Jn p.x a.1 a.2,0,[])
abbrev Mp:=Jo Ki (fun _ _=>True) NO
theorem dQ:CK 125 Mp:=by
 refine J5 (T:=tb [] []) j9 (DB all_nil all_nil) ?_;rintro ds st d e st' ⟨k,p,⟨w,a⟩,hj,hk,_,rfl,h⟩;simp only[AA]at h;obtain⟨rfl,rfl,rfl⟩:=h;have E:=KX hk;unfold Ge at hk;unfold bJ;simp (disch:=first|omega|decide) only[push_cast,↓reduceIte,Cz,Ki,NO,Jn,Dy,hk,Tj,sV,Ysk,Ik,LW E,KY,Ad,and_true]
noncomputable abbrev iE:Tbl:=tb [] [(125,Eu Mp)]
theorem ar(hj:p.j=Di p.x.jn)(hk:Ge st k p)(w a:Int):Eu Mp [.ptr k 0,.int .i64 w,.int .i64 a] st=some (.tup [],Du st k (C6 {p with x:=Jn p.x w a})):=by
 have:=Qt (F:=NO) (pre:=fun _ _=>True) me (a:=(w,a)) hj hk trivial rfl;rw[show(NO p (w,a)).2.2=[]from rfl,Ad]at this;exact this
def K4(p:Ply)(a:Int):Cse×Int×St:=(FM p.x a,0,[])
abbrev Lh:=Jo G6 (fun _ a=>a≤1) K4
theorem YV:CK 79 Lh:=by
 refine J5 (T:=iE) j1 (DB all_nil (all_cons dQ.1 all_nil)) ?_;rintro ds st d e st' ⟨k,p,a,hj,hk,ha,rfl,h⟩;simp only[AA]at h;obtain⟨rfl,rfl,rfl⟩:=h;have M:=KX hk;have E:=fun w a=>ar hj hk w a;unfold Ge at hk;unfold bH
 by_cases I:a<0
 ·simp (disch:=first|omega|decide) only[push_cast,↓reduceIte,Cz,CB,G6,K4,FM,I,E,Ad,and_true]
 ·have J:a=0∨a=1:=by omega
  rcases J with rfl | rfl
  ·have e:FM p.x 0=Jn p.x 0 p.x.a0:=by unfold FM QV; rw[if_neg (by omega),if_pos rfl]
   simp (disch:=first|omega|decide) only[push_cast,↓reduceIte,Cz,CD,CB,G6,K4,e,I,Dy,hk,Ep,YC,E,Ad,and_true]
  ·have e:FM p.x 1=Jn p.x 1 p.x.a1:=by unfold FM QV; rw[if_neg (by omega),if_neg (by omega)]
   simp (disch:=first|omega|decide) only[push_cast,↓reduceIte,Cz,CA,CD,CB,G6,K4,e,I,Dy,hk,Ep,YD,E,Ad,and_true]
theorem Se(hj:p.j=Di p.x.jn)(hk:Ge st k p){a:Int}(E:a≤1):Eu Lh [.ptr k 0,.int .i64 a] st=some (.tup [],Du st k (C6 {p with x:=FM p.x a})):=by
 have:=Qt (F:=K4) (pre:=fun _ a=>a≤1) dV (a:=a) hj hk E rfl;rw[show(K4 p a).2.2=[]from rfl,Ad]at this;exact this
theorem Yux(hk:st[k]?=some ⟨false,1,C6 p,false⟩):DO st (.bsl k 9 2 1 false)=some (.slc 1 [.int .i64 p.x.a0,.int .i64 p.x.a1] false):=by
 have E:Kv st k 9 2 1 false=some [.int .i64 p.x.a0,.int .i64 p.x.a1]:=by
  unfold Kv;rw[hk];dsimp only;rw[yL9,if_pos (by decide)];rfl
 simp only[DO,Dw,Hq,E];rfl
def NK(p:Ply)(n:Int):Cse×Int×St:=(QY p.x n,0,[])
abbrev NT:=Jo G6 (fun _ _=>True) NK
theorem lV:CK 120 NT:=by
 refine J5 (T:=tb [(160,YO)] [(125,Eu Mp)]) uY (DB (all_cons Vs all_nil) (all_cons dQ.1 all_nil)) ?_;rintro ds st d e st' ⟨k,p,a,hj,hk,ha,rfl,h⟩;simp only[AA]at h;obtain⟨rfl,rfl,rfl⟩:=h;have E:=fun w a=>ar hj hk w a
 have ci:YO [.slc 1 [.int .i64 p.x.a0,.int .i64 p.x.a1] false,.int .i64 a]=some (.int .i64 (Lc p.x a)):=by
  have:=Yh5 [p.x.a0,p.x.a1] a (by simp);rw[Yn6]at this;exact this
 unfold Ge at hk;have hi:=Yux hk;have I:N1 2 1 false (.ptr k 9) none none=some (.bsl k 9 2 1 false):=rfl;have Dp:keys (.bsl k 9 2 1 false)=[k]:=rfl;unfold jT;simp (disch:=first|omega|decide) only[push_cast,↓reduceIte,Cz,G6,NK,QY,Dy,I,hi,ci,E,Ad,and_true]
theorem au(hj:p.j=Di p.x.jn)(hk:Ge st k p)(a:Int):Eu NT [.ptr k 0,.int .i64 a] st=some (.tup [],Du st k (C6 {p with x:=QY p.x a})):=by
 have:=Qt (F:=NK) (pre:=fun _ _=>True) dV (a:=a) hj hk trivial rfl;rw[show(NK p a).2.2=[]from rfl,Ad]at this;exact this
def LI(p:Ply):Prop:=0≤p.now∧p.now≤1073741824
def NL(p:Ply)(_:Unit):Cse×Int×St:=({p.x with dl:=p.now+1440},0,[])
abbrev JN:=Jo Io (fun p _=>LI p) NL
theorem Wx:CK 118 JN:=by
 refine J5 (T:=tb [] []) uW (DB all_nil all_nil) ?_;rintro ds st d e st' ⟨k,p,a,hj,hk,ha,rfl,h⟩;simp only[AA]at h;obtain⟨rfl,rfl,rfl⟩:=h;obtain⟨n1,I⟩:=ha;have E:=KX hk;unfold Ge at hk;unfold j4;simp (disch:=first|omega|decide) only[push_cast,↓reduceIte,Cz,Io,NL,Dy,hk,Ynh,DP,Ysi,Ik,Ad,and_true]
theorem Xd(hj:p.j=Di p.x.jn)(hk:Ge st k p)(hn:LI p):Eu JN [.ptr k 0] st=some (.tup [],Du st k (C6 {p with x:={p.x with dl:=p.now+1440}})):=by
 have:=Qt (F:=NL) (pre:=fun p _=>LI p) LX (a:=()) hj hk hn rfl;rw[show(NL p ()).2.2=[]from rfl,Ad]at this;exact this
def NB(p:Ply)(_:Unit):Cse×Int×St:=(Q9 p.x p.now,0,[])
abbrev NR:=Jo Io (fun p _=>LI p) NB
theorem tU:CK 121 NR:=by
 refine J5 (T:=tb [] [(118,Eu JN)]) uL (DB all_nil (all_cons Wx.1 all_nil)) ?_;rintro ds st d e st' ⟨k,p,a,hj,hk,ha,rfl,h⟩;simp only[AA]at h;obtain⟨rfl,rfl,rfl⟩:=h;have E:=KX hk;have ce:=Xd (st:=Du st k (C6 {p with x:={p.x with ph:=3}})) (k:=k) (p:={p with x:={p.x with ph:=3}}) hj (Pg E _) ha;unfold Ge at hk;unfold jJ;simp (disch:=first|omega|decide) only[push_cast,↓reduceIte,Cz,Io,NB,Q9,Dy,hk,Tj,Ik,ce,KY,Ad,and_true]
theorem lU(hj:p.j=Di p.x.jn)(hk:Ge st k p)(hn:LI p):Eu NR [.ptr k 0] st=some (.tup [],Du st k (C6 {p with x:=Q9 p.x p.now})):=by
 have:=Qt (F:=NB) (pre:=fun p _=>LI p) LX (a:=()) hj hk hn rfl;rw[show(NB p ()).2.2=[]from rfl,Ad]at this;exact this
theorem Gh(st:St)(c:List Ins):DO st (Gw c)=some (Gw c):=Ph st (d:=Gw c) (by simp[Gw,IF,Eo,Kq])
theorem Jj(c:List Ins):keys (Gw c)=[]:=rfl
theorem HQ:((380:Int)=0)=False:=by simp
theorem fZ:((381:Int)=0)=False:=by simp
theorem Uv:((1:Int)=0)=False:=by simp
theorem n2e:((2:Int)=0)=False:=by simp
theorem Rx:((40:Int)=0)=False:=by simp
theorem NH:((390:Int)=0)=False:=by simp
def Fj(p:Int×Dig):List D:=.int .i64 p.1::CY p.2
def Q6(c:List Ins)(v:Int×List Int)(x:Cse):St:=⟨false,1,EF (Ia x.b) (Ib x.b),false⟩::(if Lm x.b=true∧KK x.b=0 then [⟨false,1,Fj (G8 (Ia x.b,Ib x.b) (GO c v)),false⟩]else [])
def Mc(p:Ply)(_:Unit):Cse×Int×St:=((Jq p.c p.v p.x p.now).1,(Jq p.c p.v p.x p.now).2,Q6 p.c p.v p.x)
def Kd(p:Ply)(_:Unit):Prop:=p.c.length≤4294967296∧LI p
abbrev JM:=Jo Io Kd Mc
noncomputable abbrev iB:Tbl:=LH [(88,R7),(14,WD)] [(123,Eu LJ),(79,Eu Lh),(121,Eu NR)] [(123,F8 LJ)]
theorem Wy:CK 119 JM:=by
 refine J5 (T:=iB) uX (MW (all_cons cG (all_cons Yih all_nil)) (all_cons Qk.1 (all_cons YV.1 (all_cons tU.1 all_nil))) (all_cons Qk.2 all_nil)) ?_;rintro ds st d e st' ⟨k,p,a,hj,hk,⟨hc,hn⟩,rfl,h⟩;simp only[AA]at h;obtain⟨rfl,rfl,rfl⟩:=h;have N:=KX hk;have hs:Du st k (C6 {p with x:=p.x})=st:=Od hk;have E:=WK p.x.b;have V:WD [Gw p.c,Ev p.v,.agg (EF (Ia p.x.b) (Ib p.x.b))]=some (.tup [D1 (G8 (Ia p.x.b,Ib p.x.b) (GO p.c p.v)),.int .i64 (GO p.c p.v).2]):=yNm p.c p.v (Ia p.x.b,Ib p.x.b) ⟨by omega,p.hv⟩;have ab:=(bp (Ia p.x.b,Ib p.x.b) (GO p.c p.v)).2;have cr:∀ l,_:=fun l=>Se (st:=st++l) hj (IZ hk l) ab;have cs:∀ l,_:=fun l=>lU (st:=st++l) hj (IZ hk l) hn;have O:∀ l:St,(st++l)[k]?=some ⟨false,1,C6 p,false⟩:=fun l=>IZ hk l;have J:st[k]?=some ⟨false,1,C6 p,false⟩:=hk;unfold j5 Io Mc Jq Q6
 by_cases I:Lm p.x.b=true
 ·by_cases Y:KK p.x.b=0
  ·by_cases M:(GO p.c p.v).2=0
   ·have g2:=eq_true Y;have g3:=eq_true M;rw[I]at E;rw[M]at V;simp (disch:=first|omega|decide) only[push_cast,↓reduceIte,Cz,Dy,J,O,Gh,Jj,Ez,FE,Is,Hk,D1,Fj,Ag,Ae,Ai,Ad,Ab,Ak,Ap,Am,DL,DM,EL,EM,HC N,and_self,decide_true,Hy,FZ,Gd,E,V,cr,I,g2,M]
   ·have g2:=eq_true Y;rw[I]at E;simp (disch:=first|omega|decide) only[push_cast,↓reduceIte,Cz,Dy,J,O,Gh,Jj,Ez,FE,Is,Ix,MJ,hs,D1,Fj,Ag,Ae,Ai,Ad,Ab,Ak,Ap,Am,DL,DM,EL,EM,and_self,not_false_eq_true,decide_true,Hy,FZ,Gd,E,V,I,g2,M]
  ·rw[I]at E;simp (disch:=first|omega|decide) only[push_cast,↓reduceIte,Cz,Dy,J,Am,EL,EM,HC N,and_self,and_false,decide_false,Hy,E,cs,I,Y]
 ·have U:Lm p.x.b=false:=by simpa using I
  rw[U]at E;simp (disch:=first|omega|decide) only[push_cast,↓reduceIte,Cz,Dy,J,hs,Am,EL,EM,and_self,false_and,Hy,E,U,Al]
section
variable {st:St} {k:Nat} {p:Ply} (hj:p.j=Di p.x.jn) (hk:Ge st k p) (hc:p.c.length≤4294967296) (hn:LI p)
include hj hk hc hn
theorem lT(h:(Jq p.c p.v p.x p.now).2=0):Eu JM [.ptr k 0] st=some (.tup [],Du st k (C6 {p with x:=(Jq p.c p.v p.x p.now).1})++Q6 p.c p.v p.x):=
 Qt (F:=Mc) (pre:=Kd) LX (a:=()) hj hk ⟨hc,hn⟩ h
theorem nL(h:(Jq p.c p.v p.x p.now).2≠0):Eu JM [.ptr k 0] st=none:=Ym8 (F:=Mc) (pre:=Kd) LX (a:=()) hj hk ⟨hc,hn⟩ h
theorem nM(h:(Jq p.c p.v p.x p.now).2≠0):F8 JM [.ptr k 0] st=some (125,.int .i64 (Jq p.c p.v p.x p.now).2,Du st k (C6 {p with x:=(Jq p.c p.v p.x p.now).1})++Q6 p.c p.v p.x):=
 Ytx (F:=Mc) (pre:=Kd) LX (a:=()) hj hk ⟨hc,hn⟩ h
end
def PN(p:Ply)(_:Unit):Cse×Int×St:=((PL p.x p.m).1,(PL p.x p.m).2,[])
abbrev Qb:=Jo Io (fun _ _=>True) PN
theorem qS:CK 69 Qb:=by
 refine J5 (T:=tW) vj (MW all_nil (all_cons Ji.1 all_nil) (all_cons Ji.2 all_nil)) ?_;rintro ds st d e st' ⟨k,p,a,hj,hk,_,rfl,h⟩;simp only[AA]at h;obtain⟨rfl,rfl,rfl⟩:=h;have I:=KX hk;have M:Du st k (C6 {p with x:=p.x})=st:=Od hk;have N:∀ l:St,(st++l)[k]?=some ⟨false,1,C6 p,false⟩:=fun l=>IZ hk l;have E:st[k]?=some ⟨false,1,C6 p,false⟩:=hk;unfold ka Io PN PL
 by_cases J:p.m.pt=0
 ·have g1:=eq_true J;simp (disch:=first|omega|decide) only[push_cast,↓reduceIte,Cz,CA,Dy,E,Dt,Ik,Ad,Am,CA,and_self,decide_true,Et,g1,Tj,sV,LW I,KY]
 ·simp (disch:=first|omega|decide) only[push_cast,↓reduceIte,CA,Dy,E,D5,D4,M,Ad,Am,CA,and_self,not_false_eq_true,decide_false,HQ,Et,J]
def P5(p:Ply)(_:Unit):Cse×Int×St:=((Ot p.x p.m).1,(Ot p.x p.m).2,[])
abbrev Qe:=Jo Io (fun _ _=>True) P5
theorem pD:CK 70 Qe:=by
 refine J5 (T:=LH [] [(73,Eu HJ),(79,Eu Lh),(125,Eu Mp)] [(73,F8 HJ)]) u9 (MW all_nil (all_cons Ji.1 (all_cons YV.1 (all_cons dQ.1 all_nil))) (all_cons Ji.2 all_nil)) ?_;rintro ds st d e st' ⟨k,p,a,hj,hk,_,rfl,h⟩;simp only[AA]at h;obtain⟨rfl,rfl,rfl⟩:=h;have O:=KX hk;have M:Du st k (C6 {p with x:=p.x})=st:=Od hk;have U:∀ l:St,(st++l)[k]?=some ⟨false,1,C6 p,false⟩:=fun l=>IZ hk l;have E:st[k]?=some ⟨false,1,C6 p,false⟩:=hk;have c1:=Se hj hk (a:=0) (by omega);have N:=ar hj hk 1 p.x.ct;unfold j6 Io P5 Ot
 by_cases I:p.m.pt=1
 ·have g1:=eq_true I;simp (disch:=first|omega|decide) only[push_cast,↓reduceIte,Cz,CA,Dy,E,Ad,Am,CA,and_self,decide_true,Et,g1,c1]
 ·by_cases J:0≤p.x.ct
  ·simp (disch:=first|omega|decide) only[push_cast,↓reduceIte,Cz,CA,Dy,E,Dt,Ad,Am,CA,and_self,decide_true,decide_false,Et,Rd,I,J,N]
  ·simp (disch:=first|omega|decide) only[push_cast,↓reduceIte,Cz,CA,Dy,E,D5,D4,M,Ad,Am,CA,and_self,not_false_eq_true,decide_false,HQ,Et,Rd,I,J]
def P4(p:Ply)(_:Unit):Cse×Int×St:=((Ou p.x p.m p.now).1,(Ou p.x p.m p.now).2,[])
abbrev Qd:=Jo Io (fun p _=>LI p) P4
theorem pE:CK 71 Qd:=by
 refine J5 (T:=LH [(64,Sm)] [(73,Eu HJ),(118,Eu JN)] [(73,F8 HJ)]) vb (MW (all_cons dN all_nil) (all_cons Ji.1 (all_cons Wx.1 all_nil)) (all_cons Ji.2 all_nil)) ?_;rintro ds st d e st' ⟨k,p,a,hj,hk,hn,rfl,h⟩;simp only[AA]at h;obtain⟨rfl,rfl,rfl⟩:=h;have U:=KX hk;have I:Du st k (C6 {p with x:=p.x})=st:=Od hk;have aa:∀ l:St,(st++l)[k]?=some ⟨false,1,C6 p,false⟩:=fun l=>IZ hk l;have E:st[k]?=some ⟨false,1,C6 p,false⟩:=hk;have J:=bn p.m.am;have ce:=Xd (st:=Du st k (C6 {p with x:={p.x with ct:=p.m.am}})) (k:=k) (p:={p with x:={p.x with ct:=p.m.am}}) hj (Pg U _) hn;unfold j7 Io P4 Ou
 by_cases V:p.m.pt=1
 ·have g1:=eq_true V
  by_cases Y:p.x.ph=1
  ·have g2:=eq_true Y
   by_cases M:p.x.ct<0
   ·by_cases O:0≤p.m.am
    ·by_cases N:Il p.m.am
     ·simp only[N,decide_true]at J;simp (disch:=first|omega|decide) only[push_cast,↓reduceIte,Cz,CA,Dy,E,Dt,Ik,Ad,Am,CA,and_self,decide_true,Et,HA,Rd,Mu,g1,g2,M,O,N,J,Ysj,ce,KY]
     ·simp only[N,decide_false]at J;simp (disch:=first|omega|decide) only[push_cast,↓reduceIte,Cz,CA,Dy,E,Dt,D5,D4,I,Ad,Am,CA,and_self,and_false,not_false_eq_true,decide_true,Uv,Et,HA,Rd,Mu,g1,g2,M,O,N,J]
    ·simp (disch:=first|omega|decide) only[push_cast,↓reduceIte,Cz,CA,Dy,E,Dt,D5,D4,I,Ad,Am,CA,and_self,false_and,not_false_eq_true,decide_true,decide_false,Uv,Et,HA,Rd,Mu,g1,g2,M,O]
   ·simp (disch:=first|omega|decide) only[push_cast,↓reduceIte,Cz,CA,Dy,E,D5,D4,I,Ad,Am,CA,and_self,and_false,not_false_eq_true,decide_true,decide_false,HQ,Et,HA,Rd,g1,g2,M]
  ·simp (disch:=first|omega|decide) only[push_cast,↓reduceIte,Cz,CA,Dy,E,D5,D4,I,Ad,Am,CA,and_self,and_false,false_and,not_false_eq_true,decide_true,decide_false,HQ,Et,HA,g1,Y]
 ·simp (disch:=first|omega|decide) only[push_cast,↓reduceIte,Cz,CA,Dy,E,D5,D4,I,Ad,Am,CA,and_self,false_and,not_false_eq_true,decide_false,HQ,Et,V]
def H8(x:Cse)(m:Mv):Cse:={x with a1:=m.am,c1:=m.cm}
def Hs(x:Cse)(m:Mv)(now:Int):Cse:={x with a1:=m.am,c1:=m.cm,b:=Ku x.c0 m.cm,ph:=2,dl:=now+1440}
def rE(c:List Ins)(v:Int×List Int)(x:Cse)(m:Mv)(now:Int):St:=
 if m.pt=1∧x.ph=1 then
  if Il m.am then⟨false,1,Da (Ku x.c0 m.cm),false⟩::(if G9 x.c0 m.cm=0 then Q6 c v (Hs x m now)else [])
  else []
 else []
def P9(p:Ply)(_:Unit):Cse×Int×St:=((L5 p.c p.v p.x p.m p.now).1,(L5 p.c p.v p.x p.m p.now).2,rE p.c p.v p.x p.m p.now)
abbrev Qg:=Jo Io Kd P9
theorem sK(st:St)(c:List Ins):Es st false (Gw c)=some (.int .i64 (c.length:Int)):=by
 simp[Es,Ip,Gw,ED]
noncomputable abbrev iF:Tbl:=LH [(64,Sm),(26,Oe)]
 [(73,Eu HJ),(118,Eu JN),(119,Eu JM),(79,Eu Lh),(120,Eu NT),(121,Eu NR)]
 [(73,F8 HJ),(119,F8 JM)]
theorem nS:CK 66 Qg:=by
 refine J5 (T:=iF) uV (MW (all_cons dN (all_cons dO all_nil)) (all_cons Ji.1 (all_cons Wx.1 (all_cons Wy.1 (all_cons YV.1 (all_cons lV.1 (all_cons tU.1 all_nil)))))) (all_cons Ji.2 (all_cons Wy.2 all_nil))) ?_;rintro ds st d e st' ⟨k,p,a,hj,hk,⟨hc,hn⟩,rfl,h⟩;simp only[AA]at h;obtain⟨rfl,rfl,rfl⟩:=h;have E:=KX hk;have hs:Du st k (C6 {p with x:=p.x})=st:=Od hk;have a8:∀ l:St,(st++l)[k]?=some ⟨false,1,C6 p,false⟩:=fun l=>IZ hk l;have I:st[k]?=some ⟨false,1,C6 p,false⟩:=hk;have M:=bn p.m.am;have U:Oe [.agg (.int .i64 p.x.c0.1::CY p.x.c0.2),.agg (.int .i64 p.m.cm.1::CY p.m.cm.2)]=some (.tup [DI (Ku p.x.c0 p.m.cm),.int .i64 (G9 p.x.c0 p.m.cm)]):=bo p.x.c0 p.m.cm;have Y:=fun C=>LW E C;have O:=fun C m=>O5 E C m;unfold j3 Io P9 L5 rE
 by_cases h1:p.m.pt=1
 ·have g1:=eq_true h1
  by_cases h2:p.x.ph=1
  ·have g2:=eq_true h2
   by_cases N:Il p.m.am
   ·simp only[N,decide_true]at M
    -- a2 case with a2 answer
    have aa:∀ l,Ge (Du st k (C6 {p with x:=H8 p.x p.m})++l) k {p with x:=H8 p.x p.m}:=fun l=>IZ (Pg E _) l
    by_cases V:G9 p.x.c0 p.m.cm=1
    ·rw[V]at U;have n0:¬ (1:Int)=0:=by decide
     simp (disch:=first|omega|decide) only[push_cast,↓EH,↓reduceIte,Cz,CA,CD,Dy,I,Dt,D5,D4,Ik,Ae,Ai,Am,CA,EL,EM,and_self,not_false_eq_true,decide_true,fZ,Et,HA,Mu,Re,FI,FJ,g1,g2,N,V,M,U,Rp,Rq,Y,KY,Ep,n0]
    ·by_cases h7:G9 p.x.c0 p.m.cm=0
     ·have g7:=eq_true h7
      have ce:∀ l:St,Eu JN [.ptr k 0] (Du st k (C6 {p with x:={H8 p.x p.m with b:=Ku p.x.c0 p.m.cm,ph:=2}})++l)=some (.tup [],Du (Du st k (C6 {p with x:={H8 p.x p.m with b:=Ku p.x.c0 p.m.cm,ph:=2}})++l) k (C6 {p with x:=Hs p.x p.m p.now})):=
       fun l=>Xd (p:={p with x:={H8 p.x p.m with b:=Ku p.x.c0 p.m.cm,ph:=2}}) hj (IZ (Pg E _) l) hn
      have ab:∀ l,Ge (Du st k (C6 {p with x:=Hs p.x p.m p.now})++l) k {p with x:=Hs p.x p.m p.now}:=fun l=>IZ (Pg E _) l
      by_cases J:(Jq p.c p.v (Hs p.x p.m p.now) p.now).2=0
      ·have cs:=fun l=>lT (p:={p with x:=Hs p.x p.m p.now}) hj (ab l) hc hn J;have g8:=eq_true J;simp only[H8,Hs]at ce cs J g8;simp (disch:=first|omega|decide) only[push_cast,↓EH,↓reduceIte,Cz,CA,CD,Dy,I,Dt,Ik,Ag,Ae,Ai,Am,CA,EL,EM,and_self,decide_true,decide_false,Et,HA,Mu,Re,FI,FJ,g1,g2,N,V,g7,M,U,Rp,Rq,SZ,Tj,Y,O,KY,ME E,Ep,ce,cs,J,Hs]
      ·have cs:=fun l=>nL (p:={p with x:=Hs p.x p.m p.now}) hj (ab l) hc hn J;have cx:=fun l=>nM (p:={p with x:=Hs p.x p.m p.now}) hj (ab l) hc hn J;simp only[H8,Hs]at ce cs cx J;simp (disch:=first|omega|decide) only[push_cast,↓EH,↓reduceIte,Cz,CA,CD,Dy,I,Dt,Ik,Ag,Ae,Ai,Am,CA,EL,EM,and_self,not_false_eq_true,decide_true,decide_false,Et,HA,Mu,Re,FI,FJ,g1,g2,N,V,g7,M,U,Rp,Rq,SZ,Tj,Y,O,KY,ME E,Ep,ce,cs,cx,J,Hs]
     ·have cr:=fun l=>Se (p:={p with x:=H8 p.x p.m}) hj (aa l) (a:=1) (by omega);have cj:=fun l=>au (p:={p with x:=H8 p.x p.m}) hj (aa l) 0;have ct:=fun l=>lU (p:={p with x:=H8 p.x p.m}) hj (aa l) hn;simp only[H8]at cr cj ct
      by_cases J:p.x.a0=p.m.am
      ·have g8:=eq_true J;simp (disch:=first|omega|decide) only[push_cast,↓EH,↓reduceIte,Cz,CA,CD,Dy,I,Dt,Ik,Ae,Ai,Am,CA,EL,EM,and_self,decide_true,decide_false,Et,HA,Mu,Re,FI,FJ,YC,YD,g1,g2,N,V,h7,M,U,Rp,Rq,Y,O,KY,ME E,Ep,cr,g8]
      ·by_cases h9:p.c.length=0
       ·have g9:((p.c.length:Int)=0)=True:=by simp[h9]
        simp (disch:=first|omega|decide) only[push_cast,↓EH,↓reduceIte,Cz,CA,CD,Dy,I,Dt,Ik,Ae,Ai,Am,CA,EL,EM,and_self,decide_true,decide_false,Et,HA,Mu,Re,FI,FJ,YC,YD,FZ,sK,g1,g2,N,V,h7,M,U,Rp,Rq,Y,O,KY,ME E,Ep,cj,J,h9]
       ·have g9:((p.c.length:Int)=0)=False:=by simp; simpa using h9
        simp (disch:=first|omega|decide) only[push_cast,↓EH,↓reduceIte,Cz,CA,CD,Dy,I,Dt,Ik,Ae,Ai,Am,CA,EL,EM,and_self,decide_true,decide_false,Et,HA,Mu,Re,FI,FJ,YC,YD,FZ,sK,g1,g2,N,V,h7,M,U,Rp,Rq,Y,O,KY,ME E,Ep,ct,J,g9,h9]
   ·simp only[N,decide_false]at M;simp (disch:=first|omega|decide) only[push_cast,↓reduceIte,Cz,CA,Dy,I,Dt,D5,D4,hs,Ad,Am,CA,and_self,not_false_eq_true,decide_true,Uv,Et,HA,Mu,g1,g2,N,M]
  ·simp (disch:=first|omega|decide) only[push_cast,↓reduceIte,Cz,CA,Dy,I,D5,D4,hs,Ad,Am,CA,and_self,and_false,not_false_eq_true,decide_true,decide_false,HQ,Et,HA,g1,h2]
 ·simp (disch:=first|omega|decide) only[push_cast,↓reduceIte,Cz,CA,Dy,I,D5,D4,hs,Ad,Am,CA,and_self,false_and,not_false_eq_true,decide_false,HQ,Et,h1]
def Mm(x:Cse)(m:Mv):Cse:={x with b:=FB x.b m.pt m.lf m.rt}
def Hp(x:Cse)(m:Mv)(now:Int):Cse:={x with b:=FB x.b m.pt m.lf m.rt,dl:=now+1440}
def rG(c:List Ins)(v:Int×List Int)(x:Cse)(m:Mv)(now:Int):St:=
 if x.ph=2 then⟨false,1,Da (FB x.b m.pt m.lf m.rt),false⟩::(if Fz x.b m.pt m.lf m.rt=0 then(if(FB x.b m.pt m.lf m.rt).r=x.b.r then []else Q6 c v (Hp x m now))else [])else []
def P3(p:Ply)(_:Unit):Cse×Int×St:=((Ow p.c p.v p.x p.m p.now).1,(Ow p.c p.v p.x p.m p.now).2,rG p.c p.v p.x p.m p.now)
def Vm(p:Ply)(u:Unit):Prop:=Kd p u∧(p.m.pt=0∨p.m.pt=1)
abbrev Qc:=Jo Io Vm P3
noncomputable abbrev iC:Tbl:=LH [(122,fm)]
 [(73,Eu HJ),(123,Eu LJ),(118,Eu JN),(119,Eu JM)]
 [(73,F8 HJ),(123,F8 LJ),(119,F8 JM)]
theorem qR:CK 67 Qc:=by
 refine J5 (T:=iC) vg (MW (all_cons Yqf all_nil) (all_cons Ji.1 (all_cons Qk.1 (all_cons Wx.1 (all_cons Wy.1 all_nil)))) (all_cons Ji.2 (all_cons Qk.2 (all_cons Wy.2 all_nil)))) ?_;rintro ds st d e st' ⟨k,p,a,hj,hk,⟨⟨hc,hn⟩,hp⟩,rfl,h⟩;simp only[AA]at h;obtain⟨rfl,rfl,rfl⟩:=h;have E:=KX hk;have Y:Du st k (C6 {p with x:=p.x})=st:=Od hk;have N:∀ l:St,(st++l)[k]?=some ⟨false,1,C6 p,false⟩:=fun l=>IZ hk l;have I:st[k]?=some ⟨false,1,C6 p,false⟩:=hk;have O:=yL p.x.b p.m.pt p.m.lf p.m.rt (by omega);have hz:=fun C=>LW E C;have ae:=fun C m=>O5 E C m;unfold km Io P3 Ow rG
 by_cases h1:p.x.ph=2
 ·have g1:=eq_true h1
  by_cases M:Fz p.x.b p.m.pt p.m.lf p.m.rt=0
  ·have g2:=eq_true M;rw[M]at O
   by_cases V:(FB p.x.b p.m.pt p.m.lf p.m.rt).r=p.x.b.r
   ·have g3:=eq_true V;simp (disch:=first|omega|decide) only[push_cast,↓reduceIte,Cz,CA,Dy,I,N,Hk,Dt,Ik,Am,CA,EL,EM,HC E,and_self,decide_true,HA,Hy,Et,YE,YF,bX,g1,g3,M,O,SZ]
   ·have ce:∀ l:St,Eu JN [.ptr k 0] (Du st k (C6 {p with x:=Mm p.x p.m})++l)=some (.tup [],Du (Du st k (C6 {p with x:=Mm p.x p.m})++l) k (C6 {p with x:=Hp p.x p.m p.now})):=
     fun l=>Xd (p:={p with x:=Mm p.x p.m}) hj (IZ (Pg E _) l) hn
    have U:∀ l,Ge (Du st k (C6 {p with x:=Hp p.x p.m p.now})++l) k {p with x:=Hp p.x p.m p.now}:=fun l=>IZ (Pg E _) l
    by_cases J:(Jq p.c p.v (Hp p.x p.m p.now) p.now).2=0
    ·have cs:=fun l=>lT (p:={p with x:=Hp p.x p.m p.now}) hj (U l) hc hn J;have g8:=eq_true J;simp only[Mm,Hp]at ce cs J g8;simp (disch:=first|omega|decide) only[push_cast,↓reduceIte,Cz,CA,Dy,I,N,Hk,Dt,Ik,Ag,Ae,Ai,Am,CA,EL,EM,HC E,and_self,decide_true,decide_false,HA,Hy,Et,YE,YF,bX,g1,V,M,O,SZ,ME E,ce,cs,J,Hp]
    ·have cs:=fun l=>nL (p:={p with x:=Hp p.x p.m p.now}) hj (U l) hc hn J;have cx:=fun l=>nM (p:={p with x:=Hp p.x p.m p.now}) hj (U l) hc hn J;simp only[Mm,Hp]at ce cs cx J;simp (disch:=first|omega|decide) only[push_cast,↓reduceIte,Cz,CA,Dy,I,N,Hk,Dt,Ik,Ag,Ae,Ai,Am,CA,EL,EM,HC E,and_self,not_false_eq_true,decide_true,decide_false,HA,Hy,Et,YE,YF,bX,g1,V,M,O,SZ,ME E,ce,cs,cx,J,Hp]
  ·simp (disch:=first|omega|decide) only[push_cast,↓reduceIte,Cz,CA,Dy,I,Ix,MJ,Dt,Y,Am,CA,EL,EM,and_self,not_false_eq_true,decide_true,HA,Hy,Et,YE,YF,g1,M,O]
 ·simp (disch:=first|omega|decide) only[push_cast,↓reduceIte,Dy,I,D5,D4,Y,Ad,Am,and_self,not_false_eq_true,decide_false,HQ,HA,h1]
noncomputable def Rf:List D→Option ((Nat→D)×(Nat→List PI.Obj)):=fun ds=>@dite _ (∃ l:List Ky,l.length≤4294900000∧ds=[Di l]) (Classical.propDecidable _)
 (fun h=>some (if h.choose=[]then(fun _=>.slc 0 [] true,fun _=>[])else(fun n=>.row n h.choose.length 0 h.choose.length,fun _=>[⟨true,5,h.choose.map DH,false⟩]))) (fun _=>none)
theorem nR(l:List Ky)(h:l.length≤4294900000):Rf [Di l]=some (if l=[]then(fun _=>.slc 0 [] true,fun _=>[])else(fun n=>.row n l.length 0 l.length,fun _=>[⟨true,5,l.map DH,false⟩])):=by
 have E:∃ q:List Ky,q.length≤4294900000∧[Di l]=[Di q]:=⟨l,h,rfl⟩;unfold Rf;rw[dif_pos E];have I:=E.choose_spec.2;generalize E.choose=q at*;simp only[Aa,and_true,Wh]at I;subst I;rfl
theorem Yvx:IContract Tryz.prog GG 127 (fun ds st=>(Rf ds).map fun r=>(r.1 st.length,st++r.2 st.length)):=
 ta.or ta fun ds st r h=>.inl (by
  simp only[BH]at h;obtain⟨r0,E,rfl⟩:=h
  have I:∃ l:List Ky,l.length≤4294900000∧ds=[Di l]:=by
   unfold Rf at E
   split at E
   ·assumption
   ·cases E
  obtain⟨l,hl,rfl⟩:=I;rw[nR l hl]at E;rw[Yic l st hl];simp only[AN]at E;subst E
  split <;> simp)
noncomputable def Lg:Tbl:={p:=DZ [(126,YN)],i:=DZ [(73,Eu HJ)],m:=DZ [(127,Rf)],x:=DZ [(73,F8 HJ)]}
theorem TU(n:Nat):Lg.p n=DZ [(126,YN)] n:=(rfl)
theorem TW(n:Nat):Lg.i n=DZ [(73,Eu HJ)] n:=(rfl)
theorem TV(n:Nat):Lg.m n=DZ [(127,Rf)] n:=(rfl)
theorem TT(n:Nat):Lg.x n=DZ [(73,F8 HJ)] n:=(rfl)
attribute [push_cast] TU TW TV TT
theorem Yse:TblOK Tryz.prog GG Lg:=
 ⟨fun _ _ E=>.inl (by
   have:=JU E;simp only[AM,AA]at this;obtain⟨rfl,rfl⟩:=this;exact⟨by decide,Vu⟩),fun _ _ E=>(by
   have:=JU E;simp only[AM,AA]at this;obtain⟨rfl,rfl⟩:=this;exact Ji.1),fun _ _ E=>(by
   have:=JU E;simp only[AM,AA]at this;obtain⟨rfl,rfl⟩:=this;exact Yvx),fun _ _ E=>(by cases E),fun _ _ E=>(by
   have:=JU E;simp only[AM,AA]at this;obtain⟨rfl,rfl⟩:=this;exact Ji.2),fun _ _ E=>(by cases E)⟩
def I3(ds:List D)(st:St)(r:D×Int×St):Prop:=∃ (k:Nat) (p:Ply),p.j=Di p.x.jn∧Ge st k p∧ds=[.ptr k 0]∧
 r=if(HH p.x p.m).2=0 then(.tup [],0,Du st k (C6 {p with j:=.row st.length (p.x.jn.length+1) 0 (p.x.jn.length+1)})++[⟨true,5,(p.x.jn++[p.m.key]).map DH,false⟩])else(.tup [],(HH p.x p.m).2,st)
theorem cZ:ID I3:=by
 rintro ds st r J ⟨k,p,hj,hk,rfl,rfl⟩ ⟨k',p',I,E,h,rfl⟩;simp only[Aa,D.ptr.injEq,and_true]at h;obtain rfl:=h;unfold Ge at hk E;rw[hk]at E;simp only[AN,PI.Obj.mk.injEq,true_and,and_true]at E;obtain rfl:=mR E hj I;rfl
theorem sL(k:Ky):E4 5 [DH k]=some (.slc 5 [DH k] true):=rfl
theorem Yqu(st:St)(k:Ky):D8 st 5 40 (.slc 0 [] true) (.slc 5 [DH k] true)=some (.row st.length 1 0 1,st++[⟨true,5,[DH k],false⟩]):=by
 simp[D8,Gy]
theorem Yqt(st:St)(l:List Ky)(k:Ky)(h:l.length≤100):D8 (st++[⟨true,5,l.map DH,false⟩]) 5 40 (.row st.length l.length 0 l.length) (.slc 5 [DH k] true)=some (.row st.length (l.length+1) 0 (l.length+1),st++[⟨true,5,(l++[k]).map DH,false⟩]):=by
 have E:(l.length+1)*40≤140737488355328:=by omega
 have I:l.length+1≤4294967296:=by omega
 simp[D8,Gy,E,I]
theorem tR:CK 72 I3:=by
 refine J5 (T:=Lg) uT Yse ?_;rintro ds st d e st' ⟨k,p,hj,hk,rfl,h⟩;have I:=KX hk;have hs:Du st k (C6 {p with x:=p.x})=st:=Od hk;have ac:∀ l:St,(st++l)[k]?=some ⟨false,1,C6 p,false⟩:=fun l=>IZ hk l;have E:st[k]?=some ⟨false,1,C6 p,false⟩:=hk;have U:∀ st:St,Es st false (Di p.x.jn)=some (.int .i64 (p.x.jn.length:Int)):=fun st=>by simp[Es,Ip,ED]
 have hz:=fun C=>LW I C;unfold jZ
 by_cases J:p.m.pt=0
 ·have g1:=eq_true J
  by_cases M:p.x.ph=1
  ·have g2:=eq_true M
   by_cases Y:p.x.jn.length<8
   ·have N:((p.x.jn.length:Int)<8)=True:=eq_true (by omega);have V:=Yia p.x.jn p.m.key (by omega)
    by_cases O:p.m.key=p.x.key
    ·have g4:=eq_true O;have e:HH p.x p.m=(p.x,1):=by unfold HH; rw[if_pos ⟨J,M⟩,if_pos Y,if_neg (by simp[O])]
     rw[e,if_neg (by simp)]at h;simp only[AA]at h;obtain⟨rfl,rfl,rfl⟩:=h;simp (disch:=first|omega|decide) only[push_cast,↓reduceIte,Cz,CA,Dy,E,Dt,D5,D4,Am,CA,and_self,not_false_eq_true,decide_true,Uv,Et,HA,SN,hj,U,Y4,Y3,Jd,g1,g2,N,g4]
    ·by_cases h5:p.m.key∈p.x.jn
     ·have e:HH p.x p.m=(p.x,1):=by unfold HH; rw[if_pos ⟨J,M⟩,if_pos Y,if_neg (by simp[h5])]
      rw[e,if_neg (by simp)]at h;simp only[AA]at h;obtain⟨rfl,rfl,rfl⟩:=h;simp only[h5,decide_true]at V;simp (disch:=first|omega|decide) only[push_cast,↓reduceIte,Cz,CA,Dy,E,Dt,D5,D4,Am,CA,and_self,not_false_eq_true,decide_true,decide_false,Uv,Et,HA,SN,hj,U,Y4,Y3,Jd,Rm,g1,g2,N,O,V]
     ·have e:HH p.x p.m=({p.x with jn:=p.x.jn++[p.m.key]},0):=by unfold HH; rw[if_pos ⟨J,M⟩,if_pos Y,if_pos ⟨O,h5⟩]
      rw[e,if_pos rfl]at h;simp only[AA]at h;obtain⟨rfl,rfl,rfl⟩:=h;simp only[h5,decide_false]at V;have cm:=nR p.x.jn (by omega)
      by_cases h6:p.x.jn=[]
      ·rw[if_pos h6]at cm;have e1:(p.x.jn++[p.m.key]).map DH=[DH p.m.key]:=by rw[h6]; rfl
       have e2:p.x.jn.length+1=1:=by rw[h6]; rfl
       rw[e1,e2];simp (disch:=first|omega|decide) only[push_cast,↓EH,↓reduceIte,Cz,CA,Dy,E,ac,Dt,Ik,Ae,Ai,Ad,Am,CA,HC I,and_self,decide_true,decide_false,Et,HA,SN,hj,U,Y4,Y3,Jd,Rm,dj,g1,g2,N,O,V,cm,Yqu,sU,rO,sL,eq_true I]
      ·rw[if_neg h6]at cm;have a1:=Yqt st p.x.jn p.m.key (by omega);simp (disch:=first|omega|decide) only[push_cast,↓EH,↓reduceIte,Cz,CA,Dy,E,ac,Dt,Ik,Ae,Ai,Ad,Am,CA,HC I,and_self,decide_true,decide_false,Et,HA,SN,hj,U,Y4,Y3,Jd,Rm,dj,g1,g2,N,O,V,cm,a1,sU,rO,sL,eq_true I]
   ·have N:((p.x.jn.length:Int)<8)=False:=eq_false (by omega);have e:HH p.x p.m=(p.x,2):=by unfold HH; rw[if_pos ⟨J,M⟩,if_neg Y]
    rw[e,if_neg (by simp)]at h;simp only[AA]at h;obtain⟨rfl,rfl,rfl⟩:=h;simp (disch:=first|omega|decide) only[push_cast,↓reduceIte,Cz,CA,Dy,E,Dt,D5,D4,Am,CA,and_self,not_false_eq_true,decide_true,decide_false,n2e,Et,HA,SN,hj,U,g1,g2,N]
  ·have e:HH p.x p.m=(p.x,380):=by unfold HH; rw[if_neg (fun q=>M q.2)]
   rw[e,if_neg (by simp)]at h;simp only[AA]at h;obtain⟨rfl,rfl,rfl⟩:=h;simp (disch:=first|omega|decide) only[push_cast,↓reduceIte,Cz,CA,Dy,E,D5,D4,Am,CA,and_self,not_false_eq_true,decide_true,decide_false,HQ,Et,HA,g1,M]
 ·have e:HH p.x p.m=(p.x,380):=by unfold HH; rw[if_neg (fun q=>J q.1)]
  rw[e,if_neg (by simp)]at h;simp only[AA]at h;obtain⟨rfl,rfl,rfl⟩:=h;simp (disch:=first|omega|decide) only[push_cast,↓reduceIte,Cz,CA,Dy,E,D5,D4,Am,CA,and_self,not_false_eq_true,decide_false,HQ,Et,J]
theorem yNe(x:Bis):0≤KK x∧KK x<65536:=by
 unfold KK
 split
 ·rename_i h;unfold Lm at h;simp only[Af]at h;have hv:=h.1;have:=bk hv;have:=kJ hv;omega
 ·omega
theorem ao{a b:Int×Dig}(h:G9 a b≠1):(0≤a.1∧a.1≤65536∧0≤Ek a.1)∧(0≤b.1∧b.1≤65536∧0≤Ek b.1):=by
 unfold G9 at h
 have key:∀ n:Int,¬ Ek n<0→0≤n∧n≤65536∧0≤Ek n:=by
  intro n hn
  by_cases q:n<0∨65536<n
  ·rw[SB q]at hn; omega
  ·omega
 split at h
 ·exact absurd rfl h
 rename_i E
 split at h
 ·exact absurd rfl h
 rename_i I;exact⟨key _ E,key _ I⟩
theorem oB{x:Cse}{p:Int}(E:p=0∨p=1):0≤GS x p∧GS x p≤65536:=by
 unfold GS
 split
 ·rename_i h;obtain⟨I,J⟩:=ao (a:=x.c0) (b:=x.c1) (by rw[h]; decide);unfold IS
  split <;> omega
 split
 ·have:=yNe x.b; omega
 ·omega
noncomputable def eY:List D→Option D:=Dd (α:=Cse×Int) (fun a=>[De a.1,.int .i64 a.2]) (fun a=>True) (fun a=>.tup [.int .i64 (GZ a.1 a.2).1,.bool (GZ a.1 a.2).2])
theorem yM(x:Cse)(p:Int):eY [De x,.int .i64 p]=some (.tup [.int .i64 (GZ x p).1,.bool (GZ x p).2]):=
 DW (fun⟨a0,a1⟩ ⟨b0,b1⟩ h=>by simp only[Aa,D.int.injEq,true_and,and_true,Nb]at h; simp[h]) (x,p) trivial
set_option maxHeartbeats 4000000 in
set_option maxRecDepth 20000 in
theorem Yk2(x:Cse)(p:Int):@wW GG (tb [(26,Oe),(88,R7)] []) XS.code (C4 [De x,.int .i64 p]) [] ⟨Dg XS.res (.tup [.int .i64 (GZ x p).1,.bool (GZ x p).2])⟩:=by
 have M:Oe [.agg (.int .i64 x.c0.1::CY x.c0.2),.agg (.int .i64 x.c1.1::CY x.c1.2)]=some (.tup [DI (Ku x.c0 x.c1),.int .i64 (G9 x.c0 x.c1)]):=bo x.c0 x.c1;have cd:=WK x.b;unfold XS
 by_cases h1:x.ph=3
 ·have g1:=eq_true h1
  by_cases N:p=0∨p=1
  ·have hr:=oB (x:=x) N;have e:GZ x p=if GS x p=0 then(0,false)else(GS x p - 1,true):=if_pos ⟨h1,N⟩
   by_cases J:G9 x.c0 x.c1=380
   ·have U:GS x p=(IS x p).1:=if_pos J;rw[U]at e hr;have g3:=eq_true J;rcases N with rfl | rfl
    ·have ec:(IS x 0).1=x.c0.1:=rfl;rw[ec]at e hr
     by_cases E:x.c0.1=0
     ·have O:=eq_true E;rw[if_pos E]at e;rw[e];simp (disch:=first|omega|decide) only[push_cast,↓reduceIte,Cz,CA,CD,Em,EO,Ms,Mt,sH,M,g1,g3,O,Ep]
     ·rw[if_neg E]at e;rw[e];simp (disch:=first|omega|decide) only[push_cast,↓reduceIte,Cz,CA,CD,Em,EO,Ms,Mt,sH,M,g1,g3,E,Ep,Fh]
    ·have ec:(IS x 1).1=x.c1.1:=rfl;rw[ec]at e hr;have n1:((1:Int)=0)=False:=by simp
     by_cases E:x.c1.1=0
     ·have O:=eq_true E;rw[if_pos E]at e;rw[e];simp (disch:=first|omega|decide) only[push_cast,↓reduceIte,Cz,CA,CD,Em,EO,Ms,Mt,sI,M,g1,g3,O,Ep,n1]
     ·rw[if_neg E]at e;rw[e];simp (disch:=first|omega|decide) only[push_cast,↓reduceIte,Cz,CA,CD,Em,EO,Ms,Mt,sI,M,g1,g3,E,Ep,Fh,n1]
   ·by_cases V:G9 x.c0 x.c1=0
    ·have U:GS x p=KK x.b:=by unfold GS; rw[if_neg J,if_pos V]
     rw[U]at e hr;have g5:=eq_true V
     have I:((p=0)=True)∨(((p=0)=False)∧((p=1)=True)):=by
      rcases N with h | h
      ·exact .inl (eq_true h)
      ·exact .inr ⟨eq_false (by omega),eq_true h⟩
     by_cases E:KK x.b=0
     ·have O:=eq_true E;rw[if_pos E]at e;rw[e];rcases I with I | ⟨I,Y⟩
      ·simp (disch:=first|omega|decide) only[push_cast,↓reduceIte,Cz,CA,CD,Em,EO,Ms,Mt,OC,M,cd,g1,J,g5,O,I,Ep]
      ·simp (disch:=first|omega|decide) only[push_cast,↓reduceIte,Cz,CA,CD,Em,EO,Ms,Mt,OC,M,cd,g1,J,g5,O,I,Y,Ep]
     ·rw[if_neg E]at e;rw[e];rcases I with I | ⟨I,Y⟩
      ·simp (disch:=first|omega|decide) only[push_cast,↓reduceIte,Cz,CA,CD,Em,EO,Ms,Mt,OC,M,cd,g1,J,g5,E,I,Ep,Fh]
      ·simp (disch:=first|omega|decide) only[push_cast,↓reduceIte,Cz,CA,CD,Em,EO,Ms,Mt,OC,M,cd,g1,J,g5,E,I,Y,Ep,Fh]
    ·have U:GS x p=0:=by unfold GS; rw[if_neg J,if_neg V]
     rw[U,if_pos rfl]at e;rw[e]
     have I:((p=0)=True)∨(((p=0)=False)∧((p=1)=True)):=by
      rcases N with h | h
      ·exact .inl (eq_true h)
      ·exact .inr ⟨eq_false (by omega),eq_true h⟩
     rcases I with I | ⟨I,Y⟩
     ·simp (disch:=first|omega|decide) only[push_cast,↓reduceIte,Cz,CA,CD,Em,EO,Ms,Mt,M,g1,J,V,I,Ep]
     ·simp (disch:=first|omega|decide) only[push_cast,↓reduceIte,Cz,CA,CD,Em,EO,Ms,Mt,M,g1,J,V,I,Y,Ep]
  ·have J:¬ p=0:=fun h=>N (.inl h);have E:¬ p=1:=fun h=>N (.inr h);have e:GZ x p=(0,false):=if_neg (fun q=>N q.2);rw[e];simp (disch:=first|omega|decide) only[push_cast,↓reduceIte,Cz,Em,EO,g1,J,E]
 ·have e:GZ x p=(0,false):=if_neg (fun q=>h1 q.1);rw[e];simp (disch:=first|omega|decide) only[push_cast,↓reduceIte,Cz,Em,EO,h1]
theorem Yqb:Contract Tryz.prog GG 34 eY:=
 D9 ur (DB (all_cons dO (all_cons cG all_nil)) all_nil) (fun a h=>Yk2 a.1 a.2)
theorem pN{x:Cse}{p:Int}(h:(GZ x p).2=true):0≤(GZ x p).1∧(GZ x p).1<65536∧G9 x.c0 x.c1≠1:=by
 unfold GZ at h ⊢
 by_cases E:x.ph=3∧(p=0∨p=1)
 ·rw[if_pos E]at h ⊢;have J:=oB (x:=x) E.2
  by_cases I:GS x p=0
  ·rw[if_pos I]at h; cases h
  ·rw[if_neg I];refine⟨by dsimp only; omega,by dsimp only; omega,fun e=>I ?_⟩;unfold GS;rw[if_neg (by rw[e]; decide),if_neg (by rw[e]; decide)]
 ·rw[if_neg E]at h; cases h
theorem wu(hj:p.j=Di p.x.jn)(sz:Nat)(lent:Bool):Dq (some ⟨false,sz,C6 p,lent⟩) 279 true 0=some (De p.x):=by
 rw[eU,hj]; rfl
theorem sP{n:Int}(E:0≤n)(I:n≤16):Df .shl (.int .i64 1) (.int .i64 n)=some (.int .i64 (2 ^ n.toNat)):=by
 obtain⟨k,rfl⟩:=Bc E;have:∀ k:Fin 17,Le (k.val:Int)=2 ^ ((k.val:Int)).toNat:=by decide
 rw[S2 E,this ⟨k,by omega⟩]
theorem GD:KG=Ey 0 0 0 0 (.slc 0 [] true) 0 Dn:=rfl
variable {n:Nat}
theorem RV{key:Nat}(f:Nat→D)(E:∀ k,f k≠.junk)(h:IH f (EA n [] key)=f key)(σ:List Nat):IH f (EA n σ key)=f key:=by
 unfold EA at h ⊢
 by_cases hk:key<n
 ·rw[if_pos hk]; rfl
 ·rw[if_neg hk]at h;exact absurd h.symm (E key)
theorem mT(σ:List Nat){x:D}(h:F9 n [] x=x):F9 n σ x=x:=by
 cases x with
 |row key tot off len=>exact RV (fun k=>.row k tot off len) (fun k e=>by cases e) h σ
 |bsl key off j sz ag=>exact RV (fun k=>.bsl k off j sz ag) (fun k e=>by cases e) h σ
 |ptr key off=>exact RV (fun k=>.ptr k off) (fun k e=>by cases e) h σ
 |rptr key tot i off=>exact RV (fun k=>.rptr k tot i off) (fun k e=>by cases e) h σ
 |mapv key=>exact RV .mapv (fun k e=>by cases e) h σ
 |_=>exact h
theorem mV(σ:List Nat){x:D}(h:En n [] x=x):En n σ x=x:=by
 cases x with
 |clo f l=>
  simp only[En,D.clo.injEq,true_and]at h ⊢;exact LV fun y E=>mT σ (PB h y E)
 |_=>unfold En at h ⊢; exact mT σ h
theorem Ymh(σ:List Nat){x:D}(h:Ef n [] x=x):Ef n σ x=x:=by
 cases x with
 |agg l=>
  simp only[Ef,D.agg.injEq]at h ⊢;exact LV fun y E=>mV σ (PB h y E)
 |tup l=>unfold Ef at h ⊢; exact h
 |_=>unfold Ef at h ⊢; exact mV σ h
theorem Ymi(h:StOK st)(σ:List Nat):I1 st.length σ st=st:=by
 rw[Y6];refine LV fun o E=>?_;obtain⟨row,sz,els,lent⟩:=o
 cases row with
 |true=>rfl
 |false=>
  show(⟨false,sz,els.map (Ef st.length σ),lent⟩:PI.Obj)=_
  rw[LV fun x I=>?_];exact Ymh σ (h _ E rfl x I)
theorem GC(S l:St):(S++l).take S.length=S:=by simp
theorem Gk(S l:St)(k:Nat):(S++l).getD (S.length+k) default=l.getD k default:=by
 rw[Ao,DL,← Ao]
theorem GA(S l:St):(S++l).getD S.length default=l.getD 0 default:=Gk S l 0
theorem yMl(o:Opn):(EJ o).all Eo=true:=by
 rw[J7];simp only[Ey,A3,LD];simp[Eo,El,Kq]
theorem GI(n:Nat)(σ:List Nat)(o:Opn):(EJ o).map (Ef n σ)=EJ o:=Oh n σ (yMl o)
theorem Y9(lent:Bool)(o:Opn):Dq (some ⟨false,1,EJ o,lent⟩) 1 false 4=some (El o.top):=by rw[J7]; exact bV ..
def Ei(c:List Ins)(v:Int×List Int)(x:Cse)(m:Mv):Dig:=if G9 x.c0 x.c1=380 then F1 c v m.op else if(IS x m.pt).1≤(GZ x m.pt).1 then EI else F1 c v m.op
def Uo(c:List Ins)(v:Int×List Int)(x:Cse)(m:Mv):St:=
 if(GZ x m.pt).2=true then
  [⟨false,1,.int .i64 (IS x m.pt).1::CY (IS x m.pt).2,false⟩,⟨false,1,EJ m.op,false⟩,⟨false,1,CY (Ei c v x m),false⟩,⟨false,1,Da (Ku x.c0 x.c1),false⟩]++
  (if G9 x.c0 x.c1=380 then []
   else if 2 ^ (Ek (IS x m.pt).1).toNat≤(GZ x m.pt).1∨Hc (IS x m.pt) (GZ x m.pt).1 (Ei c v x m) m.path=true then
   [⟨false,1,EF (Ia x.b) (Ib x.b),false⟩,⟨false,1,Fj (G8 (Ia x.b,Ib x.b) (E6 c v (Ei c v x m) m.op)),false⟩]
   else [])
 else []
def PX(p:Ply)(_:Unit):Cse×Int×St:=((Oy p.c p.v p.x p.m).1,(Oy p.c p.v p.x p.m).2,Uo p.c p.v p.x p.m)
def Un(p:Ply)(_:Unit):Prop:=p.c.length≤4294967296∧p.m.op.top.length≤4294967295∧(p.m.pt=0∨p.m.pt=1)
def NG(ds:List D)(st:St)(r:D×Int×St):Prop:=StOK st∧Jo Io Un PX ds st r
theorem Ymy:ID NG:=fun ds st r E h I=>Ni LX ds st r E h.2 I.2
noncomputable abbrev VN:Tbl:=LH [(34,eY),(40,RL),(26,Oe),(124,Py),(20,Qm),(25,QM),(88,R7),(16,R6)]
 [(73,Eu HJ),(123,Eu LJ),(120,Eu NT),(79,Eu Lh)]
 [(73,F8 HJ),(123,F8 LJ)]
theorem Ylj:TblOK Tryz.prog GG VN:=MW (all_cons Yqb (all_cons s8 (all_cons dO (all_cons yNp (all_cons Yq (all_cons VQ (all_cons cG (all_cons Yqg all_nil)))))))) (all_cons Ji.1 (all_cons Qk.1 (all_cons lV.1 (all_cons YV.1 all_nil)))) (all_cons Ji.2 (all_cons Qk.2 all_nil))
set_option maxHeartbeats 8000000 in
set_option maxRecDepth 20000 in
theorem tT:CK 68 NG:=by
 refine J5 (T:=VN) uK Ylj ?_;rintro ds st d e st' ⟨b7,k,p,a,hj,hk,⟨hc,b3,O⟩,rfl,h⟩;simp only[AA]at h;obtain⟨rfl,rfl,rfl⟩:=h;have E:=KX hk;have hs:Du st k (C6 {p with x:=p.x})=st:=Od hk;have N:∀ l:St,(st++l)[k]?=some ⟨false,1,C6 p,false⟩:=fun l=>IZ hk l;have J:st[k]?=some ⟨false,1,C6 p,false⟩:=hk;have U:=yM p.x p.m.pt;have cb:Oe [.agg (.int .i64 p.x.c0.1::CY p.x.c0.2),.agg (.int .i64 p.x.c1.1::CY p.x.c1.2)]=some (.tup [DI (Ku p.x.c0 p.x.c1),.int .i64 (G9 p.x.c0 p.x.c1)]):=bo p.x.c0 p.x.c1;have cl:RL [Gw p.c,Ev p.v,DN p.m.op]=some (C0 (F1 p.c p.v p.m.op)):=fI p.c p.v p.m.op ⟨hc,p.hv,by omega⟩;have M:=wu hj;unfold jI Io PX Oy Uo
 cases h1:(GZ p.x p.m.pt).2 with
 |false=>
  rw[h1]at U;simp (disch:=first|omega|decide) only[push_cast,↓reduceIte,Cz,CA,Dy,J,D5,D4,hs,Ad,Am,CA,and_self,not_false_eq_true,HQ,M,Et,Eb,E0,U,Al]
 |true=>
  rw[h1]at U;have I:=Ymi b7
  -- b8 b2 of b8 ca
  have q1:(st.length<st.length)=False:=by simp
  have q2:(st.length+1<st.length)=False:=by simp
  have q3:(st.length=st.length+1)=False:=by simp
  have q4:(st.length+1=st.length)=False:=by simp
  have q5:(st.length == k)=false:=by simp; omega
  have q6:(st.length+1 == k)=false:=by simp; omega
  have q7:(st.length == st.length+1)=false:=by simp
  have q8:(st.length+1 == st.length)=false:=by simp
  rcases O with O | O
  ·have g0:=eq_true O;simp only[O]at h1 U ⊢;have ec:IS p.x 0=p.x.c0:=rfl;obtain⟨i0,i1,nb⟩:=pN h1;obtain⟨b0,b1⟩:=ao nb;have hz:=fun C=>LW E C;have b9:=fun C m=>O5 E C m;obtain⟨i,hi⟩:∃ i,(GZ p.x 0).1=i:=⟨_,rfl⟩;rw[hi]at U i0 i1
   by_cases h2:G9 p.x.c0 p.x.c1=380
   ·have g2:=eq_true h2;have ci:Py [.agg (.int .i64 p.x.c0.1::CY p.x.c0.2),.int .i64 i,C0 (F1 p.c p.v p.m.op),H5 p.m.path]=some (.bool (Hc p.x.c0 i (F1 p.c p.v p.m.op) p.m.path)):=XP p.x.c0 i (F1 p.c p.v p.m.op) p.m.path (by omega)
    cases h3:Hc p.x.c0 i (F1 p.c p.v p.m.op) p.m.path with
    |false=>
     rw[h3]at ci;simp (disch:=first|omega|decide) only[push_cast,↓EH,↓reduceIte,Cz,CA,CD,Dy,J,N,Gh,Ez,Dt,D5,D4,hs,Ag,Ae,Ai,Ad,Ab,Ak,Ap,Am,CA,DL,DM,EL,EM,and_self,not_false_eq_true,decide_true,Rx,M,Et,FI,FJ,GB,FZ,Gd,Ic,O,ec,hi,Ep,Eb,E0,FA,U,cb,cl,I,GC,Gk,GA,q1,q2,q3,q4,q5,q6,GI,AF,Av,beq_self_eq_true,Az,eq_true E,GD,FD,Gn,F6,Ei,g2,ci,h3,Al]
    |true=>
     rw[h3]at ci;have be:∀ l,Ge (st++l) k p:=fun l=>IZ hk l;have cj:=fun n l=>au (p:=p) hj (be l) n
     by_cases Y:p.m.op.status=0
     ·have g4:=eq_true Y;simp (disch:=first|omega|decide) only[push_cast,↓EH,↓reduceIte,Cz,CA,CD,Dy,J,N,Gh,Ez,Dt,D5,D4,hs,Ag,Ae,Ai,Ad,Ab,Ak,Ap,Am,CA,DL,DM,EL,EM,and_self,false_and,not_false_eq_true,decide_true,NH,M,Et,FI,FJ,GB,FZ,Gd,Ic,O,ec,hi,Ep,Eb,E0,FA,U,cb,cl,I,GC,Gk,GA,q1,q2,q3,q4,q5,q6,GI,AF,Av,beq_self_eq_true,Az,eq_true E,GD,FD,Gn,F6,MB,Ei,g2,ci,h3,g4,not_true_eq_false]
     ·by_cases h5:p.m.op.status=1
      ·have g5:=eq_true h5
       by_cases V:0<p.m.op.top.length
       ·have g6:(0<(p.m.op.top.length:Int))=True:=eq_true (by omega)
        have ix:∀ st:St,F5 st 1 (El p.m.op.top) (.int .i64 ((p.m.op.top.length:Int) - 1))=some (.eptr (nI (gP p.m.op.top)) 0):=fun st=>by
         have:=Yw st p.m.op.top false (p.m.op.top.length - 1) (by omega);rw[show((p.m.op.top.length - 1:Nat):Int)=(p.m.op.top.length:Int) - 1 by omega]at this;exact this
        simp (disch:=first|omega|decide) only[push_cast,↓EH,↓reduceIte,Cz,CA,CD,Dy,J,N,Gh,Ez,Dt,Ag,Ae,Ai,Ad,Ab,Ak,Ap,Am,CA,DL,DM,EL,EM,HC E,and_self,not_false_eq_true,decide_true,decide_false,M,Et,FI,FJ,GB,FZ,Gd,Ic,O,ec,hi,Ep,Eb,E0,FA,U,cb,cl,I,GC,Gk,GA,q1,q2,q3,q4,q5,q6,GI,AF,Av,beq_self_eq_true,Az,eq_true E,GD,FD,Gn,F6,MB,Y9,HB,Ei,g2,ci,h3,Y,g5,g6,V,ix,YK,Fh,cj,not_true_eq_false,or_true]
       ·have g6:(0<(p.m.op.top.length:Int))=False:=eq_false (by omega);simp (disch:=first|omega|decide) only[push_cast,↓EH,↓reduceIte,Cz,CA,CD,Dy,J,N,Gh,Ez,Dt,D5,D4,hs,Ag,Ae,Ai,Ad,Ab,Ak,Ap,Am,CA,DL,DM,EL,EM,and_self,and_false,not_false_eq_true,decide_true,decide_false,NH,M,Et,FI,FJ,GB,FZ,Gd,Ic,O,ec,hi,Ep,Eb,E0,FA,U,cb,cl,I,GC,Gk,GA,q1,q2,q3,q4,q5,q6,GI,AF,Av,beq_self_eq_true,Az,eq_true E,GD,FD,Gn,F6,MB,Y9,HB,Ei,g2,ci,h3,Y,g5,g6,V,not_true_eq_false,or_self]
      ·simp (disch:=first|omega|decide) only[push_cast,↓EH,↓reduceIte,Cz,CA,CD,Dy,J,N,Gh,Ez,Dt,Ag,Ae,Ai,Ad,Ab,Ak,Ap,Am,CA,DL,DM,EL,EM,HC E,and_self,not_false_eq_true,decide_true,decide_false,M,Et,FI,FJ,GB,FZ,Gd,Ic,O,ec,hi,Ep,Eb,E0,FA,U,cb,cl,I,GC,Gk,GA,q1,q2,q3,q4,q5,q6,GI,AF,Av,beq_self_eq_true,Az,eq_true E,GD,FD,Gn,F6,MB,Ei,g2,ci,h3,Y,h5,true_or,cj]
   ·obtain⟨B,hB⟩:∃ B,(if p.x.c0.1≤i then EI else F1 p.c p.v p.m.op)=B:=⟨_,rfl⟩;have ci:Py [.agg (.int .i64 p.x.c0.1::CY p.x.c0.2),.int .i64 i,C0 B,H5 p.m.path]=some (.bool (Hc p.x.c0 i B p.m.path)):=XP p.x.c0 i B p.m.path (by omega);have cd:=WK p.x.b;have cs:R6 [Gw p.c,Ev p.v,C0 B,.agg (EF (Ia p.x.b) (Ib p.x.b)),DN p.m.op]=some (.tup [D1 (G8 (Ia p.x.b,Ib p.x.b) (E6 p.c p.v B p.m.op)),.int .i64 (E6 p.c p.v B p.m.op).2]):=pd p.c p.v B (Ia p.x.b,Ib p.x.b) p.m.op ⟨hc,p.hv,b3⟩;have cD:=Oi p.x.c0.1;have dr:=Xr p.x.c0.1;have sh:=sP (n:=Ek p.x.c0.1) (by omega) (by omega);have bh:=(bp (Ia p.x.b,Ib p.x.b) (E6 p.c p.v B p.m.op)).2;have cr:=fun l=>Se (p:=p) hj (IZ hk l) bh;have a9:=Sc
    by_cases h3:p.x.c0.1≤i
    ·have g3:=eq_true h3;rw[if_pos h3]at hB;subst hB
     by_cases Y:2 ^ (Ek p.x.c0.1).toNat≤i
     ·by_cases V:(E6 p.c p.v EI p.m.op).2=0
      ·have g6:=eq_true V;simp (disch:=first|omega|decide) only[push_cast,↓EH,↓reduceIte,Cz,CA,CD,Dy,J,N,Gh,Jj,Ez,FE,Is,Hk,Dt,D1,Fj,Ag,Ae,Ai,Ad,Ab,Ak,Ap,Am,CA,DL,DM,EL,EM,HC E,and_self,decide_true,decide_false,M,Et,FI,FJ,GB,FZ,Gd,Hy,O,ec,hi,Ep,Eb,E0,FA,Jk,U,cb,cl,I,GC,Gk,GA,q1,q2,q3,q4,q5,q6,GI,AF,Av,beq_self_eq_true,Az,eq_true E,GD,FD,Gn,F6,Ei,h2,a9,g3,cD,sh,eq_true Y,cd,cs,cr,V,true_or]
      ·simp (disch:=first|omega|decide) only[push_cast,↓EH,↓reduceIte,Cz,CA,CD,Dy,J,N,Gh,Jj,Ez,FE,Is,Ix,MJ,Dt,hs,D1,Fj,Ag,Ae,Ai,Ad,Ab,Ak,Ap,Am,CA,DL,DM,EL,EM,and_self,not_false_eq_true,decide_true,decide_false,M,Et,FI,FJ,GB,FZ,Gd,Hy,O,ec,hi,Ep,Eb,E0,FA,Jk,U,cb,cl,I,GC,Gk,GA,q1,q2,q3,q4,q5,q6,GI,AF,Av,beq_self_eq_true,Az,eq_true E,GD,FD,Gn,F6,Ei,h2,a9,g3,cD,sh,eq_true Y,cd,cs,V,true_or]
     ·cases h5:Hc p.x.c0 i EI p.m.path with
      |false=>
       rw[h5]at ci;simp (disch:=first|omega|decide) only[push_cast,↓EH,↓reduceIte,Cz,CA,CD,Dy,J,N,Gh,Ez,Dt,D5,D4,hs,Ag,Ae,Ai,Ad,Ab,Ak,Ap,Am,CA,DL,DM,EL,EM,and_self,not_false_eq_true,decide_true,decide_false,Rx,M,Et,FI,FJ,GB,FZ,Gd,Ic,O,ec,hi,Ep,Eb,E0,FA,U,cb,cl,I,GC,Gk,GA,q1,q2,q3,q4,q5,q6,GI,AF,Av,beq_self_eq_true,Az,eq_true E,GD,FD,Gn,F6,Ei,h2,ci,a9,g3,cD,sh,Y,h5,Al,or_self]
      |true=>
       rw[h5]at ci
       by_cases V:(E6 p.c p.v EI p.m.op).2=0
       ·have g6:=eq_true V;simp (disch:=first|omega|decide) only[push_cast,↓EH,↓reduceIte,Cz,CA,CD,Dy,J,N,Gh,Jj,Ez,FE,Is,Hk,Dt,D1,Fj,Ag,Ae,Ai,Ad,Ab,Ak,Ap,Am,CA,DL,DM,EL,EM,HC E,and_self,decide_true,decide_false,M,Et,FI,FJ,GB,FZ,Gd,Ic,Hy,O,ec,hi,Ep,Eb,E0,FA,Jk,U,cb,cl,I,GC,Gk,GA,q1,q2,q3,q4,q5,q6,GI,AF,Av,beq_self_eq_true,Az,eq_true E,GD,FD,Gn,F6,Ei,h2,ci,a9,g3,cD,sh,Y,h5,cd,cs,cr,V,or_true]
       ·simp (disch:=first|omega|decide) only[push_cast,↓EH,↓reduceIte,Cz,CA,CD,Dy,J,N,Gh,Jj,Ez,FE,Is,Ix,MJ,Dt,hs,D1,Fj,Ag,Ae,Ai,Ad,Ab,Ak,Ap,Am,CA,DL,DM,EL,EM,and_self,not_false_eq_true,decide_true,decide_false,M,Et,FI,FJ,GB,FZ,Gd,Ic,Hy,O,ec,hi,Ep,Eb,E0,FA,Jk,U,cb,cl,I,GC,Gk,GA,q1,q2,q3,q4,q5,q6,GI,AF,Av,beq_self_eq_true,Az,eq_true E,GD,FD,Gn,F6,Ei,h2,ci,a9,g3,cD,sh,Y,h5,cd,cs,V,or_true]
    ·rw[if_neg h3]at hB;subst hB;have g3:=h3
     by_cases Y:2 ^ (Ek p.x.c0.1).toNat≤i
     ·by_cases V:(E6 p.c p.v (F1 p.c p.v p.m.op) p.m.op).2=0
      ·have g6:=eq_true V;simp (disch:=first|omega|decide) only[push_cast,↓EH,↓reduceIte,Cz,CA,CD,Dy,J,N,Gh,Jj,Ez,FE,Is,Hk,Dt,D1,Fj,Ag,Ae,Ai,Ad,Ab,Ak,Ap,Am,CA,DL,DM,EL,EM,HC E,and_self,decide_true,decide_false,M,Et,FI,FJ,GB,FZ,Gd,Hy,O,ec,hi,Ep,Eb,E0,FA,Jk,U,cb,cl,I,GC,Gk,GA,q1,q2,q3,q4,q5,q6,GI,AF,Av,beq_self_eq_true,Az,eq_true E,GD,FD,Gn,F6,Ei,h2,g3,cD,sh,eq_true Y,cd,cs,cr,V,true_or]
      ·simp (disch:=first|omega|decide) only[push_cast,↓EH,↓reduceIte,Cz,CA,CD,Dy,J,N,Gh,Jj,Ez,FE,Is,Ix,MJ,Dt,hs,D1,Fj,Ag,Ae,Ai,Ad,Ab,Ak,Ap,Am,CA,DL,DM,EL,EM,and_self,not_false_eq_true,decide_true,decide_false,M,Et,FI,FJ,GB,FZ,Gd,Hy,O,ec,hi,Ep,Eb,E0,FA,Jk,U,cb,cl,I,GC,Gk,GA,q1,q2,q3,q4,q5,q6,GI,AF,Av,beq_self_eq_true,Az,eq_true E,GD,FD,Gn,F6,Ei,h2,g3,cD,sh,eq_true Y,cd,cs,V,true_or]
     ·cases h5:Hc p.x.c0 i (F1 p.c p.v p.m.op) p.m.path with
      |false=>
       rw[h5]at ci;simp (disch:=first|omega|decide) only[push_cast,↓EH,↓reduceIte,Cz,CA,CD,Dy,J,N,Gh,Ez,Dt,D5,D4,hs,Ag,Ae,Ai,Ad,Ab,Ak,Ap,Am,CA,DL,DM,EL,EM,and_self,not_false_eq_true,decide_false,Rx,M,Et,FI,FJ,GB,FZ,Gd,Ic,O,ec,hi,Ep,Eb,E0,FA,U,cb,cl,I,GC,Gk,GA,q1,q2,q3,q4,q5,q6,GI,AF,Av,beq_self_eq_true,Az,eq_true E,GD,FD,Gn,F6,Ei,h2,ci,g3,cD,sh,Y,h5,Al,or_self]
      |true=>
       rw[h5]at ci
       by_cases V:(E6 p.c p.v (F1 p.c p.v p.m.op) p.m.op).2=0
       ·have g6:=eq_true V;simp (disch:=first|omega|decide) only[push_cast,↓EH,↓reduceIte,Cz,CA,CD,Dy,J,N,Gh,Jj,Ez,FE,Is,Hk,Dt,D1,Fj,Ag,Ae,Ai,Ad,Ab,Ak,Ap,Am,CA,DL,DM,EL,EM,HC E,and_self,decide_false,M,Et,FI,FJ,GB,FZ,Gd,Ic,Hy,O,ec,hi,Ep,Eb,E0,FA,Jk,U,cb,cl,I,GC,Gk,GA,q1,q2,q3,q4,q5,q6,GI,AF,Av,beq_self_eq_true,Az,eq_true E,GD,FD,Gn,F6,Ei,h2,ci,g3,cD,sh,Y,h5,cd,cs,cr,V,or_true]
       ·simp (disch:=first|omega|decide) only[push_cast,↓EH,↓reduceIte,Cz,CA,CD,Dy,J,N,Gh,Jj,Ez,FE,Is,Ix,MJ,Dt,hs,D1,Fj,Ag,Ae,Ai,Ad,Ab,Ak,Ap,Am,CA,DL,DM,EL,EM,and_self,not_false_eq_true,decide_false,M,Et,FI,FJ,GB,FZ,Gd,Ic,Hy,O,ec,hi,Ep,Eb,E0,FA,Jk,U,cb,cl,I,GC,Gk,GA,q1,q2,q3,q4,q5,q6,GI,AF,Av,beq_self_eq_true,Az,eq_true E,GD,FD,Gn,F6,Ei,h2,ci,g3,cD,sh,Y,h5,cd,cs,V,or_true]
  ·have g0:=eq_true O;simp only[O]at h1 U ⊢;have ec:IS p.x 1=p.x.c1:=rfl;obtain⟨i0,i1,nb⟩:=pN h1;obtain⟨b0,b1⟩:=ao nb;have hz:=fun C=>LW E C;have b9:=fun C m=>O5 E C m;obtain⟨i,hi⟩:∃ i,(GZ p.x 1).1=i:=⟨_,rfl⟩;rw[hi]at U i0 i1
   by_cases h2:G9 p.x.c0 p.x.c1=380
   ·have g2:=eq_true h2;have ci:Py [.agg (.int .i64 p.x.c1.1::CY p.x.c1.2),.int .i64 i,C0 (F1 p.c p.v p.m.op),H5 p.m.path]=some (.bool (Hc p.x.c1 i (F1 p.c p.v p.m.op) p.m.path)):=XP p.x.c1 i (F1 p.c p.v p.m.op) p.m.path (by omega)
    cases h3:Hc p.x.c1 i (F1 p.c p.v p.m.op) p.m.path with
    |false=>
     rw[h3]at ci;simp (disch:=first|omega|decide) only[push_cast,↓EH,↓reduceIte,Cz,CA,CD,Dy,J,N,Gh,Ez,Dt,D5,D4,hs,Ag,Ae,Ai,Ad,Ab,Ak,Ap,Am,CA,DL,DM,EL,EM,and_self,not_false_eq_true,decide_true,Rx,M,Et,FI,FJ,GB,FZ,Gd,Ic,O,ec,hi,Ep,Eb,E0,FA,U,cb,cl,I,GC,Gk,GA,q1,q2,q3,q4,q5,q6,GI,AF,Av,beq_self_eq_true,Az,eq_true E,GD,FD,Gn,F6,Ei,g2,ci,h3,Al]
    |true=>
     rw[h3]at ci;have be:∀ l,Ge (st++l) k p:=fun l=>IZ hk l;have cj:=fun n l=>au (p:=p) hj (be l) n
     by_cases Y:p.m.op.status=0
     ·have g4:=eq_true Y;simp (disch:=first|omega|decide) only[push_cast,↓EH,↓reduceIte,Cz,CA,CD,Dy,J,N,Gh,Ez,Dt,D5,D4,hs,Ag,Ae,Ai,Ad,Ab,Ak,Ap,Am,CA,DL,DM,EL,EM,and_self,false_and,not_false_eq_true,decide_true,NH,M,Et,FI,FJ,GB,FZ,Gd,Ic,O,ec,hi,Ep,Eb,E0,FA,U,cb,cl,I,GC,Gk,GA,q1,q2,q3,q4,q5,q6,GI,AF,Av,beq_self_eq_true,Az,eq_true E,GD,FD,Gn,F6,MB,Ei,g2,ci,h3,g4,not_true_eq_false]
     ·by_cases h5:p.m.op.status=1
      ·have g5:=eq_true h5
       by_cases V:0<p.m.op.top.length
       ·have g6:(0<(p.m.op.top.length:Int))=True:=eq_true (by omega)
        have ix:∀ st:St,F5 st 1 (El p.m.op.top) (.int .i64 ((p.m.op.top.length:Int) - 1))=some (.eptr (nI (gP p.m.op.top)) 0):=fun st=>by
         have:=Yw st p.m.op.top false (p.m.op.top.length - 1) (by omega);rw[show((p.m.op.top.length - 1:Nat):Int)=(p.m.op.top.length:Int) - 1 by omega]at this;exact this
        simp (disch:=first|omega|decide) only[push_cast,↓EH,↓reduceIte,Cz,CA,CD,Dy,J,N,Gh,Ez,Dt,Ag,Ae,Ai,Ad,Ab,Ak,Ap,Am,CA,DL,DM,EL,EM,HC E,and_self,not_false_eq_true,decide_true,decide_false,M,Et,FI,FJ,GB,FZ,Gd,Ic,O,ec,hi,Ep,Eb,E0,FA,U,cb,cl,I,GC,Gk,GA,q1,q2,q3,q4,q5,q6,GI,AF,Av,beq_self_eq_true,Az,eq_true E,GD,FD,Gn,F6,MB,Y9,HB,Ei,g2,ci,h3,Y,g5,g6,V,ix,YK,Fh,cj,not_true_eq_false,or_true]
       ·have g6:(0<(p.m.op.top.length:Int))=False:=eq_false (by omega);simp (disch:=first|omega|decide) only[push_cast,↓EH,↓reduceIte,Cz,CA,CD,Dy,J,N,Gh,Ez,Dt,D5,D4,hs,Ag,Ae,Ai,Ad,Ab,Ak,Ap,Am,CA,DL,DM,EL,EM,and_self,and_false,not_false_eq_true,decide_true,decide_false,NH,M,Et,FI,FJ,GB,FZ,Gd,Ic,O,ec,hi,Ep,Eb,E0,FA,U,cb,cl,I,GC,Gk,GA,q1,q2,q3,q4,q5,q6,GI,AF,Av,beq_self_eq_true,Az,eq_true E,GD,FD,Gn,F6,MB,Y9,HB,Ei,g2,ci,h3,Y,g5,g6,V,not_true_eq_false,or_self]
      ·simp (disch:=first|omega|decide) only[push_cast,↓EH,↓reduceIte,Cz,CA,CD,Dy,J,N,Gh,Ez,Dt,Ag,Ae,Ai,Ad,Ab,Ak,Ap,Am,CA,DL,DM,EL,EM,HC E,and_self,not_false_eq_true,decide_true,decide_false,M,Et,FI,FJ,GB,FZ,Gd,Ic,O,ec,hi,Ep,Eb,E0,FA,U,cb,cl,I,GC,Gk,GA,q1,q2,q3,q4,q5,q6,GI,AF,Av,beq_self_eq_true,Az,eq_true E,GD,FD,Gn,F6,MB,Ei,g2,ci,h3,Y,h5,true_or,cj]
   ·obtain⟨B,hB⟩:∃ B,(if p.x.c1.1≤i then EI else F1 p.c p.v p.m.op)=B:=⟨_,rfl⟩;have ci:Py [.agg (.int .i64 p.x.c1.1::CY p.x.c1.2),.int .i64 i,C0 B,H5 p.m.path]=some (.bool (Hc p.x.c1 i B p.m.path)):=XP p.x.c1 i B p.m.path (by omega);have cd:=WK p.x.b;have cs:R6 [Gw p.c,Ev p.v,C0 B,.agg (EF (Ia p.x.b) (Ib p.x.b)),DN p.m.op]=some (.tup [D1 (G8 (Ia p.x.b,Ib p.x.b) (E6 p.c p.v B p.m.op)),.int .i64 (E6 p.c p.v B p.m.op).2]):=pd p.c p.v B (Ia p.x.b,Ib p.x.b) p.m.op ⟨hc,p.hv,b3⟩;have cD:=Oi p.x.c1.1;have dr:=Xr p.x.c1.1;have sh:=sP (n:=Ek p.x.c1.1) (by omega) (by omega);have bh:=(bp (Ia p.x.b,Ib p.x.b) (E6 p.c p.v B p.m.op)).2;have cr:=fun l=>Se (p:=p) hj (IZ hk l) bh;have a9:=Sc
    by_cases h3:p.x.c1.1≤i
    ·have g3:=eq_true h3;rw[if_pos h3]at hB;subst hB
     by_cases Y:2 ^ (Ek p.x.c1.1).toNat≤i
     ·by_cases V:(E6 p.c p.v EI p.m.op).2=0
      ·have g6:=eq_true V;simp (disch:=first|omega|decide) only[push_cast,↓EH,↓reduceIte,Cz,CA,CD,Dy,J,N,Gh,Jj,Ez,FE,Is,Hk,Dt,D1,Fj,Ag,Ae,Ai,Ad,Ab,Ak,Ap,Am,CA,DL,DM,EL,EM,HC E,and_self,decide_true,decide_false,M,Et,FI,FJ,GB,FZ,Gd,Hy,O,ec,hi,Ep,Eb,E0,FA,Jk,U,cb,cl,I,GC,Gk,GA,q1,q2,q3,q4,q5,q6,GI,AF,Av,beq_self_eq_true,Az,eq_true E,GD,FD,Gn,F6,Ei,h2,a9,g3,cD,sh,eq_true Y,cd,cs,cr,V,true_or]
      ·simp (disch:=first|omega|decide) only[push_cast,↓EH,↓reduceIte,Cz,CA,CD,Dy,J,N,Gh,Jj,Ez,FE,Is,Ix,MJ,Dt,hs,D1,Fj,Ag,Ae,Ai,Ad,Ab,Ak,Ap,Am,CA,DL,DM,EL,EM,and_self,not_false_eq_true,decide_true,decide_false,M,Et,FI,FJ,GB,FZ,Gd,Hy,O,ec,hi,Ep,Eb,E0,FA,Jk,U,cb,cl,I,GC,Gk,GA,q1,q2,q3,q4,q5,q6,GI,AF,Av,beq_self_eq_true,Az,eq_true E,GD,FD,Gn,F6,Ei,h2,a9,g3,cD,sh,eq_true Y,cd,cs,V,true_or]
     ·cases h5:Hc p.x.c1 i EI p.m.path with
      |false=>
       rw[h5]at ci;simp (disch:=first|omega|decide) only[push_cast,↓EH,↓reduceIte,Cz,CA,CD,Dy,J,N,Gh,Ez,Dt,D5,D4,hs,Ag,Ae,Ai,Ad,Ab,Ak,Ap,Am,CA,DL,DM,EL,EM,and_self,not_false_eq_true,decide_true,decide_false,Rx,M,Et,FI,FJ,GB,FZ,Gd,Ic,O,ec,hi,Ep,Eb,E0,FA,U,cb,cl,I,GC,Gk,GA,q1,q2,q3,q4,q5,q6,GI,AF,Av,beq_self_eq_true,Az,eq_true E,GD,FD,Gn,F6,Ei,h2,ci,a9,g3,cD,sh,Y,h5,Al,or_self]
      |true=>
       rw[h5]at ci
       by_cases V:(E6 p.c p.v EI p.m.op).2=0
       ·have g6:=eq_true V;simp (disch:=first|omega|decide) only[push_cast,↓EH,↓reduceIte,Cz,CA,CD,Dy,J,N,Gh,Jj,Ez,FE,Is,Hk,Dt,D1,Fj,Ag,Ae,Ai,Ad,Ab,Ak,Ap,Am,CA,DL,DM,EL,EM,HC E,and_self,decide_true,decide_false,M,Et,FI,FJ,GB,FZ,Gd,Ic,Hy,O,ec,hi,Ep,Eb,E0,FA,Jk,U,cb,cl,I,GC,Gk,GA,q1,q2,q3,q4,q5,q6,GI,AF,Av,beq_self_eq_true,Az,eq_true E,GD,FD,Gn,F6,Ei,h2,ci,a9,g3,cD,sh,Y,h5,cd,cs,cr,V,or_true]
       ·simp (disch:=first|omega|decide) only[push_cast,↓EH,↓reduceIte,Cz,CA,CD,Dy,J,N,Gh,Jj,Ez,FE,Is,Ix,MJ,Dt,hs,D1,Fj,Ag,Ae,Ai,Ad,Ab,Ak,Ap,Am,CA,DL,DM,EL,EM,and_self,not_false_eq_true,decide_true,decide_false,M,Et,FI,FJ,GB,FZ,Gd,Ic,Hy,O,ec,hi,Ep,Eb,E0,FA,Jk,U,cb,cl,I,GC,Gk,GA,q1,q2,q3,q4,q5,q6,GI,AF,Av,beq_self_eq_true,Az,eq_true E,GD,FD,Gn,F6,Ei,h2,ci,a9,g3,cD,sh,Y,h5,cd,cs,V,or_true]
    ·rw[if_neg h3]at hB;subst hB;have g3:=h3
     by_cases Y:2 ^ (Ek p.x.c1.1).toNat≤i
     ·by_cases V:(E6 p.c p.v (F1 p.c p.v p.m.op) p.m.op).2=0
      ·have g6:=eq_true V;simp (disch:=first|omega|decide) only[push_cast,↓EH,↓reduceIte,Cz,CA,CD,Dy,J,N,Gh,Jj,Ez,FE,Is,Hk,Dt,D1,Fj,Ag,Ae,Ai,Ad,Ab,Ak,Ap,Am,CA,DL,DM,EL,EM,HC E,and_self,decide_true,decide_false,M,Et,FI,FJ,GB,FZ,Gd,Hy,O,ec,hi,Ep,Eb,E0,FA,Jk,U,cb,cl,I,GC,Gk,GA,q1,q2,q3,q4,q5,q6,GI,AF,Av,beq_self_eq_true,Az,eq_true E,GD,FD,Gn,F6,Ei,h2,g3,cD,sh,eq_true Y,cd,cs,cr,V,true_or]
      ·simp (disch:=first|omega|decide) only[push_cast,↓EH,↓reduceIte,Cz,CA,CD,Dy,J,N,Gh,Jj,Ez,FE,Is,Ix,MJ,Dt,hs,D1,Fj,Ag,Ae,Ai,Ad,Ab,Ak,Ap,Am,CA,DL,DM,EL,EM,and_self,not_false_eq_true,decide_true,decide_false,M,Et,FI,FJ,GB,FZ,Gd,Hy,O,ec,hi,Ep,Eb,E0,FA,Jk,U,cb,cl,I,GC,Gk,GA,q1,q2,q3,q4,q5,q6,GI,AF,Av,beq_self_eq_true,Az,eq_true E,GD,FD,Gn,F6,Ei,h2,g3,cD,sh,eq_true Y,cd,cs,V,true_or]
     ·cases h5:Hc p.x.c1 i (F1 p.c p.v p.m.op) p.m.path with
      |false=>
       rw[h5]at ci;simp (disch:=first|omega|decide) only[push_cast,↓EH,↓reduceIte,Cz,CA,CD,Dy,J,N,Gh,Ez,Dt,D5,D4,hs,Ag,Ae,Ai,Ad,Ab,Ak,Ap,Am,CA,DL,DM,EL,EM,and_self,not_false_eq_true,decide_false,Rx,M,Et,FI,FJ,GB,FZ,Gd,Ic,O,ec,hi,Ep,Eb,E0,FA,U,cb,cl,I,GC,Gk,GA,q1,q2,q3,q4,q5,q6,GI,AF,Av,beq_self_eq_true,Az,eq_true E,GD,FD,Gn,F6,Ei,h2,ci,g3,cD,sh,Y,h5,Al,or_self]
      |true=>
       rw[h5]at ci
       by_cases V:(E6 p.c p.v (F1 p.c p.v p.m.op) p.m.op).2=0
       ·have g6:=eq_true V;simp (disch:=first|omega|decide) only[push_cast,↓EH,↓reduceIte,Cz,CA,CD,Dy,J,N,Gh,Jj,Ez,FE,Is,Hk,Dt,D1,Fj,Ag,Ae,Ai,Ad,Ab,Ak,Ap,Am,CA,DL,DM,EL,EM,HC E,and_self,decide_false,M,Et,FI,FJ,GB,FZ,Gd,Ic,Hy,O,ec,hi,Ep,Eb,E0,FA,Jk,U,cb,cl,I,GC,Gk,GA,q1,q2,q3,q4,q5,q6,GI,AF,Av,beq_self_eq_true,Az,eq_true E,GD,FD,Gn,F6,Ei,h2,ci,g3,cD,sh,Y,h5,cd,cs,cr,V,or_true]
       ·simp (disch:=first|omega|decide) only[push_cast,↓EH,↓reduceIte,Cz,CA,CD,Dy,J,N,Gh,Jj,Ez,FE,Is,Ix,MJ,Dt,hs,D1,Fj,Ag,Ae,Ai,Ad,Ab,Ak,Ap,Am,CA,DL,DM,EL,EM,and_self,not_false_eq_true,decide_false,M,Et,FI,FJ,GB,FZ,Gd,Ic,Hy,O,ec,hi,Ep,Eb,E0,FA,Jk,U,cb,cl,I,GC,Gk,GA,q1,q2,q3,q4,q5,q6,GI,AF,Av,beq_self_eq_true,Az,eq_true E,GD,FD,Gn,F6,Ei,h2,ci,g3,cD,sh,Y,h5,cd,cs,V,or_true]
end Go.Proofs.YtijnglngaogdjaaGreatDoor.PI
namespace Go.Proofs.YtijnglngaogdjaaGreatDoor.PI
open Go Go.RowKit
set_option linter.unusedSimpArgs false
set_option linter.unusedVariables false
variable {u v:Value}{x:Operand}{w:World}{a:Act}{o:Oper}
section
variable {P:Program} {G:Db}
structure PH2 where
 t:Nat
 js:List Nat
 vs:Nat
 js2:List Nat
 l:List PI
def PH2.run(G:Db)(F:PH2):Nat→D→List D→St→Option St:=fun t d das st=>
 if t=F.t∧KL d=true then(EK G Us F.l ⟨SO ((SO (C4 das) F.js).set F.vs d) F.js2,st⟩).map (·.st)else none
section
variable {n:Nat} {ops:Array Oper} {Q:Exit→Act→List Go.Frame→World→Prop} {i:Nat} {rest:List Nat} {a:Act} {cs:List Go.Frame} {w:World} {o:Oper}
theorem LA(E:ops[i]?=some o)(I:o.guard=none)(J:(execOp a.eval o).run P w=.ok (.value v) w)(h:wpOpsSIn Fence.wide n P ops Q rest (a.put o.dst v) cs w):wpOpsSIn Fence.wide n P ops Q (i::rest) a cs w:=by
 have hw:Region.wanted o (yielded ops a.tmps)=true:=by simp[Region.wanted,I]
 simp only[wpOpsSIn,E,hw,if_true,J];exact⟨fun _ _=>trivial,h⟩
theorem wS(E:ops[i]?=some o)(I:o.guard=none)(J:(execOp a.eval o).run P w=.ok .recover w)(hc:recoverD cs=none)(h:wpOpsSIn Fence.wide n P ops Q rest (a.put o.dst .nilIface) cs w):wpOpsSIn Fence.wide n P ops Q (i::rest) a cs w:=by
 have hw:Region.wanted o (yielded ops a.tmps)=true:=by simp[Region.wanted,I]
 simp only[wpOpsSIn,E,hw,if_true,J,hc];exact⟨fun _ _=>trivial,h⟩
theorem wT{cs':List Go.Frame}(E:ops[i]?=some o)(I:o.guard=none)(J:(execOp a.eval o).run P w=.ok .recover w)(hc:recoverD cs=some (v,cs'))(h:wpOpsSIn Fence.wide n P ops Q rest (a.put o.dst v) cs' w):wpOpsSIn Fence.wide n P ops Q (i::rest) a cs w:=by
 have hw:Region.wanted o (yielded ops a.tmps)=true:=by simp[Region.wanted,I]
 simp only[wpOpsSIn,E,hw,if_true,J,hc];exact⟨fun _ _=>trivial,h⟩
end
theorem N2(h:o.op=.move x∨o.op=.assign x):(execOp a.eval o).run P w=.ok (.value (a.eval x)) w:=by
 rcases h with h | h
 ·simp only[execOp,h]; rfl
 ·simp only[execOp,h]; rfl
theorem m0(h:o.op=.extract x 0)(E:a.eval x=.tuple #[u,v]):(execOp a.eval o).run P w=.ok (.value u) w:=by
 simp only[execOp,h,E]; rfl
theorem m4(h:o.op=.extract x 1)(E:a.eval x=.tuple #[u,v]):(execOp a.eval o).run P w=.ok (.value v) w:=by
 simp only[execOp,h,E]; rfl
theorem Yg2{f i0 i1 r d d2 v k vs ok c t1 xt:Nat}{fn:Func}{o0 o1 o2 o3 o4 o5 o6 o7:Oper}{body:Code}{l:List PI}{z:Value}
  (hfn:P.funcs[f]?=some fn) (hname:(fn.name == "runtime.NumGoroutine")=false) (hres:fn.results=#[])
  (hc:fn.body=some (.seq (.region i0 #[o0,o1,o2,o3,o4,o5,o6] false) (.seq (.region i1 #[o7] false) (.cond (.tmp c) body .skip))))
  (h0:o0.op=.call {callee:=.builtin .recover,args:=#[],argTypes:=#[]}∧o0.dst=some r∧o0.guard=none)
  (h1:o1.op=.typeAssert (.tmp r) xt t1 true∧o1.dst=some d∧o1.guard=none)
  (h2:o2.op=.move (.tmp d)∧o2.dst=some d2∧o2.guard=none)
  (h3:o3.op=.extract (.tmp d2) 0∧o3.dst=some v∧o3.guard=none)
  (h4:o4.op=.extract (.tmp d2) 1∧o4.dst=some k∧o4.guard=none)
  (h5:o5.op=.assign (.tmp v)∧o5.dst=some vs∧o5.guard=none)
  (h6:o6.op=.assign (.tmp k)∧o6.dst=some ok∧o6.guard=none)
  (h7:o7.op=.move (.tmp ok)∧o7.dst=some c∧o7.guard=none)
  (hlt:(r<fn.ntmps∧d<fn.ntmps∧d2<fn.ntmps∧v<fn.ntmps)∧k<fn.ntmps∧vs<fn.ntmps∧ok<fn.ntmps∧c<fn.ntmps)
  (hne:d2≠v∧v≠k∧k≠vs)
  (ht1:bY P t1=true) (hiz:((P.info? t1).bind fun i=>i.zero)=some z) (hb:Js P fn.ntmps body=some l) :
  R9 P G f (PH2.run G ⟨t1,[r,d,d2,v,k],vs,[ok,c],l⟩):=by
 refine⟨⟨fn,hfn,by rw[hc]; rfl,hname⟩,?_⟩;obtain⟨u,ht1,hu1⟩:=yM6 ht1;obtain⟨zi,hi,hz⟩:=Ay.1 hiz;intro base w g st das ws hS hG hlen hrep;obtain⟨hF0,hs0⟩:=Ydq (m:=fn.ntmps) hlen hrep;obtain⟨h0a,h0b,h0c⟩:=h0;obtain⟨h1a,h1b,h1c⟩:=h1;obtain⟨h2a,h2b,h2c⟩:=h2;obtain⟨h3a,h3b,h3c⟩:=h3;obtain⟨h4a,h4b,h4c⟩:=h4;obtain⟨h5a,h5b,h5c⟩:=h5;obtain⟨h6a,h6b,h6c⟩:=h6;obtain⟨h7a,h7b,h7c⟩:=h7;obtain⟨⟨l1,l2,l3,l4⟩,l5,l6,l7,l8⟩:=hlt;obtain⟨n1,n2,n3⟩:=hne
 have hresults:∀ (tm:Array Value) (w':World),(results fn tm).run P w'=.ok (.tuple #[]) w':=by
  intro tm w';simp[results,hres]
 generalize ha0:({tmps:=ws.toArray++Array.replicate (fn.ntmps - ws.toArray.size) undef,defers:=[]}:Act)=a0 at*;have hd0:a0.defers=[]:=by rw[← ha0]
 have hs0':fn.ntmps≤a0.tmps.size:=by rw[← ha0]; exact hs0
 have ho1:({dst:=o1.dst,op:=.typeAssert (.tmp r) xt t1 true,type:=o1.type,pos:=o1.pos,after:=o1.after,guard:=o1.guard}:Oper)=o1:=by rw[← h1a]
 refine⟨?_,?_⟩
 ·refine callsDIn_of_wpSIn hfn hc trivial fun c₀ cs hu=>?_;rw[ha0];refine wpSIn_seq (wpSIn_region ?_);have hr:recoverD (c₀::cs)=none:=by simp[recoverD,hu]
  show wpOpsSIn _ _ _ _ _ [0,1,2,3,4,5,6] _ _ _
  refine wS (o:=o0) rfl h0c (iN h0a) hr ?_;rw[h0b];have e1:(a0.put (some r) .nilIface).eval (.tmp r)=.nilIface:=KW (by omega);have he1:=xJ (P:=P) ht1 hu1 hi hz (x:=.tmp r) e1 (dst:=o1.dst) (ty:=o1.type) (xt:=xt) (pos:=o1.pos) (after:=o1.after) (guard:=o1.guard) w;rw[ho1]at he1;generalize hA1:a0.put (some r) .nilIface=a1 at*;have s1:fn.ntmps≤a1.tmps.size:=by rw[← hA1,Kb]; exact hs0'
  have f1:a1.defers=[]:=by rw[← hA1]; simp[Act.put,hd0]
  refine LA (o:=o1) rfl h1c he1 ?_;rw[h1b];have e2:(a1.put (some d) (.tuple #[z,.bool false])).eval (.tmp d)=.tuple #[z,.bool false]:=KW (by omega);generalize hA2:a1.put (some d) (.tuple #[z,.bool false])=a2 at*;have s2:fn.ntmps≤a2.tmps.size:=by rw[← hA2,Kb]; exact s1
  have f2:a2.defers=[]:=by rw[← hA2]; simp[Act.put,f1]
  refine LA (o:=o2) rfl h2c (N2 (.inl h2a)) ?_;rw[h2b,e2];have e3:(a2.put (some d2) (.tuple #[z,.bool false])).eval (.tmp d2)=.tuple #[z,.bool false]:=KW (by omega);generalize hA3:a2.put (some d2) (.tuple #[z,.bool false])=a3 at*;have s3:fn.ntmps≤a3.tmps.size:=by rw[← hA3,Kb]; exact s2
  have f3:a3.defers=[]:=by rw[← hA3]; simp[Act.put,f2]
  refine LA (o:=o3) rfl h3c (m0 h3a e3) ?_;rw[h3b];have e4:(a3.put (some v) z).eval (.tmp d2)=.tuple #[z,.bool false]:=by rw[SG n1]; exact e3
  generalize hA4:a3.put (some v) z=a4 at*;have s4:fn.ntmps≤a4.tmps.size:=by rw[← hA4,Kb]; exact s3
  have f4:a4.defers=[]:=by rw[← hA4]; simp[Act.put,f3]
  refine LA (o:=o4) rfl h4c (m4 h4a e4) ?_;rw[h4b];have e5:(a4.put (some k) (.bool false)).eval (.tmp k)=.bool false:=KW (by omega);generalize hA5:a4.put (some k) (.bool false)=a5 at*;have s5:fn.ntmps≤a5.tmps.size:=by rw[← hA5,Kb]; exact s4
  have f5:a5.defers=[]:=by rw[← hA5]; simp[Act.put,f4]
  refine LA (o:=o5) rfl h5c (N2 (.inr h5a)) ?_;rw[h5b];have e6:(a5.put (some vs) (a5.eval (.tmp v))).eval (.tmp k)=.bool false:=by rw[SG n3]; exact e5
  generalize hA6:a5.put (some vs) (a5.eval (.tmp v))=a6 at*;have s6:fn.ntmps≤a6.tmps.size:=by rw[← hA6,Kb]; exact s5
  have f6:a6.defers=[]:=by rw[← hA6]; simp[Act.put,f5]
  refine LA (o:=o6) rfl h6c (N2 (.inr h6a)) ?_;rw[h6b,e6];have e7:(a6.put (some ok) (.bool false)).eval (.tmp ok)=.bool false:=KW (by omega);generalize hA7:a6.put (some ok) (.bool false)=a7 at*;have s7:fn.ntmps≤a7.tmps.size:=by rw[← hA7,Kb]; exact s6
  have f7:a7.defers=[]:=by rw[← hA7]; simp[Act.put,f6]
  refine wpSIn_of_wpIn rfl (wpIn_seq (wpIn_region_list ?_));simp only[wpListIn,Region.wanted,h7c,if_true];refine⟨fun _ _=>trivial,?_⟩
  show o7.uponIn _ _ _ _ _ _ ((execOp a7.eval o7).run P w)
  rw[N2 (.inl h7a),Oper.uponIn_value,h7b,e7]
  show Code.wpIn _ _ _ _ _ _ _
  refine wpIn_cond_false (KW (by omega)) (wpIn_skip ?_);refine⟨by simp[Act.put,f7],.returning,by rw[← hu],_,hresults _ _,rfl,rfl,g,Go1.refl hS⟩
 ·intro t dv st' hrun;unfold PH2.run at hrun
  split at hrun
  case isFalse=>cases hrun
  rename_i hcnd;obtain⟨rfl,hi'⟩:=hcnd;simp only[BH]at hrun;obtain⟨s',hx,rfl⟩:=hrun;refine callsDIn_of_wpSIn hfn hc trivial fun c₀ cs hu=>?_;rw[ha0];refine wpSIn_seq (wpSIn_region ?_);have hr:recoverD (c₀::cs)=some (.iface t (Gf dv),{c₀ with mode:=.panicking (VT t dv)}::cs):=by simp[recoverD,hu,KR,VT]
  show wpOpsSIn _ _ _ _ _ [0,1,2,3,4,5,6] _ _ _
  refine wT (o:=o0) rfl h0c (iN h0a) hr ?_;rw[h0b];have e1:(a0.put (some r) (.iface t (Gf dv))).eval (.tmp r)=.iface t (Gf dv):=KW (by omega);have he1:=xI (P:=P) ht1 hu1 (x:=.tmp r) e1 (dst:=o1.dst) (ty:=o1.type) (xt:=xt) (pos:=o1.pos) (after:=o1.after) (guard:=o1.guard) w;rw[ho1]at he1;have g1:FR w g st ((C4 das).set r .junk) (a0.put (some r) (.iface t (Gf dv))):=hF0.put (dst:=some r) (fun t e=>by cases e; omega) (.junk _);generalize hA1:a0.put (some r) (.iface t (Gf dv))=a1 at*;have s1:fn.ntmps≤a1.tmps.size:=by rw[← hA1,Kb]; exact hs0'
  have f1:a1.defers=[]:=by rw[← hA1]; simp[Act.put,hd0]
  refine LA (o:=o1) rfl h1c he1 ?_;rw[h1b];have e2:(a1.put (some d) (.tuple #[Gf dv,.bool true])).eval (.tmp d)=.tuple #[Gf dv,.bool true]:=KW (by omega);have g2:FR w g st (((C4 das).set r .junk).set d .junk) (a1.put (some d) (.tuple #[Gf dv,.bool true])):=g1.put (dst:=some d) (fun t e=>by cases e; omega) (.junk _);generalize hA2:a1.put (some d) (.tuple #[Gf dv,.bool true])=a2 at*;have s2:fn.ntmps≤a2.tmps.size:=by rw[← hA2,Kb]; exact s1
  have f2:a2.defers=[]:=by rw[← hA2]; simp[Act.put,f1]
  refine LA (o:=o2) rfl h2c (N2 (.inl h2a)) ?_;rw[h2b,e2];have e3:(a2.put (some d2) (.tuple #[Gf dv,.bool true])).eval (.tmp d2)=.tuple #[Gf dv,.bool true]:=KW (by omega);have g3:FR w g st ((((C4 das).set r .junk).set d .junk).set d2 .junk) (a2.put (some d2) (.tuple #[Gf dv,.bool true])):=g2.put (dst:=some d2) (fun t e=>by cases e; omega) (.junk _);generalize hA3:a2.put (some d2) (.tuple #[Gf dv,.bool true])=a3 at*;have s3:fn.ntmps≤a3.tmps.size:=by rw[← hA3,Kb]; exact s2
  have f3:a3.defers=[]:=by rw[← hA3]; simp[Act.put,f2]
  refine LA (o:=o3) rfl h3c (m0 h3a e3) ?_;rw[h3b];have e4:(a3.put (some v) (Gf dv)).eval (.tmp d2)=.tuple #[Gf dv,.bool true]:=by rw[SG n1]; exact e3
  have q4:(a3.put (some v) (Gf dv)).eval (.tmp v)=Gf dv:=KW (by omega);have g4:FR w g st (((((C4 das).set r .junk).set d .junk).set d2 .junk).set v .junk) (a3.put (some v) (Gf dv)):=g3.put (dst:=some v) (fun t e=>by cases e; omega) (.junk _);generalize hA4:a3.put (some v) (Gf dv)=a4 at*;have s4:fn.ntmps≤a4.tmps.size:=by rw[← hA4,Kb]; exact s3
  have f4:a4.defers=[]:=by rw[← hA4]; simp[Act.put,f3]
  refine LA (o:=o4) rfl h4c (m4 h4a e4) ?_;rw[h4b];have e5:(a4.put (some k) (.bool true)).eval (.tmp k)=.bool true:=KW (by omega);have q5:(a4.put (some k) (.bool true)).eval (.tmp v)=Gf dv:=by rw[SG n2]; exact q4
  have g5:FR w g st ((((((C4 das).set r .junk).set d .junk).set d2 .junk).set v .junk).set k .junk) (a4.put (some k) (.bool true)):=g4.put (dst:=some k) (fun t e=>by cases e; omega) (.junk _);generalize hA5:a4.put (some k) (.bool true)=a5 at*;have s5:fn.ntmps≤a5.tmps.size:=by rw[← hA5,Kb]; exact s4
  have f5:a5.defers=[]:=by rw[← hA5]; simp[Act.put,f4]
  refine LA (o:=o5) rfl h5c (N2 (.inr h5a)) ?_;rw[h5b,q5];have e6:(a5.put (some vs) (Gf dv)).eval (.tmp k)=.bool true:=by rw[SG n3]; exact e5
  have g6:FR w g st (((((((C4 das).set r .junk).set d .junk).set d2 .junk).set v .junk).set k .junk).set vs dv) (a5.put (some vs) (Gf dv)):=g5.put (dst:=some vs) (fun t e=>by cases e; omega) (yRa hi');generalize hA6:a5.put (some vs) (Gf dv)=a6 at*;have s6:fn.ntmps≤a6.tmps.size:=by rw[← hA6,Kb]; exact s5
  have f6:a6.defers=[]:=by rw[← hA6]; simp[Act.put,f5]
  refine LA (o:=o6) rfl h6c (N2 (.inr h6a)) ?_;rw[h6b,e6];have e7:(a6.put (some ok) (.bool true)).eval (.tmp ok)=.bool true:=KW (by omega);have g7:FR w g st ((((((((C4 das).set r .junk).set d .junk).set d2 .junk).set v .junk).set k .junk).set vs dv).set ok .junk) (a6.put (some ok) (.bool true)):=g6.put (dst:=some ok) (fun t e=>by cases e; omega) (.junk _);generalize hA7:a6.put (some ok) (.bool true)=a7 at*;have s7:fn.ntmps≤a7.tmps.size:=by rw[← hA7,Kb]; exact s6
  have f7:a7.defers=[]:=by rw[← hA7]; simp[Act.put,f6]
  refine wpSIn_of_wpIn rfl (wpIn_seq (wpIn_region_list ?_));simp only[wpListIn,Region.wanted,h7c,if_true];refine⟨fun _ _=>trivial,?_⟩
  show o7.uponIn _ _ _ _ _ _ ((execOp a7.eval o7).run P w)
  rw[N2 (.inl h7a),Oper.uponIn_value,h7b,e7]
  show Code.wpIn _ _ _ _ _ _ _
  refine wpIn_cond_true (KW (by omega)) ?_;refine dL (w0:=w) (g0:=g) (st0:=st) (dl:=[]) body l _ s' _ w _ hb hx ⟨g,Go1.refl hS,?_,hG,⟨[],by simp[Act.put,f7],trivial⟩,by rw[Kb]; exact s7⟩ ?_
  ·exact g7.put (dst:=some c) (fun t e=>by cases e; omega) (.junk _)
  ·rintro a' w' ⟨g',h'⟩ hd';refine⟨by rw[hd']; simp[Act.put,f7],.panicking (VT t dv),rfl,_,hresults _ _,rfl,rfl,g',h'.go1⟩
end
end Go.Proofs.YtijnglngaogdjaaGreatDoor.PI
