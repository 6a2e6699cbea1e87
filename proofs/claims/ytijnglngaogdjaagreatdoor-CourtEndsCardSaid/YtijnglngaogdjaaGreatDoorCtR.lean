/-
  What recovers from panics with values of one type, by an assertion that tells whether it holds.
  Conditions: none; these are definitions and lemmas.
-/
import Derived.Test.YtijnglngaogdjaaGreatDoorMkQ
import Derived.Test.YtijnglngaogdjaaGreatDoorSha
import Derived.Test.YtijnglngaogdjaaGreatDoorEngHe
import Derived.Test.YtijnglngaogdjaaGreatDoorFnsJ
import Derived.KernelRfl
open Int renaming reduceNatCast'→CE,reduceNeg→CD,reduceSub→CT
open List renaming replicate→CH
open Nat renaming reduceAdd→CC,reduceBEq→CU,reduceEqDiff→CB,reduceLT→CI,reduceLeDiff→CG,reduceMul→CF
open Prod renaming fst→CV,snd→CW
set_option linter.unusedVariables false
set_option linter.unusedSimpArgs false
namespace Go.Proofs.YtijnglngaogdjaaGreatDoor.PI
open Go
set_option linter.unusedSimpArgs false
set_option maxHeartbeats 8000000
set_option maxRecDepth 20000
set_option linter.unusedVariables false
def GR(x:Bis):Bool:=if x.h<0 then false else if 16<x.h then false else if x.l<0 then false else if x.h<x.l then false else if 0≤x.i then(if x.i<2 ^ (x.h - x.l).toNat then decide (x.r=x.h - x.l)else false)else false
theorem SP{x:Bis}(h:GR x=true):0≤x.h∧x.h≤16∧0≤x.l∧x.l≤x.h∧0≤x.i∧x.i<2 ^ (x.h - x.l).toNat∧x.r=x.h - x.l:=by
 unfold GR at h
 split at h; · cases h
 split at h; · cases h
 split at h; · cases h
 split at h; · cases h
 split at h
 ·split at h
  ·exact⟨by omega,by omega,by omega,by omega,by assumption,by assumption,of_decide_eq_true h⟩
  ·cases h
 ·cases h
variable {k:Nat}
theorem yKa{i:Int}(E:0≤i):i / 2 ^ k=0↔i<2 ^ k:=by
 have I:(0:Int)<2 ^ k:=Int.pow_pos (by decide);constructor
 ·intro h;have:=Int.emod_lt_of_pos i I;have e:=Ce i (2 ^ k);rw[h]at e;omega
 ·intro h;exact Int.ediv_eq_zero_of_lt E h
noncomputable def WU:List D→Option D:=De (α:=Bis) (fun a=>[DQ a]) (fun a=>True) (fun a=>.bool (GR a))
theorem bC(x:Bis):WU [DQ x]=some (.bool (GR x)):=
 DX (fun a b h=>by simp only[Aa,and_true,V4]at h; simp[h]) (x) trivial
theorem Ydm(x:Bis):@wW GG (tb [] []) XU.code (C5 [DQ x]) [] ⟨Dg XU.res (.bool (GR x))⟩:=by
 unfold XU GR
 by_cases E:x.h<0
 ·simp (disch:=first|omega|decide) only[push_cast,↓reduceIte,CB,E]
 by_cases I:16<x.h
 ·simp (disch:=first|omega|decide) only[push_cast,↓reduceIte,CB,E,I]
 by_cases J:x.l<0
 ·simp (disch:=first|omega|decide) only[push_cast,↓reduceIte,CB,E,I,J]
 by_cases M:x.h<x.l
 ·simp (disch:=first|omega|decide) only[push_cast,↓reduceIte,CB,E,I,J,M]
 by_cases N:0≤x.i
 ·have e:=yKa (k:=(x.h - x.l).toNat) N
  by_cases O:x.i<2 ^ (x.h - x.l).toNat
  ·simp (disch:=first|omega|decide) only[push_cast,↓reduceIte,CB,E,I,J,M,N,O,Fc,iv,e]
  ·simp (disch:=first|omega|decide) only[push_cast,↓reduceIte,CB,E,I,J,M,N,O,Fc,iv,e]
 ·simp (disch:=first|omega|decide) only[push_cast,↓reduceIte,CB,E,I,J,M,N]
theorem mg:Contract Tryz.prog GG 77 WU:=
 Eb uz (DC all_nil all_nil) (fun a h=>Ydm a)
theorem Yrs(n:Int)(h:0≤n∧n≤60):@wW GG (tb [(51,lM),(162,qu)] []) bX.code (C5 [.int .i64 n]) [] ⟨Dg bX.res (C3 (I6 n.toNat))⟩:=by
 obtain⟨I,J⟩:=h;unfold bX;simp (disch:=omega) only[push_cast,↓reduceIte,CB,Ybz];refine Gr (fun i:Nat=>[(0,.int .i64 n),(2,.ptr 0 0),(3,.ptr 1 0),(4,.int .i64 (i:Int))]) (fun i=>[⟨false,1,CZ Dp,false⟩,⟨false,1,CZ (I6 i),false⟩]) (fun i=>(i:Int)≤n) (fun i=>(n - i).toNat) 0 (by simp only[push_cast,↓reduceIte,CB,CI,CG,CC,↓CE] <;> rfl) (by omega) ?_;intro i hi;unfold kL;simp (disch:=omega) only[push_cast,↓reduceIte,CB];refine E4 (fun E=>?_) (fun E=>?_)
 ·simp (disch:=first|omega|decide) only[push_cast,↓reduceIte,CB,CI,CG,CC,yKt,DI];refine E0 (i+1) (by omega) (by omega) ?_;simp only[push_cast] <;> rfl
 ·have e:n.toNat=i:=by omega
  rw[e];simp (disch:=omega) only[push_cast,↓reduceIte,CB,CC,E]
def Ft(s:Int)(root:Dig):Nat→Dig
 |0=>root
 |j+1=>if El s≤(j:Int)then Ii (Ft s root j) (I6 j)else Ft s root j
noncomputable def aR:List D→Option D:=De (α:=(Int×Dig)×Int) (fun a=>[.agg (.int .i64 (CV a.1)::CZ (CW a.1)),.int .i64 a.2]) (fun a=>0≤a.2∧a.2≤60) (fun a=>C3 (Ft a.1.1 a.1.2 a.2.toNat))
theorem jk(c:Int×Dig)(n:Int)(h:0≤n∧n≤60):aR [.agg (.int .i64 (CV c)::CZ (CW c)),.int .i64 n]=some (C3 (Ft c.1 c.2 n.toNat)):=
 DX (fun⟨a0,a1⟩ ⟨b0,b1⟩ h=>by simp only[Aa,D.int.injEq,D.agg.injEq,N1,true_and,and_true]at h; simp[h,Cq]) (c,n) h
theorem yE(c:Int×Dig)(n:Int)(h:0≤n∧n≤60):@wW GG (tb [(20,Qp),(95,SI),(25,QR)] []) X7.code (C5 [.agg (.int .i64 (CV c)::CZ (CW c)),.int .i64 n]) [] ⟨Dg X7.res (C3 (Ft c.1 c.2 n.toNat))⟩:=by
 obtain⟨s,root⟩:=c;obtain⟨J,M⟩:=h;dsimp only;unfold X7;simp (disch:=omega) only[push_cast,↓EE,↓reduceIte,CB,CI,CC,Sj,IP,nj];refine Gr (fun i:Nat=>[(2,.ptr 0 0),(4,.ptr 1 0),(5,.ptr 2 0),(6,.ptr 3 0),(11,.int .i64 n),(12,.int .i64 (i:Int))]) (fun i=>[⟨false,1,.int .i64 s::CZ root,false⟩,⟨false,1,CZ Dp,false⟩,⟨false,1,CZ (Ft s root i),false⟩,⟨false,1,CZ (I6 i),false⟩]) (fun i=>(i:Int)≤n) (fun i=>(n - i).toNat) 0 (by simp only[push_cast,↓reduceIte,CB,CI,CG,CC,↓CE] <;> rfl) (by omega) ?_;intro i hi;unfold j4;simp (disch:=omega) only[push_cast,↓reduceIte,CB];refine E4 (fun I=>?_) (fun I=>?_)
 ·simp (disch:=first|omega|decide) only[push_cast,↓reduceIte,CB,Oe,Qu,I];refine E4 (fun E=>?_) (fun E=>?_)
  ·simp (disch:=first|omega|decide) only[push_cast,↓reduceIte,CB,CI,CG,CC,Lx,DI,E];refine E0 (i+1) (by omega) (by omega) ?_;rw[show Ft s root (i+1)=Ii (Ft s root i) (I6 i)from if_pos E];simp only[push_cast] <;> rfl
  ·simp (disch:=first|omega|decide) only[push_cast,↓reduceIte,CB,CI,CG,CC,Lx,DI,E];refine E0 (i+1) (by omega) (by omega) ?_;rw[show Ft s root (i+1)=Ft s root i from if_neg E];simp only[push_cast] <;> rfl
 ·have e:n.toNat=i:=by omega
  rw[e];simp (disch:=omega) only[push_cast,↓reduceIte,CB,CC,I]
theorem Yci:Contract Tryz.prog GG 76 aR:=
 Eb uL (DC (all_cons YK (all_cons fE (all_cons V5 all_nil))) all_nil) (fun a h=>yE a.1 a.2 h)
theorem En(st:St)(n sz key off:Nat)(k:IntKind)(i:Int)(E:0≤i)(I:i<(n:Int)):IG st n sz (.ptr key off) (.int k i)=some (.ptr key (off+i.toNat*sz)):=by
 simp only[IG,O8 k i E,ET];rw[if_pos (by omega)]
def LF(a b:Int×Dig):Bis:=⟨max (El a.1) (El b.1),max (El a.1) (El b.1),0,Ft a.1 a.2 (max (El a.1) (El b.1)).toNat,Ft b.1 b.2 (max (El a.1) (El b.1)).toNat,false,false,Dp,Dp,Dp,Dp,0⟩
def Ju(a b:Int×Dig):Bis:=if El a.1<0 then F9 else if El b.1<0 then F9 else if(LF a b).n0=(LF a b).n1 then F9 else LF a b
def GQ(a b:Int×Dig):Int:=if El a.1<0 then 1 else if El b.1<0 then 1 else if(LF a b).n0=(LF a b).n1 then 380 else 0
theorem QZ(n:Int):-1≤El n∧El n≤16:=by
 by_cases h:n<0∨65536<n
 ·rw[Sy h]; omega
 ·have:=fK (n:=n) (by omega) (by omega);omega
noncomputable def Oa:List D→Option D:=De (α:=(Int×Dig)×(Int×Dig)) (fun a=>[.agg (.int .i64 (CV a.1)::CZ (CW a.1)),.agg (.int .i64 (CV a.2)::CZ (CW a.2))]) (fun a=>True) (fun a=>.tup [DQ (Ju a.1 a.2),.int .i64 (GQ a.1 a.2)])
theorem bB(a:Int×Dig)(b:Int×Dig):Oa [.agg (.int .i64 (CV a)::CZ (CW a)),.agg (.int .i64 (CV b)::CZ (CW b))]=some (.tup [DQ (Ju a b),.int .i64 (GQ a b)]):=
 DX (fun⟨a0,a1⟩ ⟨b0,b1⟩ h=>by simp only[Aa,D.int.injEq,D.agg.injEq,N1,true_and,and_true]at h; simp[h,Cq]) (a,b) trivial
set_option maxHeartbeats 4000000 in
set_option maxRecDepth 20000 in
theorem Ydp(a:Int×Dig)(b:Int×Dig):@wW GG (tb [(25,QR),(76,aR)] []) XT.code (C5 [.agg (.int .i64 (CV a)::CZ (CW a)),.agg (.int .i64 (CV b)::CZ (CW b))]) [] ⟨Dg XT.res (.tup [DQ (Ju a b),.int .i64 (GQ a b)])⟩:=by
 obtain⟨s1,r1⟩:=a;obtain⟨s2,E⟩:=b;have d1:=QZ s1;have d2:=QZ s2;unfold XT Ju GQ;dsimp only
 by_cases I:El s1<0
 ·simp (disch:=first|omega|decide) only[push_cast,↓reduceIte,CB,CC,IP,Qu,Oe,I]
 by_cases J:El s2<0
 ·simp (disch:=first|omega|decide) only[push_cast,↓reduceIte,CB,CC,IP,Qu,Oe,I,J]
 have c1:=jk (s1,r1) (max (El s1) (El s2)) ⟨by omega,by omega⟩;have M:=jk (s2,E) (max (El s1) (El s2)) ⟨by omega,by omega⟩;dsimp only at c1 M;have O:(LF (s1,r1) (s2,E)).n0=Ft s1 r1 (max (El s1) (El s2)).toNat:=rfl;have U:(LF (s1,r1) (s2,E)).n1=Ft s2 E (max (El s1) (El s2)).toNat:=rfl;have V:LF (s1,r1) (s2,E)={F9 with h:=max (El s1) (El s2),l:=max (El s1) (El s2),n0:=Ft s1 r1 (max (El s1) (El s2)).toNat,n1:=Ft s2 E (max (El s1) (El s2)).toNat}:=rfl;rw[O,U,V];generalize Ft s1 r1 (max (El s1) (El s2)).toNat=p1 at*;generalize Ft s2 E (max (El s1) (El s2)).toNat=Y at*
 by_cases N:p1=Y
 ·simp (disch:=first|omega|decide) only[push_cast,↓reduceIte,CB,CC,CF,IP,Qu,Od,Oe,I,J,c1,M,N,M9,En]
 ·simp (disch:=first|omega|decide) only[push_cast,↓reduceIte,CB,CC,CF,IP,Qu,Od,Oe,I,J,c1,M,N,M9,En]
theorem eK:Contract Tryz.prog GG 26 Oa:=
 Eb uy (DC (all_cons V5 (all_cons Yci all_nil)) all_nil) (fun a h=>Ydp a.1 a.2)
def iB(x:Bis)(p:Int):Bool:=if p=0 then x.t0 else x.t1
def Q8(x:Bis)(p:Int):Dig:=if p=0 then x.n0 else x.n1
def GZ(x:Bis)(p:Int)(l r:Dig):Bis:=if p=0 then {x with t0:=true,l0:=l,r0:=r} else {x with t1:=true,l1:=l,r1:=r}
def PD(x:Bis):Bis:=if x.l0=x.l1 then {F9 with h:=x.h,l:=x.l - 1,i:=2*x.i+1,n0:=x.r0,n1:=x.r1,r:=x.r+1} else {F9 with h:=x.h,l:=x.l - 1,i:=2*x.i,n0:=x.l0,n1:=x.l1,r:=x.r+1}
def Fl(x:Bis)(p:Int)(l r:Dig):Bis:=if GR x=true∧(p=0∨p=1)then(if x.l=0∨iB x p=true then F9 else if Ii l r=Q8 x p then(if iB x (1 - p)=true then PD (GZ x p l r)else GZ x p l r)else F9)else F9
def FM(x:Bis)(p:Int)(l r:Dig):Int:=if GR x=true∧(p=0∨p=1)then(if x.l=0∨iB x p=true then 380 else if Ii l r=Q8 x p then 0 else 381)else 1
theorem lk{x:Bis}(h:GR x=true):x.i<65536:=by
 obtain⟨a,b,c,d,e,f,g⟩:=SP h;have:=eT (a:=(x.h - x.l).toNat) (b:=16) (by omega);omega
noncomputable def fw:List D→Option D:=De (α:=Bis×Int×Dig×Dig) (fun a=>[DQ a.1,.int .i64 a.2.1,C3 a.2.2.1,C3 a.2.2.2]) (fun a=>-9223372036854775808≤a.2.1∧a.2.1<9223372036854775808) (fun a=>.tup [DQ (Fl a.1 a.2.1 a.2.2.1 a.2.2.2),.int .i64 (FM a.1 a.2.1 a.2.2.1 a.2.2.2)])
theorem yO(x:Bis)(p:Int)(l:Dig)(r:Dig)(h:-9223372036854775808≤p∧p<9223372036854775808):fw [DQ x,.int .i64 p,C3 l,C3 r]=some (.tup [DQ (Fl x p l r),.int .i64 (FM x p l r)]):=
 DX (fun⟨a0,a1,E,I⟩ ⟨b0,b1,J,M⟩ h=>by simp only[Aa,D.int.injEq,Mt,true_and,and_true,V4]at h; simp[h]) (x,p,l,r) h
set_option maxHeartbeats 4000000 in
set_option maxRecDepth 20000 in
theorem Ylu(x:Bis)(p:Int)(l:Dig)(r:Dig)(h:-9223372036854775808≤p∧p<9223372036854775808):@wW GG (tb [(77,WU),(95,SI)] []) Yk.code (C5 [DQ x,.int .i64 p,C3 l,C3 r]) [] ⟨Dg Yk.res (.tup [DQ (Fl x p l r),.int .i64 (FM x p l r)])⟩:=by
 unfold Yk
 by_cases hv:GR x=true
 ·have O:=bC x;rw[hv]at O
  by_cases hp:p=0∨p=1
  ·obtain⟨v1,v2,v3,v4,v5,v6,v7⟩:=SP hv;have v8:=lk hv;rcases hp with rfl | rfl
   ·have Y:¬ (1:Int)=0:=by decide
    by_cases E:x.l=0
    ·have I:Fl x 0 l r=F9:=by unfold Fl; rw[if_pos ⟨hv,.inl rfl⟩,if_pos (.inl E)]
     have J:FM x 0 l r=380:=by unfold FM; rw[if_pos ⟨hv,.inl rfl⟩,if_pos (.inl E)]
     rw[I,J];simp (disch:=first|omega|decide) only[push_cast,↓reduceIte,CB,CC,O,E]
    by_cases M:x.t0=true
    ·have I:Fl x 0 l r=F9:=by unfold Fl; rw[if_pos ⟨hv,.inl rfl⟩,if_pos (.inr M)]
     have J:FM x 0 l r=380:=by unfold FM; rw[if_pos ⟨hv,.inl rfl⟩,if_pos (.inr M)]
     rw[I,J];simp (disch:=first|omega|decide) only[push_cast,↓reduceIte,CB,CC,CF,O,E,M,En]
    have U:x.t0=false:=by simpa using M
    by_cases N:Ii l r=x.n0
    ·by_cases V:x.t1=true
     ·have I:Fl x 0 l r=PD (GZ x 0 l r):=by unfold Fl; rw[if_pos ⟨hv,.inl rfl⟩,if_neg (by intro h; rcases h with h | h; exact E h; exact M h),if_pos (show Ii l r=Q8 x 0 from N)]; exact if_pos V
      have J:FM x 0 l r=0:=by unfold FM; rw[if_pos ⟨hv,.inl rfl⟩,if_neg (by intro h; rcases h with h | h; exact E h; exact M h)]; exact if_pos N
      rw[I,J,show GZ x 0 l r={x with t0:=true,l0:=l,r0:=r} from rfl];unfold PD
      by_cases h5:l=x.l1
      ·simp (disch:=first|omega|decide) only[push_cast,↓EE,↓reduceIte,CB,CC,CF,CU,CT,O,E,U,N,V,← h5,En,Lx,Fc,MD,DI,M9]
      ·simp (disch:=first|omega|decide) only[push_cast,↓EE,↓reduceIte,CB,CC,CF,CU,CT,O,E,U,N,V,h5,En,Lx,Fc,MD,DI,M9]
     ·have ac:x.t1=false:=by simpa using V
      have I:Fl x 0 l r=GZ x 0 l r:=by unfold Fl; rw[if_pos ⟨hv,.inl rfl⟩,if_neg (by intro h; rcases h with h | h; exact E h; exact M h),if_pos (show Ii l r=Q8 x 0 from N)]; exact if_neg V
      have J:FM x 0 l r=0:=by unfold FM; rw[if_pos ⟨hv,.inl rfl⟩,if_neg (by intro h; rcases h with h | h; exact E h; exact M h)]; exact if_pos N
      rw[I,J,show GZ x 0 l r={x with t0:=true,l0:=l,r0:=r} from rfl];simp (disch:=first|omega|decide) only[push_cast,↓EE,↓reduceIte,CB,CC,CF,CU,CT,O,E,U,N,ac,En,Lx,Fc]
    ·have I:Fl x 0 l r=F9:=by unfold Fl; rw[if_pos ⟨hv,.inl rfl⟩,if_neg (by intro h; rcases h with h | h; exact E h; exact M h)]; exact if_neg N
     have J:FM x 0 l r=381:=by unfold FM; rw[if_pos ⟨hv,.inl rfl⟩,if_neg (by intro h; rcases h with h | h; exact E h; exact M h)]; exact if_neg N
     rw[I,J];simp (disch:=first|omega|decide) only[push_cast,↓reduceIte,CB,CC,CF,O,E,U,N,En,Lx]
   ·have Y:¬ (1:Int)=0:=by decide
    by_cases E:x.l=0
    ·have I:Fl x 1 l r=F9:=by unfold Fl; rw[if_pos ⟨hv,.inr rfl⟩,if_pos (.inl E)]
     have J:FM x 1 l r=380:=by unfold FM; rw[if_pos ⟨hv,.inr rfl⟩,if_pos (.inl E)]
     rw[I,J];simp (disch:=first|omega|decide) only[push_cast,↓reduceIte,CB,CC,O,E,Y]
    by_cases M:x.t1=true
    ·have I:Fl x 1 l r=F9:=by unfold Fl; rw[if_pos ⟨hv,.inr rfl⟩,if_pos (.inr M)]
     have J:FM x 1 l r=380:=by unfold FM; rw[if_pos ⟨hv,.inr rfl⟩,if_pos (.inr M)]
     rw[I,J];simp (disch:=first|omega|decide) only[push_cast,↓reduceIte,CB,CC,CF,O,E,M,Y,En]
    have U:x.t1=false:=by simpa using M
    by_cases N:Ii l r=x.n1
    ·by_cases V:x.t0=true
     ·have I:Fl x 1 l r=PD (GZ x 1 l r):=by unfold Fl; rw[if_pos ⟨hv,.inr rfl⟩,if_neg (by intro h; rcases h with h | h; exact E h; exact M h),if_pos (show Ii l r=Q8 x 1 from N)]; exact if_pos V
      have J:FM x 1 l r=0:=by unfold FM; rw[if_pos ⟨hv,.inr rfl⟩,if_neg (by intro h; rcases h with h | h; exact E h; exact M h)]; exact if_pos N
      rw[I,J,show GZ x 1 l r={x with t1:=true,l1:=l,r1:=r} from rfl];unfold PD
      by_cases h5:l=x.l0
      ·simp (disch:=first|omega|decide) only[push_cast,↓EE,↓reduceIte,CB,CC,CF,CU,CT,O,E,U,N,V,Y,← h5,En,Lx,Fc,MD,DI,M9]
      ·have h6:¬ x.l0=l:=fun h=>h5 h.symm;simp (disch:=first|omega|decide) only[push_cast,↓EE,↓reduceIte,CB,CC,CF,CU,CT,O,E,U,N,V,h5,h6,Y,En,Lx,Fc,MD,DI,M9]
     ·have ac:x.t0=false:=by simpa using V
      have I:Fl x 1 l r=GZ x 1 l r:=by unfold Fl; rw[if_pos ⟨hv,.inr rfl⟩,if_neg (by intro h; rcases h with h | h; exact E h; exact M h),if_pos (show Ii l r=Q8 x 1 from N)]; exact if_neg V
      have J:FM x 1 l r=0:=by unfold FM; rw[if_pos ⟨hv,.inr rfl⟩,if_neg (by intro h; rcases h with h | h; exact E h; exact M h)]; exact if_pos N
      rw[I,J,show GZ x 1 l r={x with t1:=true,l1:=l,r1:=r} from rfl];simp (disch:=first|omega|decide) only[push_cast,↓EE,↓reduceIte,CB,CC,CF,CU,CT,O,E,U,N,ac,Y,En,Lx,Fc]
    ·have I:Fl x 1 l r=F9:=by unfold Fl; rw[if_pos ⟨hv,.inr rfl⟩,if_neg (by intro h; rcases h with h | h; exact E h; exact M h)]; exact if_neg N
     have J:FM x 1 l r=381:=by unfold FM; rw[if_pos ⟨hv,.inr rfl⟩,if_neg (by intro h; rcases h with h | h; exact E h; exact M h)]; exact if_neg N
     rw[I,J];simp (disch:=first|omega|decide) only[push_cast,↓reduceIte,CB,CC,CF,O,E,U,N,Y,En,Lx]
  ·have I:Fl x p l r=F9:=by unfold Fl; exact if_neg fun h=>hp h.2
   have J:FM x p l r=1:=by unfold FM; exact if_neg fun h=>hp h.2
   have p0:¬ p=0:=fun h=>hp (.inl h);have p1:¬ p=1:=fun h=>hp (.inr h);rw[I,J];simp (disch:=first|omega|decide) only[push_cast,↓reduceIte,CB,CC,O,p0,p1]
 ·have ad:GR x=false:=by simpa using hv
  have O:=bC x;rw[ad]at O;have I:Fl x p l r=F9:=by unfold Fl; exact if_neg fun h=>hv h.1
  have J:FM x p l r=1:=by unfold FM; exact if_neg fun h=>hv h.1
  rw[I,J];simp (disch:=first|omega|decide) only[push_cast,↓reduceIte,CB,CC,O]
theorem Yqw:Contract Tryz.prog GG 122 fw:=
 Eb u5 (DC (all_cons mg (all_cons fE all_nil)) all_nil) (fun a h=>Ylu a.1 a.2.1 a.2.2.1 a.2.2.2 h)
noncomputable def Yej:List D→Option D:=De (α:=Bis×Int×Dig×Dig) (fun a=>[DQ a.1,.int .i64 a.2.1,C3 a.2.2.1,C3 a.2.2.2]) (fun a=>-9223372036854775808≤a.2.1∧a.2.1<9223372036854775808) (fun a=>.tup [DQ (Fl a.1 a.2.1 a.2.2.1 a.2.2.2),.int .i64 (FM a.1 a.2.1 a.2.2.1 a.2.2.2)])
theorem Yrt(x:Bis)(p:Int)(l:Dig)(r:Dig)(h:-9223372036854775808≤p∧p<9223372036854775808):Yej [DQ x,.int .i64 p,C3 l,C3 r]=some (.tup [DQ (Fl x p l r),.int .i64 (FM x p l r)]):=
 DX (fun⟨a0,a1,E,I⟩ ⟨b0,b1,J,M⟩ h=>by simp only[Aa,D.int.injEq,Mt,true_and,and_true,V4]at h; simp[h]) (x,p,l,r) h
theorem Is(st:St)(a b:Dig):DR st (EG a b)=some (EG a b):=QY st (n6 a b)
def Lj(x:Bis):Bool:=GR x && decide (x.l≤0)
def KD(x:Bis):Int:=if Lj x=true then x.i else 0
def H7(x:Bis):Dig:=if Lj x=true then x.n0 else Dp
def H8(x:Bis):Dig:=if Lj x=true then x.n1 else Dp
noncomputable def Sc:List D→Option D:=De (α:=Bis) (fun a=>[DQ a]) (fun a=>True) (fun a=>.tup [.int .i64 (KD a),.agg (EG (H7 a) (H8 a)),.bool (Lj a)])
theorem W0(x:Bis):Sc [DQ x]=some (.tup [.int .i64 (KD x),.agg (EG (H7 x) (H8 x)),.bool (Lj x)]):=
 DX (fun a b h=>by simp only[Aa,and_true,V4]at h; simp[h]) (x) trivial
set_option maxHeartbeats 4000000 in
set_option maxRecDepth 20000 in
theorem Ylt(x:Bis):@wW GG (tb [(77,WU)] []) XP.code (C5 [DQ x]) [] ⟨Dg XP.res (.tup [.int .i64 (KD x),.agg (EG (H7 x) (H8 x)),.bool (Lj x)])⟩:=by
 have E:=bC x;unfold XP KD H7 H8 Lj
 by_cases hv:GR x=true
 ·rw[hv]at E ⊢
  by_cases J:0<x.l
  ·have I:¬ x.l≤0:=by omega
   simp (disch:=first|omega|decide) only[push_cast,↓reduceIte,CB,Is,E,J,I]
  ·have I:x.l≤0:=by omega
   simp (disch:=first|omega|decide) only[push_cast,↓reduceIte,CB,Is,E,J,I]
 ·have M:GR x=false:=by simpa using hv
  rw[M]at E ⊢;simp (disch:=first|omega|decide) only[push_cast,↓reduceIte,CB,Is,E]
theorem cY:Contract Tryz.prog GG 88 Sc:=
 Eb yB4 (DC (all_cons mg all_nil) all_nil) (fun a h=>Ylt a)
structure Ky where
 kd:Int
 wg:Int
 rr:Int
 rn:Int
 pt:Int
 deriving DecidableEq,Inhabited
def Hd(k:Ky):List D:=[.int .i64 k.kd,.int .i64 k.wg,.int .i64 k.rr,.int .i64 k.rn,.int .i64 k.pt]
def DJ(k:Ky):D:=.agg (Hd k)
abbrev Dj(l:List Ky):D:=.slc (nz 5 (l.map DJ)) (l.map DJ) false
theorem lg{a b:Ky}:Hd a=Hd b↔a=b:=by
 refine⟨fun h=>?_,fun h=>by rw[h]⟩;obtain⟨a1,E,I,J,M⟩:=a;obtain⟨b1,N,O,U,V⟩:=b;simp only[Hd,Aa,D.int.injEq,true_and,and_true]at h;obtain⟨rfl,rfl,rfl,rfl,rfl⟩:=h;rfl
theorem Zf{a b:Ky}:DJ a=DJ b↔a=b:=by simp only[DJ,D.agg.injEq,lg]
theorem Zg{a b:List Ky}:a.map DJ=b.map DJ↔a=b:=by
 refine⟨fun h=>?_,fun h=>by rw[h]⟩
 induction a generalizing b with
 |nil=>cases b with
  |nil=>rfl
  |cons y b=>simp at h
 |cons x a E=>cases b with
  |nil=>simp at h
  |cons y b=>
   simp only[Ax,Aa,Zf]at h;rw[h.1,E h.2]
theorem Ws{a b:List Ky}:Dj a=Dj b↔a=b:=by
 simp only[Dj,D.slc.injEq,and_true,Zg];exact⟨fun h=>h.2,fun h=>⟨by rw[h],h⟩⟩
theorem Ycy{a b:List Bool}:a.map D.bool=b.map D.bool↔a=b:=by
 refine⟨fun h=>?_,fun h=>by rw[h]⟩
 induction a generalizing b with
 |nil=>cases b with
  |nil=>rfl
  |cons y b=>simp at h
 |cons x a E=>cases b with
  |nil=>simp at h
  |cons y b=>
   simp only[Ax,Aa,D.bool.injEq]at h;rw[h.1,E h.2]
structure Cse where
 key:Ky
 p0:Int
 p1:Int
 ph:Int
 dl:Int
 a0:Int
 a1:Int
 c0:Int×Dig
 c1:Int×Dig
 b:Bis
 wn:Int
 am:Int
 ct:Int
 jn:List Ky
 deriving DecidableEq
def Jb(x:Bis):List Sg:=[.c (.int .i64 x.h),.c (.int .i64 x.l),.c (.int .i64 x.i),.g x.n0,.g x.n1,.c (.bool x.t0),.c (.bool x.t1),.g x.l0,.g x.l1,.g x.r0,.g x.r1,.c (.int .i64 x.r)]
theorem Qj(x:Bis):Da (Jb x)=Db x:=by simp[Da,Jb,Db,Sg.cs]
def JJ(k:Ky):List Sg:=[.c (.int .i64 k.kd),.c (.int .i64 k.wg),.c (.int .i64 k.rr),.c (.int .i64 k.rn),.c (.int .i64 k.pt)]
theorem bZ(k:Ky):Da (JJ k)=Hd k:=rfl
def D5(x:Cse)(j:D):List Sg:=JJ x.key++[.c (.int .i64 x.p0),.c (.int .i64 x.p1),.c (.int .i64 x.ph),.c (.int .i64 x.dl),.c (.int .i64 x.a0),.c (.int .i64 x.a1),.c (.int .i64 x.c0.1),.g x.c0.2,.c (.int .i64 x.c1.1),.g x.c1.2]++Jb x.b++[.c (.int .i64 x.wn),.c (.int .i64 x.am),.c (.int .i64 x.ct),.c j]
def C9(x:Cse)(j:D):List D:=Da (D5 x j)
def Di(x:Cse):D:=.agg (C9 x (Dj x.jn))
theorem GI(x:Cse)(j:D):Jy (D5 x j):=trivial
theorem LS(x:Cse)(j:D):(C9 x j).length=279:=by
 rw[C9,Nb (GI x j)]; simp[HX,D5,JJ,Jb,Sg.sz]
variable {j:D}
theorem dW{x y:Cse}{i:D}(h:C9 x i=C9 y j):({x with jn:=[]}:Cse)={y with jn:=[]}∧i=j:=by
 obtain⟨J,x0,x1,x2,x3,x4,x5,M,N,xb,x6,x7,x8,xj⟩:=x;obtain⟨O,y0,y1,y2,y3,y4,y5,U,V,yb,y6,y7,y8,yj⟩:=y;obtain⟨a2,a3,a4,a5,a6⟩:=J;obtain⟨a7,a8,a9,ba,bb⟩:=O;obtain⟨bc,bd⟩:=M;obtain⟨be,bf⟩:=N;obtain⟨bg,bh⟩:=U;obtain⟨b1,b2⟩:=V;simp only[C9,D5,JJ,Ae,Ai,Da,Sg.cs,Kx,Qj,Aa,D.int.injEq,true_and,Ad]at h;obtain⟨rfl,rfl,rfl,rfl,rfl,rfl,rfl,rfl,rfl,rfl,rfl,rfl,h⟩:=h;obtain⟨Y,E⟩:=A2 h (by simp[DK]);clear h;simp only[Aa,D.int.injEq,true_and]at E;obtain⟨q1,h3⟩:=E;obtain⟨h4,h5⟩:=A2 h3 (by simp[DK]);obtain⟨h6,I⟩:=A2 h5 (by simp[SO]);simp only[Aa,D.int.injEq,true_and,and_true]at I;obtain⟨q2,q3,q4,q5⟩:=I;subst q1 q2 q3 q4 q5;obtain rfl:=Lt Y;obtain rfl:=Lt h4;obtain rfl:=mc h6;exact⟨rfl,rfl⟩
theorem M7{x y:Cse}:Di x=Di y↔x=y:=by
 refine⟨fun h=>?_,fun h=>by rw[h]⟩;simp only[Di,D.agg.injEq]at h;obtain⟨E,I⟩:=dW h;rw[Ws]at I;obtain⟨J,M,N,O,U,V,Y,xc,xe,xb,x6,x7,x8,xj⟩:=x;obtain⟨yk,y0,y1,y2,y3,y4,y5,yc,ye,yb,y6,y7,y8,yj⟩:=y;simp only[Cse.mk.injEq,and_true]at E I ⊢;exact⟨E.1,E.2.1,E.2.2.1,E.2.2.2.1,E.2.2.2.2.1,E.2.2.2.2.2.1,E.2.2.2.2.2.2.1,E.2.2.2.2.2.2.2.1,E.2.2.2.2.2.2.2.2.1,E.2.2.2.2.2.2.2.2.2.1,E.2.2.2.2.2.2.2.2.2.2.1,E.2.2.2.2.2.2.2.2.2.2.2.1,E.2.2.2.2.2.2.2.2.2.2.2.2,I⟩
def cK:Ky:=⟨0,0,0,0,0⟩
def FQ:Cse:=⟨cK,0,0,0,0,0,0,(0,Dp),(0,Dp),F9,0,0,0,[]⟩
structure Mv where
 kd:Int
 pt:Int
 am:Int
 cm:Int×Dig
 lf:Dig
 rt:Dig
 op:Opn
 path:List Dig
 key:Ky
 deriving DecidableEq
abbrev H2(l:List Dig):D:=.slc (nz 32 (l.map C3)) (l.map C3) false
def Hl(o:Opn)(t:D):List Sg:=[.c (.int .i64 o.pc),.c (.int .i64 o.fuel),.c (.int .i64 o.status),.c (.int .i64 o.clause),.c t,.c (.int .i64 o.depth),.g o.rest]
theorem dm(o:Opn):Da (Hl o (Eo o.top))=EF o:=by simp[Da,Hl,EF,Sg.cs]
def K5(m:Mv):List Sg:=[.c (.int .i64 m.kd),.c (.int .i64 m.pt),.c (.int .i64 m.am),.c (.int .i64 m.cm.1),.g m.cm.2,.g m.lf,.g m.rt]++Hl m.op (Eo m.op.top)++[.c (H2 m.path)]++JJ m.key
def HD(m:Mv):List D:=Da (K5 m)
def FL(m:Mv):D:=.agg (HD m)
theorem S4(m:Mv):Jy (K5 m):=trivial
theorem SG(m:Mv):(HD m).length=144:=by
 rw[HD,Nb (S4 m)]; simp[HX,K5,Hl,JJ,Sg.sz]
theorem dE{x y:Mv}:FL x=FL y↔x=y:=by
 refine⟨fun h=>?_,fun h=>by rw[h]⟩;obtain⟨x1,x2,x3,⟨x4,x5⟩,x6,x7,x8,x9,Y⟩:=x;obtain⟨y1,y2,y3,⟨y4,y5⟩,y6,y7,y8,y9,aa⟩:=y;simp only[FL,D.agg.injEq,HD,K5,Kx,dm,Ah]at h;simp only[Da,Sg.cs,Ae,Ai,Aa,D.int.injEq,true_and,Ad,Ah]at h;obtain⟨rfl,rfl,rfl,rfl,h⟩:=h;obtain⟨I,g1⟩:=A2 h (by simp[DK]);obtain⟨J,g2⟩:=A2 g1 (by simp[DK]);obtain⟨M,N⟩:=A2 g2 (by simp[DK]);obtain⟨O,E⟩:=A2 N (by simp[J3,Xd]);simp only[Aa,H2,D.slc.injEq,and_true,dY,bZ,lg]at E;obtain⟨⟨_,U⟩,V⟩:=E;subst U V;obtain rfl:=Lt I;obtain rfl:=Lt J;obtain rfl:=Lt M;obtain rfl:=QI.1 (congrArg D.agg O);rfl
structure Ply where
 x:Cse
 j:D
 c:List Ins
 v:Int×List Int
 m:Mv
 now:Int
 hv:Fa v
def D8(p:Ply):List Sg:=D5 p.x p.j++[.c (Gw p.c),.w 17 (Ed p.v)]++K5 p.m++[.c (.int .i64 p.now)]
def C7(p:Ply):List D:=Da (D8 p)
theorem Gk(p:Ply):Jy (D8 p):=⟨Jq p.hv,trivial⟩
theorem yMm(p:Ply):(C7 p).length=442:=by
 rw[C7,Nb (Gk p)]; simp[HX,D8,D5,K5,Hl,Jb,JJ,Sg.sz]
def Il(n:Int):Prop:=-9007199254740992≤n∧n≤9007199254740992
instance (n:Int):Decidable (Il n):=inferInstanceAs (Decidable (_∧_))
def Ia(x:Cse):Prop:=x.ph=4∨x.ph=5∨x.ph=6
instance (x:Cse):Decidable (Ia x):=inferInstanceAs (Decidable (_∨_))
def Fe(x:Cse):Prop:=x.ph=1∨x.ph=2∨x.ph=3
instance (x:Cse):Decidable (Fe x):=inferInstanceAs (Decidable (_∨_))
def IW(x:Cse)(w a:Int):Cse:={x with ph:=4,wn:=w,am:=a}
def Pt(x:Cse)(p:Int):Int:=if p=0 then x.a0 else x.a1
def Je(x:Cse)(p:Int):Int×Dig:=if p=0 then x.c0 else x.c1
def Fo(x:Cse)(p:Int):Cse:=if p<0 then IW x (-1) 0 else IW x p (Pt x p)
def K8(x:Cse)(n:Int):Int:=if x.a0=n then 0 else if x.a1=n then 1 else -1
def Q1(x:Cse)(n:Int):Cse:=IW x (K8 x n) n
def Rd(x:Cse)(now:Int):Cse:={x with ph:=3,dl:=now+1440}
def Ji(c:List Ins)(v:Int×List Int)(x:Cse)(now:Int):Cse×Int:=
 if Lj x.b=true then
  if KD x.b=0 then
   if(Hf c v).2=0 then(Fo x (G8 (H7 x.b,H8 x.b) (Hf c v)).1,0)else(x,(Hf c v).2)
  else(Rd x now,0)
 else(x,0)
def MA(c:List Ins)(v:Int×List Int)(x:Cse)(m:Mv)(now:Int):Cse×Int:=
 if m.pt=1∧x.ph=1 then
  if Il m.am then
   let y:Cse:={x with a1:=m.am,c1:=m.cm}
   if GQ x.c0 m.cm=1 then(y,381)
   else if GQ x.c0 m.cm=0 then Ji c v {y with b:=Ju x.c0 m.cm,ph:=2,dl:=now+1440} now
   else if x.a0=m.am then(Fo y 1,0)
   else if c.length=0 then(Q1 y 0,0)
   else(Rd y now,0)
  else(x,1)
 else(x,380)
def Pv(c:List Ins)(v:Int×List Int)(x:Cse)(m:Mv)(now:Int):Cse×Int:=
 if x.ph=2 then
  if FM x.b m.pt m.lf m.rt=0 then
   if(Fl x.b m.pt m.lf m.rt).r=x.b.r then({x with b:=Fl x.b m.pt m.lf m.rt},0)
   else Ji c v {x with b:=Fl x.b m.pt m.lf m.rt,dl:=now+1440} now
  else(x,FM x.b m.pt m.lf m.rt)
 else(x,380)
def GN(x:Cse)(p:Int):Int:=if GQ x.c0 x.c1=380 then(Je x p).1 else if GQ x.c0 x.c1=0 then KD x.b else 0
def G7(x:Cse)(p:Int):Int×Bool:=
 if x.ph=3∧(p=0∨p=1)then
  if GN x p=0 then(0,false)else(GN x p - 1,true)
 else(0,false)
def hJ(l:List Int):Int:=l.getD (l.length - 1) 0
def Px(c:List Ins)(v:Int×List Int)(x:Cse)(m:Mv):Cse×Int:=
 if(G7 x m.pt).2=true then
  if GQ x.c0 x.c1=380 then
   if Hc (Je x m.pt) (G7 x m.pt).1 (F5 c v m.op) m.path=true then
    if m.op.status≠0∧(m.op.status≠1∨0<m.op.top.length)then(Q1 x (if m.op.status=1 then hJ m.op.top else 0),0)
    else(x,390)
   else(x,40)
  else
   let i:=(G7 x m.pt).1
   let bef:=if(Je x m.pt).1≤i then EL else F5 c v m.op
   if 2 ^ (El (Je x m.pt).1).toNat≤i∨Hc (Je x m.pt) i bef m.path=true then
    if(FB c v bef m.op).2=0 then(Fo x (G8 (H7 x.b,H8 x.b) (FB c v bef m.op)).1,0)
    else(x,(FB c v bef m.op).2)
   else(x,40)
 else(x,380)
def PE(x:Cse)(m:Mv):Cse×Int:=if m.pt=0 then({x with ph:=5,wn:=1},0)else(x,380)
def Oj(x:Cse)(m:Mv):Cse×Int:=if m.pt=1 then(Fo x 0,0)else if 0≤x.ct then(IW x 1 x.ct,0)else(x,380)
def Ok(x:Cse)(m:Mv)(now:Int):Cse×Int:=
 if m.pt=1∧x.ph=1∧x.ct<0 then
  if 0≤m.am∧Il m.am then({x with ct:=m.am,dl:=now+1440},0)else(x,1)
 else(x,380)
def HH(x:Cse)(m:Mv):Cse×Int:=
 if m.pt=0∧x.ph=1 then
  if x.jn.length<8 then
   if m.key≠x.key∧m.key∉x.jn then({x with jn:=x.jn++[m.key]},0)else(x,1)
  else(x,2)
 else(x,380)
def Fz(c:List Ins)(v:Int×List Int)(x:Cse)(m:Mv)(now:Int):Cse×Int:=
 if m.kd=1 then MA c v x m now
 else if m.kd=2 then Pv c v x m now
 else if m.kd=3 then Px c v x m
 else if m.kd=4 then PE x m
 else if m.kd=5 then Oj x m
 else if m.kd=6 then Ok x m now
 else HH x m
def FA(c:List Ins)(v:Int×List Int)(x:Cse)(m:Mv)(now:Int):Int:=
 if Fe x then
  if(1≤m.kd∧m.kd≤7)∧0≤now∧now≤1073741824∧(m.pt=0∨m.pt=1)then
   if now≤x.dl then(Fz c v x m now).2 else 401
  else 1
 else 400
def GX(c:List Ins)(v:Int×List Int)(x:Cse)(m:Mv)(now:Int):Cse:=if FA c v x m now=0 then(Fz c v x m now).1 else FQ
def FO(p q n:Int)(c:Int×Dig)(now:Int):Int:=
 if min p q<0∨16≤max p q∨p=q∨¬ Il n∨now<0∨1073741824<now then 1 else if c.1<0∨65536<c.1 then 381 else 0
def Kp(k:Ky)(p q n:Int)(c:Int×Dig)(now:Int):Cse:=
 if FO p q n c now=0 then⟨k,p,q,1,now+1440,n,0,c,(0,Dp),F9,-1,0,-1,[]⟩else FQ
def Gn(x:Cse):Int:=if x.ph=1 then 0 else if x.ph=2∧x.b.t0≠x.b.t1 then(if x.b.t0=true then 0 else 1)else -1
def II(x:Cse)(now:Int):Cse:=if Fe x∧x.dl<now then {Fo x (Gn x)with ph:=6} else x
section
variable (p:Ply) (sz:Nat) (lent:Bool)
theorem Hy:Dr (some ⟨false,sz,C7 p,lent⟩) 1 false 7=some (.int .i64 p.x.ph):=GS (l:=D8 p) rfl rfl (Gk p)
theorem YY:Dr (some ⟨false,sz,C7 p,lent⟩) 1 false 9=some (.int .i64 p.x.a0):=GS (l:=D8 p) rfl rfl (Gk p)
theorem YO:Dr (some ⟨false,sz,C7 p,lent⟩) 1 false 10=some (.int .i64 p.x.a1):=GS (l:=D8 p) rfl rfl (Gk p)
theorem cC:Dr (some ⟨false,sz,C7 p,lent⟩) 1 false 274=some (.int .i64 p.x.b.r):=GS (l:=D8 p) rfl rfl (Gk p)
theorem Rs:Dr (some ⟨false,sz,C7 p,lent⟩) 1 false 277=some (.int .i64 p.x.ct):=GS (l:=D8 p) rfl rfl (Gk p)
theorem S5:Dr (some ⟨false,sz,C7 p,lent⟩) 1 false 278=some p.j:=GS (l:=D8 p) rfl rfl (Gk p)
theorem F1:Dr (some ⟨false,sz,C7 p,lent⟩) 1 false 279=some (Gw p.c):=GS (l:=D8 p) rfl rfl (Gk p)
theorem Es:Dr (some ⟨false,sz,C7 p,lent⟩) 1 false 298=some (.int .i64 p.m.pt):=GS (l:=D8 p) rfl rfl (Gk p)
theorem Mm:Dr (some ⟨false,sz,C7 p,lent⟩) 1 false 299=some (.int .i64 p.m.am):=GS (l:=D8 p) rfl rfl (Gk p)
theorem Ib:Dr (some ⟨false,sz,C7 p,lent⟩) 1 false 435=some (H2 p.m.path):=GS (l:=D8 p) rfl rfl (Gk p)
theorem Yn4:Dr (some ⟨false,sz,C7 p,lent⟩) 1 false 441=some (.int .i64 p.now):=GS (l:=D8 p) rfl rfl (Gk p)
theorem Zn:Dr (some ⟨false,sz,C7 p,lent⟩) 5 true 0=some (DJ p.x.key):=Iu (l:=D8 p) rfl rfl (Gk p) rfl
theorem fe:Dr (some ⟨false,sz,C7 p,lent⟩) 279 true 0=some (.agg (C9 p.x p.j)):=Iu (l:=D8 p) rfl rfl (Gk p) rfl
theorem FH:Dr (some ⟨false,sz,C7 p,lent⟩) 33 true 11=some (.agg (.int .i64 p.x.c0.1::CZ p.x.c0.2)):=Iu (l:=D8 p) rfl rfl (Gk p) (by simp[Da,Sg.cs])
theorem FI:Dr (some ⟨false,sz,C7 p,lent⟩) 33 true 44=some (.agg (.int .i64 p.x.c1.1::CZ p.x.c1.2)):=Iu (l:=D8 p) rfl rfl (Gk p) (by simp[Da,Sg.cs])
theorem Hx:Dr (some ⟨false,sz,C7 p,lent⟩) 198 true 77=some (DQ p.x.b):=Iu (l:=D8 p) rfl rfl (Gk p) (by rw[DQ,← Qj]; rfl)
theorem Gf:Dr (some ⟨false,sz,C7 p,lent⟩) 17 true 280=some (Ew p.v):=Iu (l:=D8 p) rfl rfl (Gk p) (by simp[Da,Sg.cs,Ew])
theorem Rt:Dr (some ⟨false,sz,C7 p,lent⟩) 33 true 300=some (.agg (.int .i64 p.m.cm.1::CZ p.m.cm.2)):=Iu (l:=D8 p) rfl rfl (Gk p) (by simp[Da,Sg.cs])
theorem YP:Dr (some ⟨false,sz,C7 p,lent⟩) 32 true 333=some (C3 p.m.lf):=Iu (l:=D8 p) rfl rfl (Gk p) (by simp[Da,Sg.cs,C3])
theorem YQ:Dr (some ⟨false,sz,C7 p,lent⟩) 32 true 365=some (C3 p.m.rt):=Iu (l:=D8 p) rfl rfl (Gk p) (by simp[Da,Sg.cs,C3])
theorem GA:Dr (some ⟨false,sz,C7 p,lent⟩) 38 true 397=some (DO p.m.op):=Iu (l:=D8 p) rfl rfl (Gk p) (by rw[DO,← dm]; rfl)
theorem Zo:Dr (some ⟨false,sz,C7 p,lent⟩) 5 true 436=some (DJ p.m.key):=Iu (l:=D8 p) rfl rfl (Gk p) rfl
end
section
variable (p:Ply) (sz:Nat)
theorem TA(n:Int):DZ (some ⟨false,sz,C7 p,false⟩) 1 7 (.int .i64 n)=some ⟨false,sz,C7 {p with x:={p.x with ph:=n}},false⟩:=KL (l:=D8 p) (X:=[.c (.int .i64 n)]) rfl rfl (Gk p) rfl rfl rfl rfl
theorem Ysy(n:Int):DZ (some ⟨false,sz,C7 p,false⟩) 1 8 (.int .i64 n)=some ⟨false,sz,C7 {p with x:={p.x with dl:=n}},false⟩:=KL (l:=D8 p) (X:=[.c (.int .i64 n)]) rfl rfl (Gk p) rfl rfl rfl rfl
theorem Rm(n:Int):DZ (some ⟨false,sz,C7 p,false⟩) 1 10 (.int .i64 n)=some ⟨false,sz,C7 {p with x:={p.x with a1:=n}},false⟩:=KL (l:=D8 p) (X:=[.c (.int .i64 n)]) rfl rfl (Gk p) rfl rfl rfl rfl
theorem tH(n:Int):DZ (some ⟨false,sz,C7 p,false⟩) 1 275 (.int .i64 n)=some ⟨false,sz,C7 {p with x:={p.x with wn:=n}},false⟩:=KL (l:=D8 p) (X:=[.c (.int .i64 n)]) rfl rfl (Gk p) rfl rfl rfl rfl
theorem Ys0(n:Int):DZ (some ⟨false,sz,C7 p,false⟩) 1 276 (.int .i64 n)=some ⟨false,sz,C7 {p with x:={p.x with am:=n}},false⟩:=KL (l:=D8 p) (X:=[.c (.int .i64 n)]) rfl rfl (Gk p) rfl rfl rfl rfl
theorem Ysz(n:Int):DZ (some ⟨false,sz,C7 p,false⟩) 1 277 (.int .i64 n)=some ⟨false,sz,C7 {p with x:={p.x with ct:=n}},false⟩:=KL (l:=D8 p) (X:=[.c (.int .i64 n)]) rfl rfl (Gk p) rfl rfl rfl rfl
theorem tG(k t f l:Nat):DZ (some ⟨false,sz,C7 p,false⟩) 1 278 (.row k t f l)=some ⟨false,sz,C7 {p with j:=.row k t f l},false⟩:=KL (l:=D8 p) (X:=[.c (.row k t f l)]) rfl rfl (Gk p) rfl rfl rfl rfl
theorem Rn(c:Int×Dig):DZ (some ⟨false,sz,C7 p,false⟩) 33 44 (.agg (.int .i64 c.1::CZ c.2))=some ⟨false,sz,C7 {p with x:={p.x with c1:=c}},false⟩:=
 KL (l:=D8 p) (X:=[.c (.int .i64 c.1),.g c.2]) rfl rfl (Gk p) rfl (by simp[Da,Sg.cs,D.cells]) (by simp[Da,Sg.cs,DK]) (by simp only[Da,Sg.cs,Ad,Ae,Ai,A3,IQ]; rfl)
theorem Tc(b:Bis):DZ (some ⟨false,sz,C7 p,false⟩) 198 77 (DQ b)=some ⟨false,sz,C7 {p with x:={p.x with b:=b}},false⟩:=
 KL (l:=D8 p) (X:=Jb b) rfl rfl (Gk p) rfl (by rw[Qj]; rfl) (by rw[Qj,SO]) (by rw[Qj]; exact fD b)
end
noncomputable def K2(R:List D→St→D×Int×St→Prop):List D→St→Option (D×Int×St):=fun ds st=>@dite _ (∃ r,R ds st r) (Classical.propDecidable _) (fun h=>some h.choose) (fun _=>none)
variable {r:D×Int×St}{st:St}{ds:List D}
theorem na{R:List D→St→D×Int×St→Prop}(h:K2 R ds st=some r):R ds st r:=by
 unfold K2 at h
 split at h
 ·grind
 ·cases h
def IF(R:List D→St→D×Int×St→Prop):Prop:=∀ ds st r r',R ds st r→R ds st r'→r=r'
theorem dz{R:List D→St→D×Int×St→Prop}(I:IF R)(h:R ds st r):K2 R ds st=some r:=by
 have E:∃ r,R ds st r:=⟨r,h⟩;unfold K2;rw[dif_pos E,I _ _ _ _ E.choose_spec h]
noncomputable def Eu(R:List D→St→D×Int×St→Prop):List D→St→Option (D×St):=fun ds st=>match K2 R ds st with
 |some (d,e,st')=>if e=0 then some (d,st')else none
 |none=>none
noncomputable def Ga(R:List D→St→D×Int×St→Prop):List D→St→Option (Nat×D×St):=fun ds st=>match K2 R ds st with
 |some (_,e,st')=>if e=0 then none else some (125,.int .i64 e,st')
 |none=>none
variable {d:D}{st':St}
theorem Tw{R:List D→St→D×Int×St→Prop}(E:IF R)(h:R ds st (d,0,st')):Eu R ds st=some (d,st'):=by
 simp only[Eu,dz E h,if_true]
variable {e:Int}
theorem Tv{R:List D→St→D×Int×St→Prop}(E:IF R)(h:R ds st (d,e,st'))(I:e≠0):Eu R ds st=none:=by
 simp only[Eu,dz E h,if_neg I]
theorem RO{R:List D→St→D×Int×St→Prop}(E:IF R)(h:R ds st (d,e,st'))(I:e≠0):Ga R ds st=some (125,.int .i64 e,st'):=by
 simp only[Ga,dz E h,if_neg I]
def L6(res:List PRes)(d:D)(e:Int)(st':St)(x:Ex)(fr:Frame)(st:St):Prop:=match x with
 |.exit _=>False
 |.panic t y=>¬ e=0∧t=125∧y=.int .i64 e∧st=st'
 |_=>e=0∧@on _ (DL ⟨fr,st⟩ res) ⟨fun l=>(DD l,st)=(d,st')⟩
theorem Yey(res:List PRes)(d:D)(e:Int)(st':St)(fr:Frame)(st:St):L6 res d e st' .ret fr st=(e=0∧@on _ (DL ⟨fr,st⟩ res) ⟨fun l=>(DD l,st)=(d,st')⟩):=(rfl)
theorem yp(res:List PRes)(d:D)(e:Int)(st':St)(fr:Frame)(st:St):L6 res d e st' .next fr st=(e=0∧@on _ (DL ⟨fr,st⟩ res) ⟨fun l=>(DD l,st)=(d,st')⟩):=(rfl)
theorem yR5(res:List PRes)(d:D)(e:Int)(st':St)(t:Nat)(y:D)(fr:Frame)(st:St):L6 res d e st' (.panic t y) fr st=(¬ e=0∧t=125∧y=.int .i64 e∧st=st'):=(rfl)
theorem J2{T:Tbl}{il:List Nat}{f:Nat}{hints:List (List Nat)}{F:PF}{R:List D→St→D×Int×St→Prop}(M:Dt Tryz.prog il f hints=some F)(N:TblOK Tryz.prog GG T)
  (h:∀ ds st d e st',R ds st (d,e,st')→@wW GG T F.code (C5 ds) st ⟨L6 F.res d e st'⟩) (O:T.y=fun _ _ _=>none:=by rfl):IContract Tryz.prog GG f (Eu R)∧Pk Tryz.prog GG f (Ga R):=by
 constructor
 ·refine IS M N (fun ds st r E=>?_) O;unfold Eu at E
  split at E
  case h_2=>cases E
  rename_i d e st' J
  split at E
  case isFalse=>cases E
  rename_i he;simp only[AN]at E;subst E; subst he;refine Z3 (Kn _ _ _ _ _ (IE (h _ _ _ _ _ (na J))) fun x fr st I=>?_)
  cases x with
  |exit i=>exact I.elim
  |panic t y=>exact absurd rfl I.1
  |next=>unfold Gt; exact I.2
  |ret=>unfold Gt; exact I.2
 ·refine yHe M N (fun ds st r E=>?_) O;unfold Ga at E
  split at E
  case h_2=>cases E
  rename_i d e st' J
  split at E
  case isTrue=>cases E
  rename_i he;simp only[AN]at E;subst E;refine Z3 (Kn _ _ _ _ _ (IE (h _ _ _ _ _ (na J))) fun x fr st I=>?_)
  cases x with
  |exit i=>exact I.elim
  |panic t y=>obtain⟨_,rfl,rfl,rfl⟩:=I; unfold L5; rfl
  |next=>exact absurd I.1 he
  |ret=>exact absurd I.1 he
attribute [irreducible] L6
attribute [push_cast] Yey yp yR5
abbrev CK(f:Nat)(R:List D→St→D×Int×St→Prop):Prop:=IContract Tryz.prog GG f (Eu R)∧Pk Tryz.prog GG f (Ga R)
def HJ(ds:List D)(st:St)(r:D×Int×St):Prop:=∃ (b:Bool) (e:Int),ds=[.bool b,.int .i64 e]∧(b=false→e≠0)∧r=(.tup [],if b=true then 0 else e,st)
theorem eP:IF HJ:=by
 rintro ds st r E ⟨b,e,rfl,_,rfl⟩ ⟨b',I,h,_,rfl⟩;grind
theorem Du(e:Int)(st:St):Eu HJ [.bool true,.int .i64 e] st=some (.tup [],st):=Tw eP ⟨true,e,rfl,(fun h=>by cases h),rfl⟩
theorem D7(E:e≠0)(st:St):Eu HJ [.bool false,.int .i64 e] st=none:=Tv eP (e:=e) ⟨false,e,rfl,fun _=>E,rfl⟩ E
theorem D6(E:e≠0)(st:St):Ga HJ [.bool false,.int .i64 e] st=some (125,.int .i64 e,st):=RO eP (e:=e) (d:=.tup []) ⟨false,e,rfl,fun _=>E,rfl⟩ E
theorem Jm:CK 73 HJ:=by
 refine J2 (T:=tb [] []) yEf (DC all_nil all_nil) ?_;rintro ds st d e st' ⟨b,E,rfl,hb,h⟩;simp only[AA]at h;obtain⟨rfl,rfl,rfl⟩:=h;unfold jd
 cases b with
 |true=>simp (disch:=first|omega|decide) only[push_cast,↓reduceIte,and_true]
 |false=>
  have he:=hb rfl;simp (disch:=first|omega|decide) only[push_cast,↓reduceIte,CB,he,and_true,not_false_eq_true]
def LB(ds:List D)(st:St)(r:D×Int×St):Prop:=∃ (e:Int),ds=[.int .i64 e]∧r=(.tup [],e,st)
theorem eQ:IF LB:=by
 rintro ds st r E ⟨e,rfl,rfl⟩ ⟨I,h,rfl⟩;grind
theorem Hk(st:St):Eu LB [.int .i64 0] st=some (.tup [],st):=Tw eQ ⟨0,rfl,rfl⟩
theorem Iz(E:e≠0)(st:St):Eu LB [.int .i64 e] st=none:=Tv eQ (e:=e) ⟨e,rfl,rfl⟩ E
theorem MF(E:e≠0)(st:St):Ga LB [.int .i64 e] st=some (125,.int .i64 e,st):=RO eQ (e:=e) (d:=.tup []) ⟨e,rfl,rfl⟩ E
noncomputable abbrev uw:Tbl:=Lz [] [(73,Eu HJ)] [(73,Ga HJ)]
theorem Ql:CK 123 LB:=by
 refine J2 (T:=uw) yEe (MS all_nil (all_cons Jm.1 all_nil) (all_cons Jm.2 all_nil)) ?_;rintro ds st d e st' ⟨E,rfl,h⟩;simp only[AA]at h;obtain⟨rfl,rfl,rfl⟩:=h;unfold jj
 by_cases he:e=0
 ·have g:=eq_true he;simp (disch:=first|omega|decide) only[push_cast,↓reduceIte,CB,g,decide_true,Du,and_true]
 ·simp (disch:=first|omega|decide) only[push_cast,↓reduceIte,CB,he,decide_false,D7,D6,and_true,not_false_eq_true]
def GO{α:Type}[DecidableEq α](a:α):List α→Nat→Int
 |[],_=>-1
 |x::r,i=>if a=x then i else GO a r (i+1)
theorem eE{α:Type}[DecidableEq α][Inhabited α](a:α)(l:List α){i:Nat}(h:i<l.length):GO a (l.drop i) i=if a=l.getD i default then(i:Int)else GO a (l.drop (i+1)) (i+1):=by
 rw[Bf h,GO];simp[Ao,h]
theorem kX{α:Type}[DecidableEq α](a:α):∀ (l:List α) (i:Nat),(0≤GO a l i↔a∈l)∧-1≤GO a l i
 |[],i=>by simp[GO]
 |x::r,i=>by
  unfold GO;have E:=kX a r (i+1)
  by_cases h:a=x
  ·rw[if_pos h]; subst h; simp
  ·rw[if_neg h];exact⟨by rw[E.1]; simp[h],E.2⟩
theorem Yos(n a b:Int):GO n [a,b] 0=if a=n then 0 else if b=n then 1 else -1:=by
 show(if n=a then((0:Nat):Int)else if n=b then((1:Nat):Int)else -1)=_
 by_cases h:n=a
 ·subst h; simp
 ·have I:¬ a=n:=fun e=>h e.symm
  by_cases E:n=b
  ·subst E; simp[h,I]
  ·have J:¬ b=n:=fun e=>E e.symm;simp[h,I,E,J]
noncomputable def Y1:List D→Option D:=De (α:=List Int×Int) (fun a=>[.slc (nz 1 (a.1.map nI)) (a.1.map nI) false,.int .i64 a.2]) (fun a=>a.1.length≤4294967296) (fun a=>.int .i64 (GO a.2 a.1 0))
theorem Yiq(l:List Int)(n:Int)(h:l.length≤4294967296):Y1 [.slc (nz 1 (l.map nI)) (l.map nI) false,.int .i64 n]=some (.int .i64 (GO n l 0)):=
 DX (fun⟨a0,a1⟩ ⟨b0,b1⟩ h=>by simp only[Aa,D.slc.injEq,D.int.injEq,true_and,and_true,QH]at h; simp[h]) (l,n) h
theorem TP(l:List Int)(n:Int)(h:l.length≤4294967296):@wW GG (tb [] []) Yv.code (C5 [.slc (nz 1 (l.map nI)) (l.map nI) false,.int .i64 n]) [] ⟨Dg Yv.res (.int .i64 (GO n l 0))⟩:=by
 unfold Yv;simp (disch:=first|omega|decide) only[push_cast,↓reduceIte,CB,CD];refine Gr (fun i:Nat=>[(0,.slc (nz 1 (l.map nI)) (l.map nI) false),(1,.int .i64 n),(7,.int .i64 (l.length:Int)),(8,.int .i64 (i:Int))]) (fun _=>[]) (fun i=>i≤l.length∧GO n l 0=GO n (l.drop i) i) (fun i=>l.length - i) 0 (by simp only[push_cast,↓reduceIte,CB,↓CE] <;> rfl) ⟨Bd _,rfl⟩ ?_;rintro i ⟨hi,E⟩;unfold kM;simp (disch:=first|omega|decide) only[push_cast,↓reduceIte,CB];refine E4 (fun N=>?_) (fun N=>?_)
 ·have M:i<l.length:=by omega
  rw[eE _ _ M]at E
  have J:∀ st:St,F2 st 1 (.slc (nz 1 (l.map nI)) (l.map nI) false) (.int .i64 (i:Int))=some (.eptr (nI (l.getD i default)) 0):=fun st=>by
   have:=KP st 1 nI l false .i64 (i:Int) (by omega) (by omega);rwa [Bh]at this
  generalize l.getD i default=x at*
  by_cases I:n=x
  ·rw[if_pos I]at E;simp (disch:=first|omega|decide) only[push_cast,↓reduceIte,CB,CD,J,nI,I];rw[← E,I]
  ·rw[if_neg I]at E;simp (disch:=first|omega|decide) only[push_cast,↓reduceIte,CB,J,nI,I,DI];refine E0 (i+1) (by exact⟨by omega,E⟩) (by omega) ?_;simp only[push_cast] <;> rfl
 ·obtain rfl:i=l.length:=by omega
  rw[Ba]at E;simp (disch:=first|omega|decide) only[push_cast,↓reduceIte,CD,E,GO]
theorem VH:Contract Tryz.prog GG 160 Y1:=
 Eb vS (DC all_nil all_nil) (fun a h=>TP a.1 a.2 h)
noncomputable def Tx:List D→Option D:=De (α:=List Bool×Bool) (fun a=>[.slc (nz 1 (a.1.map D.bool)) (a.1.map D.bool) false,.bool a.2]) (fun a=>a.1.length≤4294967296) (fun a=>.int .i64 (GO a.2 a.1 0))
theorem Yir(l:List Bool)(n:Bool)(h:l.length≤4294967296):Tx [.slc (nz 1 (l.map D.bool)) (l.map D.bool) false,.bool n]=some (.int .i64 (GO n l 0)):=
 DX (fun⟨a0,a1⟩ ⟨b0,b1⟩ h=>by simp only[Aa,D.slc.injEq,D.bool.injEq,and_true,Ycy]at h; simp[h]) (l,n) h
theorem TQ(l:List Bool)(n:Bool)(h:l.length≤4294967296):@wW GG (tb [] []) Yz.code (C5 [.slc (nz 1 (l.map D.bool)) (l.map D.bool) false,.bool n]) [] ⟨Dg Yz.res (.int .i64 (GO n l 0))⟩:=by
 unfold Yz;simp (disch:=first|omega|decide) only[push_cast,↓reduceIte,CB,CD];refine Gr (fun i:Nat=>[(0,.slc (nz 1 (l.map D.bool)) (l.map D.bool) false),(1,.bool n),(7,.int .i64 (l.length:Int)),(8,.int .i64 (i:Int))]) (fun _=>[]) (fun i=>i≤l.length∧GO n l 0=GO n (l.drop i) i) (fun i=>l.length - i) 0 (by simp only[push_cast,↓reduceIte,CB,↓CE] <;> rfl) ⟨Bd _,rfl⟩ ?_;rintro i ⟨hi,E⟩;unfold kK;simp (disch:=first|omega|decide) only[push_cast,↓reduceIte,CB];refine E4 (fun U=>?_) (fun U=>?_)
 ·have O:i<l.length:=by omega
  rw[eE _ _ O]at E
  have J:∀ st:St,F2 st 1 (.slc (nz 1 (l.map D.bool)) (l.map D.bool) false) (.int .i64 (i:Int))=some (.eptr (.bool (l.getD i default)) 0):=fun st=>by
   have:=KP st 1 D.bool l false .i64 (i:Int) (by omega) (by omega);rwa [Bh]at this
  have M:∀ (st:St) (b:Bool),EO st 1 false (.eptr (.bool b) 0)=some (.bool b):=fun _ _=>rfl;generalize l.getD i default=x at*
  by_cases I:n=x
  ·rw[if_pos I]at E;subst I;have N:(n == n)=true:=by simp
   simp (disch:=first|omega|decide) only[push_cast,↓reduceIte,CB,CD,J,M,N,E]
  ·rw[if_neg I]at E;have N:(n == x)=false:=by simpa using I
   simp (disch:=first|omega|decide) only[push_cast,↓reduceIte,CB,J,M,N,DI];refine E0 (i+1) (by exact⟨by omega,E⟩) (by omega) ?_;simp only[push_cast] <;> rfl
 ·obtain rfl:i=l.length:=by omega
  rw[Ba]at E;simp (disch:=first|omega|decide) only[push_cast,↓reduceIte,CD,E,GO]
theorem VI:Contract Tryz.prog GG 78 Tx:=
 Eb vX (DC all_nil all_nil) (fun a h=>TQ a.1 a.2 h)
theorem IJ(E:Bool)(a b:Ky):FE [0,0,0,0,0] E (DJ a) (DJ b)=some (.bool (decide (a=b) != E)):=by
 obtain⟨a1,I,J,M,N⟩:=a;obtain⟨b1,O,U,V,Y⟩:=b
 have h:EC [0,0,0,0,0] (Hd ⟨a1,I,J,M,N⟩) (Hd ⟨b1,O,U,V,Y⟩)=some (decide ((⟨a1,I,J,M,N⟩:Ky)=⟨b1,O,U,V,Y⟩)):=by
  simp only[Hd,EC,Ig,if_true,BY,Ky.mk.injEq,AN];rw[B1];simp
 simp only[FE,DJ,h,Ag]
theorem RT(k:Ky):(Hd k).all Em=true:=rfl
theorem Lo(k:Ky):Dy (DJ k)=some (Hd k):=rfl
theorem Q3(sz:Nat)(lent:Bool)(k:Ky):Dr (some ⟨false,sz,Hd k,lent⟩) 5 true 0=some (DJ k):=KJ sz lent _ 5 rfl
theorem YS(st:St)(k:Ky):EO st 5 true (.eptr (DJ k) 0)=some (DJ k):=rfl
theorem Mi(st:St)(k:Ky):DP st (DJ k)=some (DJ k):=Pb st (RT k)
theorem OO(k:Ky):keys (DJ k)=[]:=Pg (RT k)
theorem rU(k:Ky):hk (DJ k)=[]:=Sa (RT k)
theorem lD(n:Nat)(σ:List Nat)(k:Ky):(Hd k).map (Ef n σ)=Hd k:=Mz n σ (RT k)
theorem sP(k:Ky):(Hd k).flatMap hk=[]:=Nk (RT k)
theorem cn(st:St)(l:List Ky)(t:Bool)(i:Nat)(h:i<l.length):F2 st 5 (.slc (nz 5 (l.map DJ)) (l.map DJ) t) (.int .i64 (i:Int))=some (.eptr (DJ (l.getD i default)) 0):=by
 have:=KP st 5 DJ l t .i64 (i:Int) (by omega) (by omega);rwa [Bh]at this
noncomputable def cG:List D→Option D:=De (α:=List Ky×Ky) (fun a=>[.slc (nz 5 (a.1.map DJ)) (a.1.map DJ) false,DJ a.2]) (fun a=>a.1.length≤4294967296) (fun a=>.int .i64 (GO a.2 a.1 0))
theorem Yip(l:List Ky)(n:Ky)(h:l.length≤4294967296):cG [.slc (nz 5 (l.map DJ)) (l.map DJ) false,DJ n]=some (.int .i64 (GO n l 0)):=
 DX (fun⟨a0,a1⟩ ⟨b0,b1⟩ h=>by simp only[Aa,D.slc.injEq,and_true,Zf,Zg]at h; simp[h]) (l,n) h
theorem TO(l:List Ky)(n:Ky)(h:l.length≤4294967296):@wW GG (tb [] []) YB.code (C5 [.slc (nz 5 (l.map DJ)) (l.map DJ) false,DJ n]) [] ⟨Dg YB.res (.int .i64 (GO n l 0))⟩:=by
 unfold YB;simp (disch:=first|omega|decide) only[push_cast,↓reduceIte,CB,CD,Lo];refine Gr (fun i:Nat=>[(0,.slc (nz 5 (l.map DJ)) (l.map DJ) false),(3,.ptr 0 0),(7,.int .i64 (l.length:Int)),(8,.int .i64 (i:Int))]) (fun _=>[⟨false,1,Hd n,false⟩]) (fun i=>i≤l.length∧GO n l 0=GO n (l.drop i) i) (fun i=>l.length - i) 0 (by simp only[push_cast,↓reduceIte,CB,CI,CG,↓CE,lD,sP] <;> rfl) ⟨Bd _,rfl⟩ ?_;rintro i ⟨hi,E⟩;unfold kO;simp (disch:=first|omega|decide) only[push_cast,↓reduceIte,CB];refine E4 (fun N=>?_) (fun N=>?_)
 ·have J:i<l.length:=by omega
  rw[eE _ _ J]at E;have M:=fun st=>cn st l false i J;generalize l.getD i default=x at*
  by_cases I:n=x
  ·rw[if_pos I]at E;subst I;have O:decide (n=n)=true:=by simp
   simp (disch:=first|omega|decide) only[push_cast,↓reduceIte,CB,CD,M,Q3,YS,IJ,E]
  ·rw[if_neg I]at E;simp (disch:=first|omega|decide) only[push_cast,↓reduceIte,CB,CI,CG,M,Q3,YS,IJ,I,DI];refine E0 (i+1) (by exact⟨by omega,E⟩) (by omega) ?_;simp only[push_cast,lD,sP] <;> rfl
 ·obtain rfl:i=l.length:=by omega
  rw[Ba]at E;simp (disch:=first|omega|decide) only[push_cast,↓reduceIte,CD,E,GO]
theorem VG:Contract Tryz.prog GG 161 cG:=
 Eb vZ (DC all_nil all_nil) (fun a h=>TO a.1 a.2 h)
noncomputable def Y0:List D→Option D:=De (α:=List Ky×Ky) (fun a=>[.slc (nz 5 (a.1.map DJ)) (a.1.map DJ) false,DJ a.2]) (fun a=>a.1.length≤4294967296) (fun a=>.bool (decide (a.2∈a.1)))
theorem Yiv(l:List Ky)(n:Ky)(h:l.length≤4294967296):Y0 [.slc (nz 5 (l.map DJ)) (l.map DJ) false,DJ n]=some (.bool (decide (n∈l))):=
 DX (fun⟨a0,a1⟩ ⟨b0,b1⟩ h=>by simp only[Aa,D.slc.injEq,and_true,Zf,Zg]at h; simp[h]) (l,n) h
theorem TR(l:List Ky)(n:Ky)(h:l.length≤4294967296):@wW GG (tb [(161,cG)] []) YC.code (C5 [.slc (nz 5 (l.map DJ)) (l.map DJ) false,DJ n]) [] ⟨Dg YC.res (.bool (decide (n∈l)))⟩:=by
 unfold YC;have c1:=Yip l n h;have m:=(kX n l 0).1;generalize GO n l 0=z at*
 by_cases E:0≤z
 ·have hm:decide (n∈l)=true:=by simp[m.1 E]
  simp (disch:=first|omega|decide) only[push_cast,↓reduceIte,CB,Lo,Q3,Mi,c1,E,hm]
 ·have hm:decide (n∈l)=false:=by simp; exact fun q=>E (m.2 q)
  simp (disch:=first|omega|decide) only[push_cast,↓reduceIte,CB,Lo,Q3,Mi,c1,E,hm]
theorem VJ:Contract Tryz.prog GG 126 Y0:=
 Eb v9 (DC (all_cons VG all_nil) all_nil) (fun a h=>TR a.1 a.2 h)
theorem RepV.emptyT{w:World}{g:Ghost}{sz E:Nat}{v:Value}(h:RepV w g st (.slc sz [] true) v):RepV w g st (.slc E [] true) v:=by
 cases h with
 |slcE _ _ a cap h=>exact .slcE _ _ a cap h
 |slc _ _ b off cap _ val I=>exact absurd rfl I
noncomputable def tE:List D→St→Option (D×St):=HN (α:=List Ky×St) (fun a=>([.slc (nz 5 (a.1.map DJ)) (a.1.map DJ) false],a.2)) (fun a=>a.1.length≤4294900000)
 (fun a=>if a.1=[]then(.slc 0 [] true,a.2)else(.row a.2.length a.1.length 0 a.1.length,a.2++[⟨true,5,a.1.map DJ,false⟩]))
theorem Yix(l:List Ky)(st:St)(h:l.length≤4294900000):tE [.slc (nz 5 (l.map DJ)) (l.map DJ) false] st=some (if l=[]then(.slc 0 [] true,st)else(.row st.length l.length 0 l.length,st++[⟨true,5,l.map DJ,false⟩])):=
 RZ (fun a b e=>by
  simp only[AA,Aa,D.slc.injEq,Zg,and_true]at e;rw[e.1.2,e.2]) ((l,st):List Ky×St) h rfl
def cl0:List PI:=[{dst:=some 2,op:=.mov (.c (.slc 0 [] true))}]
def clA:PC:=.seq (.ops [{dst:=some 2,op:=.mov (.c (.slc 0 [] true))}]) .ret
def gK:PC:=.seq (.ops [{dst:=some 5,op:=.bslc 5 []},{dst:=some 6,op:=.mov (.s 0)},{dst:=some 7,op:=.app 5 40 (.s 5) (.s 6)},{dst:=some 2,op:=.mov (.s 7)}]) .ret
theorem Yif(T:Tbl)(l:List Ky)(st:St)(h:l.length≤4294900000)(fr:Frame)(J:fr 0=.slc (nz 5 (l.map DJ)) (l.map DJ) false) :
  ∃ E,gK.exec GG T 0 ⟨fr,st⟩=some (.ret,⟨E,if l=[]then st else st++[⟨true,5,l.map DJ,false⟩]⟩)∧E 2=if l=[]then .slc 5 [] true else .row st.length l.length 0 l.length:=by
 have M:Ea st 5 40 (.slc 5 [] true) (.slc (nz 5 (l.map DJ)) (l.map DJ) false)=some (if l=[]then .slc 5 [] true else .row st.length l.length 0 l.length,if l=[]then st else st++[⟨true,5,l.map DJ,false⟩]):=by
  by_cases hl:l=[]
  ·subst hl;exact oK st 5 40 5 0 [] false (by decide)
  ·have I:l.map DJ≠[]:=by simpa using hl
   rw[qJ DJ st 5 5 40 l false (by decide) (by omega) (by omega),Qk _ _ _ I,OU _ _ I,if_neg hl,if_neg hl,Be]
 simp only[gK,PC.exec,EH,PI.exec,PI.wanted,POp.exec,Dh,Bk,D1,CA,CI,decide_true,Az,Ap,Ca,Bd,if_true,lend,BG,Frame.put,Frame.set,J,CB,if_false,show ¬ (5:Nat)=6 from by decide,show ¬ (0:Nat)=5 from by decide,show ¬ (0:Nat)=6 from by decide,M];exact⟨_,rfl,rfl⟩
theorem sL:IContract Tryz.prog GG 127 tE:=by
 refine Yie (T:=tb [] []) (il:=[]) (DC all_nil all_nil) rfl (l0:=cl0) (pA:=clA) (pB:=gK) (res:=[.tmp 2]) (t3:=3) (e:=58) Tryz.func127 (by kernel_rfl) rfl (by kernel_rfl) (by kernel_rfl) (by kernel_rfl) (by kernel_rfl) (by kernel_rfl) rfl rfl rfl (by decide) Tryz.underlying63 ?_;intro ds st d st' N;obtain⟨⟨l,st0⟩,ha,J,E⟩:=fb N;simp only[AA]at ha;obtain⟨rfl,rfl⟩:=ha;dsimp only at J E;refine⟨_,_,_,(C5 [.slc (nz 5 (l.map DJ)) (l.map DJ) false]).set 2 (.slc 0 [] true),rfl,rfl,rfl,fun he=>?_,?_⟩
 ·obtain rfl:l=[]:=by simpa using he
  rw[if_pos rfl]at E;simp only[AA]at E;obtain⟨rfl,rfl⟩:=E;exact⟨0,_,_,rfl,rfl,rfl,fun w g v h=>h.emptyT⟩
 ·obtain⟨O,M,I⟩:=Yif (tb [] []) l st0 J ((((C5 [.slc (nz 5 (l.map DJ)) (l.map DJ) false]).set 2 (.slc 0 [] true)).set 3 (.slc (nz 5 (l.map DJ)) (l.map DJ) false)).set 4 (.bool false)) rfl
  by_cases hl:l=[]
  ·subst hl;rw[if_pos rfl]at E I;simp only[AA]at E;obtain⟨rfl,rfl⟩:=E;exact⟨0,_,[.slc 5 [] true],M,by rw[if_pos rfl],by simp only[eY,eX,I]; rfl,fun w g v h=>h.emptyT⟩
  ·rw[if_neg hl]at E I;simp only[AA]at E;obtain⟨rfl,rfl⟩:=E;exact⟨0,_,[.row st0.length l.length 0 l.length],M,by rw[if_neg hl],by simp only[eY,eX,I]; rfl,fun w g v h=>h⟩
theorem wu(l:List Ky):Em (Dj l)=true:=by
 simp[Em,Km]
theorem fH(x:Cse){p:D→Bool}(E:∀ k n,p (.int k n)=true)(J:∀ b,p (.bool b)=true)(M:p j=true):(C9 x j).all p=true:=by
 have N:∀ d,(CZ d).all p=true:=fun d=>Kw (fun b=>E _ _) d;refine Na E fun s I=>?_;simp only[D5,JJ,Jb,Ae,Ai,Aw,AB,or_false]at I;rcases I with rfl | rfl | rfl | rfl | rfl | rfl | rfl | rfl | rfl | rfl | rfl | rfl | rfl | rfl | rfl | rfl | rfl | rfl | rfl | rfl | rfl | rfl | rfl | rfl | rfl | rfl | rfl | rfl | rfl | rfl | rfl <;> simp[Sg.cs,E,J,M,N]
theorem M8(x:Cse)(hj:j.isCell=true):(C9 x j).all D.isCell=true:=fH x (fun _ _=>rfl) (fun _=>rfl) hj
theorem QT(x:Cse):(C9 x (Dj x.jn)).all Em=true:=fH x (fun _ _=>rfl) (fun _=>rfl) (wu _)
theorem EJ(x:Cse):Dy (Di x)=some (C9 x (Dj x.jn)):=by
 simp only[Dy,Di,D.cells,M8 x (j:=Dj x.jn) rfl,if_true]
theorem Et(st:St)(x:Cse):DP st (Di x)=some (Di x):=Pb st (QT x)
theorem Fq(x:Cse):keys (Di x)=[]:=Pg (QT x)
section
variable (x:Cse) (j:D) (sz:Nat) (lent:Bool)
theorem FC:Dr (some ⟨false,sz,C9 x j,lent⟩) 1 false 7=some (.int .i64 x.ph):=GS (l:=D5 x j) rfl rfl (GI x j)
theorem Iq:Dr (some ⟨false,sz,C9 x j,lent⟩) 1 false 8=some (.int .i64 x.dl):=GS (l:=D5 x j) rfl rfl (GI x j)
theorem ta:Dr (some ⟨false,sz,C9 x j,lent⟩) 1 false 274=some (.int .i64 x.b.r):=GS (l:=D5 x j) rfl rfl (GI x j)
theorem s9:Dr (some ⟨false,sz,C9 x j,lent⟩) 1 false 77=some (.int .i64 x.b.h):=GS (l:=D5 x j) rfl rfl (GI x j)
theorem s8:Dr (some ⟨false,sz,C9 x j,lent⟩) 1 false 9=some (.int .i64 x.a0):=GS (l:=D5 x j) rfl rfl (GI x j)
theorem td:Dr (some ⟨false,sz,C9 x j,lent⟩) 1 false 11=some (.int .i64 x.c0.1):=GS (l:=D5 x j) rfl rfl (GI x j)
theorem te:Dr (some ⟨false,sz,C9 x j,lent⟩) 1 false 44=some (.int .i64 x.c1.1):=GS (l:=D5 x j) rfl rfl (GI x j)
theorem PL:Dr (some ⟨false,sz,C9 x j,lent⟩) 1 false 275=some (.int .i64 x.wn):=GS (l:=D5 x j) rfl rfl (GI x j)
theorem YX:Dr (some ⟨false,sz,C9 x j,lent⟩) 1 false 276=some (.int .i64 x.am):=GS (l:=D5 x j) rfl rfl (GI x j)
theorem tc:Dr (some ⟨false,sz,C9 x j,lent⟩) 1 false 277=some (.int .i64 x.ct):=GS (l:=D5 x j) rfl rfl (GI x j)
theorem Np:Dr (some ⟨false,sz,C9 x j,lent⟩) 1 false 278=some j:=GS (l:=D5 x j) rfl rfl (GI x j)
theorem Lr:Dr (some ⟨false,sz,C9 x j,lent⟩) 5 true 0=some (DJ x.key):=Iu (l:=D5 x j) rfl rfl (GI x j) rfl
theorem L0:Dr (some ⟨false,sz,C9 x j,lent⟩) 2 true 5=some (.agg [.int .i64 x.p0,.int .i64 x.p1]):=Iu (l:=D5 x j) rfl rfl (GI x j) rfl
theorem Q6:Dr (some ⟨false,sz,C9 x j,lent⟩) 2 true 9=some (.agg [.int .i64 x.a0,.int .i64 x.a1]):=Iu (l:=D5 x j) rfl rfl (GI x j) rfl
theorem Mj:Dr (some ⟨false,sz,C9 x j,lent⟩) 33 true 11=some (.agg (.int .i64 x.c0.1::CZ x.c0.2)):=Iu (l:=D5 x j) rfl rfl (GI x j) (by simp[Da,Sg.cs])
theorem Mk:Dr (some ⟨false,sz,C9 x j,lent⟩) 33 true 44=some (.agg (.int .i64 x.c1.1::CZ x.c1.2)):=Iu (l:=D5 x j) rfl rfl (GI x j) (by simp[Da,Sg.cs])
theorem ZQ:Dr (some ⟨false,sz,C9 x j,lent⟩) 2 true 144=some (.agg [.bool x.b.t0,.bool x.b.t1]):=Iu (l:=D5 x j) rfl rfl (GI x j) rfl
theorem Oq:Dr (some ⟨false,sz,C9 x j,lent⟩) 198 true 77=some (DQ x.b):=Iu (l:=D5 x j) rfl rfl (GI x j) (by rw[DQ,← Qj]; rfl)
def Gv(a b:Int×Dig):List D:=(.int .i64 a.1::CZ a.2)++(.int .i64 b.1::CZ b.2)
theorem Tp:Dr (some ⟨false,sz,C9 x j,lent⟩) 66 true 11=some (.agg (Gv x.c0 x.c1)):=Iu (l:=D5 x j) rfl rfl (GI x j) (by simp[Da,Sg.cs,Gv])
theorem E9:Dr (some ⟨false,sz,C9 x j,lent⟩) 279 true 0=some (.agg (C9 x j)):=KJ sz lent _ 279 (LS x j)
end
theorem F7(x:Cse):D.agg (C9 x (Dj x.jn))=Di x:=rfl
theorem I0:EM=C9 FQ (.slc 0 [] true):=(rfl)
noncomputable def Ss:List D→Option D:=De (α:=Int) (fun a=>[.int .i64 a]) (fun a=>True) (fun a=>.bool (decide (Il a)))
theorem bA(n:Int):Ss [.int .i64 n]=some (.bool (decide (Il n))):=
 DX (fun a b h=>by simp only[Aa,D.int.injEq,true_and,and_true]at h; simp[h]) (n) trivial
theorem Yds(n:Int):@wW GG (tb [] []) XV.code (C5 [.int .i64 n]) [] ⟨Dg XV.res (.bool (decide (Il n)))⟩:=by
 unfold XV
 by_cases E:-9007199254740992≤n
 ·by_cases I:n≤9007199254740992
  ·have e:decide (Il n)=true:=decide_eq_true ⟨E,I⟩;simp (disch:=first|omega|decide) only[push_cast,↓reduceIte,CB,CD,E,I,e]
  ·have e:decide (Il n)=false:=decide_eq_false fun q=>I q.2;simp (disch:=first|omega|decide) only[push_cast,↓reduceIte,CB,CD,E,I,e]
 ·have e:decide (Il n)=false:=decide_eq_false fun q=>E q.1;simp (disch:=first|omega|decide) only[push_cast,↓reduceIte,CB,CD,E,e]
theorem eJ:Contract Tryz.prog GG 64 Ss:=
 Eb uB (DC all_nil all_nil) (fun a h=>Yds a)
noncomputable def R2:List D→Option D:=De (α:=Cse) (fun a=>[Di a]) (fun a=>True) (fun a=>.bool (decide (Fe a)))
theorem SM(x:Cse):R2 [Di x]=some (.bool (decide (Fe x))):=
 DX (fun a b h=>by simp only[Aa,and_true,M7]at h; simp[h]) (x) trivial
theorem Yll(x:Cse):@wW GG (tb [] []) X9.code (C5 [Di x]) [] ⟨Dg X9.res (.bool (decide (Fe x)))⟩:=by
 unfold X9
 by_cases E:x.ph=1
 ·have e:decide (Fe x)=true:=by simp[Fe,E]
  simp (disch:=first|omega|decide) only[push_cast,↓reduceIte,CB,EJ,FC,E,e]
 by_cases I:x.ph=2
 ·have e:decide (Fe x)=true:=by simp[Fe,I]
  have g:=eq_true I;simp (disch:=first|omega|decide) only[push_cast,↓reduceIte,CB,EJ,FC,E,g,e]
 by_cases J:x.ph=3
 ·have e:decide (Fe x)=true:=by simp[Fe,J]
  have g:=eq_true J;simp (disch:=first|omega|decide) only[push_cast,↓reduceIte,CB,EJ,FC,E,I,g,e]
 ·have e:decide (Fe x)=false:=by simp[Fe,E,I,J]
  simp (disch:=first|omega|decide) only[push_cast,↓reduceIte,CB,EJ,FC,E,I,J,e]
theorem tQ:Contract Tryz.prog GG 74 R2:=
 Eb uN (DC all_nil all_nil) (fun a h=>Yll a)
noncomputable def QD:List D→Option D:=De (α:=Cse) (fun a=>[Di a]) (fun a=>True) (fun a=>.bool (decide (Ia a)))
theorem SL(x:Cse):QD [Di x]=some (.bool (decide (Ia x))):=
 DX (fun a b h=>by simp only[Aa,and_true,M7]at h; simp[h]) (x) trivial
theorem Ylm(x:Cse):@wW GG (tb [] []) Xy.code (C5 [Di x]) [] ⟨Dg Xy.res (.bool (decide (Ia x)))⟩:=by
 unfold Xy
 by_cases E:x.ph=4
 ·have e:decide (Ia x)=true:=by simp[Ia,E]
  simp (disch:=first|omega|decide) only[push_cast,↓reduceIte,CB,EJ,FC,E,e]
 by_cases I:x.ph=5
 ·have e:decide (Ia x)=true:=by simp[Ia,I]
  have g:=eq_true I;simp (disch:=first|omega|decide) only[push_cast,↓reduceIte,CB,EJ,FC,E,g,e]
 by_cases J:x.ph=6
 ·have e:decide (Ia x)=true:=by simp[Ia,J]
  have g:=eq_true J;simp (disch:=first|omega|decide) only[push_cast,↓reduceIte,CB,EJ,FC,E,I,g,e]
 ·have e:decide (Ia x)=false:=by simp[Ia,E,I,J]
  simp (disch:=first|omega|decide) only[push_cast,↓reduceIte,CB,EJ,FC,E,I,J,e]
theorem dj:Contract Tryz.prog GG 31 QD:=
 Eb yEi (DC all_nil all_nil) (fun a h=>Ylm a)
def Ey(b:UInt8):Dig:=⟨b::CH 31 0,by simp⟩
theorem Yaw(b:UInt8):DG (CZ Dp) [(0,1,Dd b)]=some (CZ (Ey b)):=by
 have h:CZ Dp=(CH 32 (0:UInt8)).map Dd:=rfl;rw[h,Nj Dd (fun _=>rfl) _ _ _ _ (by simp),M9];rfl
def P7(h l i:Int)(a b:Dig)(r:Int):Bis:=⟨h,l,i,a,b,false,false,Dp,Dp,Dp,Dp,r⟩
theorem rP:El 1=0:=by decide +kernel
abbrev tCommit:Ty:=.agg [.int .i64,.agg (CH 32 (.int .u8))]
theorem pr(x:Bis)(p:Int)(l r:Dig):GR (GZ x p l r)=GR x:=by
 unfold GZ
 split <;> rfl
def UI(a b:List Dig)(lv i:Int):Int:=if sw a (lv - 1).toNat (2*i)=sw b (lv - 1).toNat (2*i)then 2*i+1 else 2*i
def idxS(a b:List Dig)(h:Int):Nat→Int
 |0=>0
 |k+1=>UI a b (h - k) (idxS a b h k)
variable {c:List Ins} {v:Int×List Int} {x:Cse} {m:Mv} {now:Int}
theorem MY(h:FA c v x m now≠0):GX c v x m now=FQ:=if_neg h
theorem QK(h:FA c v x m now=0):GX c v x m now=(Fz c v x m now).1:=if_pos h
theorem WG(h:¬ Fe x):FA c v x m now=400:=if_neg h
def EX(m:Mv)(now:Int):Prop:=(1≤m.kd∧m.kd≤7)∧0≤now∧now≤1073741824∧(m.pt=0∨m.pt=1)
theorem m6(h:Fe x)(E:¬ EX m now):FA c v x m now=1:=by
 unfold FA; rw[if_pos h]; exact if_neg E
theorem ai(h:Fe x)(E:EX m now)(I:¬ now≤x.dl):FA c v x m now=401:=by
 unfold FA EX at *; rw[if_pos h,if_pos E]; exact if_neg I
theorem Sn(h:Fe x)(E:EX m now)(I:now≤x.dl):FA c v x m now=(Fz c v x m now).2:=by
 unfold FA EX at *; rw[if_pos h,if_pos E]; exact if_pos I
theorem Ynd(h:FA c v x m now=0):Fe x∧EX m now∧now≤x.dl∧(Fz c v x m now).2=0:=by
 by_cases E:Fe x
 ·by_cases I:EX m now
  ·by_cases J:now≤x.dl
   ·exact⟨E,I,J,(Sn E I J).symm.trans h⟩
   ·rw[ai E I J]at h; cases h
  ·rw[m6 E I]at h; cases h
 ·rw[WG E]at h; cases h
def Yt2(x:Cse)(m:Mv):Prop:=((m.kd=1∨m.kd=6)∧(m.pt=0∨x.ph≠1))∨(m.kd=4∧m.pt=1)∨(m.kd=7∧(m.pt=1∨x.ph≠1))∨(m.kd=2∧x.ph≠2)∨(m.kd=3∧x.ph≠3)
theorem m7(h:Fe x)(I:EX m now)(J:now≤x.dl)(hn:Yt2 x m):FA c v x m now=380:=by
 rw[Sn h I J];unfold Fz;rcases hn with⟨hk | hk,E⟩ | ⟨hk,E⟩ | ⟨hk,E⟩ | ⟨hk,E⟩ | ⟨hk,E⟩
 ·rw[if_pos hk]; unfold MA; rw[if_neg (by omega)]
 ·rw[if_neg (by omega),if_neg (by omega),if_neg (by omega),if_neg (by omega),if_neg (by omega),if_pos hk]; unfold Ok; rw[if_neg (by omega)]
 ·rw[if_neg (by omega),if_neg (by omega),if_neg (by omega),if_pos hk]; unfold PE; rw[if_neg (by omega)]
 ·rw[if_neg (by omega),if_neg (by omega),if_neg (by omega),if_neg (by omega),if_neg (by omega),if_neg (by omega)]; unfold HH; rw[if_neg (by omega)]
 ·rw[if_neg (by omega),if_pos hk]; unfold Pv; rw[if_neg E]
 ·rw[if_neg (by omega),if_neg (by omega),if_pos hk]; unfold Px G7; rw[if_neg (by simp[E])]
structure Keep (x y:Cse):Prop where
 key:y.key=x.key
 p0:y.p0=x.p0
 p1:y.p1=x.p1
 a0:y.a0=x.a0
 c0:y.c0=x.c0
 dl:y.ph≤3→x.dl≤y.dl
theorem Keep.refl(x:Cse):Keep x x:=⟨rfl,rfl,rfl,rfl,rfl,fun _=>BV _⟩
structure Live (x:Cse) (now:Int):Prop where
 ph:1≤x.ph∧x.ph≤6
 dl:x.ph≤3→x.dl≤now+1440
 wn:-1≤x.wn∧x.wn≤1
 bv:GR x.b=true
theorem fS(x:Cse)(w a:Int):Keep x (IW x w a):=⟨rfl,rfl,rfl,rfl,rfl,fun h=>absurd h (by show ¬ (4:Int)≤3; omega)⟩
theorem WC(x:Cse)(p:Int):Keep x (Fo x p):=by
 unfold Fo; split <;> exact fS ..
theorem Sx{x:Cse}{w a now:Int}(hb:GR x.b=true)(E:-1≤w∧w≤1):Live (IW x w a) now:=⟨⟨by show(1:Int)≤4; omega,by show(4:Int)≤6; omega⟩,fun h=>absurd h (by show ¬ (4:Int)≤3; omega),E,hb⟩
theorem WD{x:Cse}{p now:Int}(hb:GR x.b=true)(E:p≤1):Live (Fo x p) now:=by
 unfold Fo; split
 ·exact Sx hb (by omega)
 ·exact Sx hb (by omega)
theorem pV(x:Cse)(n:Int):-1≤K8 x n∧K8 x n≤1:=by
 unfold K8; split
 ·omega
 ·omega
theorem yJm(E:Dig×Dig)(d:Dig):-1≤PK E d∧PK E d≤1:=by
 unfold PK; split
 ·omega
 ·omega
theorem SV(E:Dig×Dig)(r:Dig×Int):-1≤(G8 E r).1∧(G8 E r).1≤1:=by
 unfold G8; split
 ·exact yJm ..
 ·simp
theorem oU{x:Cse}{now:Int}(h:Live x now)(E:x.ph≤3):Keep x (Ji c v x now).1∧Live (Ji c v x now).1 now:=by
 unfold Ji
 split
 ·split
  ·split
   ·exact⟨WC ..,WD h.bv (SV ..).2⟩
   ·exact⟨Keep.refl x,h⟩
  ·exact⟨⟨rfl,rfl,rfl,rfl,rfl,fun _=>h.dl E⟩,⟨by show(1:Int)≤3; omega,by show(3:Int)≤6; omega⟩,fun _=>BV _,h.wn,h.bv⟩
 ·exact⟨Keep.refl x,h⟩
variable {a b:Int×Dig}
theorem yOe(h:GQ a b=0):GR (Ju a b)=true:=by
 unfold GQ at h;unfold Ju
 split at h
 ·cases h
 rename_i E
 split at h
 ·cases h
 rename_i I
 split at h
 ·cases h
 rename_i J;rw[if_neg E,if_neg I,if_neg J];have d1:=QZ a.1;have d2:=QZ b.1;unfold GR LF;grind
theorem yLn{x:Bis}(h:GR x=true)(hl:x.l≠0):GR (PD x)=true:=by
 obtain⟨a1,E,I,J,M,N,O⟩:=SP h;have e:(x.h - (x.l - 1)).toNat=(x.h - x.l).toNat+1:=by omega
 unfold PD
 split
 ·unfold GR;grind
 ·unfold GR;grind
theorem zh{x:Bis}{p:Int}{l r:Dig}(h:GR x=true)(E:FM x p l r=0):GR (Fl x p l r)=true:=by
 unfold FM at E;unfold Fl
 split at E
 case isFalse=>cases E
 rename_i J
 split at E
 ·cases E
 rename_i I
 split at E
 case isFalse=>cases E
 rename_i M;rw[if_pos J,if_neg I,if_pos M]
 split
 ·exact yLn (by rw[pr]; exact h) (by unfold GZ; split <;> exact fun e=>I (.inl e))
 ·rw[pr]; exact h
theorem wQ{x:Cse}{now t:Int}(h:Live x t)(ht:t≤now)(hd:now≤x.dl)(Y:Fe x)(ha:EX m now)(E:(Fz c v x m now).2=0):Keep x (Fz c v x m now).1∧Live (Fz c v x m now).1 now:=by
 have hl:Live x now:=⟨h.ph,fun q=>by have:=h.dl q; omega,h.wn,h.bv⟩;have O:x.ph≤3:=by unfold Fe at Y; omega
 have J:=hl.dl O;unfold Fz at E ⊢
 split at E
 ·rename_i hk;rw[if_pos hk];unfold MA at E ⊢
  split at E
  case isFalse=>cases E
  rename_i N;rw[if_pos N]
  split at E
  case isFalse=>cases E
  rename_i M;rw[if_pos M];dsimp only at E ⊢
  split at E
  ·cases E
  rename_i h3;rw[if_neg h3]
  split
  ·rename_i h4;have U:Live {x with a1:=m.am,c1:=m.cm,b:=Ju x.c0 m.cm,ph:=2,dl:=now+1440} now:=⟨⟨by show(1:Int)≤2; omega,by show(2:Int)≤6; omega⟩,fun _=>BV _,h.wn,yOe h4⟩;obtain⟨I,V⟩:=oU (c:=c) (v:=v) U (by show(2:Int)≤3; omega);exact⟨⟨I.key,I.p0,I.p1,I.a0,I.c0,fun q=>Int.le_trans J (I.dl q)⟩,V⟩
  split
  ·have I:=WC {x with a1:=m.am,c1:=m.cm} 1;exact⟨⟨I.key,I.p0,I.p1,I.a0,I.c0,I.dl⟩,WD (x:={x with a1:=m.am,c1:=m.cm}) (p:=1) h.bv (by decide)⟩
  split
  ·exact⟨⟨rfl,rfl,rfl,rfl,rfl,fun h=>absurd h (by show ¬ (4:Int)≤3; omega)⟩,Sx (x:={x with a1:=m.am,c1:=m.cm}) h.bv (pV ..)⟩
  ·exact⟨⟨rfl,rfl,rfl,rfl,rfl,fun _=>J⟩,⟨by show(1:Int)≤3; omega,by show(3:Int)≤6; omega⟩,fun _=>BV _,h.wn,h.bv⟩
 rename_i hk;rw[if_neg hk]
 split at E
 ·rename_i hk;rw[if_pos hk];unfold Pv at E ⊢
  split at E
  case isFalse=>cases E
  rename_i N;rw[if_pos N]
  split at E
  case isFalse M=>exact absurd E M
  rename_i M;rw[if_pos M];have hb:=zh h.bv M
  split
  ·exact⟨⟨rfl,rfl,rfl,rfl,rfl,fun _=>BV _⟩,hl.ph,hl.dl,hl.wn,hb⟩
  ·have U:Live {x with b:=Fl x.b m.pt m.lf m.rt,dl:=now+1440} now:=⟨h.ph,fun _=>BV _,h.wn,hb⟩;obtain⟨I,V⟩:=oU (c:=c) (v:=v) U O;exact⟨⟨I.key,I.p0,I.p1,I.a0,I.c0,fun q=>Int.le_trans J (I.dl q)⟩,V⟩
 rename_i hk;rw[if_neg hk]
 split at E
 ·rename_i hk;rw[if_pos hk];unfold Px at E ⊢
  split at E
  case isFalse=>cases E
  rename_i N;rw[if_pos N]
  split
  ·split
   ·split
    ·exact⟨fS ..,Sx h.bv (pV ..)⟩
    ·grind
   ·grind
  ·dsimp only;generalize (if(Je x m.pt).1≤(G7 x m.pt).1 then EL else F5 c v m.op)=bf at*
   split
   ·split
    ·exact⟨WC ..,WD h.bv (SV ..).2⟩
    ·exact⟨Keep.refl x,hl⟩
   ·exact⟨Keep.refl x,hl⟩
 rename_i hk;rw[if_neg hk]
 split at E
 ·rename_i hk;rw[if_pos hk];unfold PE
  split
  ·exact⟨⟨rfl,rfl,rfl,rfl,rfl,fun h=>absurd h (by show ¬ (5:Int)≤3; omega)⟩,⟨by show(1:Int)≤5; omega,by show(5:Int)≤6; omega⟩,fun h=>absurd h (by show ¬ (5:Int)≤3; omega),by show(-1:Int)≤1∧(1:Int)≤1; omega,h.bv⟩
  ·exact⟨Keep.refl x,hl⟩
 rename_i hk;rw[if_neg hk]
 split at E
 ·rename_i hk;rw[if_pos hk];unfold Oj
  split
  ·exact⟨WC x 0,WD (x:=x) (p:=0) h.bv (by decide)⟩
  split
  ·exact⟨fS x 1 x.ct,Sx (x:=x) (w:=1) (a:=x.ct) h.bv (by decide)⟩
  ·exact⟨Keep.refl x,hl⟩
 rename_i hk;rw[if_neg hk]
 split at E
 ·rename_i hk;rw[if_pos hk];unfold Ok
  split
  ·split
   ·exact⟨⟨rfl,rfl,rfl,rfl,rfl,fun _=>J⟩,h.ph,fun _=>BV _,h.wn,h.bv⟩
   ·exact⟨Keep.refl x,hl⟩
  ·exact⟨Keep.refl x,hl⟩
 rename_i hk;rw[if_neg hk];unfold HH
 split
 ·split
  ·split
   ·exact⟨⟨rfl,rfl,rfl,rfl,rfl,fun _=>BV _⟩,hl.ph,hl.dl,hl.wn,hl.bv⟩
   ·exact⟨Keep.refl x,hl⟩
  ·exact⟨Keep.refl x,hl⟩
 ·exact⟨Keep.refl x,hl⟩
def Gg(st:St)(k:Nat)(p:Ply):Prop:=st[k]?=some ⟨false,1,C7 p,false⟩
variable {p:Ply}
theorem KT(h:Gg st k p):k<st.length:=(Ac.1 h).1
theorem Yij{a b:List Ins}:Gw a=Gw b↔a=b:=by
 refine⟨fun h=>?_,fun h=>by rw[h]⟩;simp only[Gw,D.slc.injEq,and_true]at h;exact J5.1 h.2
theorem m9{q:Ply}(h:C7 p=C7 q)(M:p.j=Dj p.x.jn)(N:q.j=Dj q.x.jn):p=q:=by
 obtain⟨I,pj,pc,pv,pm,pn,O⟩:=p;obtain⟨qx,qj,qc,qv,qm,qn,U⟩:=q;dsimp only at M N;simp only[C7,D8,Kx,Ah]at h;obtain⟨h1,V⟩:=A2 h ((LS I pj).trans (LS qx qj).symm);simp only[Da,Sg.cs,Ae,Ai,Ad,Aa,Yij]at V;obtain⟨rfl,h3⟩:=V;obtain⟨h4,h5⟩:=A2 h3 ((Jq O).trans (Jq U).symm);obtain⟨h6,Y⟩:=A2 h5 ((SG pm).trans (SG qm).symm);simp only[Aa,D.int.injEq,true_and,and_true]at Y;obtain rfl:=Y;obtain rfl:=dE.1 (congrArg D.agg h6);obtain rfl:=KO.1 (congrArg D.agg h4);obtain⟨E,h9⟩:=dW h1;subst h9;have J:I.jn=qx.jn:=Ws.1 (M.symm.trans N)
 have:I=qx:=by
  obtain⟨xk,x0,x1,x2,x3,x4,x5,xc,xe,xb,x6,x7,x8,xj⟩:=I;obtain⟨yk,y0,y1,y2,y3,y4,y5,yc,ye,yb,y6,y7,y8,yj⟩:=qx;simp only[Cse.mk.injEq,and_true]at E J ⊢;exact⟨E.1,E.2.1,E.2.2.1,E.2.2.2.1,E.2.2.2.2.1,E.2.2.2.2.2.1,E.2.2.2.2.2.2.1,E.2.2.2.2.2.2.2.1,E.2.2.2.2.2.2.2.2.1,E.2.2.2.2.2.2.2.2.2.1,E.2.2.2.2.2.2.2.2.2.2.1,E.2.2.2.2.2.2.2.2.2.2.2.1,E.2.2.2.2.2.2.2.2.2.2.2.2,J⟩
 subst this;rfl
section
variable {α:Type} (enc:α→List D) (pre:Ply→α→Prop) (F:Ply→α→Cse×Int×St)
def Jr(ds:List D)(st:St)(r:D×Int×St):Prop:=∃ (k:Nat) (p:Ply) (a:α),p.j=Dj p.x.jn∧Gg st k p∧pre p a∧ds=.ptr k 0::enc a∧r=(.tup [],(F p a).2.1,Dv st k (C7 {p with x:=(F p a).1})++(F p a).2.2)
variable {enc pre F}
theorem Nd(hi:∀ a b,enc a=enc b→a=b):IF (Jr enc pre F):=by
 rintro ds st r J ⟨k,p,a,hj,hk,_,rfl,rfl⟩ ⟨k',p',M,I,E,_,h,rfl⟩;simp only[Aa,D.ptr.injEq,and_true]at h;obtain⟨rfl,h⟩:=h;obtain rfl:=hi _ _ h;unfold Gg at hk E;rw[hk]at E;simp only[AN,PI.Obj.mk.injEq,true_and,and_true]at E;obtain rfl:=m9 E hj I;rfl
theorem Qv(hi:∀ a b,enc a=enc b→a=b){a:α}(hj:p.j=Dj p.x.jn)(hk:Gg st k p)(E:pre p a)(I:(F p a).2.1=0) :
  Eu (Jr enc pre F) (.ptr k 0::enc a) st=some (.tup [],Dv st k (C7 {p with x:=(F p a).1})++(F p a).2.2):=
 Tw (Nd hi) ⟨k,p,a,hj,hk,E,rfl,by rw[I]⟩
theorem Ynv(hi:∀ a b,enc a=enc b→a=b){a:α}(hj:p.j=Dj p.x.jn)(hk:Gg st k p)(E:pre p a)(I:(F p a).2.1≠0) :
  Eu (Jr enc pre F) (.ptr k 0::enc a) st=none:=Tv (Nd hi) ⟨k,p,a,hj,hk,E,rfl,rfl⟩ I
theorem Yuc(hi:∀ a b,enc a=enc b→a=b){a:α}(hj:p.j=Dj p.x.jn)(hk:Gg st k p)(E:pre p a)(I:(F p a).2.1≠0) :
  Ga (Jr enc pre F) (.ptr k 0::enc a) st=some (125,.int .i64 (F p a).2.1,Dv st k (C7 {p with x:=(F p a).1})++(F p a).2.2):=
 RO (Nd hi) ⟨k,p,a,hj,hk,E,rfl,rfl⟩ I
end
theorem I3(h:Gg st k p)(l:St):Gg (st++l) k p:=by
 unfold Gg; rw[HK (KT h)]; exact h
theorem Pa(h:k<st.length)(p:Ply):Gg (Dv st k (C7 p)) k p:=LK h _
theorem N9(h:Gg st k p):Dv st k (C7 p)=st:=by
 unfold Gg at h;obtain⟨I,E⟩:=Ac.1 h;unfold Dv;rw[← E,List.set_getElem_self]
def Io:Unit→List D:=fun _=>[]
def G5:Int→List D:=fun n=>[.int .i64 n]
def Kd:Int×Int→List D:=fun a=>[.int .i64 a.1,.int .i64 a.2]
theorem LO:∀ a b,Io a=Io b→a=b:=fun _ _ _=>rfl
theorem dZ:∀ a b,G5 a=G5 b→a=b:=fun a b h=>by simpa[G5]using h
theorem mn:∀ a b,Kd a=Kd b→a=b:=fun a b h=>by
 simp only[Kd,Aa,D.int.injEq,true_and,and_true]at h;exact Prod.ext h.1 h.2
def NK(p:Ply)(a:Int×Int):Cse×Int×St:=(IW p.x a.1 a.2,0,[])
abbrev Mh:=Jr Kd (fun _ _=>True) NK
theorem eM:CK 125 Mh:=by
 refine J2 (T:=tb [] []) kr (DC all_nil all_nil) ?_;rintro ds st d e st' ⟨k,p,⟨w,a⟩,hj,hk,_,rfl,h⟩;simp only[AA]at h;obtain⟨rfl,rfl,rfl⟩:=h;have E:=KT hk;unfold Gg at hk;unfold bR;simp (disch:=first|omega|decide) only[push_cast,↓reduceIte,CB,Kd,NK,IW,Dz,hk,TA,tH,Ys0,Ij,LK E,KU,Ad,and_true]
noncomputable abbrev iP:Tbl:=tb [] [(125,Eu Mh)]
theorem aG(hj:p.j=Dj p.x.jn)(hk:Gg st k p)(w a:Int):Eu Mh [.ptr k 0,.int .i64 w,.int .i64 a] st=some (.tup [],Dv st k (C7 {p with x:=IW p.x w a})):=by
 have:=Qv (F:=NK) (pre:=fun _ _=>True) mn (a:=(w,a)) hj hk trivial rfl;rw[show(NK p (w,a)).2.2=[]from rfl,Ad]at this;exact this
def K0(p:Ply)(a:Int):Cse×Int×St:=(Fo p.x a,0,[])
abbrev Ld:=Jr G5 (fun _ a=>a≤1) K0
theorem Zj:CK 79 Ld:=by
 refine J2 (T:=iP) kf (DC all_nil (all_cons eM.1 all_nil)) ?_;rintro ds st d e st' ⟨k,p,a,hj,hk,ha,rfl,h⟩;simp only[AA]at h;obtain⟨rfl,rfl,rfl⟩:=h;have M:=KT hk;have E:=fun w a=>aG hj hk w a;unfold Gg at hk;unfold bS
 by_cases I:a<0
 ·simp (disch:=first|omega|decide) only[push_cast,↓reduceIte,CB,CD,G5,K0,Fo,I,E,Ad,and_true]
 ·have J:a=0∨a=1:=by omega
  rcases J with rfl | rfl
  ·have e:Fo p.x 0=IW p.x 0 p.x.a0:=by unfold Fo Pt; rw[if_neg (by omega),if_pos rfl]
   simp (disch:=first|omega|decide) only[push_cast,↓reduceIte,CB,CF,CD,G5,K0,e,I,Dz,hk,En,YY,E,Ad,and_true]
  ·have e:Fo p.x 1=IW p.x 1 p.x.a1:=by unfold Fo Pt; rw[if_neg (by omega),if_neg (by omega)]
   simp (disch:=first|omega|decide) only[push_cast,↓reduceIte,CB,CC,CF,CD,G5,K0,e,I,Dz,hk,En,YO,E,Ad,and_true]
theorem Sl(hj:p.j=Dj p.x.jn)(hk:Gg st k p){a:Int}(E:a≤1):Eu Ld [.ptr k 0,.int .i64 a] st=some (.tup [],Dv st k (C7 {p with x:=Fo p.x a})):=by
 have:=Qv (F:=K0) (pre:=fun _ a=>a≤1) dZ (a:=a) hj hk E rfl;rw[show(K0 p a).2.2=[]from rfl,Ad]at this;exact this
theorem Yvc(hk:st[k]?=some ⟨false,1,C7 p,false⟩):DP st (.bsl k 9 2 1 false)=some (.slc 1 [.int .i64 p.x.a0,.int .i64 p.x.a1] false):=by
 have E:Ko st k 9 2 1 false=some [.int .i64 p.x.a0,.int .i64 p.x.a1]:=by
  unfold Ko;rw[hk];dsimp only;rw[yMm,if_pos (by decide)];rfl
 simp only[DP,Dx,Hp,E];rfl
def NG(p:Ply)(n:Int):Cse×Int×St:=(Q1 p.x n,0,[])
abbrev NP:=Jr G5 (fun _ _=>True) NG
theorem mL:CK 120 NP:=by
 refine J2 (T:=tb [(160,Y1)] [(125,Eu Mh)]) vr (DC (all_cons VH all_nil) (all_cons eM.1 all_nil)) ?_;rintro ds st d e st' ⟨k,p,a,hj,hk,ha,rfl,h⟩;simp only[AA]at h;obtain⟨rfl,rfl,rfl⟩:=h;have E:=fun w a=>aG hj hk w a
 have ci:Y1 [.slc 1 [.int .i64 p.x.a0,.int .i64 p.x.a1] false,.int .i64 a]=some (.int .i64 (K8 p.x a)):=by
  have:=Yiq [p.x.a0,p.x.a1] a (by simp);rw[Yos]at this;exact this
 unfold Gg at hk;have hi:=Yvc hk;have I:NX 2 1 false (.ptr k 9) none none=some (.bsl k 9 2 1 false):=rfl;have Dq:keys (.bsl k 9 2 1 false)=[k]:=rfl;unfold j5;simp (disch:=first|omega|decide) only[push_cast,↓reduceIte,CB,G5,NG,Q1,Dz,I,hi,ci,E,Ad,and_true]
theorem aH(hj:p.j=Dj p.x.jn)(hk:Gg st k p)(a:Int):Eu NP [.ptr k 0,.int .i64 a] st=some (.tup [],Dv st k (C7 {p with x:=Q1 p.x a})):=by
 have:=Qv (F:=NG) (pre:=fun _ _=>True) dZ (a:=a) hj hk trivial rfl;rw[show(NG p a).2.2=[]from rfl,Ad]at this;exact this
def LA(p:Ply):Prop:=0≤p.now∧p.now≤1073741824
def NH(p:Ply)(_:Unit):Cse×Int×St:=({p.x with dl:=p.now+1440},0,[])
abbrev JN:=Jr Io (fun p _=>LA p) NH
theorem WL:CK 118 JN:=by
 refine J2 (T:=tb [] []) vz (DC all_nil all_nil) ?_;rintro ds st d e st' ⟨k,p,a,hj,hk,ha,rfl,h⟩;simp only[AA]at h;obtain⟨rfl,rfl,rfl⟩:=h;obtain⟨n1,I⟩:=ha;have E:=KT hk;unfold Gg at hk;unfold km;simp (disch:=first|omega|decide) only[push_cast,↓reduceIte,CB,Io,NH,Dz,hk,Yn4,DI,Ysy,Ij,Ad,and_true]
theorem Xs(hj:p.j=Dj p.x.jn)(hk:Gg st k p)(hn:LA p):Eu JN [.ptr k 0] st=some (.tup [],Dv st k (C7 {p with x:={p.x with dl:=p.now+1440}})):=by
 have:=Qv (F:=NH) (pre:=fun p _=>LA p) LO (a:=()) hj hk hn rfl;rw[show(NH p ()).2.2=[]from rfl,Ad]at this;exact this
def Nw(p:Ply)(_:Unit):Cse×Int×St:=(Rd p.x p.now,0,[])
abbrev NN:=Jr Io (fun p _=>LA p) Nw
theorem ub:CK 121 NN:=by
 refine J2 (T:=tb [] [(118,Eu JN)]) u9 (DC all_nil (all_cons WL.1 all_nil)) ?_;rintro ds st d e st' ⟨k,p,a,hj,hk,ha,rfl,h⟩;simp only[AA]at h;obtain⟨rfl,rfl,rfl⟩:=h;have E:=KT hk;have ce:=Xs (st:=Dv st k (C7 {p with x:={p.x with ph:=3}})) (k:=k) (p:={p with x:={p.x with ph:=3}}) hj (Pa E _) ha;unfold Gg at hk;unfold jT;simp (disch:=first|omega|decide) only[push_cast,↓reduceIte,CB,Io,Nw,Rd,Dz,hk,TA,Ij,ce,KU,Ad,and_true]
theorem mK(hj:p.j=Dj p.x.jn)(hk:Gg st k p)(hn:LA p):Eu NN [.ptr k 0] st=some (.tup [],Dv st k (C7 {p with x:=Rd p.x p.now})):=by
 have:=Qv (F:=Nw) (pre:=fun p _=>LA p) LO (a:=()) hj hk hn rfl;rw[show(Nw p ()).2.2=[]from rfl,Ad]at this;exact this
theorem Gj(st:St)(c:List Ins):DP st (Gw c)=some (Gw c):=Pb st (d:=Gw c) (by simp[Gw,IH,Em,Km])
theorem Jn(c:List Ins):keys (Gw c)=[]:=rfl
theorem HO:((380:Int)=0)=False:=by simp
theorem gr:((381:Int)=0)=False:=by simp
theorem UK:((1:Int)=0)=False:=by simp
theorem n2e:((2:Int)=0)=False:=by simp
theorem Rz:((40:Int)=0)=False:=by simp
theorem NB:((390:Int)=0)=False:=by simp
def Ff(p:Int×Dig):List D:=.int .i64 p.1::CZ p.2
def Re(c:List Ins)(v:Int×List Int)(x:Cse):St:=⟨false,1,EG (H7 x.b) (H8 x.b),false⟩::(if Lj x.b=true∧KD x.b=0 then [⟨false,1,Ff (G8 (H7 x.b,H8 x.b) (Hf c v)),false⟩]else [])
def L4(p:Ply)(_:Unit):Cse×Int×St:=((Ji p.c p.v p.x p.now).1,(Ji p.c p.v p.x p.now).2,Re p.c p.v p.x)
def J8(p:Ply)(_:Unit):Prop:=p.c.length≤4294967296∧LA p
abbrev JM:=Jr Io J8 L4
noncomputable abbrev iN:Tbl:=Lz [(88,Sc),(14,WT)] [(123,Eu LB),(79,Eu Ld),(121,Eu NN)] [(123,Ga LB)]
theorem WM:CK 119 JM:=by
 refine J2 (T:=iN) vA (MS (all_cons cY (all_cons Yi2 all_nil)) (all_cons Ql.1 (all_cons Zj.1 (all_cons ub.1 all_nil))) (all_cons Ql.2 all_nil)) ?_;rintro ds st d e st' ⟨k,p,a,hj,hk,⟨hc,hn⟩,rfl,h⟩;simp only[AA]at h;obtain⟨rfl,rfl,rfl⟩:=h;have N:=KT hk;have hs:Dv st k (C7 {p with x:=p.x})=st:=N9 hk;have E:=W0 p.x.b;have V:WT [Gw p.c,Ew p.v,.agg (EG (H7 p.x.b) (H8 p.x.b))]=some (.tup [D2 (G8 (H7 p.x.b,H8 p.x.b) (Hf p.c p.v)),.int .i64 (Hf p.c p.v).2]):=yN1 p.c p.v (H7 p.x.b,H8 p.x.b) ⟨by omega,p.hv⟩;have ab:=(SV (H7 p.x.b,H8 p.x.b) (Hf p.c p.v)).2;have cr:∀ l,_:=fun l=>Sl (st:=st++l) hj (I3 hk l) ab;have cs:∀ l,_:=fun l=>mK (st:=st++l) hj (I3 hk l) hn;have O:∀ l:St,(st++l)[k]?=some ⟨false,1,C7 p,false⟩:=fun l=>I3 hk l;have J:st[k]?=some ⟨false,1,C7 p,false⟩:=hk;unfold kn Io L4 Ji Re
 by_cases I:Lj p.x.b=true
 ·by_cases Y:KD p.x.b=0
  ·by_cases M:(Hf p.c p.v).2=0
   ·have g2:=eq_true Y;have g3:=eq_true M;rw[I]at E;rw[M]at V;simp (disch:=first|omega|decide) only[push_cast,↓reduceIte,CB,Dz,J,O,Gj,Jn,EP,GJ,Is,Hk,D2,Ff,Ah,Ae,Ai,Ad,Ab,Ak,Ap,Am,DM,DN,EI,EK,HA N,and_self,decide_true,Hx,F1,Gf,E,V,cr,I,g2,M]
   ·have g2:=eq_true Y;rw[I]at E;simp (disch:=first|omega|decide) only[push_cast,↓reduceIte,CB,Dz,J,O,Gj,Jn,EP,GJ,Is,Iz,MF,hs,D2,Ff,Ah,Ae,Ai,Ad,Ab,Ak,Ap,Am,DM,DN,EI,EK,and_self,not_false_eq_true,decide_true,Hx,F1,Gf,E,V,I,g2,M]
  ·rw[I]at E;simp (disch:=first|omega|decide) only[push_cast,↓reduceIte,CB,Dz,J,Am,EI,EK,HA N,and_self,and_false,decide_false,Hx,E,cs,I,Y]
 ·have U:Lj p.x.b=false:=by simpa using I
  rw[U]at E;simp (disch:=first|omega|decide) only[push_cast,↓reduceIte,CB,Dz,J,hs,Am,EI,EK,and_self,false_and,Hx,E,U,Al]
section
variable {st:St} {k:Nat} {p:Ply} (hj:p.j=Dj p.x.jn) (hk:Gg st k p) (hc:p.c.length≤4294967296) (hn:LA p)
include hj hk hc hn
theorem mJ(h:(Ji p.c p.v p.x p.now).2=0):Eu JM [.ptr k 0] st=some (.tup [],Dv st k (C7 {p with x:=(Ji p.c p.v p.x p.now).1})++Re p.c p.v p.x):=
 Qv (F:=L4) (pre:=J8) LO (a:=()) hj hk ⟨hc,hn⟩ h
theorem nR(h:(Ji p.c p.v p.x p.now).2≠0):Eu JM [.ptr k 0] st=none:=Ynv (F:=L4) (pre:=J8) LO (a:=()) hj hk ⟨hc,hn⟩ h
theorem nS(h:(Ji p.c p.v p.x p.now).2≠0):Ga JM [.ptr k 0] st=some (125,.int .i64 (Ji p.c p.v p.x p.now).2,Dv st k (C7 {p with x:=(Ji p.c p.v p.x p.now).1})++Re p.c p.v p.x):=
 Yuc (F:=L4) (pre:=J8) LO (a:=()) hj hk ⟨hc,hn⟩ h
end
def PN(p:Ply)(_:Unit):Cse×Int×St:=((PE p.x p.m).1,(PE p.x p.m).2,[])
abbrev Qb:=Jr Io (fun _ _=>True) PN
theorem qZ:CK 69 Qb:=by
 refine J2 (T:=uw) vL (MS all_nil (all_cons Jm.1 all_nil) (all_cons Jm.2 all_nil)) ?_;rintro ds st d e st' ⟨k,p,a,hj,hk,_,rfl,h⟩;simp only[AA]at h;obtain⟨rfl,rfl,rfl⟩:=h;have I:=KT hk;have M:Dv st k (C7 {p with x:=p.x})=st:=N9 hk;have N:∀ l:St,(st++l)[k]?=some ⟨false,1,C7 p,false⟩:=fun l=>I3 hk l;have E:st[k]?=some ⟨false,1,C7 p,false⟩:=hk;unfold ky Io PN PE
 by_cases J:p.m.pt=0
 ·have g1:=eq_true J;simp (disch:=first|omega|decide) only[push_cast,↓reduceIte,CB,CC,Dz,E,Du,Ij,Ad,Am,CC,and_self,decide_true,Es,g1,TA,tH,LK I,KU]
 ·simp (disch:=first|omega|decide) only[push_cast,↓reduceIte,CC,Dz,E,D7,D6,M,Ad,Am,CC,and_self,not_false_eq_true,decide_false,HO,Es,J]
def P5(p:Ply)(_:Unit):Cse×Int×St:=((Oj p.x p.m).1,(Oj p.x p.m).2,[])
abbrev Qe:=Jr Io (fun _ _=>True) P5
theorem pJ:CK 70 Qe:=by
 refine J2 (T:=Lz [] [(73,Eu HJ),(79,Eu Ld),(125,Eu Mh)] [(73,Ga HJ)]) vG (MS all_nil (all_cons Jm.1 (all_cons Zj.1 (all_cons eM.1 all_nil))) (all_cons Jm.2 all_nil)) ?_;rintro ds st d e st' ⟨k,p,a,hj,hk,_,rfl,h⟩;simp only[AA]at h;obtain⟨rfl,rfl,rfl⟩:=h;have O:=KT hk;have M:Dv st k (C7 {p with x:=p.x})=st:=N9 hk;have U:∀ l:St,(st++l)[k]?=some ⟨false,1,C7 p,false⟩:=fun l=>I3 hk l;have E:st[k]?=some ⟨false,1,C7 p,false⟩:=hk;have c1:=Sl hj hk (a:=0) (by omega);have N:=aG hj hk 1 p.x.ct;unfold ku Io P5 Oj
 by_cases I:p.m.pt=1
 ·have g1:=eq_true I;simp (disch:=first|omega|decide) only[push_cast,↓reduceIte,CB,CC,Dz,E,Ad,Am,CC,and_self,decide_true,Es,g1,c1]
 ·by_cases J:0≤p.x.ct
  ·simp (disch:=first|omega|decide) only[push_cast,↓reduceIte,CB,CC,Dz,E,Du,Ad,Am,CC,and_self,decide_true,decide_false,Es,Rs,I,J,N]
  ·simp (disch:=first|omega|decide) only[push_cast,↓reduceIte,CB,CC,Dz,E,D7,D6,M,Ad,Am,CC,and_self,not_false_eq_true,decide_false,HO,Es,Rs,I,J]
def P4(p:Ply)(_:Unit):Cse×Int×St:=((Ok p.x p.m p.now).1,(Ok p.x p.m p.now).2,[])
abbrev Qd:=Jr Io (fun p _=>LA p) P4
theorem pK:CK 71 Qd:=by
 refine J2 (T:=Lz [(64,Ss)] [(73,Eu HJ),(118,Eu JN)] [(73,Ga HJ)]) vH (MS (all_cons eJ all_nil) (all_cons Jm.1 (all_cons WL.1 all_nil)) (all_cons Jm.2 all_nil)) ?_;rintro ds st d e st' ⟨k,p,a,hj,hk,hn,rfl,h⟩;simp only[AA]at h;obtain⟨rfl,rfl,rfl⟩:=h;have U:=KT hk;have I:Dv st k (C7 {p with x:=p.x})=st:=N9 hk;have aa:∀ l:St,(st++l)[k]?=some ⟨false,1,C7 p,false⟩:=fun l=>I3 hk l;have E:st[k]?=some ⟨false,1,C7 p,false⟩:=hk;have J:=bA p.m.am;have ce:=Xs (st:=Dv st k (C7 {p with x:={p.x with ct:=p.m.am}})) (k:=k) (p:={p with x:={p.x with ct:=p.m.am}}) hj (Pa U _) hn;unfold kC Io P4 Ok
 by_cases V:p.m.pt=1
 ·have g1:=eq_true V
  by_cases Y:p.x.ph=1
  ·have g2:=eq_true Y
   by_cases M:p.x.ct<0
   ·by_cases O:0≤p.m.am
    ·by_cases N:Il p.m.am
     ·simp only[N,decide_true]at J;simp (disch:=first|omega|decide) only[push_cast,↓reduceIte,CB,CC,Dz,E,Du,Ij,Ad,Am,CC,and_self,decide_true,Es,Hy,Rs,Mm,g1,g2,M,O,N,J,Ysz,ce,KU]
     ·simp only[N,decide_false]at J;simp (disch:=first|omega|decide) only[push_cast,↓reduceIte,CB,CC,Dz,E,Du,D7,D6,I,Ad,Am,CC,and_self,and_false,not_false_eq_true,decide_true,UK,Es,Hy,Rs,Mm,g1,g2,M,O,N,J]
    ·simp (disch:=first|omega|decide) only[push_cast,↓reduceIte,CB,CC,Dz,E,Du,D7,D6,I,Ad,Am,CC,and_self,false_and,not_false_eq_true,decide_true,decide_false,UK,Es,Hy,Rs,Mm,g1,g2,M,O]
   ·simp (disch:=first|omega|decide) only[push_cast,↓reduceIte,CB,CC,Dz,E,D7,D6,I,Ad,Am,CC,and_self,and_false,not_false_eq_true,decide_true,decide_false,HO,Es,Hy,Rs,g1,g2,M]
  ·simp (disch:=first|omega|decide) only[push_cast,↓reduceIte,CB,CC,Dz,E,D7,D6,I,Ad,Am,CC,and_self,and_false,false_and,not_false_eq_true,decide_true,decide_false,HO,Es,Hy,g1,Y]
 ·simp (disch:=first|omega|decide) only[push_cast,↓reduceIte,CB,CC,Dz,E,D7,D6,I,Ad,Am,CC,and_self,false_and,not_false_eq_true,decide_false,HO,Es,V]
def H5(x:Cse)(m:Mv):Cse:={x with a1:=m.am,c1:=m.cm}
def Hr(x:Cse)(m:Mv)(now:Int):Cse:={x with a1:=m.am,c1:=m.cm,b:=Ju x.c0 m.cm,ph:=2,dl:=now+1440}
def rS(c:List Ins)(v:Int×List Int)(x:Cse)(m:Mv)(now:Int):St:=
 if m.pt=1∧x.ph=1 then
  if Il m.am then⟨false,1,Db (Ju x.c0 m.cm),false⟩::(if GQ x.c0 m.cm=0 then Re c v (Hr x m now)else [])
  else []
 else []
def P9(p:Ply)(_:Unit):Cse×Int×St:=((MA p.c p.v p.x p.m p.now).1,(MA p.c p.v p.x p.m p.now).2,rS p.c p.v p.x p.m p.now)
abbrev Qg:=Jr Io J8 P9
theorem tv(st:St)(c:List Ins):Ec st false (Gw c)=some (.int .i64 (c.length:Int)):=by
 simp[Ec,HG,Gw,Ev]
noncomputable abbrev iQ:Tbl:=Lz [(64,Ss),(26,Oa)]
 [(73,Eu HJ),(118,Eu JN),(119,Eu JM),(79,Eu Ld),(120,Eu NP),(121,Eu NN)]
 [(73,Ga HJ),(119,Ga JM)]
theorem nY:CK 66 Qg:=by
 refine J2 (T:=iQ) vw (MS (all_cons eJ (all_cons eK all_nil)) (all_cons Jm.1 (all_cons WL.1 (all_cons WM.1 (all_cons Zj.1 (all_cons mL.1 (all_cons ub.1 all_nil)))))) (all_cons Jm.2 (all_cons WM.2 all_nil))) ?_;rintro ds st d e st' ⟨k,p,a,hj,hk,⟨hc,hn⟩,rfl,h⟩;simp only[AA]at h;obtain⟨rfl,rfl,rfl⟩:=h;have E:=KT hk;have hs:Dv st k (C7 {p with x:=p.x})=st:=N9 hk;have a8:∀ l:St,(st++l)[k]?=some ⟨false,1,C7 p,false⟩:=fun l=>I3 hk l;have I:st[k]?=some ⟨false,1,C7 p,false⟩:=hk;have M:=bA p.m.am;have U:Oa [.agg (.int .i64 p.x.c0.1::CZ p.x.c0.2),.agg (.int .i64 p.m.cm.1::CZ p.m.cm.2)]=some (.tup [DQ (Ju p.x.c0 p.m.cm),.int .i64 (GQ p.x.c0 p.m.cm)]):=bB p.x.c0 p.m.cm;have Y:=fun C=>LK E C;have O:=fun C m=>OY E C m;unfold kj Io P9 MA rS
 by_cases h1:p.m.pt=1
 ·have g1:=eq_true h1
  by_cases h2:p.x.ph=1
  ·have g2:=eq_true h2
   by_cases N:Il p.m.am
   ·simp only[N,decide_true]at M
    -- a2 case with a2 answer
    have aa:∀ l,Gg (Dv st k (C7 {p with x:=H5 p.x p.m})++l) k {p with x:=H5 p.x p.m}:=fun l=>I3 (Pa E _) l
    by_cases V:GQ p.x.c0 p.m.cm=1
    ·rw[V]at U;have n0:¬ (1:Int)=0:=by decide
     simp (disch:=first|omega|decide) only[push_cast,↓EE,↓reduceIte,CB,CC,CF,Dz,I,Du,D7,D6,Ij,Ae,Ai,Am,CC,EI,EK,and_self,not_false_eq_true,decide_true,gr,Es,Hy,Mm,Rt,FH,FI,g1,g2,N,V,M,U,Rm,Rn,Y,KU,En,n0]
    ·by_cases h7:GQ p.x.c0 p.m.cm=0
     ·have g7:=eq_true h7
      have ce:∀ l:St,Eu JN [.ptr k 0] (Dv st k (C7 {p with x:={H5 p.x p.m with b:=Ju p.x.c0 p.m.cm,ph:=2}})++l)=some (.tup [],Dv (Dv st k (C7 {p with x:={H5 p.x p.m with b:=Ju p.x.c0 p.m.cm,ph:=2}})++l) k (C7 {p with x:=Hr p.x p.m p.now})):=
       fun l=>Xs (p:={p with x:={H5 p.x p.m with b:=Ju p.x.c0 p.m.cm,ph:=2}}) hj (I3 (Pa E _) l) hn
      have ab:∀ l,Gg (Dv st k (C7 {p with x:=Hr p.x p.m p.now})++l) k {p with x:=Hr p.x p.m p.now}:=fun l=>I3 (Pa E _) l
      by_cases J:(Ji p.c p.v (Hr p.x p.m p.now) p.now).2=0
      ·have cs:=fun l=>mJ (p:={p with x:=Hr p.x p.m p.now}) hj (ab l) hc hn J;have g8:=eq_true J;simp only[H5,Hr]at ce cs J g8;simp (disch:=first|omega|decide) only[push_cast,↓EE,↓reduceIte,CB,CC,CF,Dz,I,Du,Ij,Ah,Ae,Ai,Am,CC,EI,EK,and_self,decide_true,decide_false,Es,Hy,Mm,Rt,FH,FI,g1,g2,N,V,g7,M,U,Rm,Rn,Tc,TA,Y,O,KU,Mx E,En,ce,cs,J,Hr]
      ·have cs:=fun l=>nR (p:={p with x:=Hr p.x p.m p.now}) hj (ab l) hc hn J;have cx:=fun l=>nS (p:={p with x:=Hr p.x p.m p.now}) hj (ab l) hc hn J;simp only[H5,Hr]at ce cs cx J;simp (disch:=first|omega|decide) only[push_cast,↓EE,↓reduceIte,CB,CC,CF,Dz,I,Du,Ij,Ah,Ae,Ai,Am,CC,EI,EK,and_self,not_false_eq_true,decide_true,decide_false,Es,Hy,Mm,Rt,FH,FI,g1,g2,N,V,g7,M,U,Rm,Rn,Tc,TA,Y,O,KU,Mx E,En,ce,cs,cx,J,Hr]
     ·have cr:=fun l=>Sl (p:={p with x:=H5 p.x p.m}) hj (aa l) (a:=1) (by omega);have cj:=fun l=>aH (p:={p with x:=H5 p.x p.m}) hj (aa l) 0;have ct:=fun l=>mK (p:={p with x:=H5 p.x p.m}) hj (aa l) hn;simp only[H5]at cr cj ct
      by_cases J:p.x.a0=p.m.am
      ·have g8:=eq_true J;simp (disch:=first|omega|decide) only[push_cast,↓EE,↓reduceIte,CB,CC,CF,Dz,I,Du,Ij,Ae,Ai,Am,CC,EI,EK,and_self,decide_true,decide_false,Es,Hy,Mm,Rt,FH,FI,YY,YO,g1,g2,N,V,h7,M,U,Rm,Rn,Y,O,KU,Mx E,En,cr,g8]
      ·by_cases h9:p.c.length=0
       ·have g9:((p.c.length:Int)=0)=True:=by simp[h9]
        simp (disch:=first|omega|decide) only[push_cast,↓EE,↓reduceIte,CB,CC,CF,Dz,I,Du,Ij,Ae,Ai,Am,CC,EI,EK,and_self,decide_true,decide_false,Es,Hy,Mm,Rt,FH,FI,YY,YO,F1,tv,g1,g2,N,V,h7,M,U,Rm,Rn,Y,O,KU,Mx E,En,cj,J,h9]
       ·have g9:((p.c.length:Int)=0)=False:=by simp; simpa using h9
        simp (disch:=first|omega|decide) only[push_cast,↓EE,↓reduceIte,CB,CC,CF,Dz,I,Du,Ij,Ae,Ai,Am,CC,EI,EK,and_self,decide_true,decide_false,Es,Hy,Mm,Rt,FH,FI,YY,YO,F1,tv,g1,g2,N,V,h7,M,U,Rm,Rn,Y,O,KU,Mx E,En,ct,J,g9,h9]
   ·simp only[N,decide_false]at M;simp (disch:=first|omega|decide) only[push_cast,↓reduceIte,CB,CC,Dz,I,Du,D7,D6,hs,Ad,Am,CC,and_self,not_false_eq_true,decide_true,UK,Es,Hy,Mm,g1,g2,N,M]
  ·simp (disch:=first|omega|decide) only[push_cast,↓reduceIte,CB,CC,Dz,I,D7,D6,hs,Ad,Am,CC,and_self,and_false,not_false_eq_true,decide_true,decide_false,HO,Es,Hy,g1,h2]
 ·simp (disch:=first|omega|decide) only[push_cast,↓reduceIte,CB,CC,Dz,I,D7,D6,hs,Ad,Am,CC,and_self,false_and,not_false_eq_true,decide_false,HO,Es,h1]
def Me(x:Cse)(m:Mv):Cse:={x with b:=Fl x.b m.pt m.lf m.rt}
def Ho(x:Cse)(m:Mv)(now:Int):Cse:={x with b:=Fl x.b m.pt m.lf m.rt,dl:=now+1440}
def rT(c:List Ins)(v:Int×List Int)(x:Cse)(m:Mv)(now:Int):St:=
 if x.ph=2 then⟨false,1,Db (Fl x.b m.pt m.lf m.rt),false⟩::(if FM x.b m.pt m.lf m.rt=0 then(if(Fl x.b m.pt m.lf m.rt).r=x.b.r then []else Re c v (Ho x m now))else [])else []
def P3(p:Ply)(_:Unit):Cse×Int×St:=((Pv p.c p.v p.x p.m p.now).1,(Pv p.c p.v p.x p.m p.now).2,rT p.c p.v p.x p.m p.now)
def VB(p:Ply)(u:Unit):Prop:=J8 p u∧(p.m.pt=0∨p.m.pt=1)
abbrev Qc:=Jr Io VB P3
noncomputable abbrev iO:Tbl:=Lz [(122,fw)]
 [(73,Eu HJ),(123,Eu LB),(118,Eu JN),(119,Eu JM)]
 [(73,Ga HJ),(123,Ga LB),(119,Ga JM)]
theorem qY:CK 67 Qc:=by
 refine J2 (T:=iO) vK (MS (all_cons Yqw all_nil) (all_cons Jm.1 (all_cons Ql.1 (all_cons WL.1 (all_cons WM.1 all_nil)))) (all_cons Jm.2 (all_cons Ql.2 (all_cons WM.2 all_nil)))) ?_;rintro ds st d e st' ⟨k,p,a,hj,hk,⟨⟨hc,hn⟩,hp⟩,rfl,h⟩;simp only[AA]at h;obtain⟨rfl,rfl,rfl⟩:=h;have E:=KT hk;have Y:Dv st k (C7 {p with x:=p.x})=st:=N9 hk;have N:∀ l:St,(st++l)[k]?=some ⟨false,1,C7 p,false⟩:=fun l=>I3 hk l;have I:st[k]?=some ⟨false,1,C7 p,false⟩:=hk;have O:=yO p.x.b p.m.pt p.m.lf p.m.rt (by omega);have hz:=fun C=>LK E C;have ae:=fun C m=>OY E C m;unfold kx Io P3 Pv rT
 by_cases h1:p.x.ph=2
 ·have g1:=eq_true h1
  by_cases M:FM p.x.b p.m.pt p.m.lf p.m.rt=0
  ·have g2:=eq_true M;rw[M]at O
   by_cases V:(Fl p.x.b p.m.pt p.m.lf p.m.rt).r=p.x.b.r
   ·have g3:=eq_true V;simp (disch:=first|omega|decide) only[push_cast,↓reduceIte,CB,CC,Dz,I,N,Hk,Du,Ij,Am,CC,EI,EK,HA E,and_self,decide_true,Hy,Hx,Es,YP,YQ,cC,g1,g3,M,O,Tc]
   ·have ce:∀ l:St,Eu JN [.ptr k 0] (Dv st k (C7 {p with x:=Me p.x p.m})++l)=some (.tup [],Dv (Dv st k (C7 {p with x:=Me p.x p.m})++l) k (C7 {p with x:=Ho p.x p.m p.now})):=
     fun l=>Xs (p:={p with x:=Me p.x p.m}) hj (I3 (Pa E _) l) hn
    have U:∀ l,Gg (Dv st k (C7 {p with x:=Ho p.x p.m p.now})++l) k {p with x:=Ho p.x p.m p.now}:=fun l=>I3 (Pa E _) l
    by_cases J:(Ji p.c p.v (Ho p.x p.m p.now) p.now).2=0
    ·have cs:=fun l=>mJ (p:={p with x:=Ho p.x p.m p.now}) hj (U l) hc hn J;have g8:=eq_true J;simp only[Me,Ho]at ce cs J g8;simp (disch:=first|omega|decide) only[push_cast,↓reduceIte,CB,CC,Dz,I,N,Hk,Du,Ij,Ah,Ae,Ai,Am,CC,EI,EK,HA E,and_self,decide_true,decide_false,Hy,Hx,Es,YP,YQ,cC,g1,V,M,O,Tc,Mx E,ce,cs,J,Ho]
    ·have cs:=fun l=>nR (p:={p with x:=Ho p.x p.m p.now}) hj (U l) hc hn J;have cx:=fun l=>nS (p:={p with x:=Ho p.x p.m p.now}) hj (U l) hc hn J;simp only[Me,Ho]at ce cs cx J;simp (disch:=first|omega|decide) only[push_cast,↓reduceIte,CB,CC,Dz,I,N,Hk,Du,Ij,Ah,Ae,Ai,Am,CC,EI,EK,HA E,and_self,not_false_eq_true,decide_true,decide_false,Hy,Hx,Es,YP,YQ,cC,g1,V,M,O,Tc,Mx E,ce,cs,cx,J,Ho]
  ·simp (disch:=first|omega|decide) only[push_cast,↓reduceIte,CB,CC,Dz,I,Iz,MF,Du,Y,Am,CC,EI,EK,and_self,not_false_eq_true,decide_true,Hy,Hx,Es,YP,YQ,g1,M,O]
 ·simp (disch:=first|omega|decide) only[push_cast,↓reduceIte,Dz,I,D7,D6,Y,Ad,Am,and_self,not_false_eq_true,decide_false,HO,Hy,h1]
noncomputable def Ru:List D→Option ((Nat→D)×(Nat→List PI.Obj)):=fun ds=>@dite _ (∃ l:List Ky,l.length≤4294900000∧ds=[Dj l]) (Classical.propDecidable _)
 (fun h=>some (if h.choose=[]then(fun _=>.slc 0 [] true,fun _=>[])else(fun n=>.row n h.choose.length 0 h.choose.length,fun _=>[⟨true,5,h.choose.map DJ,false⟩]))) (fun _=>none)
theorem nX(l:List Ky)(h:l.length≤4294900000):Ru [Dj l]=some (if l=[]then(fun _=>.slc 0 [] true,fun _=>[])else(fun n=>.row n l.length 0 l.length,fun _=>[⟨true,5,l.map DJ,false⟩])):=by
 have E:∃ q:List Ky,q.length≤4294900000∧[Dj l]=[Dj q]:=⟨l,h,rfl⟩;unfold Ru;rw[dif_pos E];have I:=E.choose_spec.2;generalize E.choose=q at*;simp only[Aa,and_true,Ws]at I;subst I;rfl
theorem Ywg:IContract Tryz.prog GG 127 (fun ds st=>(Ru ds).map fun r=>(r.1 st.length,st++r.2 st.length)):=
 sL.or sL fun ds st r h=>.inl (by
  simp only[BH]at h;obtain⟨r0,E,rfl⟩:=h
  have I:∃ l:List Ky,l.length≤4294900000∧ds=[Dj l]:=by
   unfold Ru at E
   split at E
   ·assumption
   ·cases E
  obtain⟨l,hl,rfl⟩:=I;rw[nX l hl]at E;rw[Yix l st hl];simp only[AN]at E;subst E
  split <;> simp)
noncomputable def Lc:Tbl:={p:=D0 [(126,Y0)],i:=D0 [(73,Eu HJ)],m:=D0 [(127,Ru)],x:=D0 [(73,Ga HJ)]}
theorem Ub(n:Nat):Lc.p n=D0 [(126,Y0)] n:=(rfl)
theorem Ud(n:Nat):Lc.i n=D0 [(73,Eu HJ)] n:=(rfl)
theorem Uc(n:Nat):Lc.m n=D0 [(127,Ru)] n:=(rfl)
theorem Ua(n:Nat):Lc.x n=D0 [(73,Ga HJ)] n:=(rfl)
attribute [push_cast] Ub Ud Uc Ua
theorem Ysu:TblOK Tryz.prog GG Lc:=
 ⟨fun _ _ E=>.inl (by
   have:=JV E;simp only[AM,AA]at this;obtain⟨rfl,rfl⟩:=this;exact⟨by decide,VJ⟩),fun _ _ E=>(by
   have:=JV E;simp only[AM,AA]at this;obtain⟨rfl,rfl⟩:=this;exact Jm.1),fun _ _ E=>(by
   have:=JV E;simp only[AM,AA]at this;obtain⟨rfl,rfl⟩:=this;exact Ywg),fun _ _ E=>(by cases E),fun _ _ E=>(by
   have:=JV E;simp only[AM,AA]at this;obtain⟨rfl,rfl⟩:=this;exact Jm.2),fun _ _ E=>(by cases E)⟩
def I7(ds:List D)(st:St)(r:D×Int×St):Prop:=∃ (k:Nat) (p:Ply),p.j=Dj p.x.jn∧Gg st k p∧ds=[.ptr k 0]∧
 r=if(HH p.x p.m).2=0 then(.tup [],0,Dv st k (C7 {p with j:=.row st.length (p.x.jn.length+1) 0 (p.x.jn.length+1)})++[⟨true,5,(p.x.jn++[p.m.key]).map DJ,false⟩])else(.tup [],(HH p.x p.m).2,st)
theorem cV:IF I7:=by
 rintro ds st r J ⟨k,p,hj,hk,rfl,rfl⟩ ⟨k',p',I,E,h,rfl⟩;simp only[Aa,D.ptr.injEq,and_true]at h;obtain rfl:=h;unfold Gg at hk E;rw[hk]at E;simp only[AN,PI.Obj.mk.injEq,true_and,and_true]at E;obtain rfl:=m9 E hj I;rfl
theorem tw(k:Ky):E2 5 [DJ k]=some (.slc 5 [DJ k] true):=rfl
theorem Yrb(st:St)(k:Ky):Ea st 5 40 (.slc 0 [] true) (.slc 5 [DJ k] true)=some (.row st.length 1 0 1,st++[⟨true,5,[DJ k],false⟩]):=by
 simp[Ea,Gy]
theorem Yra(st:St)(l:List Ky)(k:Ky)(h:l.length≤100):Ea (st++[⟨true,5,l.map DJ,false⟩]) 5 40 (.row st.length l.length 0 l.length) (.slc 5 [DJ k] true)=some (.row st.length (l.length+1) 0 (l.length+1),st++[⟨true,5,(l++[k]).map DJ,false⟩]):=by
 have E:(l.length+1)*40≤140737488355328:=by omega
 have I:l.length+1≤4294967296:=by omega
 simp[Ea,Gy,E,I]
theorem tZ:CK 72 I7:=by
 refine J2 (T:=Lc) vq Ysu ?_;rintro ds st d e st' ⟨k,p,hj,hk,rfl,h⟩;have I:=KT hk;have hs:Dv st k (C7 {p with x:=p.x})=st:=N9 hk;have ac:∀ l:St,(st++l)[k]?=some ⟨false,1,C7 p,false⟩:=fun l=>I3 hk l;have E:st[k]?=some ⟨false,1,C7 p,false⟩:=hk;have U:∀ st:St,Ec st false (Dj p.x.jn)=some (.int .i64 (p.x.jn.length:Int)):=fun st=>by simp[Ec,HG,Ev]
 have hz:=fun C=>LK I C;unfold j2
 by_cases J:p.m.pt=0
 ·have g1:=eq_true J
  by_cases M:p.x.ph=1
  ·have g2:=eq_true M
   by_cases Y:p.x.jn.length<8
   ·have N:((p.x.jn.length:Int)<8)=True:=eq_true (by omega);have V:=Yiv p.x.jn p.m.key (by omega)
    by_cases O:p.m.key=p.x.key
    ·have g4:=eq_true O;have e:HH p.x p.m=(p.x,1):=by unfold HH; rw[if_pos ⟨J,M⟩,if_pos Y,if_neg (by simp[O])]
     rw[e,if_neg (by simp)]at h;simp only[AA]at h;obtain⟨rfl,rfl,rfl⟩:=h;simp (disch:=first|omega|decide) only[push_cast,↓reduceIte,CB,CC,Dz,E,Du,D7,D6,Am,CC,and_self,not_false_eq_true,decide_true,UK,Es,Hy,S5,hj,U,Zo,Zn,IJ,g1,g2,N,g4]
    ·by_cases h5:p.m.key∈p.x.jn
     ·have e:HH p.x p.m=(p.x,1):=by unfold HH; rw[if_pos ⟨J,M⟩,if_pos Y,if_neg (by simp[h5])]
      rw[e,if_neg (by simp)]at h;simp only[AA]at h;obtain⟨rfl,rfl,rfl⟩:=h;simp only[h5,decide_true]at V;simp (disch:=first|omega|decide) only[push_cast,↓reduceIte,CB,CC,Dz,E,Du,D7,D6,Am,CC,and_self,not_false_eq_true,decide_true,decide_false,UK,Es,Hy,S5,hj,U,Zo,Zn,IJ,Mi,g1,g2,N,O,V]
     ·have e:HH p.x p.m=({p.x with jn:=p.x.jn++[p.m.key]},0):=by unfold HH; rw[if_pos ⟨J,M⟩,if_pos Y,if_pos ⟨O,h5⟩]
      rw[e,if_pos rfl]at h;simp only[AA]at h;obtain⟨rfl,rfl,rfl⟩:=h;simp only[h5,decide_false]at V;have cm:=nX p.x.jn (by omega)
      by_cases h6:p.x.jn=[]
      ·rw[if_pos h6]at cm;have e1:(p.x.jn++[p.m.key]).map DJ=[DJ p.m.key]:=by rw[h6]; rfl
       have e2:p.x.jn.length+1=1:=by rw[h6]; rfl
       rw[e1,e2];simp (disch:=first|omega|decide) only[push_cast,↓EE,↓reduceIte,CB,CC,Dz,E,ac,Du,Ij,Ae,Ai,Ad,Am,CC,HA I,and_self,decide_true,decide_false,Es,Hy,S5,hj,U,Zo,Zn,IJ,Mi,OO,g1,g2,N,O,V,cm,Yrb,tG,rU,tw,eq_true I]
      ·rw[if_neg h6]at cm;have a1:=Yra st p.x.jn p.m.key (by omega);simp (disch:=first|omega|decide) only[push_cast,↓EE,↓reduceIte,CB,CC,Dz,E,ac,Du,Ij,Ae,Ai,Ad,Am,CC,HA I,and_self,decide_true,decide_false,Es,Hy,S5,hj,U,Zo,Zn,IJ,Mi,OO,g1,g2,N,O,V,cm,a1,tG,rU,tw,eq_true I]
   ·have N:((p.x.jn.length:Int)<8)=False:=eq_false (by omega);have e:HH p.x p.m=(p.x,2):=by unfold HH; rw[if_pos ⟨J,M⟩,if_neg Y]
    rw[e,if_neg (by simp)]at h;simp only[AA]at h;obtain⟨rfl,rfl,rfl⟩:=h;simp (disch:=first|omega|decide) only[push_cast,↓reduceIte,CB,CC,Dz,E,Du,D7,D6,Am,CC,and_self,not_false_eq_true,decide_true,decide_false,n2e,Es,Hy,S5,hj,U,g1,g2,N]
  ·have e:HH p.x p.m=(p.x,380):=by unfold HH; rw[if_neg (fun q=>M q.2)]
   rw[e,if_neg (by simp)]at h;simp only[AA]at h;obtain⟨rfl,rfl,rfl⟩:=h;simp (disch:=first|omega|decide) only[push_cast,↓reduceIte,CB,CC,Dz,E,D7,D6,Am,CC,and_self,not_false_eq_true,decide_true,decide_false,HO,Es,Hy,g1,M]
 ·have e:HH p.x p.m=(p.x,380):=by unfold HH; rw[if_neg (fun q=>J q.1)]
  rw[e,if_neg (by simp)]at h;simp only[AA]at h;obtain⟨rfl,rfl,rfl⟩:=h;simp (disch:=first|omega|decide) only[push_cast,↓reduceIte,CB,CC,Dz,E,D7,D6,Am,CC,and_self,not_false_eq_true,decide_false,HO,Es,J]
theorem yNs(x:Bis):0≤KD x∧KD x<65536:=by
 unfold KD
 split
 ·rename_i h;unfold Lj at h;simp only[Af]at h;have hv:=h.1;have:=SP hv;have:=lk hv;omega
 ·omega
theorem aF(h:GQ a b≠1):(0≤a.1∧a.1≤65536∧0≤El a.1)∧(0≤b.1∧b.1≤65536∧0≤El b.1):=by
 unfold GQ at h
 have key:∀ n:Int,¬ El n<0→0≤n∧n≤65536∧0≤El n:=by
  intro n hn
  by_cases q:n<0∨65536<n
  ·rw[Sy q]at hn; omega
  ·omega
 split at h
 ·exact absurd rfl h
 rename_i E
 split at h
 ·exact absurd rfl h
 rename_i I;exact⟨key _ E,key _ I⟩
theorem oJ{x:Cse}{p:Int}(E:p=0∨p=1):0≤GN x p∧GN x p≤65536:=by
 unfold GN
 split
 ·rename_i h;obtain⟨I,J⟩:=aF (a:=x.c0) (b:=x.c1) (by rw[h]; decide);unfold Je
  split <;> omega
 split
 ·have:=yNs x.b; omega
 ·omega
noncomputable def fj:List D→Option D:=De (α:=Cse×Int) (fun a=>[Di a.1,.int .i64 a.2]) (fun a=>True) (fun a=>.tup [.int .i64 (G7 a.1 a.2).1,.bool (G7 a.1 a.2).2])
theorem yP(x:Cse)(p:Int):fj [Di x,.int .i64 p]=some (.tup [.int .i64 (G7 x p).1,.bool (G7 x p).2]):=
 DX (fun⟨a0,a1⟩ ⟨b0,b1⟩ h=>by simp only[Aa,D.int.injEq,true_and,and_true,M7]at h; simp[h]) (x,p) trivial
set_option maxHeartbeats 4000000 in
set_option maxRecDepth 20000 in
theorem Ylp(x:Cse)(p:Int):@wW GG (tb [(26,Oa),(88,Sc)] []) X8.code (C5 [Di x,.int .i64 p]) [] ⟨Dg X8.res (.tup [.int .i64 (G7 x p).1,.bool (G7 x p).2])⟩:=by
 have M:Oa [.agg (.int .i64 x.c0.1::CZ x.c0.2),.agg (.int .i64 x.c1.1::CZ x.c1.2)]=some (.tup [DQ (Ju x.c0 x.c1),.int .i64 (GQ x.c0 x.c1)]):=bB x.c0 x.c1;have cd:=W0 x.b;unfold X8
 by_cases h1:x.ph=3
 ·have g1:=eq_true h1
  by_cases N:p=0∨p=1
  ·have hr:=oJ (x:=x) N;have e:G7 x p=if GN x p=0 then(0,false)else(GN x p - 1,true):=if_pos ⟨h1,N⟩
   by_cases J:GQ x.c0 x.c1=380
   ·have U:GN x p=(Je x p).1:=if_pos J;rw[U]at e hr;have g3:=eq_true J;rcases N with rfl | rfl
    ·have ec:(Je x 0).1=x.c0.1:=rfl;rw[ec]at e hr
     by_cases E:x.c0.1=0
     ·have O:=eq_true E;rw[if_pos E]at e;rw[e];simp (disch:=first|omega|decide) only[push_cast,↓reduceIte,CB,CC,CF,EJ,FC,Mj,Mk,td,M,g1,g3,O,En]
     ·rw[if_neg E]at e;rw[e];simp (disch:=first|omega|decide) only[push_cast,↓reduceIte,CB,CC,CF,EJ,FC,Mj,Mk,td,M,g1,g3,E,En,Fc]
    ·have ec:(Je x 1).1=x.c1.1:=rfl;rw[ec]at e hr;have n1:((1:Int)=0)=False:=by simp
     by_cases E:x.c1.1=0
     ·have O:=eq_true E;rw[if_pos E]at e;rw[e];simp (disch:=first|omega|decide) only[push_cast,↓reduceIte,CB,CC,CF,EJ,FC,Mj,Mk,te,M,g1,g3,O,En,n1]
     ·rw[if_neg E]at e;rw[e];simp (disch:=first|omega|decide) only[push_cast,↓reduceIte,CB,CC,CF,EJ,FC,Mj,Mk,te,M,g1,g3,E,En,Fc,n1]
   ·by_cases V:GQ x.c0 x.c1=0
    ·have U:GN x p=KD x.b:=by unfold GN; rw[if_neg J,if_pos V]
     rw[U]at e hr;have g5:=eq_true V
     have I:((p=0)=True)∨(((p=0)=False)∧((p=1)=True)):=by
      rcases N with h | h
      ·exact .inl (eq_true h)
      ·exact .inr ⟨eq_false (by omega),eq_true h⟩
     by_cases E:KD x.b=0
     ·have O:=eq_true E;rw[if_pos E]at e;rw[e];rcases I with I | ⟨I,Y⟩
      ·simp (disch:=first|omega|decide) only[push_cast,↓reduceIte,CB,CC,CF,EJ,FC,Mj,Mk,Oq,M,cd,g1,J,g5,O,I,En]
      ·simp (disch:=first|omega|decide) only[push_cast,↓reduceIte,CB,CC,CF,EJ,FC,Mj,Mk,Oq,M,cd,g1,J,g5,O,I,Y,En]
     ·rw[if_neg E]at e;rw[e];rcases I with I | ⟨I,Y⟩
      ·simp (disch:=first|omega|decide) only[push_cast,↓reduceIte,CB,CC,CF,EJ,FC,Mj,Mk,Oq,M,cd,g1,J,g5,E,I,En,Fc]
      ·simp (disch:=first|omega|decide) only[push_cast,↓reduceIte,CB,CC,CF,EJ,FC,Mj,Mk,Oq,M,cd,g1,J,g5,E,I,Y,En,Fc]
    ·have U:GN x p=0:=by unfold GN; rw[if_neg J,if_neg V]
     rw[U,if_pos rfl]at e;rw[e]
     have I:((p=0)=True)∨(((p=0)=False)∧((p=1)=True)):=by
      rcases N with h | h
      ·exact .inl (eq_true h)
      ·exact .inr ⟨eq_false (by omega),eq_true h⟩
     rcases I with I | ⟨I,Y⟩
     ·simp (disch:=first|omega|decide) only[push_cast,↓reduceIte,CB,CC,CF,EJ,FC,Mj,Mk,M,g1,J,V,I,En]
     ·simp (disch:=first|omega|decide) only[push_cast,↓reduceIte,CB,CC,CF,EJ,FC,Mj,Mk,M,g1,J,V,I,Y,En]
  ·have J:¬ p=0:=fun h=>N (.inl h);have E:¬ p=1:=fun h=>N (.inr h);have e:G7 x p=(0,false):=if_neg (fun q=>N q.2);rw[e];simp (disch:=first|omega|decide) only[push_cast,↓reduceIte,CB,EJ,FC,g1,J,E]
 ·have e:G7 x p=(0,false):=if_neg (fun q=>h1 q.1);rw[e];simp (disch:=first|omega|decide) only[push_cast,↓reduceIte,CB,EJ,FC,h1]
theorem Yqt:Contract Tryz.prog GG 34 fj:=
 Eb uM (DC (all_cons eK (all_cons cY all_nil)) all_nil) (fun a h=>Ylp a.1 a.2)
theorem qK{x:Cse}{p:Int}(h:(G7 x p).2=true):0≤(G7 x p).1∧(G7 x p).1<65536∧GQ x.c0 x.c1≠1:=by
 unfold G7 at h ⊢
 by_cases E:x.ph=3∧(p=0∨p=1)
 ·rw[if_pos E]at h ⊢;have J:=oJ (x:=x) E.2
  by_cases I:GN x p=0
  ·rw[if_pos I]at h; cases h
  ·rw[if_neg I];refine⟨by dsimp only; omega,by dsimp only; omega,fun e=>I ?_⟩;unfold GN;rw[if_neg (by rw[e]; decide),if_neg (by rw[e]; decide)]
 ·rw[if_neg E]at h; cases h
theorem wY(hj:p.j=Dj p.x.jn)(sz:Nat)(lent:Bool):Dr (some ⟨false,sz,C7 p,lent⟩) 279 true 0=some (Di p.x):=by
 rw[fe,hj]; rfl
theorem tC{n:Int}(E:0≤n)(I:n≤16):Df .shl (.int .i64 1) (.int .i64 n)=some (.int .i64 (2 ^ n.toNat)):=by
 obtain⟨k,rfl⟩:=Bc E;have:∀ k:Fin 17,La (k.val:Int)=2 ^ ((k.val:Int)).toNat:=by decide
 rw[Tb E,this ⟨k,by omega⟩]
theorem GC:KC=Ez 0 0 0 0 (.slc 0 [] true) 0 Dp:=rfl
variable {n:Nat}
theorem RY{key:Nat}(f:Nat→D)(E:∀ k,f k≠.junk)(h:IL f (EA n [] key)=f key)(σ:List Nat):IL f (EA n σ key)=f key:=by
 unfold EA at h ⊢
 by_cases hk:key<n
 ·rw[if_pos hk]; rfl
 ·rw[if_neg hk]at h;exact absurd h.symm (E key)
theorem nd(σ:List Nat){x:D}(h:Gb n [] x=x):Gb n σ x=x:=by
 cases x with
 |row key tot off len=>exact RY (fun k=>.row k tot off len) (fun k e=>by cases e) h σ
 |bsl key off j sz ag=>exact RY (fun k=>.bsl k off j sz ag) (fun k e=>by cases e) h σ
 |ptr key off=>exact RY (fun k=>.ptr k off) (fun k e=>by cases e) h σ
 |rptr key tot i off=>exact RY (fun k=>.rptr k tot i off) (fun k e=>by cases e) h σ
 |mapv key=>exact RY .mapv (fun k e=>by cases e) h σ
 |_=>exact h
theorem nC(σ:List Nat){x:D}(h:Ep n [] x=x):Ep n σ x=x:=by
 cases x with
 |clo f l=>
  simp only[Ep,D.clo.injEq,true_and]at h ⊢;exact LN fun y E=>nd σ (Pr h y E)
 |_=>unfold Ep at h ⊢; exact nd σ h
theorem Ym3(σ:List Nat){x:D}(h:Ef n [] x=x):Ef n σ x=x:=by
 cases x with
 |agg l=>
  simp only[Ef,D.agg.injEq]at h ⊢;exact LN fun y E=>nC σ (Pr h y E)
 |tup l=>unfold Ef at h ⊢; exact h
 |_=>unfold Ef at h ⊢; exact nC σ h
theorem Ym4(h:StOK st)(σ:List Nat):I5 st.length σ st=st:=by
 rw[Zk];refine LN fun o E=>?_;obtain⟨row,sz,els,lent⟩:=o
 cases row with
 |true=>rfl
 |false=>
  show(⟨false,sz,els.map (Ef st.length σ),lent⟩:PI.Obj)=_
  rw[LN fun x I=>?_];exact Ym3 σ (h _ E rfl x I)
theorem GB(S l:St):(S++l).take S.length=S:=by simp
theorem Gm(S l:St)(k:Nat):(S++l).getD (S.length+k) default=l.getD k default:=by
 rw[Ao,DM,← Ao]
theorem Gz(S l:St):(S++l).getD S.length default=l.getD 0 default:=Gm S l 0
theorem yMy(o:Opn):(EF o).all Em=true:=by
 rw[J3];simp only[Ez,A3,KW];simp[Em,Eo,Km]
theorem GD(n:Nat)(σ:List Nat)(o:Opn):(EF o).map (Ef n σ)=EF o:=Mz n σ (yMy o)
theorem Zl(lent:Bool)(o:Opn):Dr (some ⟨false,1,EF o,lent⟩) 1 false 4=some (Eo o.top):=by rw[J3]; exact cA ..
def Ej(c:List Ins)(v:Int×List Int)(x:Cse)(m:Mv):Dig:=if GQ x.c0 x.c1=380 then F5 c v m.op else if(Je x m.pt).1≤(G7 x m.pt).1 then EL else F5 c v m.op
def UD(c:List Ins)(v:Int×List Int)(x:Cse)(m:Mv):St:=
 if(G7 x m.pt).2=true then
  [⟨false,1,.int .i64 (Je x m.pt).1::CZ (Je x m.pt).2,false⟩,⟨false,1,EF m.op,false⟩,⟨false,1,CZ (Ej c v x m),false⟩,⟨false,1,Db (Ju x.c0 x.c1),false⟩]++
  (if GQ x.c0 x.c1=380 then []
   else if 2 ^ (El (Je x m.pt).1).toNat≤(G7 x m.pt).1∨Hc (Je x m.pt) (G7 x m.pt).1 (Ej c v x m) m.path=true then
   [⟨false,1,EG (H7 x.b) (H8 x.b),false⟩,⟨false,1,Ff (G8 (H7 x.b,H8 x.b) (FB c v (Ej c v x m) m.op)),false⟩]
   else [])
 else []
def PX(p:Ply)(_:Unit):Cse×Int×St:=((Px p.c p.v p.x p.m).1,(Px p.c p.v p.x p.m).2,UD p.c p.v p.x p.m)
def UC(p:Ply)(_:Unit):Prop:=p.c.length≤4294967296∧p.m.op.top.length≤4294967295∧(p.m.pt=0∨p.m.pt=1)
def NA(ds:List D)(st:St)(r:D×Int×St):Prop:=StOK st∧Jr Io UC PX ds st r
theorem Ynl:IF NA:=fun ds st r E h I=>Nd LO ds st r E h.2 I.2
noncomputable abbrev V2:Tbl:=Lz [(34,fj),(40,RN),(26,Oa),(124,Ps),(20,Qp),(25,QR),(88,Sc),(16,Sb)]
 [(73,Eu HJ),(123,Eu LB),(120,Eu NP),(79,Eu Ld)]
 [(73,Ga HJ),(123,Ga LB)]
theorem Yl6:TblOK Tryz.prog GG V2:=MS (all_cons Yqt (all_cons sJ (all_cons eK (all_cons yN4 (all_cons YK (all_cons V5 (all_cons cY (all_cons Yqx all_nil)))))))) (all_cons Jm.1 (all_cons Ql.1 (all_cons mL.1 (all_cons Zj.1 all_nil)))) (all_cons Jm.2 (all_cons Ql.2 all_nil))
set_option maxHeartbeats 8000000 in
set_option maxRecDepth 20000 in
theorem ua:CK 68 NA:=by
 refine J2 (T:=V2) u7 Yl6 ?_;rintro ds st d e st' ⟨b7,k,p,a,hj,hk,⟨hc,b3,O⟩,rfl,h⟩;simp only[AA]at h;obtain⟨rfl,rfl,rfl⟩:=h;have E:=KT hk;have hs:Dv st k (C7 {p with x:=p.x})=st:=N9 hk;have N:∀ l:St,(st++l)[k]?=some ⟨false,1,C7 p,false⟩:=fun l=>I3 hk l;have J:st[k]?=some ⟨false,1,C7 p,false⟩:=hk;have U:=yP p.x p.m.pt;have cb:Oa [.agg (.int .i64 p.x.c0.1::CZ p.x.c0.2),.agg (.int .i64 p.x.c1.1::CZ p.x.c1.2)]=some (.tup [DQ (Ju p.x.c0 p.x.c1),.int .i64 (GQ p.x.c0 p.x.c1)]):=bB p.x.c0 p.x.c1;have cl:RN [Gw p.c,Ew p.v,DO p.m.op]=some (C3 (F5 p.c p.v p.m.op)):=fG p.c p.v p.m.op ⟨hc,p.hv,by omega⟩;have M:=wY hj;unfold jS Io PX Px UD
 cases h1:(G7 p.x p.m.pt).2 with
 |false=>
  rw[h1]at U;simp (disch:=first|omega|decide) only[push_cast,↓reduceIte,CB,CC,Dz,J,D7,D6,hs,Ad,Am,CC,and_self,not_false_eq_true,HO,M,Es,Et,Fq,U,Al]
 |true=>
  rw[h1]at U;have I:=Ym4 b7
  -- b8 b2 of b8 ca
  have q1:(st.length<st.length)=False:=by simp
  have q2:(st.length+1<st.length)=False:=by simp
  have q3:(st.length=st.length+1)=False:=by simp
  have q4:(st.length+1=st.length)=False:=by simp
  have q5:(st.length == k)=false:=by simp; omega
  have q6:(st.length+1 == k)=false:=by simp; omega
  have q7:(st.length == st.length+1)=false:=by simp
  have q8:(st.length+1 == st.length)=false:=by simp
  rcases O with O | O
  ·have g0:=eq_true O;simp only[O]at h1 U ⊢;have ec:Je p.x 0=p.x.c0:=rfl;obtain⟨i0,i1,nb⟩:=qK h1;obtain⟨b0,b1⟩:=aF nb;have hz:=fun C=>LK E C;have b9:=fun C m=>OY E C m;obtain⟨i,hi⟩:∃ i,(G7 p.x 0).1=i:=⟨_,rfl⟩;rw[hi]at U i0 i1
   by_cases h2:GQ p.x.c0 p.x.c1=380
   ·have g2:=eq_true h2;have ci:Ps [.agg (.int .i64 p.x.c0.1::CZ p.x.c0.2),.int .i64 i,C3 (F5 p.c p.v p.m.op),H2 p.m.path]=some (.bool (Hc p.x.c0 i (F5 p.c p.v p.m.op) p.m.path)):=X5 p.x.c0 i (F5 p.c p.v p.m.op) p.m.path (by omega)
    cases h3:Hc p.x.c0 i (F5 p.c p.v p.m.op) p.m.path with
    |false=>
     rw[h3]at ci;simp (disch:=first|omega|decide) only[push_cast,↓EE,↓reduceIte,CB,CC,CF,Dz,J,N,Gj,EP,Du,D7,D6,hs,Ah,Ae,Ai,Ad,Ab,Ak,Ap,Am,CC,DM,DN,EI,EK,and_self,not_false_eq_true,decide_true,Rz,M,Es,FH,FI,GA,F1,Gf,Ib,O,ec,hi,En,Et,Fq,Fx,U,cb,cl,I,GB,Gm,Gz,q1,q2,q3,q4,q5,q6,GD,AF,Av,beq_self_eq_true,Az,eq_true E,GC,FD,Gq,F6,Ej,g2,ci,h3,Al]
    |true=>
     rw[h3]at ci;have be:∀ l,Gg (st++l) k p:=fun l=>I3 hk l;have cj:=fun n l=>aH (p:=p) hj (be l) n
     by_cases Y:p.m.op.status=0
     ·have g4:=eq_true Y;simp (disch:=first|omega|decide) only[push_cast,↓EE,↓reduceIte,CB,CC,CF,Dz,J,N,Gj,EP,Du,D7,D6,hs,Ah,Ae,Ai,Ad,Ab,Ak,Ap,Am,CC,DM,DN,EI,EK,and_self,false_and,not_false_eq_true,decide_true,NB,M,Es,FH,FI,GA,F1,Gf,Ib,O,ec,hi,En,Et,Fq,Fx,U,cb,cl,I,GB,Gm,Gz,q1,q2,q3,q4,q5,q6,GD,AF,Av,beq_self_eq_true,Az,eq_true E,GC,FD,Gq,F6,Mu,Ej,g2,ci,h3,g4,not_true_eq_false]
     ·by_cases h5:p.m.op.status=1
      ·have g5:=eq_true h5
       by_cases V:0<p.m.op.top.length
       ·have g6:(0<(p.m.op.top.length:Int))=True:=eq_true (by omega)
        have ix:∀ st:St,F2 st 1 (Eo p.m.op.top) (.int .i64 ((p.m.op.top.length:Int) - 1))=some (.eptr (nI (hJ p.m.op.top)) 0):=fun st=>by
         have:=YJ st p.m.op.top false (p.m.op.top.length - 1) (by omega);rw[show((p.m.op.top.length - 1:Nat):Int)=(p.m.op.top.length:Int) - 1 by omega]at this;exact this
        simp (disch:=first|omega|decide) only[push_cast,↓EE,↓reduceIte,CB,CC,CF,Dz,J,N,Gj,EP,Du,Ah,Ae,Ai,Ad,Ab,Ak,Ap,Am,CC,DM,DN,EI,EK,HA E,and_self,not_false_eq_true,decide_true,decide_false,M,Es,FH,FI,GA,F1,Gf,Ib,O,ec,hi,En,Et,Fq,Fx,U,cb,cl,I,GB,Gm,Gz,q1,q2,q3,q4,q5,q6,GD,AF,Av,beq_self_eq_true,Az,eq_true E,GC,FD,Gq,F6,Mu,Zl,Hz,Ej,g2,ci,h3,Y,g5,g6,V,ix,YT,Fc,cj,not_true_eq_false,or_true]
       ·have g6:(0<(p.m.op.top.length:Int))=False:=eq_false (by omega);simp (disch:=first|omega|decide) only[push_cast,↓EE,↓reduceIte,CB,CC,CF,Dz,J,N,Gj,EP,Du,D7,D6,hs,Ah,Ae,Ai,Ad,Ab,Ak,Ap,Am,CC,DM,DN,EI,EK,and_self,and_false,not_false_eq_true,decide_true,decide_false,NB,M,Es,FH,FI,GA,F1,Gf,Ib,O,ec,hi,En,Et,Fq,Fx,U,cb,cl,I,GB,Gm,Gz,q1,q2,q3,q4,q5,q6,GD,AF,Av,beq_self_eq_true,Az,eq_true E,GC,FD,Gq,F6,Mu,Zl,Hz,Ej,g2,ci,h3,Y,g5,g6,V,not_true_eq_false,or_self]
      ·simp (disch:=first|omega|decide) only[push_cast,↓EE,↓reduceIte,CB,CC,CF,Dz,J,N,Gj,EP,Du,Ah,Ae,Ai,Ad,Ab,Ak,Ap,Am,CC,DM,DN,EI,EK,HA E,and_self,not_false_eq_true,decide_true,decide_false,M,Es,FH,FI,GA,F1,Gf,Ib,O,ec,hi,En,Et,Fq,Fx,U,cb,cl,I,GB,Gm,Gz,q1,q2,q3,q4,q5,q6,GD,AF,Av,beq_self_eq_true,Az,eq_true E,GC,FD,Gq,F6,Mu,Ej,g2,ci,h3,Y,h5,true_or,cj]
   ·obtain⟨B,hB⟩:∃ B,(if p.x.c0.1≤i then EL else F5 p.c p.v p.m.op)=B:=⟨_,rfl⟩;have ci:Ps [.agg (.int .i64 p.x.c0.1::CZ p.x.c0.2),.int .i64 i,C3 B,H2 p.m.path]=some (.bool (Hc p.x.c0 i B p.m.path)):=X5 p.x.c0 i B p.m.path (by omega);have cd:=W0 p.x.b;have cs:Sb [Gw p.c,Ew p.v,C3 B,.agg (EG (H7 p.x.b) (H8 p.x.b)),DO p.m.op]=some (.tup [D2 (G8 (H7 p.x.b,H8 p.x.b) (FB p.c p.v B p.m.op)),.int .i64 (FB p.c p.v B p.m.op).2]):=pw p.c p.v B (H7 p.x.b,H8 p.x.b) p.m.op ⟨hc,p.hv,b3⟩;have cD:=Oe p.x.c0.1;have dr:=QZ p.x.c0.1;have sh:=tC (n:=El p.x.c0.1) (by omega) (by omega);have bh:=(SV (H7 p.x.b,H8 p.x.b) (FB p.c p.v B p.m.op)).2;have cr:=fun l=>Sl (p:=p) hj (I3 hk l) bh;have a9:=Sj
    by_cases h3:p.x.c0.1≤i
    ·have g3:=eq_true h3;rw[if_pos h3]at hB;subst hB
     by_cases Y:2 ^ (El p.x.c0.1).toNat≤i
     ·by_cases V:(FB p.c p.v EL p.m.op).2=0
      ·have g6:=eq_true V;simp (disch:=first|omega|decide) only[push_cast,↓EE,↓reduceIte,CB,CC,CF,Dz,J,N,Gj,Jn,EP,GJ,Is,Hk,Du,D2,Ff,Ah,Ae,Ai,Ad,Ab,Ak,Ap,Am,CC,DM,DN,EI,EK,HA E,and_self,decide_true,decide_false,M,Es,FH,FI,GA,F1,Gf,Hx,O,ec,hi,En,Et,Fq,Fx,Jo,U,cb,cl,I,GB,Gm,Gz,q1,q2,q3,q4,q5,q6,GD,AF,Av,beq_self_eq_true,Az,eq_true E,GC,FD,Gq,F6,Ej,h2,a9,g3,cD,sh,eq_true Y,cd,cs,cr,V,true_or]
      ·simp (disch:=first|omega|decide) only[push_cast,↓EE,↓reduceIte,CB,CC,CF,Dz,J,N,Gj,Jn,EP,GJ,Is,Iz,MF,Du,hs,D2,Ff,Ah,Ae,Ai,Ad,Ab,Ak,Ap,Am,CC,DM,DN,EI,EK,and_self,not_false_eq_true,decide_true,decide_false,M,Es,FH,FI,GA,F1,Gf,Hx,O,ec,hi,En,Et,Fq,Fx,Jo,U,cb,cl,I,GB,Gm,Gz,q1,q2,q3,q4,q5,q6,GD,AF,Av,beq_self_eq_true,Az,eq_true E,GC,FD,Gq,F6,Ej,h2,a9,g3,cD,sh,eq_true Y,cd,cs,V,true_or]
     ·cases h5:Hc p.x.c0 i EL p.m.path with
      |false=>
       rw[h5]at ci;simp (disch:=first|omega|decide) only[push_cast,↓EE,↓reduceIte,CB,CC,CF,Dz,J,N,Gj,EP,Du,D7,D6,hs,Ah,Ae,Ai,Ad,Ab,Ak,Ap,Am,CC,DM,DN,EI,EK,and_self,not_false_eq_true,decide_true,decide_false,Rz,M,Es,FH,FI,GA,F1,Gf,Ib,O,ec,hi,En,Et,Fq,Fx,U,cb,cl,I,GB,Gm,Gz,q1,q2,q3,q4,q5,q6,GD,AF,Av,beq_self_eq_true,Az,eq_true E,GC,FD,Gq,F6,Ej,h2,ci,a9,g3,cD,sh,Y,h5,Al,or_self]
      |true=>
       rw[h5]at ci
       by_cases V:(FB p.c p.v EL p.m.op).2=0
       ·have g6:=eq_true V;simp (disch:=first|omega|decide) only[push_cast,↓EE,↓reduceIte,CB,CC,CF,Dz,J,N,Gj,Jn,EP,GJ,Is,Hk,Du,D2,Ff,Ah,Ae,Ai,Ad,Ab,Ak,Ap,Am,CC,DM,DN,EI,EK,HA E,and_self,decide_true,decide_false,M,Es,FH,FI,GA,F1,Gf,Ib,Hx,O,ec,hi,En,Et,Fq,Fx,Jo,U,cb,cl,I,GB,Gm,Gz,q1,q2,q3,q4,q5,q6,GD,AF,Av,beq_self_eq_true,Az,eq_true E,GC,FD,Gq,F6,Ej,h2,ci,a9,g3,cD,sh,Y,h5,cd,cs,cr,V,or_true]
       ·simp (disch:=first|omega|decide) only[push_cast,↓EE,↓reduceIte,CB,CC,CF,Dz,J,N,Gj,Jn,EP,GJ,Is,Iz,MF,Du,hs,D2,Ff,Ah,Ae,Ai,Ad,Ab,Ak,Ap,Am,CC,DM,DN,EI,EK,and_self,not_false_eq_true,decide_true,decide_false,M,Es,FH,FI,GA,F1,Gf,Ib,Hx,O,ec,hi,En,Et,Fq,Fx,Jo,U,cb,cl,I,GB,Gm,Gz,q1,q2,q3,q4,q5,q6,GD,AF,Av,beq_self_eq_true,Az,eq_true E,GC,FD,Gq,F6,Ej,h2,ci,a9,g3,cD,sh,Y,h5,cd,cs,V,or_true]
    ·rw[if_neg h3]at hB;subst hB;have g3:=h3
     by_cases Y:2 ^ (El p.x.c0.1).toNat≤i
     ·by_cases V:(FB p.c p.v (F5 p.c p.v p.m.op) p.m.op).2=0
      ·have g6:=eq_true V;simp (disch:=first|omega|decide) only[push_cast,↓EE,↓reduceIte,CB,CC,CF,Dz,J,N,Gj,Jn,EP,GJ,Is,Hk,Du,D2,Ff,Ah,Ae,Ai,Ad,Ab,Ak,Ap,Am,CC,DM,DN,EI,EK,HA E,and_self,decide_true,decide_false,M,Es,FH,FI,GA,F1,Gf,Hx,O,ec,hi,En,Et,Fq,Fx,Jo,U,cb,cl,I,GB,Gm,Gz,q1,q2,q3,q4,q5,q6,GD,AF,Av,beq_self_eq_true,Az,eq_true E,GC,FD,Gq,F6,Ej,h2,g3,cD,sh,eq_true Y,cd,cs,cr,V,true_or]
      ·simp (disch:=first|omega|decide) only[push_cast,↓EE,↓reduceIte,CB,CC,CF,Dz,J,N,Gj,Jn,EP,GJ,Is,Iz,MF,Du,hs,D2,Ff,Ah,Ae,Ai,Ad,Ab,Ak,Ap,Am,CC,DM,DN,EI,EK,and_self,not_false_eq_true,decide_true,decide_false,M,Es,FH,FI,GA,F1,Gf,Hx,O,ec,hi,En,Et,Fq,Fx,Jo,U,cb,cl,I,GB,Gm,Gz,q1,q2,q3,q4,q5,q6,GD,AF,Av,beq_self_eq_true,Az,eq_true E,GC,FD,Gq,F6,Ej,h2,g3,cD,sh,eq_true Y,cd,cs,V,true_or]
     ·cases h5:Hc p.x.c0 i (F5 p.c p.v p.m.op) p.m.path with
      |false=>
       rw[h5]at ci;simp (disch:=first|omega|decide) only[push_cast,↓EE,↓reduceIte,CB,CC,CF,Dz,J,N,Gj,EP,Du,D7,D6,hs,Ah,Ae,Ai,Ad,Ab,Ak,Ap,Am,CC,DM,DN,EI,EK,and_self,not_false_eq_true,decide_false,Rz,M,Es,FH,FI,GA,F1,Gf,Ib,O,ec,hi,En,Et,Fq,Fx,U,cb,cl,I,GB,Gm,Gz,q1,q2,q3,q4,q5,q6,GD,AF,Av,beq_self_eq_true,Az,eq_true E,GC,FD,Gq,F6,Ej,h2,ci,g3,cD,sh,Y,h5,Al,or_self]
      |true=>
       rw[h5]at ci
       by_cases V:(FB p.c p.v (F5 p.c p.v p.m.op) p.m.op).2=0
       ·have g6:=eq_true V;simp (disch:=first|omega|decide) only[push_cast,↓EE,↓reduceIte,CB,CC,CF,Dz,J,N,Gj,Jn,EP,GJ,Is,Hk,Du,D2,Ff,Ah,Ae,Ai,Ad,Ab,Ak,Ap,Am,CC,DM,DN,EI,EK,HA E,and_self,decide_false,M,Es,FH,FI,GA,F1,Gf,Ib,Hx,O,ec,hi,En,Et,Fq,Fx,Jo,U,cb,cl,I,GB,Gm,Gz,q1,q2,q3,q4,q5,q6,GD,AF,Av,beq_self_eq_true,Az,eq_true E,GC,FD,Gq,F6,Ej,h2,ci,g3,cD,sh,Y,h5,cd,cs,cr,V,or_true]
       ·simp (disch:=first|omega|decide) only[push_cast,↓EE,↓reduceIte,CB,CC,CF,Dz,J,N,Gj,Jn,EP,GJ,Is,Iz,MF,Du,hs,D2,Ff,Ah,Ae,Ai,Ad,Ab,Ak,Ap,Am,CC,DM,DN,EI,EK,and_self,not_false_eq_true,decide_false,M,Es,FH,FI,GA,F1,Gf,Ib,Hx,O,ec,hi,En,Et,Fq,Fx,Jo,U,cb,cl,I,GB,Gm,Gz,q1,q2,q3,q4,q5,q6,GD,AF,Av,beq_self_eq_true,Az,eq_true E,GC,FD,Gq,F6,Ej,h2,ci,g3,cD,sh,Y,h5,cd,cs,V,or_true]
  ·have g0:=eq_true O;simp only[O]at h1 U ⊢;have ec:Je p.x 1=p.x.c1:=rfl;obtain⟨i0,i1,nb⟩:=qK h1;obtain⟨b0,b1⟩:=aF nb;have hz:=fun C=>LK E C;have b9:=fun C m=>OY E C m;obtain⟨i,hi⟩:∃ i,(G7 p.x 1).1=i:=⟨_,rfl⟩;rw[hi]at U i0 i1
   by_cases h2:GQ p.x.c0 p.x.c1=380
   ·have g2:=eq_true h2;have ci:Ps [.agg (.int .i64 p.x.c1.1::CZ p.x.c1.2),.int .i64 i,C3 (F5 p.c p.v p.m.op),H2 p.m.path]=some (.bool (Hc p.x.c1 i (F5 p.c p.v p.m.op) p.m.path)):=X5 p.x.c1 i (F5 p.c p.v p.m.op) p.m.path (by omega)
    cases h3:Hc p.x.c1 i (F5 p.c p.v p.m.op) p.m.path with
    |false=>
     rw[h3]at ci;simp (disch:=first|omega|decide) only[push_cast,↓EE,↓reduceIte,CB,CC,CF,Dz,J,N,Gj,EP,Du,D7,D6,hs,Ah,Ae,Ai,Ad,Ab,Ak,Ap,Am,CC,DM,DN,EI,EK,and_self,not_false_eq_true,decide_true,Rz,M,Es,FH,FI,GA,F1,Gf,Ib,O,ec,hi,En,Et,Fq,Fx,U,cb,cl,I,GB,Gm,Gz,q1,q2,q3,q4,q5,q6,GD,AF,Av,beq_self_eq_true,Az,eq_true E,GC,FD,Gq,F6,Ej,g2,ci,h3,Al]
    |true=>
     rw[h3]at ci;have be:∀ l,Gg (st++l) k p:=fun l=>I3 hk l;have cj:=fun n l=>aH (p:=p) hj (be l) n
     by_cases Y:p.m.op.status=0
     ·have g4:=eq_true Y;simp (disch:=first|omega|decide) only[push_cast,↓EE,↓reduceIte,CB,CC,CF,Dz,J,N,Gj,EP,Du,D7,D6,hs,Ah,Ae,Ai,Ad,Ab,Ak,Ap,Am,CC,DM,DN,EI,EK,and_self,false_and,not_false_eq_true,decide_true,NB,M,Es,FH,FI,GA,F1,Gf,Ib,O,ec,hi,En,Et,Fq,Fx,U,cb,cl,I,GB,Gm,Gz,q1,q2,q3,q4,q5,q6,GD,AF,Av,beq_self_eq_true,Az,eq_true E,GC,FD,Gq,F6,Mu,Ej,g2,ci,h3,g4,not_true_eq_false]
     ·by_cases h5:p.m.op.status=1
      ·have g5:=eq_true h5
       by_cases V:0<p.m.op.top.length
       ·have g6:(0<(p.m.op.top.length:Int))=True:=eq_true (by omega)
        have ix:∀ st:St,F2 st 1 (Eo p.m.op.top) (.int .i64 ((p.m.op.top.length:Int) - 1))=some (.eptr (nI (hJ p.m.op.top)) 0):=fun st=>by
         have:=YJ st p.m.op.top false (p.m.op.top.length - 1) (by omega);rw[show((p.m.op.top.length - 1:Nat):Int)=(p.m.op.top.length:Int) - 1 by omega]at this;exact this
        simp (disch:=first|omega|decide) only[push_cast,↓EE,↓reduceIte,CB,CC,CF,Dz,J,N,Gj,EP,Du,Ah,Ae,Ai,Ad,Ab,Ak,Ap,Am,CC,DM,DN,EI,EK,HA E,and_self,not_false_eq_true,decide_true,decide_false,M,Es,FH,FI,GA,F1,Gf,Ib,O,ec,hi,En,Et,Fq,Fx,U,cb,cl,I,GB,Gm,Gz,q1,q2,q3,q4,q5,q6,GD,AF,Av,beq_self_eq_true,Az,eq_true E,GC,FD,Gq,F6,Mu,Zl,Hz,Ej,g2,ci,h3,Y,g5,g6,V,ix,YT,Fc,cj,not_true_eq_false,or_true]
       ·have g6:(0<(p.m.op.top.length:Int))=False:=eq_false (by omega);simp (disch:=first|omega|decide) only[push_cast,↓EE,↓reduceIte,CB,CC,CF,Dz,J,N,Gj,EP,Du,D7,D6,hs,Ah,Ae,Ai,Ad,Ab,Ak,Ap,Am,CC,DM,DN,EI,EK,and_self,and_false,not_false_eq_true,decide_true,decide_false,NB,M,Es,FH,FI,GA,F1,Gf,Ib,O,ec,hi,En,Et,Fq,Fx,U,cb,cl,I,GB,Gm,Gz,q1,q2,q3,q4,q5,q6,GD,AF,Av,beq_self_eq_true,Az,eq_true E,GC,FD,Gq,F6,Mu,Zl,Hz,Ej,g2,ci,h3,Y,g5,g6,V,not_true_eq_false,or_self]
      ·simp (disch:=first|omega|decide) only[push_cast,↓EE,↓reduceIte,CB,CC,CF,Dz,J,N,Gj,EP,Du,Ah,Ae,Ai,Ad,Ab,Ak,Ap,Am,CC,DM,DN,EI,EK,HA E,and_self,not_false_eq_true,decide_true,decide_false,M,Es,FH,FI,GA,F1,Gf,Ib,O,ec,hi,En,Et,Fq,Fx,U,cb,cl,I,GB,Gm,Gz,q1,q2,q3,q4,q5,q6,GD,AF,Av,beq_self_eq_true,Az,eq_true E,GC,FD,Gq,F6,Mu,Ej,g2,ci,h3,Y,h5,true_or,cj]
   ·obtain⟨B,hB⟩:∃ B,(if p.x.c1.1≤i then EL else F5 p.c p.v p.m.op)=B:=⟨_,rfl⟩;have ci:Ps [.agg (.int .i64 p.x.c1.1::CZ p.x.c1.2),.int .i64 i,C3 B,H2 p.m.path]=some (.bool (Hc p.x.c1 i B p.m.path)):=X5 p.x.c1 i B p.m.path (by omega);have cd:=W0 p.x.b;have cs:Sb [Gw p.c,Ew p.v,C3 B,.agg (EG (H7 p.x.b) (H8 p.x.b)),DO p.m.op]=some (.tup [D2 (G8 (H7 p.x.b,H8 p.x.b) (FB p.c p.v B p.m.op)),.int .i64 (FB p.c p.v B p.m.op).2]):=pw p.c p.v B (H7 p.x.b,H8 p.x.b) p.m.op ⟨hc,p.hv,b3⟩;have cD:=Oe p.x.c1.1;have dr:=QZ p.x.c1.1;have sh:=tC (n:=El p.x.c1.1) (by omega) (by omega);have bh:=(SV (H7 p.x.b,H8 p.x.b) (FB p.c p.v B p.m.op)).2;have cr:=fun l=>Sl (p:=p) hj (I3 hk l) bh;have a9:=Sj
    by_cases h3:p.x.c1.1≤i
    ·have g3:=eq_true h3;rw[if_pos h3]at hB;subst hB
     by_cases Y:2 ^ (El p.x.c1.1).toNat≤i
     ·by_cases V:(FB p.c p.v EL p.m.op).2=0
      ·have g6:=eq_true V;simp (disch:=first|omega|decide) only[push_cast,↓EE,↓reduceIte,CB,CC,CF,Dz,J,N,Gj,Jn,EP,GJ,Is,Hk,Du,D2,Ff,Ah,Ae,Ai,Ad,Ab,Ak,Ap,Am,CC,DM,DN,EI,EK,HA E,and_self,decide_true,decide_false,M,Es,FH,FI,GA,F1,Gf,Hx,O,ec,hi,En,Et,Fq,Fx,Jo,U,cb,cl,I,GB,Gm,Gz,q1,q2,q3,q4,q5,q6,GD,AF,Av,beq_self_eq_true,Az,eq_true E,GC,FD,Gq,F6,Ej,h2,a9,g3,cD,sh,eq_true Y,cd,cs,cr,V,true_or]
      ·simp (disch:=first|omega|decide) only[push_cast,↓EE,↓reduceIte,CB,CC,CF,Dz,J,N,Gj,Jn,EP,GJ,Is,Iz,MF,Du,hs,D2,Ff,Ah,Ae,Ai,Ad,Ab,Ak,Ap,Am,CC,DM,DN,EI,EK,and_self,not_false_eq_true,decide_true,decide_false,M,Es,FH,FI,GA,F1,Gf,Hx,O,ec,hi,En,Et,Fq,Fx,Jo,U,cb,cl,I,GB,Gm,Gz,q1,q2,q3,q4,q5,q6,GD,AF,Av,beq_self_eq_true,Az,eq_true E,GC,FD,Gq,F6,Ej,h2,a9,g3,cD,sh,eq_true Y,cd,cs,V,true_or]
     ·cases h5:Hc p.x.c1 i EL p.m.path with
      |false=>
       rw[h5]at ci;simp (disch:=first|omega|decide) only[push_cast,↓EE,↓reduceIte,CB,CC,CF,Dz,J,N,Gj,EP,Du,D7,D6,hs,Ah,Ae,Ai,Ad,Ab,Ak,Ap,Am,CC,DM,DN,EI,EK,and_self,not_false_eq_true,decide_true,decide_false,Rz,M,Es,FH,FI,GA,F1,Gf,Ib,O,ec,hi,En,Et,Fq,Fx,U,cb,cl,I,GB,Gm,Gz,q1,q2,q3,q4,q5,q6,GD,AF,Av,beq_self_eq_true,Az,eq_true E,GC,FD,Gq,F6,Ej,h2,ci,a9,g3,cD,sh,Y,h5,Al,or_self]
      |true=>
       rw[h5]at ci
       by_cases V:(FB p.c p.v EL p.m.op).2=0
       ·have g6:=eq_true V;simp (disch:=first|omega|decide) only[push_cast,↓EE,↓reduceIte,CB,CC,CF,Dz,J,N,Gj,Jn,EP,GJ,Is,Hk,Du,D2,Ff,Ah,Ae,Ai,Ad,Ab,Ak,Ap,Am,CC,DM,DN,EI,EK,HA E,and_self,decide_true,decide_false,M,Es,FH,FI,GA,F1,Gf,Ib,Hx,O,ec,hi,En,Et,Fq,Fx,Jo,U,cb,cl,I,GB,Gm,Gz,q1,q2,q3,q4,q5,q6,GD,AF,Av,beq_self_eq_true,Az,eq_true E,GC,FD,Gq,F6,Ej,h2,ci,a9,g3,cD,sh,Y,h5,cd,cs,cr,V,or_true]
       ·simp (disch:=first|omega|decide) only[push_cast,↓EE,↓reduceIte,CB,CC,CF,Dz,J,N,Gj,Jn,EP,GJ,Is,Iz,MF,Du,hs,D2,Ff,Ah,Ae,Ai,Ad,Ab,Ak,Ap,Am,CC,DM,DN,EI,EK,and_self,not_false_eq_true,decide_true,decide_false,M,Es,FH,FI,GA,F1,Gf,Ib,Hx,O,ec,hi,En,Et,Fq,Fx,Jo,U,cb,cl,I,GB,Gm,Gz,q1,q2,q3,q4,q5,q6,GD,AF,Av,beq_self_eq_true,Az,eq_true E,GC,FD,Gq,F6,Ej,h2,ci,a9,g3,cD,sh,Y,h5,cd,cs,V,or_true]
    ·rw[if_neg h3]at hB;subst hB;have g3:=h3
     by_cases Y:2 ^ (El p.x.c1.1).toNat≤i
     ·by_cases V:(FB p.c p.v (F5 p.c p.v p.m.op) p.m.op).2=0
      ·have g6:=eq_true V;simp (disch:=first|omega|decide) only[push_cast,↓EE,↓reduceIte,CB,CC,CF,Dz,J,N,Gj,Jn,EP,GJ,Is,Hk,Du,D2,Ff,Ah,Ae,Ai,Ad,Ab,Ak,Ap,Am,CC,DM,DN,EI,EK,HA E,and_self,decide_true,decide_false,M,Es,FH,FI,GA,F1,Gf,Hx,O,ec,hi,En,Et,Fq,Fx,Jo,U,cb,cl,I,GB,Gm,Gz,q1,q2,q3,q4,q5,q6,GD,AF,Av,beq_self_eq_true,Az,eq_true E,GC,FD,Gq,F6,Ej,h2,g3,cD,sh,eq_true Y,cd,cs,cr,V,true_or]
      ·simp (disch:=first|omega|decide) only[push_cast,↓EE,↓reduceIte,CB,CC,CF,Dz,J,N,Gj,Jn,EP,GJ,Is,Iz,MF,Du,hs,D2,Ff,Ah,Ae,Ai,Ad,Ab,Ak,Ap,Am,CC,DM,DN,EI,EK,and_self,not_false_eq_true,decide_true,decide_false,M,Es,FH,FI,GA,F1,Gf,Hx,O,ec,hi,En,Et,Fq,Fx,Jo,U,cb,cl,I,GB,Gm,Gz,q1,q2,q3,q4,q5,q6,GD,AF,Av,beq_self_eq_true,Az,eq_true E,GC,FD,Gq,F6,Ej,h2,g3,cD,sh,eq_true Y,cd,cs,V,true_or]
     ·cases h5:Hc p.x.c1 i (F5 p.c p.v p.m.op) p.m.path with
      |false=>
       rw[h5]at ci;simp (disch:=first|omega|decide) only[push_cast,↓EE,↓reduceIte,CB,CC,CF,Dz,J,N,Gj,EP,Du,D7,D6,hs,Ah,Ae,Ai,Ad,Ab,Ak,Ap,Am,CC,DM,DN,EI,EK,and_self,not_false_eq_true,decide_false,Rz,M,Es,FH,FI,GA,F1,Gf,Ib,O,ec,hi,En,Et,Fq,Fx,U,cb,cl,I,GB,Gm,Gz,q1,q2,q3,q4,q5,q6,GD,AF,Av,beq_self_eq_true,Az,eq_true E,GC,FD,Gq,F6,Ej,h2,ci,g3,cD,sh,Y,h5,Al,or_self]
      |true=>
       rw[h5]at ci
       by_cases V:(FB p.c p.v (F5 p.c p.v p.m.op) p.m.op).2=0
       ·have g6:=eq_true V;simp (disch:=first|omega|decide) only[push_cast,↓EE,↓reduceIte,CB,CC,CF,Dz,J,N,Gj,Jn,EP,GJ,Is,Hk,Du,D2,Ff,Ah,Ae,Ai,Ad,Ab,Ak,Ap,Am,CC,DM,DN,EI,EK,HA E,and_self,decide_false,M,Es,FH,FI,GA,F1,Gf,Ib,Hx,O,ec,hi,En,Et,Fq,Fx,Jo,U,cb,cl,I,GB,Gm,Gz,q1,q2,q3,q4,q5,q6,GD,AF,Av,beq_self_eq_true,Az,eq_true E,GC,FD,Gq,F6,Ej,h2,ci,g3,cD,sh,Y,h5,cd,cs,cr,V,or_true]
       ·simp (disch:=first|omega|decide) only[push_cast,↓EE,↓reduceIte,CB,CC,CF,Dz,J,N,Gj,Jn,EP,GJ,Is,Iz,MF,Du,hs,D2,Ff,Ah,Ae,Ai,Ad,Ab,Ak,Ap,Am,CC,DM,DN,EI,EK,and_self,not_false_eq_true,decide_false,M,Es,FH,FI,GA,F1,Gf,Ib,Hx,O,ec,hi,En,Et,Fq,Fx,Jo,U,cb,cl,I,GB,Gm,Gz,q1,q2,q3,q4,q5,q6,GD,AF,Av,beq_self_eq_true,Az,eq_true E,GC,FD,Gq,F6,Ej,h2,ci,g3,cD,sh,Y,h5,cd,cs,V,or_true]
end Go.Proofs.YtijnglngaogdjaaGreatDoor.PI
namespace Go.Proofs.YtijnglngaogdjaaGreatDoor.PI
open Go Go.RowKit
set_option linter.unusedSimpArgs false
set_option linter.unusedVariables false
variable {u v:Value}{x:Operand}{w:World}{a:Act}{o:Oper}
section
variable {P:Program} {G:Dc}
structure PH2 where
 t:Nat
 js:List Nat
 vs:Nat
 js2:List Nat
 l:List PI
def PH2.run(G:Dc)(F:PH2):Nat→D→List D→St→Option St:=fun t d das st=>
 if t=F.t∧KE d=true then(EH G UH F.l ⟨S1 ((S1 (C5 das) F.js).set F.vs d) F.js2,st⟩).map (·.st)else none
section
variable {n:Nat} {ops:Array Oper} {Q:Exit→Act→List Go.Frame→World→Prop} {i:Nat} {rest:List Nat} {a:Act} {cs:List Go.Frame} {w:World} {o:Oper}
theorem Lu(E:ops[i]?=some o)(I:o.guard=none)(J:(execOp a.eval o).run P w=.ok (.value v) w)(h:wpOpsSIn Fence.wide n P ops Q rest (a.put o.dst v) cs w):wpOpsSIn Fence.wide n P ops Q (i::rest) a cs w:=by
 have hw:Region.wanted o (yielded ops a.tmps)=true:=by simp[Region.wanted,I]
 simp only[wpOpsSIn,E,hw,if_true,J];exact⟨fun _ _=>trivial,h⟩
theorem xJ(E:ops[i]?=some o)(I:o.guard=none)(J:(execOp a.eval o).run P w=.ok .recover w)(hc:recoverD cs=none)(h:wpOpsSIn Fence.wide n P ops Q rest (a.put o.dst .nilIface) cs w):wpOpsSIn Fence.wide n P ops Q (i::rest) a cs w:=by
 have hw:Region.wanted o (yielded ops a.tmps)=true:=by simp[Region.wanted,I]
 simp only[wpOpsSIn,E,hw,if_true,J,hc];exact⟨fun _ _=>trivial,h⟩
theorem xK{cs':List Go.Frame}(E:ops[i]?=some o)(I:o.guard=none)(J:(execOp a.eval o).run P w=.ok .recover w)(hc:recoverD cs=some (v,cs'))(h:wpOpsSIn Fence.wide n P ops Q rest (a.put o.dst v) cs' w):wpOpsSIn Fence.wide n P ops Q (i::rest) a cs w:=by
 have hw:Region.wanted o (yielded ops a.tmps)=true:=by simp[Region.wanted,I]
 simp only[wpOpsSIn,E,hw,if_true,J,hc];exact⟨fun _ _=>trivial,h⟩
end
theorem NY(h:o.op=.move x∨o.op=.assign x):(execOp a.eval o).run P w=.ok (.value (a.eval x)) w:=by
 rcases h with h | h
 ·simp only[execOp,h]; rfl
 ·simp only[execOp,h]; rfl
theorem nG(h:o.op=.extract x 0)(E:a.eval x=.tuple #[u,v]):(execOp a.eval o).run P w=.ok (.value u) w:=by
 simp only[execOp,h,E]; rfl
theorem nH(h:o.op=.extract x 1)(E:a.eval x=.tuple #[u,v]):(execOp a.eval o).run P w=.ok (.value v) w:=by
 simp only[execOp,h,E]; rfl
theorem Yhn{f i0 i1 r d d2 v k vs ok c t1 xt:Nat}{fn:Func}{o0 o1 o2 o3 o4 o5 o6 o7:Oper}{body:Code}{l:List PI}{z:Value}
  (hfn:P.funcs[f]?=some fn) (hname:(fn.name == "runtime.NumGoroutine")=false) (hres:fn.results=#[])
  (hc:fn.body=some (.seq (.region i0 #[o0,o1,o2,o3,o4,o5,o6] false) (.seq (.region i1 #[o7] false) (.cond (.tmp c) body .skip))))
  (h0:o0.op=.call {callee:=.builtin .recover,args:=#[],argTypes:=#[]}∧o0.dst=some r∧o0.guard=none)
  (h1:o1.op=.typeAssert (.tmp r) xt t1 true∧o1.dst=some d∧o1.guard=none)
  (h2:o2.op=.move (.tmp d)∧o2.dst=some d2∧o2.guard=none)
  (h3:o3.op=.extract (.tmp d2) 0∧o3.dst=some v∧o3.guard=none)
  (h4:o4.op=.extract (.tmp d2) 1∧o4.dst=some k∧o4.guard=none)
  (h5:o5.op=.assign (.tmp v)∧o5.dst=some vs∧o5.guard=none)
  (h6:o6.op=.assign (.tmp k)∧o6.dst=some ok∧o6.guard=none)
  (h7:o7.op=.move (.tmp ok)∧o7.dst=some c∧o7.guard=none)
  (hlt:(r<fn.ntmps∧d<fn.ntmps∧d2<fn.ntmps∧v<fn.ntmps)∧k<fn.ntmps∧vs<fn.ntmps∧ok<fn.ntmps∧c<fn.ntmps)
  (hne:d2≠v∧v≠k∧k≠vs)
  (ht1:bY P t1=true) (hiz:((P.info? t1).bind fun i=>i.zero)=some z) (hb:Jv P fn.ntmps body=some l) :
  Sf P G f (PH2.run G ⟨t1,[r,d,d2,v,k],vs,[ok,c],l⟩):=by
 refine⟨⟨fn,hfn,by rw[hc]; rfl,hname⟩,?_⟩;obtain⟨u,ht1,hu1⟩:=yNj ht1;obtain⟨zi,hi,hz⟩:=Ay.1 hiz;intro base w g st das ws hS hG hlen hrep;obtain⟨hF0,hs0⟩:=Yeb (m:=fn.ntmps) hlen hrep;obtain⟨h0a,h0b,h0c⟩:=h0;obtain⟨h1a,h1b,h1c⟩:=h1;obtain⟨h2a,h2b,h2c⟩:=h2;obtain⟨h3a,h3b,h3c⟩:=h3;obtain⟨h4a,h4b,h4c⟩:=h4;obtain⟨h5a,h5b,h5c⟩:=h5;obtain⟨h6a,h6b,h6c⟩:=h6;obtain⟨h7a,h7b,h7c⟩:=h7;obtain⟨⟨l1,l2,l3,l4⟩,l5,l6,l7,l8⟩:=hlt;obtain⟨n1,n2,n3⟩:=hne
 have hresults:∀ (tm:Array Value) (w':World),(results fn tm).run P w'=.ok (.tuple #[]) w':=by
  intro tm w';simp[results,hres]
 generalize ha0:({tmps:=ws.toArray++Array.replicate (fn.ntmps - ws.toArray.size) undef,defers:=[]}:Act)=a0 at*;have hd0:a0.defers=[]:=by rw[← ha0]
 have hs0':fn.ntmps≤a0.tmps.size:=by rw[← ha0]; exact hs0
 have ho1:({dst:=o1.dst,op:=.typeAssert (.tmp r) xt t1 true,type:=o1.type,pos:=o1.pos,after:=o1.after,guard:=o1.guard}:Oper)=o1:=by rw[← h1a]
 refine⟨?_,?_⟩
 ·refine callsDIn_of_wpSIn hfn hc trivial fun c₀ cs hu=>?_;rw[ha0];refine wpSIn_seq (wpSIn_region ?_);have hr:recoverD (c₀::cs)=none:=by simp[recoverD,hu]
  show wpOpsSIn _ _ _ _ _ [0,1,2,3,4,5,6] _ _ _
  refine xJ (o:=o0) rfl h0c (iX h0a) hr ?_;rw[h0b];have e1:(a0.put (some r) .nilIface).eval (.tmp r)=.nilIface:=KS (by omega);have he1:=xT (P:=P) ht1 hu1 hi hz (x:=.tmp r) e1 (dst:=o1.dst) (ty:=o1.type) (xt:=xt) (pos:=o1.pos) (after:=o1.after) (guard:=o1.guard) w;rw[ho1]at he1;generalize hA1:a0.put (some r) .nilIface=a1 at*;have s1:fn.ntmps≤a1.tmps.size:=by rw[← hA1,J6]; exact hs0'
  have f1:a1.defers=[]:=by rw[← hA1]; simp[Act.put,hd0]
  refine Lu (o:=o1) rfl h1c he1 ?_;rw[h1b];have e2:(a1.put (some d) (.tuple #[z,.bool false])).eval (.tmp d)=.tuple #[z,.bool false]:=KS (by omega);generalize hA2:a1.put (some d) (.tuple #[z,.bool false])=a2 at*;have s2:fn.ntmps≤a2.tmps.size:=by rw[← hA2,J6]; exact s1
  have f2:a2.defers=[]:=by rw[← hA2]; simp[Act.put,f1]
  refine Lu (o:=o2) rfl h2c (NY (.inl h2a)) ?_;rw[h2b,e2];have e3:(a2.put (some d2) (.tuple #[z,.bool false])).eval (.tmp d2)=.tuple #[z,.bool false]:=KS (by omega);generalize hA3:a2.put (some d2) (.tuple #[z,.bool false])=a3 at*;have s3:fn.ntmps≤a3.tmps.size:=by rw[← hA3,J6]; exact s2
  have f3:a3.defers=[]:=by rw[← hA3]; simp[Act.put,f2]
  refine Lu (o:=o3) rfl h3c (nG h3a e3) ?_;rw[h3b];have e4:(a3.put (some v) z).eval (.tmp d2)=.tuple #[z,.bool false]:=by rw[SS n1]; exact e3
  generalize hA4:a3.put (some v) z=a4 at*;have s4:fn.ntmps≤a4.tmps.size:=by rw[← hA4,J6]; exact s3
  have f4:a4.defers=[]:=by rw[← hA4]; simp[Act.put,f3]
  refine Lu (o:=o4) rfl h4c (nH h4a e4) ?_;rw[h4b];have e5:(a4.put (some k) (.bool false)).eval (.tmp k)=.bool false:=KS (by omega);generalize hA5:a4.put (some k) (.bool false)=a5 at*;have s5:fn.ntmps≤a5.tmps.size:=by rw[← hA5,J6]; exact s4
  have f5:a5.defers=[]:=by rw[← hA5]; simp[Act.put,f4]
  refine Lu (o:=o5) rfl h5c (NY (.inr h5a)) ?_;rw[h5b];have e6:(a5.put (some vs) (a5.eval (.tmp v))).eval (.tmp k)=.bool false:=by rw[SS n3]; exact e5
  generalize hA6:a5.put (some vs) (a5.eval (.tmp v))=a6 at*;have s6:fn.ntmps≤a6.tmps.size:=by rw[← hA6,J6]; exact s5
  have f6:a6.defers=[]:=by rw[← hA6]; simp[Act.put,f5]
  refine Lu (o:=o6) rfl h6c (NY (.inr h6a)) ?_;rw[h6b,e6];have e7:(a6.put (some ok) (.bool false)).eval (.tmp ok)=.bool false:=KS (by omega);generalize hA7:a6.put (some ok) (.bool false)=a7 at*;have s7:fn.ntmps≤a7.tmps.size:=by rw[← hA7,J6]; exact s6
  have f7:a7.defers=[]:=by rw[← hA7]; simp[Act.put,f6]
  refine wpSIn_of_wpIn rfl (wpIn_seq (wpIn_region_list ?_));simp only[wpListIn,Region.wanted,h7c,if_true];refine⟨fun _ _=>trivial,?_⟩
  show o7.uponIn _ _ _ _ _ _ ((execOp a7.eval o7).run P w)
  rw[NY (.inl h7a),Oper.uponIn_value,h7b,e7]
  show Code.wpIn _ _ _ _ _ _ _
  refine wpIn_cond_false (KS (by omega)) (wpIn_skip ?_);refine⟨by simp[Act.put,f7],.returning,by rw[← hu],_,hresults _ _,rfl,rfl,g,Go1.refl hS⟩
 ·intro t dv st' hrun;unfold PH2.run at hrun
  split at hrun
  case isFalse=>cases hrun
  rename_i hcnd;obtain⟨rfl,hi'⟩:=hcnd;simp only[BH]at hrun;obtain⟨s',hx,rfl⟩:=hrun;refine callsDIn_of_wpSIn hfn hc trivial fun c₀ cs hu=>?_;rw[ha0];refine wpSIn_seq (wpSIn_region ?_);have hr:recoverD (c₀::cs)=some (.iface t (Gh dv),{c₀ with mode:=.panicking (V8 t dv)}::cs):=by simp[recoverD,hu,KN,V8]
  show wpOpsSIn _ _ _ _ _ [0,1,2,3,4,5,6] _ _ _
  refine xK (o:=o0) rfl h0c (iX h0a) hr ?_;rw[h0b];have e1:(a0.put (some r) (.iface t (Gh dv))).eval (.tmp r)=.iface t (Gh dv):=KS (by omega);have he1:=xS (P:=P) ht1 hu1 (x:=.tmp r) e1 (dst:=o1.dst) (ty:=o1.type) (xt:=xt) (pos:=o1.pos) (after:=o1.after) (guard:=o1.guard) w;rw[ho1]at he1;have g1:FR w g st ((C5 das).set r .junk) (a0.put (some r) (.iface t (Gh dv))):=hF0.put (dst:=some r) (fun t e=>by cases e; omega) (.junk _);generalize hA1:a0.put (some r) (.iface t (Gh dv))=a1 at*;have s1:fn.ntmps≤a1.tmps.size:=by rw[← hA1,J6]; exact hs0'
  have f1:a1.defers=[]:=by rw[← hA1]; simp[Act.put,hd0]
  refine Lu (o:=o1) rfl h1c he1 ?_;rw[h1b];have e2:(a1.put (some d) (.tuple #[Gh dv,.bool true])).eval (.tmp d)=.tuple #[Gh dv,.bool true]:=KS (by omega);have g2:FR w g st (((C5 das).set r .junk).set d .junk) (a1.put (some d) (.tuple #[Gh dv,.bool true])):=g1.put (dst:=some d) (fun t e=>by cases e; omega) (.junk _);generalize hA2:a1.put (some d) (.tuple #[Gh dv,.bool true])=a2 at*;have s2:fn.ntmps≤a2.tmps.size:=by rw[← hA2,J6]; exact s1
  have f2:a2.defers=[]:=by rw[← hA2]; simp[Act.put,f1]
  refine Lu (o:=o2) rfl h2c (NY (.inl h2a)) ?_;rw[h2b,e2];have e3:(a2.put (some d2) (.tuple #[Gh dv,.bool true])).eval (.tmp d2)=.tuple #[Gh dv,.bool true]:=KS (by omega);have g3:FR w g st ((((C5 das).set r .junk).set d .junk).set d2 .junk) (a2.put (some d2) (.tuple #[Gh dv,.bool true])):=g2.put (dst:=some d2) (fun t e=>by cases e; omega) (.junk _);generalize hA3:a2.put (some d2) (.tuple #[Gh dv,.bool true])=a3 at*;have s3:fn.ntmps≤a3.tmps.size:=by rw[← hA3,J6]; exact s2
  have f3:a3.defers=[]:=by rw[← hA3]; simp[Act.put,f2]
  refine Lu (o:=o3) rfl h3c (nG h3a e3) ?_;rw[h3b];have e4:(a3.put (some v) (Gh dv)).eval (.tmp d2)=.tuple #[Gh dv,.bool true]:=by rw[SS n1]; exact e3
  have q4:(a3.put (some v) (Gh dv)).eval (.tmp v)=Gh dv:=KS (by omega);have g4:FR w g st (((((C5 das).set r .junk).set d .junk).set d2 .junk).set v .junk) (a3.put (some v) (Gh dv)):=g3.put (dst:=some v) (fun t e=>by cases e; omega) (.junk _);generalize hA4:a3.put (some v) (Gh dv)=a4 at*;have s4:fn.ntmps≤a4.tmps.size:=by rw[← hA4,J6]; exact s3
  have f4:a4.defers=[]:=by rw[← hA4]; simp[Act.put,f3]
  refine Lu (o:=o4) rfl h4c (nH h4a e4) ?_;rw[h4b];have e5:(a4.put (some k) (.bool true)).eval (.tmp k)=.bool true:=KS (by omega);have q5:(a4.put (some k) (.bool true)).eval (.tmp v)=Gh dv:=by rw[SS n2]; exact q4
  have g5:FR w g st ((((((C5 das).set r .junk).set d .junk).set d2 .junk).set v .junk).set k .junk) (a4.put (some k) (.bool true)):=g4.put (dst:=some k) (fun t e=>by cases e; omega) (.junk _);generalize hA5:a4.put (some k) (.bool true)=a5 at*;have s5:fn.ntmps≤a5.tmps.size:=by rw[← hA5,J6]; exact s4
  have f5:a5.defers=[]:=by rw[← hA5]; simp[Act.put,f4]
  refine Lu (o:=o5) rfl h5c (NY (.inr h5a)) ?_;rw[h5b,q5];have e6:(a5.put (some vs) (Gh dv)).eval (.tmp k)=.bool true:=by rw[SS n3]; exact e5
  have g6:FR w g st (((((((C5 das).set r .junk).set d .junk).set d2 .junk).set v .junk).set k .junk).set vs dv) (a5.put (some vs) (Gh dv)):=g5.put (dst:=some vs) (fun t e=>by cases e; omega) (yRq hi');generalize hA6:a5.put (some vs) (Gh dv)=a6 at*;have s6:fn.ntmps≤a6.tmps.size:=by rw[← hA6,J6]; exact s5
  have f6:a6.defers=[]:=by rw[← hA6]; simp[Act.put,f5]
  refine Lu (o:=o6) rfl h6c (NY (.inr h6a)) ?_;rw[h6b,e6];have e7:(a6.put (some ok) (.bool true)).eval (.tmp ok)=.bool true:=KS (by omega);have g7:FR w g st ((((((((C5 das).set r .junk).set d .junk).set d2 .junk).set v .junk).set k .junk).set vs dv).set ok .junk) (a6.put (some ok) (.bool true)):=g6.put (dst:=some ok) (fun t e=>by cases e; omega) (.junk _);generalize hA7:a6.put (some ok) (.bool true)=a7 at*;have s7:fn.ntmps≤a7.tmps.size:=by rw[← hA7,J6]; exact s6
  have f7:a7.defers=[]:=by rw[← hA7]; simp[Act.put,f6]
  refine wpSIn_of_wpIn rfl (wpIn_seq (wpIn_region_list ?_));simp only[wpListIn,Region.wanted,h7c,if_true];refine⟨fun _ _=>trivial,?_⟩
  show o7.uponIn _ _ _ _ _ _ ((execOp a7.eval o7).run P w)
  rw[NY (.inl h7a),Oper.uponIn_value,h7b,e7]
  show Code.wpIn _ _ _ _ _ _ _
  refine wpIn_cond_true (KS (by omega)) ?_;refine eH (w0:=w) (g0:=g) (st0:=st) (dl:=[]) body l _ s' _ w _ hb hx ⟨g,Go1.refl hS,?_,hG,⟨[],by simp[Act.put,f7],trivial⟩,by rw[J6]; exact s7⟩ ?_
  ·exact g7.put (dst:=some c) (fun t e=>by cases e; omega) (.junk _)
  ·rintro a' w' ⟨g',h'⟩ hd';refine⟨by rw[hd']; simp[Act.put,f7],.panicking (V8 t dv),rfl,_,hresults _ _,rfl,rfl,g',h'.go1⟩
end
end Go.Proofs.YtijnglngaogdjaaGreatDoor.PI
