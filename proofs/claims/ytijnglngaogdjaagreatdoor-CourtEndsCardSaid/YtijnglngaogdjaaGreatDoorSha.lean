/-
  SHA-256 and tagged digests over lists of bytes, in plain Lean.
  Conditions: none; these are definitions and lemmas.
-/
import Derived.Test.YtijnglngaogdjaaGreatDoorEngHe
import Derived.Test.YtijnglngaogdjaaGreatDoorEngB2
import Derived.KernelRfl
open List renaming replicate→CH
open UInt64 renaming ofNat→CX
set_option linter.unusedVariables false
set_option linter.unusedSimpArgs false
namespace Go.Proofs.YtijnglngaogdjaaGreatDoor.PI
open Go
set_option linter.unusedSimpArgs false
set_option linter.unusedVariables false
variable {off:Nat}{A B C xs:List D}
theorem aS(E:A.length=off)(I:B.length=xs.length):E8 (A++(B++C)) off xs=A++(xs++C):=by
 subst E;rw[E8,List.take_append_of_le_length (AE _),Bg,← I,Cy,List.drop_eq_nil_of_le (by omega),Ai,Ah]
 congr 2
 rw[show A.length+B.length - A.length=B.length by omega,Cy,Ba,BK];rfl
variable {n:Nat}
theorem Wn(E:A.length=off)(I:B.length=n):((A++(B++C)).drop off).take n=B:=by
 subst E; subst I;rw[Cy,Ba,BK];simp
variable {lent:Bool}
theorem LI{cs:List D}{sz:Nat}(h:cs=A++(B++C))(E:A.length=off)(I:B.length=n):Dr (some ⟨false,sz,cs,lent⟩) n true off=some (.agg B):=by
 subst h;simp only[Dr,Bl,Wn E I,Bool.not_true,Bool.false_and,Al,if_false,Av,Bp];rw[if_pos (by simp[E,I])];rfl
variable {d:D}
theorem I1{cs:List D}{sz:Nat}(h:cs=A++(d::C))(E:A.length=off):Dr (some ⟨false,sz,cs,lent⟩) 1 false off=some d:=by
 subst h;have:=Wn (A:=A) (B:=[d]) (C:=C) (off:=off) (n:=1) E rfl;simp only[Ae,Ai]at this;simp only[Dr,Bl,this,Av,Bp,bne_self_eq_false,Al,if_false];rw[if_pos (by simp[E])];rfl
variable {v:D}{cs':List D}
theorem Ks{cs:List D}{sz:Nat}(h:cs=A++(B++C))(M:cs'=A++(xs++C))(E:A.length=off)(I:B.length=n)(hv:v.cells=xs)(J:xs.length=n)(hc:xs.all D.isCell=true) :
  DZ (some ⟨false,sz,cs,false⟩) n off v=some ⟨false,sz,cs',false⟩:=by
 subst h; subst M;simp only[DZ,Bl,hv,hc,aS E (I.trans J.symm)];rw[if_pos (by simp[E,I,J])]
variable {r:List (Nat×Nat×D)}
theorem IN{cs:List D}(h:cs=A++(B++C))(M:cs'=A++(xs++C))(E:A.length=off)(I:B.length=n)(hv:v.cells=xs)(J:xs.length=n)(hc:xs.all D.isCell=true) :
  DG cs ((off,n,v)::r)=DG cs' r:=by
 subst h; subst M;simp only[DG,hv,hc,aS E (I.trans J.symm)];rw[if_pos (by simp[E,I,J])]
theorem mz{cs:List D}(h:cs=A++(B++C))(E:A.length=off)(I:B.length=n):LC off n true (.agg cs)=some (.agg B):=by
 subst h;simp only[LC,Wn E I];rw[if_pos (by simp[E,I])];rfl
theorem Yao{cs:List D}(h:cs=A++(d::C))(E:A.length=off):LC off 1 false (.agg cs)=some d:=by
 subst h;have:=Wn (A:=A) (B:=[d]) (C:=C) (off:=off) (n:=1) E rfl;simp only[Ae,Ai]at this;simp only[LC,this];rw[if_pos (by simp[E])];rfl
theorem J7:∀ (E J:List Nat) (a1 M b1 N:List D) (x y:Bool),a1.length=E.length→b1.length=E.length→EC E a1 b1=some x→EC J M N=some y→EC (E++J) (a1++M) (b1++N)=some (x && y)
 |[],J,[],M,[],N,x,y,_,_,I,O=>by
  simp only[EC,C4]at I;subst I;simpa using O
 |[],_,_::_,_,_,_,_,_,h,_,_,_=>by cases h
 |[],_,[],_,_::_,_,_,_,_,h,_,_=>by cases h
 |k::E,J,[],M,b1,N,x,y,h,_,_,_=>by cases h
 |k::E,J,a::a1,M,[],N,x,y,_,h,_,_=>by cases h
 |k::E,J,a::a1,M,b::b1,N,x,y,h,U,I,O=>by
  simp only[EC]at I
  split at I
  ·rename_i u v hu hv;simp only[C4]at I;subst I;have:=J7 E J a1 M b1 N v y (by simpa using h) (by simpa using U) hv O;simp only[Ae,EC,hu,this,Bool.and_assoc]
  ·cases I
theorem SB(k:IntKind)(a b:Int):EC [0] [.int k a] [.int k b]=some (decide (a=b)):=by
 simp only[EC,Ig,if_true,BY]
 by_cases h:a=b <;> simp[h]
theorem re(a b:Bool):EC [1] [.bool a] [.bool b]=some (decide (a=b)):=by
 cases a <;> cases b <;> rfl
structure Bis where
 h:Int
 l:Int
 i:Int
 n0:Dig
 n1:Dig
 t0:Bool
 t1:Bool
 l0:Dig
 l1:Dig
 r0:Dig
 r1:Dig
 r:Int
 deriving DecidableEq
def Db(x:Bis):List D:=[.int .i64 x.h]++([.int .i64 x.l]++([.int .i64 x.i]++(CZ x.n0++(CZ x.n1++([.bool x.t0]++([.bool x.t1]++(CZ x.l0++(CZ x.l1++(CZ x.r0++(CZ x.r1++[.int .i64 x.r]))))))))))
def DQ(x:Bis):D:=.agg (Db x)
def F9:Bis:=⟨0,0,0,Dp,Dp,false,false,Dp,Dp,Dp,Dp,0⟩
def EG(a b:Dig):List D:=CZ a++CZ b
def RD:List D:=EG Dp Dp
theorem Yrv:RD=EG Dp Dp:=rfl
def Fi:List Nat:=CH 32 0
def gZ:List Nat:=[0]++([0]++([0]++(Fi++(Fi++([1]++([1]++(Fi++(Fi++(Fi++(Fi++[0]))))))))))
theorem SO(x:Bis):(Db x).length=198:=by simp[Db,DK]
theorem My(a b:Dig):(EG a b).length=64:=by simp[EG,DK]
variable {p:D→Bool}
theorem eG(E:∀ k n,p (.int k n)=true)(I:∀ b,p (.bool b)=true)(x:Bis):(Db x).all p=true:=by
 have:∀ d,(CZ d).all p=true:=fun d=>Kw (fun b=>E _ _) d;simp only[Db,Bw,A3,CA,E,I,this,Az]
theorem cR(E:∀ k n,p (.int k n)=true)(a b:Dig):(EG a b).all p=true:=by
 have:∀ d,(CZ d).all p=true:=fun d=>Kw (fun b=>E _ _) d;simp only[EG,Bw,this,Az]
theorem zw(x:Bis):(Db x).all Em=true:=eG (fun _ _=>rfl) (fun _=>rfl) x
theorem fD(x:Bis):(Db x).all D.isCell=true:=eG (fun _ _=>rfl) (fun _=>rfl) x
theorem n6(a b:Dig):(EG a b).all Em=true:=cR (fun _ _=>rfl) a b
theorem Wa(a b:Dig):(EG a b).all D.isCell=true:=cR (fun _ _=>rfl) a b
theorem Qi{E:List D}(h:A++B=C++E)(hl:A.length=C.length):A=C∧B=E:=A2 h hl
theorem mc{x y:Bis}(h:Db x=Db y):x=y:=by
 obtain⟨xh,xl,xi,a3,a4,a5,a6,a7,a8,a9,ba,xr⟩:=x;obtain⟨yh,yl,yi,bb,bc,bd,be,bf,bg,bh,b1,yr⟩:=y;simp only[Db,Ae,Ai,Aa,D.int.injEq,true_and]at h;obtain⟨J,M,N,O⟩:=h;obtain⟨U,V⟩:=Qi O (by simp[DK]);obtain⟨Y,E⟩:=Qi V (by simp[DK]);simp only[Aa,D.bool.injEq]at E;obtain⟨q4,q5,h3⟩:=E;obtain⟨e3,h4⟩:=Qi h3 (by simp[DK]);obtain⟨e4,h5⟩:=Qi h4 (by simp[DK]);obtain⟨e5,h6⟩:=Qi h5 (by simp[DK]);obtain⟨e6,I⟩:=Qi h6 (by simp[DK]);simp only[Aa,D.int.injEq,true_and,and_true]at I;rw[J,M,N,q4,q5,I,Lt U,Lt Y,Lt e3,Lt e4,Lt e5,Lt e6]
theorem V4{x y:Bis}:DQ x=DQ y↔x=y:=⟨fun h=>by simp only[DQ,D.agg.injEq]at h; exact mc h,fun h=>by rw[h]⟩
section
variable (x:Bis) (sz:Nat) (lent:Bool)
theorem UZ:Dr (some ⟨false,sz,Db x,lent⟩) 1 false 0=some (.int .i64 x.h):=I1 (A:=[]) rfl rfl
theorem UX:Dr (some ⟨false,sz,Db x,lent⟩) 1 false 1=some (.int .i64 x.l):=I1 (A:=[.int .i64 x.h]) rfl rfl
theorem UY:Dr (some ⟨false,sz,Db x,lent⟩) 1 false 2=some (.int .i64 x.i):=I1 (A:=[.int .i64 x.h,.int .i64 x.l]) rfl rfl
theorem Yuu:Dr (some ⟨false,sz,Db x,lent⟩) 32 true 3=some (C3 x.n0):=LI (A:=[.int .i64 x.h,.int .i64 x.l,.int .i64 x.i]) (B:=CZ x.n0) rfl rfl (DK _)
theorem Yut:Dr (some ⟨false,sz,Db x,lent⟩) 32 true 35=some (C3 x.n1):=LI (A:=[.int .i64 x.h,.int .i64 x.l,.int .i64 x.i]++CZ x.n0) (B:=CZ x.n1) (by simp[Db]; rfl) (by simp[DK]) (DK _)
theorem UW:Dr (some ⟨false,sz,Db x,lent⟩) 64 true 3=some (.agg (EG x.n0 x.n1)):=LI (A:=[.int .i64 x.h,.int .i64 x.l,.int .i64 x.i]) (B:=EG x.n0 x.n1) (by simp[Db,EG]; rfl) rfl (My _ _)
theorem Yus:Dr (some ⟨false,sz,Db x,lent⟩) 1 false 67=some (.bool x.t0):=I1 (A:=[.int .i64 x.h,.int .i64 x.l,.int .i64 x.i]++(CZ x.n0++CZ x.n1)) (by simp[Db]; rfl) (by simp[DK])
theorem Yur:Dr (some ⟨false,sz,Db x,lent⟩) 1 false 68=some (.bool x.t1):=I1 (A:=[.int .i64 x.h,.int .i64 x.l,.int .i64 x.i]++(CZ x.n0++(CZ x.n1++[.bool x.t0]))) (by simp[Db]; rfl) (by simp[DK])
theorem Yuw:Dr (some ⟨false,sz,Db x,lent⟩) 32 true 69=some (C3 x.l0):=LI (A:=[.int .i64 x.h,.int .i64 x.l,.int .i64 x.i]++(CZ x.n0++(CZ x.n1++[.bool x.t0,.bool x.t1]))) (B:=CZ x.l0) (by simp[Db]; rfl) (by simp[DK]) (DK _)
theorem Yuv:Dr (some ⟨false,sz,Db x,lent⟩) 32 true 101=some (C3 x.l1):=LI (A:=[.int .i64 x.h,.int .i64 x.l,.int .i64 x.i]++(CZ x.n0++(CZ x.n1++([.bool x.t0,.bool x.t1]++CZ x.l0)))) (B:=CZ x.l1) (by simp[Db]; rfl) (by simp[DK]) (DK _)
theorem U1:Dr (some ⟨false,sz,Db x,lent⟩) 64 true 69=some (.agg (EG x.l0 x.l1)):=LI (A:=[.int .i64 x.h,.int .i64 x.l,.int .i64 x.i]++(CZ x.n0++(CZ x.n1++[.bool x.t0,.bool x.t1]))) (B:=EG x.l0 x.l1) (by simp[Db,EG]; rfl) (by simp[DK]) (My _ _)
theorem U0:Dr (some ⟨false,sz,Db x,lent⟩) 64 true 133=some (.agg (EG x.r0 x.r1)):=LI (A:=[.int .i64 x.h,.int .i64 x.l,.int .i64 x.i]++(CZ x.n0++(CZ x.n1++([.bool x.t0,.bool x.t1]++(CZ x.l0++CZ x.l1))))) (B:=EG x.r0 x.r1) (C:=[.int .i64 x.r]) (by simp[Db,EG]) (by simp[DK]) (My _ _)
theorem UU:Dr (some ⟨false,sz,Db x,lent⟩) 1 false 197=some (.int .i64 x.r):=I1 (A:=[.int .i64 x.h,.int .i64 x.l,.int .i64 x.i]++(CZ x.n0++(CZ x.n1++([.bool x.t0,.bool x.t1]++(CZ x.l0++(CZ x.l1++(CZ x.r0++CZ x.r1))))))) (C:=[]) (by simp[Db]) (by simp[DK])
theorem Yoa:Dr (some ⟨false,sz,Db x,lent⟩) 198 true 0=some (DQ x):=KJ sz lent _ 198 (SO x)
theorem Ymm(y:Bis):DZ (some ⟨false,sz,Db x,false⟩) 198 0 (DQ y)=some ⟨false,sz,Db y,false⟩:=Lp sz _ _ 198 (SO x) (SO y) (fD y)
theorem Un(v:Int):DZ (some ⟨false,sz,Db x,false⟩) 1 2 (.int .i64 v)=some ⟨false,sz,Db {x with i:=v},false⟩:=Ks (A:=[.int .i64 x.h,.int .i64 x.l]) (B:=[.int .i64 x.i]) (xs:=[.int .i64 v]) rfl rfl rfl rfl rfl rfl rfl
theorem Um(a b:Dig):DZ (some ⟨false,sz,Db x,false⟩) 64 3 (.agg (EG a b))=some ⟨false,sz,Db {x with n0:=a,n1:=b},false⟩:=Ks (A:=[.int .i64 x.h,.int .i64 x.l,.int .i64 x.i]) (B:=EG x.n0 x.n1) (xs:=EG a b) (by simp[Db,EG]; rfl) (by simp[Db,EG]) rfl (My _ _) rfl (My _ _) (Wa a b)
theorem Ys8(v:Bool):DZ (some ⟨false,sz,Db x,false⟩) 1 67 (.bool v)=some ⟨false,sz,Db {x with t0:=v},false⟩:=Ks (A:=[.int .i64 x.h,.int .i64 x.l,.int .i64 x.i]++(CZ x.n0++CZ x.n1)) (B:=[.bool x.t0]) (xs:=[.bool v]) (by simp[Db]; rfl) (by simp[Db]) (by simp[DK]) rfl rfl rfl rfl
theorem Ys7(v:Bool):DZ (some ⟨false,sz,Db x,false⟩) 1 68 (.bool v)=some ⟨false,sz,Db {x with t1:=v},false⟩:=Ks (A:=[.int .i64 x.h,.int .i64 x.l,.int .i64 x.i]++(CZ x.n0++(CZ x.n1++[.bool x.t0]))) (B:=[.bool x.t1]) (xs:=[.bool v]) (by simp[Db]; rfl) (by simp[Db]) (by simp[DK]) rfl rfl rfl rfl
theorem Ytc(v:Dig):DZ (some ⟨false,sz,Db x,false⟩) 32 69 (C3 v)=some ⟨false,sz,Db {x with l0:=v},false⟩:=Ks (A:=[.int .i64 x.h,.int .i64 x.l,.int .i64 x.i]++(CZ x.n0++(CZ x.n1++[.bool x.t0,.bool x.t1]))) (B:=CZ x.l0) (xs:=CZ v) (by simp[Db]; rfl) (by simp[Db]) (by simp[DK]) (DK _) rfl (DK _) (IQ v)
theorem Ytb(v:Dig):DZ (some ⟨false,sz,Db x,false⟩) 32 101 (C3 v)=some ⟨false,sz,Db {x with l1:=v},false⟩:=Ks (A:=[.int .i64 x.h,.int .i64 x.l,.int .i64 x.i]++(CZ x.n0++(CZ x.n1++([.bool x.t0,.bool x.t1]++CZ x.l0)))) (B:=CZ x.l1) (xs:=CZ v) (by simp[Db]; rfl) (by simp[Db]) (by simp[DK]) (DK _) rfl (DK _) (IQ v)
theorem Yta(v:Dig):DZ (some ⟨false,sz,Db x,false⟩) 32 133 (C3 v)=some ⟨false,sz,Db {x with r0:=v},false⟩:=Ks (A:=[.int .i64 x.h,.int .i64 x.l,.int .i64 x.i]++(CZ x.n0++(CZ x.n1++([.bool x.t0,.bool x.t1]++(CZ x.l0++CZ x.l1))))) (B:=CZ x.r0) (xs:=CZ v) (by simp[Db]; rfl) (by simp[Db]) (by simp[DK]) (DK _) rfl (DK _) (IQ v)
theorem Ys9(v:Dig):DZ (some ⟨false,sz,Db x,false⟩) 32 165 (C3 v)=some ⟨false,sz,Db {x with r1:=v},false⟩:=Ks (A:=[.int .i64 x.h,.int .i64 x.l,.int .i64 x.i]++(CZ x.n0++(CZ x.n1++([.bool x.t0,.bool x.t1]++(CZ x.l0++(CZ x.l1++CZ x.r0)))))) (B:=CZ x.r1) (C:=[.int .i64 x.r]) (xs:=CZ v) (by simp[Db]) (by simp[Db]) (by simp[DK]) (DK _) rfl (DK _) (IQ v)
theorem Vp(v:Int)(r:List (Nat×Nat×D)):DG (Db x) ((0,1,.int .i64 v)::r)=DG (Db {x with h:=v}) r:=IN (A:=[]) (B:=[.int .i64 x.h]) (xs:=[.int .i64 v]) rfl rfl rfl rfl rfl rfl rfl
theorem Vn(v:Int)(r:List (Nat×Nat×D)):DG (Db x) ((1,1,.int .i64 v)::r)=DG (Db {x with l:=v}) r:=IN (A:=[.int .i64 x.h]) (B:=[.int .i64 x.l]) (xs:=[.int .i64 v]) rfl rfl rfl rfl rfl rfl rfl
theorem Vo(v:Int)(r:List (Nat×Nat×D)):DG (Db x) ((2,1,.int .i64 v)::r)=DG (Db {x with i:=v}) r:=IN (A:=[.int .i64 x.h,.int .i64 x.l]) (B:=[.int .i64 x.i]) (xs:=[.int .i64 v]) rfl rfl rfl rfl rfl rfl rfl
theorem Vm(a b:Dig)(r:List (Nat×Nat×D)):DG (Db x) ((3,64,.agg (EG a b))::r)=DG (Db {x with n0:=a,n1:=b}) r:=IN (A:=[.int .i64 x.h,.int .i64 x.l,.int .i64 x.i]) (B:=EG x.n0 x.n1) (xs:=EG a b) (by simp[Db,EG]; rfl) (by simp[Db,EG]) rfl (My _ _) rfl (My _ _) (Wa a b)
theorem Vl(v:Int)(r:List (Nat×Nat×D)):DG (Db x) ((197,1,.int .i64 v)::r)=DG (Db {x with r:=v}) r:=IN (A:=[.int .i64 x.h,.int .i64 x.l,.int .i64 x.i]++(CZ x.n0++(CZ x.n1++([.bool x.t0,.bool x.t1]++(CZ x.l0++(CZ x.l1++(CZ x.r0++CZ x.r1))))))) (B:=[.int .i64 x.r]) (C:=[]) (xs:=[.int .i64 v]) (by simp[Db]) (by simp[Db]) (by simp[DK]) rfl rfl rfl rfl
end
theorem Vr(a b v:Dig)(r:List (Nat×Nat×D)):DG (EG a b) ((0,32,C3 v)::r)=DG (EG v b) r:=IN (A:=[]) (B:=CZ a) (xs:=CZ v) rfl rfl rfl (DK _) rfl (DK _) (IQ v)
theorem Vq(a b v:Dig)(r:List (Nat×Nat×D)):DG (EG a b) ((32,32,C3 v)::r)=DG (EG a v) r:=IN (A:=CZ a) (B:=CZ b) (C:=[]) (xs:=CZ v) (by simp[EG]) (by simp[EG]) (DK _) (DK _) rfl (DK _) (IQ v)
theorem Yob(sz:Nat)(lent:Bool)(a b:Dig):Dr (some ⟨false,sz,EG a b,lent⟩) 64 true 0=some (.agg (EG a b)):=KJ sz lent _ 64 (My _ _)
theorem Ymn(sz:Nat)(a b c d:Dig):DZ (some ⟨false,sz,EG a b,false⟩) 64 0 (.agg (EG c d))=some ⟨false,sz,EG c d,false⟩:=Lp sz _ _ 64 (My _ _) (My _ _) (Wa _ _)
theorem Yq3(x:Bis):Dy (DQ x)=some (Db x):=by
 simp only[Dy,DQ,D.cells,fD,if_true]
theorem Yw4(a b:Dig):Dy (.agg (EG a b))=some (EG a b):=by
 simp only[Dy,D.cells,Wa,if_true]
theorem Yri(x:Bis):D.agg (Db x)=DQ x:=rfl
theorem Yo0(st:St)(x:Bis):DP st (DQ x)=some (DQ x):=Pb st (zw x)
theorem Yog(a b:Dig):keys (.agg (EG a b))=[]:=Pg (n6 a b)
theorem yS1(x:Bis):((Db x).all D.noRef1)=true:=eG (fun _ _=>rfl) (fun _=>rfl) x
theorem wT(a b:Dig):((EG a b).all D.noRef1)=true:=cR (fun _ _=>rfl) a b
theorem Yl3(x:Bis)(k:IntKind)(n:Int):(D.tup [DQ x,.int k n]).noRef=true:=by
 simp[D.noRef,DQ,yS1,D.noRef1]
theorem yx(k:IntKind)(n:Int)(a c:Dig)(b:Bool):(D.tup [.int k n,.agg (EG a c),.bool b]).noRef=true:=by
 simp[D.noRef,wT,D.noRef1]
theorem O2(a b:Dig):EC Fi (CZ a) (CZ b)=some (decide (a=b)):=pS a b
theorem Yh0(x y:Bis):EC gZ (Db x) (Db y)=some (decide (x=y)):=by
 have l1:∀ d:Dig,(CZ d).length=Fi.length:=fun d=>by rw[DK]; rfl
 have E:=SB .i64 x.r y.r;have I:=J7 Fi _ _ _ _ _ _ _ (l1 x.r1) (l1 y.r1) (O2 x.r1 y.r1) E;have J:=J7 Fi _ _ _ _ _ _ _ (l1 x.r0) (l1 y.r0) (O2 x.r0 y.r0) I;have M:=J7 Fi _ _ _ _ _ _ _ (l1 x.l1) (l1 y.l1) (O2 x.l1 y.l1) J;have N:=J7 Fi _ _ _ _ _ _ _ (l1 x.l0) (l1 y.l0) (O2 x.l0 y.l0) M;have O:=J7 [1] _ _ _ _ _ _ _ rfl rfl (re x.t1 y.t1) N;have U:=J7 [1] _ _ _ _ _ _ _ rfl rfl (re x.t0 y.t0) O;have V:=J7 Fi _ _ _ _ _ _ _ (l1 x.n1) (l1 y.n1) (O2 x.n1 y.n1) U;have Y:=J7 Fi _ _ _ _ _ _ _ (l1 x.n0) (l1 y.n0) (O2 x.n0 y.n0) V;have e2:=J7 [0] _ _ _ _ _ _ _ rfl rfl (SB .i64 x.i y.i) Y;have e1:=J7 [0] _ _ _ _ _ _ _ rfl rfl (SB .i64 x.l y.l) e2;have e0:=J7 [0] _ _ _ _ _ _ _ rfl rfl (SB .i64 x.h y.h) e1;refine e0.trans (congrArg some ?_);rw[B1];simp only[Af,decide_eq_true_eq];constructor
 ·rintro⟨a,b,c,d,e,f,g,h,i,j,k,l⟩;cases x; cases y; simp_all
 ·rintro rfl; simp
theorem TC(E:Bool)(x y:Bis):FE gZ E (DQ x) (DQ y)=some (.bool (decide (x=y) != E)):=by
 simp only[FE,DQ,Yh0,Ag]
attribute [push_cast] UZ UX UY Yuu Yut UW Yus Yur Yuw Yuv U1 U0 UU Yoa Ymm Un Um Ys8 Ys7 Ytc Ytb Yta Ys9 Vp Vn Vo Vm Vl Vr Vq Yob Ymn Yq3 Yw4 Yri Yo0 Yog Yl3 yx TC Yrv
inductive Sg where
 |c (d:D)
 |g (x:Dig)
 |w (n:Nat) (l:List D)
def Sg.sz:Sg→Nat
 |.c _=>1
 |.g _=>32
 |.w n _=>n
def Sg.cs:Sg→List D
 |.c d=>[d]
 |.g x=>CZ x
 |.w _ l=>l
def Da:List Sg→List D
 |[]=>[]
 |s::r=>s.cs++Da r
def Jy:List Sg→Prop
 |[]=>True
 |.c _::r=>Jy r
 |.g _::r=>Jy r
 |.w n l::r=>l.length=n∧Jy r
def HX:List Sg→Nat
 |[]=>0
 |s::r=>s.sz+HX r
theorem Kx:∀ A B:List Sg,Da (A++B)=Da A++Da B
 |[],_=>rfl
 |s::A,B=>by rw[Ae,Da,Da,Kx A B,Ah]
theorem Rp:∀ {A B:List Sg},Jy (A++B)→Jy A∧Jy B
 |[],_,h=>⟨trivial,h⟩
 |.c _::A,_,h=>Rp (A:=A) h
 |.g _::A,_,h=>Rp (A:=A) h
 |.w _ _::A,_,h=>⟨⟨h.1,(Rp (A:=A) h.2).1⟩,(Rp (A:=A) h.2).2⟩
theorem Nb:∀ {A:List Sg},Jy A→(Da A).length=HX A
 |[],_=>rfl
 |.c d::A,h=>by rw[Da,HX,Ab,Nb (A:=A) h]; rfl
 |.g x::A,h=>by rw[Da,HX,Ab,Nb (A:=A) h]; simp[Sg.cs,Sg.sz,DK]
 |.w n l::A,h=>by rw[Da,HX,Ab,Nb (A:=A) h.2]; simp[Sg.cs,Sg.sz,h.1]
def Td:List Sg→Nat→Option (List Sg×List Sg)
 |l,0=>some ([],l)
 |[],_+1=>none
 |s::r,n+1=>match Nat.ble s.sz (n+1)with
  |true=>match Td r (n+1 - s.sz)with
   |some (A,B)=>some (s::A,B)
   |none=>none
  |false=>none
theorem fu:∀ (l:List Sg) (n:Nat) (A B:List Sg),Td l n=some (A,B)→l=A++B∧HX A=n
 |l,0,A,B,h=>by
  have h:some (([]:List Sg),l)=some (A,B):=by cases l <;> exact h
  simp only[AN,AA]at h;obtain⟨rfl,rfl⟩:=h;exact⟨rfl,rfl⟩
 |[],n+1,A,B,h=>by cases h
 |s::r,n+1,A,B,h=>by
  simp only[Td]at h
  split at h
  case h_2=>cases h
  rename_i hb
  split at h
  case h_2=>cases h
  rename_i M N E;simp only[AN,AA]at h;obtain⟨rfl,rfl⟩:=h;obtain⟨I,J⟩:=fu r _ _ _ E;have:=Nat.le_of_ble_eq_true hb;exact⟨by rw[I]; rfl,by rw[HX,J]; omega⟩
def Rk(l:List Sg)(off n:Nat):Option (List Sg×List Sg×List Sg):=match Td l off with
 |some (A,R)=>match Td R n with
  |some (B,C)=>some (A,B,C)
  |none=>none
 |none=>none
variable {l:List Sg}
theorem WQ{A B C:List Sg}(h:Rk l off n=some (A,B,C))(E:Jy l):Da l=Da A++(Da B++Da C)∧(Da A).length=off∧(Da B).length=n:=by
 unfold Rk at h
 split at h
 case h_2=>cases h
 rename_i Y R I
 split at h
 case h_2=>cases h
 rename_i B' C' J;simp only[AN,AA]at h;obtain⟨rfl,rfl,rfl⟩:=h;obtain⟨M,N⟩:=fu _ _ _ _ I;obtain⟨O,U⟩:=fu _ _ _ _ J;subst M;obtain⟨w1,w2⟩:=Rp E;subst O;obtain⟨V,w4⟩:=Rp w2;exact⟨by rw[Kx,Kx],by rw[Nb w1,N],by rw[Nb V,U]⟩
theorem Iu{A B C:List Sg}{sz:Nat}{cs:List D}(E:cs=Da l)(h:Rk l off n=some (A,B,C))(I:Jy l)(J:d=.agg (Da B)):Dr (some ⟨false,sz,cs,lent⟩) n true off=some d:=by
 obtain⟨M,N,O⟩:=WQ h I;rw[E,J];exact LI M N O
theorem GS{A C:List Sg}{sz:Nat}{cs:List D}(E:cs=Da l)(h:Rk l off 1=some (A,[.c d],C))(I:Jy l):Dr (some ⟨false,sz,cs,lent⟩) 1 false off=some d:=by
 obtain⟨J,M,N⟩:=WQ h I;rw[E];exact I1 J M
variable {X:List Sg}
theorem KL{A B C:List Sg}{sz:Nat}{cs:List D}(I:cs=Da l)(h:Rk l off n=some (A,B,C))(J:Jy l)(E:cs'=Da (A++(X++C)))(hv:v.cells=Da X)(M:(Da X).length=n)(hc:(Da X).all D.isCell=true) :
  DZ (some ⟨false,sz,cs,false⟩) n off v=some ⟨false,sz,cs',false⟩:=by
 obtain⟨N,O,U⟩:=WQ h J;rw[I,E];exact Ks N (by rw[Kx,Kx]) O U hv M hc
theorem Iv{A B C:List Sg}{cs:List D}(I:cs=Da l)(h:Rk l off n=some (A,B,C))(J:Jy l)(E:cs'=Da (A++(X++C)))(hv:v.cells=Da X)(M:(Da X).length=n)(hc:(Da X).all D.isCell=true) :
  DG cs ((off,n,v)::r)=DG cs' r:=by
 obtain⟨N,O,U⟩:=WQ h J;rw[I,E];exact IN N (by rw[Kx,Kx]) O U hv M hc
theorem Na{p:D→Bool}(E:∀ k n,p (.int k n)=true):∀ {l:List Sg},(∀ s∈l,s.cs.all p=true)→(Da l).all p=true
 |[],_=>rfl
 |s::l,h=>by
  rw[Da,Bw,h s (A7 ..),Na E (fun x I=>h x (Ar _ I))]; rfl
def zI(n:Nat):List D:=CH n (.int .i64 0)
def KC:List D:=zI 4++(.slc 0 [] true::.int .i64 0::CZ Dp)
def MK:List D:=(.int .i64 0::CZ Dp)++(.int .i64 0::CZ Dp)
def EM:List D:=zI 11++(MK++(Db F9++(zI 3++[.slc 0 [] true])))
def ED:List D:=zI 3++((.int .i64 0::CZ Dp)++(CZ Dp++(CZ Dp++(KC++(.slc 0 [] true::zI 5)))))
def Oy:List D:=EM++(.slc 0 [] true::(zI 17++(ED++[.int .i64 0])))
def IA:List Nat:=[0]++Fi
def P1:List Nat:=IA++IA
namespace Sha
def rotr(x:UInt32)(n:Nat):UInt32:=x >>> UInt32.ofNat n ||| x <<< UInt32.ofNat (32 - n)
def word(b:List UInt8)(i:Nat):UInt32:=
 (b.getD (4*i) 0).toUInt32 <<< UInt32.ofNat 24 ||| (b.getD (4*i+1) 0).toUInt32 <<< UInt32.ofNat 16 ||| (b.getD (4*i+2) 0).toUInt32 <<< UInt32.ofNat 8 ||| (b.getD (4*i+3) 0).toUInt32
def sig0(x:UInt32):UInt32:=rotr x 7 ^^^ rotr x 18 ^^^ x >>> UInt32.ofNat 3
def sig1(x:UInt32):UInt32:=rotr x 17 ^^^ rotr x 19 ^^^ x >>> UInt32.ofNat 10
def sch(b:List UInt8):Nat→List UInt32
 |0=>[]
 |n+1=>let w:=sch b n
  w++[if n<16 then word b n else w.getD (n - 16) 0+sig0 (w.getD (n - 15) 0)+w.getD (n - 7) 0+sig1 (w.getD (n - 2) 0)]
theorem sch_length(b:List UInt8):∀ n,(sch b n).length=n
 |0=>rfl
 |n+1=>by simp[sch,sch_length b n]
structure St8 where
 a:UInt32
 b:UInt32
 c:UInt32
 d:UInt32
 e:UInt32
 f:UInt32
 g:UInt32
 h:UInt32
def St8.list(s:St8):List UInt32:=[s.a,s.b,s.c,s.d,s.e,s.f,s.g,s.h]
def round(s:St8)(k w:UInt32):St8:=
 let t:=s.h+(rotr s.e 6 ^^^ rotr s.e 11 ^^^ rotr s.e 25)+(s.e &&& s.f ^^^ ~~~s.e &&& s.g)+k+w
 let u:=(rotr s.a 2 ^^^ rotr s.a 13 ^^^ rotr s.a 22)+(s.a &&& s.b ^^^ s.a &&& s.c ^^^ s.b &&& s.c)
 {a:=t+u,b:=s.a,c:=s.b,d:=s.c,e:=s.d+t,f:=s.e,g:=s.f,h:=s.g}
def K:List UInt32:=[
 0x428a2f98,0x71374491,0xb5c0fbcf,0xe9b5dba5,0x3956c25b,0x59f111f1,0x923f82a4,0xab1c5ed5,
 0xd807aa98,0x12835b01,0x243185be,0x550c7dc3,0x72be5d74,0x80deb1fe,0x9bdc06a7,0xc19bf174,
 0xe49b69c1,0xefbe4786,0x0fc19dc6,0x240ca1cc,0x2de92c6f,0x4a7484aa,0x5cb0a9dc,0x76f988da,
 0x983e5152,0xa831c66d,0xb00327c8,0xbf597fc7,0xc6e00bf3,0xd5a79147,0x06ca6351,0x14292967,
 0x27b70a85,0x2e1b2138,0x4d2c6dfc,0x53380d13,0x650a7354,0x766a0abb,0x81c2c92e,0x92722c85,
 0xa2bfe8a1,0xa81a664b,0xc24b8b70,0xc76c51a3,0xd192e819,0xd6990624,0xf40e3585,0x106aa070,
 0x19a4c116,0x1e376c08,0x2748774c,0x34b0bcb5,0x391c0cb3,0x4ed8aa4a,0x5b9cca4f,0x682e6ff3,
 0x748f82ee,0x78a5636f,0x84c87814,0x8cc70208,0x90befffa,0xa4506ceb,0xbef9a3f7,0xc67178f2]
def rounds(w:List UInt32)(s:St8):Nat→St8
 |0=>s
 |n+1=>round (rounds w s n) (K.getD n 0) (w.getD n 0)
def St8.add(s t:St8):St8:={a:=s.a+t.a,b:=s.b+t.b,c:=s.c+t.c,d:=s.d+t.d,e:=s.e+t.e,f:=s.f+t.f,g:=s.g+t.g,h:=s.h+t.h}
def block(s:St8)(b:List UInt8):St8:=s.add (rounds (sch b 64) s 64)
def H0:St8:=⟨0x6a09e667,0xbb67ae85,0x3c6ef372,0xa54ff53a,0x510e527f,0x9b05688c,0x1f83d9ab,0x5be0cd19⟩
def lenB(q:UInt64):Nat→List UInt8
 |0=>[]
 |n+1=>lenB q n++[(q >>> CX (56 - 8*n)).toUInt8]
def zeros(n:Nat):Nat:=(119 - n % 64) % 64
def padded(m:List UInt8):List UInt8:=m++[128]++CH (zeros m.length) 0++lenB (CX m.length*8) 8
def blocks(s:St8):Nat→List UInt8→St8
 |0,_=>s
 |n+1,m=>blocks (block s (m.take 64)) n (m.drop 64)
def outB(l:List UInt32):Nat→List UInt8
 |0=>[]
 |n+1=>outB l n++[(l.getD (n / 4) 0 >>> UInt32.ofNat (24 - 8*(n % 4))).toUInt8]
theorem outB_length(l:List UInt32):∀ n,(outB l n).length=n
 |0=>rfl
 |n+1=>by simp[outB,outB_length l n]
theorem lenB_length(q:UInt64):∀ n,(lenB q n).length=n
 |0=>rfl
 |n+1=>by simp[lenB,lenB_length q n]
theorem St8.list_inj{s t:St8}(h:s.list=t.list):s=t:=by
 cases s; cases t;simpa[St8.list]using h
theorem St8.list_iff{s t:St8}:s.list=t.list↔s=t:=⟨St8.list_inj,fun h=>by rw[h]⟩
theorem St8.list_length(s:St8):s.list.length=8:=rfl
end Sha
theorem Yv2:DG ((zW 8).map wD) [(0,1,.int .u32 1779033703),(1,1,.int .u32 3144134277),(2,1,.int .u32 1013904242),(3,1,.int .u32 2773480762),(4,1,.int .u32 1359893119),(5,1,.int .u32 2600822924),(6,1,.int .u32 528734635),(7,1,.int .u32 1541459225)]=some (Sha.H0.list.map wD):=by kernel_rfl
def KZ(m:List UInt8):Dig:=⟨Sha.outB (Sha.blocks Sha.H0 ((Sha.padded m).length / 64) (Sha.padded m)).list 32,Sha.outB_length _ 32⟩
def Ypi(t b:List UInt8):List UInt8:=UInt8.ofNat (t.take 255).length::(t.take 255++b)
def Qs(t b:List UInt8):Dig:=KZ (Ypi t b)
end Go.Proofs.YtijnglngaogdjaaGreatDoor.PI
