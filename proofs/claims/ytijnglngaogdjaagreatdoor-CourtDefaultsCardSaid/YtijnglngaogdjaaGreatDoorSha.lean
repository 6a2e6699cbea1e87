/-
  SHA-256 and tagged digests over lists of bytes, in plain Lean.
  Conditions: none; these are definitions and lemmas.
-/
import Derived.Test.YtijnglngaogdjaaGreatDoorEngHe
import Derived.Test.YtijnglngaogdjaaGreatDoorEngB2
import Derived.KernelRfl
open List renaming replicate→CD
open UInt64 renaming ofNat→CU
set_option linter.unusedVariables false
set_option linter.unusedSimpArgs false
namespace Go.Proofs.YtijnglngaogdjaaGreatDoor.PI
open Go
set_option linter.unusedSimpArgs false
set_option linter.unusedVariables false
variable {off:Nat}{A B C xs:List D}
theorem ao(E:A.length=off)(I:B.length=xs.length):E8 (A++(B++C)) off xs=A++(xs++C):=by
 subst E;rw[E8,List.take_append_of_le_length (AE _),Be,← I,Cu,List.drop_eq_nil_of_le (by omega),Ai,Ah]
 congr 2
 rw[show A.length+B.length - A.length=B.length by omega,Cu,Ba,BK];rfl
variable {n:Nat}
theorem V5(E:A.length=off)(I:B.length=n):((A++(B++C)).drop off).take n=B:=by
 subst E; subst I;rw[Cu,Ba,BK];simp
variable {lent:Bool}
theorem LD{cs:List D}{sz:Nat}(h:cs=A++(B++C))(E:A.length=off)(I:B.length=n):Dn (some ⟨false,sz,cs,lent⟩) n true off=some (.agg B):=by
 subst h;simp only[Dn,Bl,V5 E I,Bool.not_true,Bool.false_and,Al,if_false,Av,Bp];rw[if_pos (by simp[E,I])];rfl
variable {d:D}
theorem IK{cs:List D}{sz:Nat}(h:cs=A++(d::C))(E:A.length=off):Dn (some ⟨false,sz,cs,lent⟩) 1 false off=some d:=by
 subst h;have:=V5 (A:=A) (B:=[d]) (C:=C) (off:=off) (n:=1) E rfl;simp only[Ae,Ai]at this;simp only[Dn,Bl,this,Av,Bp,bne_self_eq_false,Al,if_false];rw[if_pos (by simp[E])];rfl
variable {v:D}{cs':List D}
theorem Ko{cs:List D}{sz:Nat}(h:cs=A++(B++C))(M:cs'=A++(xs++C))(E:A.length=off)(I:B.length=n)(hv:v.cells=xs)(J:xs.length=n)(hc:xs.all D.isCell=true) :
  DQ (some ⟨false,sz,cs,false⟩) n off v=some ⟨false,sz,cs',false⟩:=by
 subst h; subst M;simp only[DQ,Bl,hv,hc,ao E (I.trans J.symm)];rw[if_pos (by simp[E,I,J])]
variable {r:List (Nat×Nat×D)}
theorem IA{cs:List D}(h:cs=A++(B++C))(M:cs'=A++(xs++C))(E:A.length=off)(I:B.length=n)(hv:v.cells=xs)(J:xs.length=n)(hc:xs.all D.isCell=true) :
  DD cs ((off,n,v)::r)=DD cs' r:=by
 subst h; subst M;simp only[DD,hv,hc,ao E (I.trans J.symm)];rw[if_pos (by simp[E,I,J])]
theorem lZ{cs:List D}(h:cs=A++(B++C))(E:A.length=off)(I:B.length=n):Lw off n true (.agg cs)=some (.agg B):=by
 subst h;simp only[Lw,V5 E I];rw[if_pos (by simp[E,I])];rfl
theorem vA{cs:List D}(h:cs=A++(d::C))(E:A.length=off):Lw off 1 false (.agg cs)=some d:=by
 subst h;have:=V5 (A:=A) (B:=[d]) (C:=C) (off:=off) (n:=1) E rfl;simp only[Ae,Ai]at this;simp only[Lw,this];rw[if_pos (by simp[E])];rfl
theorem J4:∀ (E J:List Nat) (a1 M b1 N:List D) (x y:Bool),a1.length=E.length→b1.length=E.length→Ey E a1 b1=some x→Ey J M N=some y→Ey (E++J) (a1++M) (b1++N)=some (x && y)
 |[],J,[],M,[],N,x,y,_,_,I,O=>by
  simp only[Ey,CX]at I;subst I;simpa using O
 |[],_,_::_,_,_,_,_,_,h,_,_,_=>by cases h
 |[],_,[],_,_::_,_,_,_,_,h,_,_=>by cases h
 |k::E,J,[],M,b1,N,x,y,h,_,_,_=>by cases h
 |k::E,J,a::a1,M,[],N,x,y,_,h,_,_=>by cases h
 |k::E,J,a::a1,M,b::b1,N,x,y,h,U,I,O=>by
  simp only[Ey]at I
  split at I
  ·rename_i u v hu hv;simp only[CX]at I;subst I;have:=J4 E J a1 M b1 N v y (by simpa using h) (by simpa using U) hv O;simp only[Ae,Ey,hu,this,Bool.and_assoc]
  ·cases I
theorem Ss(k:IntKind)(a b:Int):Ey [0] [.int k a] [.int k b]=some (decide (a=b)):=by
 simp only[Ey,H6,if_true,BW]
 by_cases h:a=b <;> simp[h]
theorem iv(a b:Bool):Ey [1] [.bool a] [.bool b]=some (decide (a=b)):=by
 cases a <;> cases b <;> rfl
structure Bis where
 h:Int
 l:Int
 i:Int
 n0:Dig
 n1:Dig
 t0:Bool
 t1:Bool
 l0:Dig
 l1:Dig
 r0:Dig
 r1:Dig
 r:Int
 deriving DecidableEq
def C8(x:Bis):List D:=[.int .i64 x.h]++([.int .i64 x.l]++([.int .i64 x.i]++(CW x.n0++(CW x.n1++([.bool x.t0]++([.bool x.t1]++(CW x.l0++(CW x.l1++(CW x.r0++(CW x.r1++[.int .i64 x.r]))))))))))
def DF(x:Bis):D:=.agg (C8 x)
def Gk:Bis:=⟨0,0,0,Dl,Dl,false,false,Dl,Dl,Dl,Dl,0⟩
def EA(a b:Dig):List D:=CW a++CW b
def Rw:List D:=EA Dl Dl
theorem Yqu:Rw=EA Dl Dl:=rfl
def Fh:List Nat:=CD 32 0
def gx:List Nat:=[0]++([0]++([0]++(Fh++(Fh++([1]++([1]++(Fh++(Fh++(Fh++(Fh++[0]))))))))))
theorem SD(x:Bis):(C8 x).length=198:=by simp[C8,DH]
theorem Ms(a b:Dig):(EA a b).length=64:=by simp[EA,DH]
variable {p:D→Bool}
theorem dB(E:∀ k n,p (.int k n)=true)(I:∀ b,p (.bool b)=true)(x:Bis):(C8 x).all p=true:=by
 have:∀ d,(CW d).all p=true:=fun d=>Kt (fun b=>E _ _) d;simp only[C8,Bw,A3,Cw,E,I,this,Az]
theorem cw(E:∀ k n,p (.int k n)=true)(a b:Dig):(EA a b).all p=true:=by
 have:∀ d,(CW d).all p=true:=fun d=>Kt (fun b=>E _ _) d;simp only[EA,Bw,this,Az]
theorem yA(x:Bis):(C8 x).all El=true:=dB (fun _ _=>rfl) (fun _=>rfl) x
theorem fu(x:Bis):(C8 x).all D.isCell=true:=dB (fun _ _=>rfl) (fun _=>rfl) x
theorem nO(a b:Dig):(EA a b).all El=true:=cw (fun _ _=>rfl) a b
theorem VK(a b:Dig):(EA a b).all D.isCell=true:=cw (fun _ _=>rfl) a b
theorem P5{E:List D}(h:A++B=C++E)(hl:A.length=C.length):A=C∧B=E:=A2 h hl
theorem lO{x y:Bis}(h:C8 x=C8 y):x=y:=by
 obtain⟨xh,xl,xi,a3,a4,a5,a6,a7,a8,a9,ba,xr⟩:=x;obtain⟨yh,yl,yi,bb,bc,bd,be,bf,bg,bh,b1,yr⟩:=y;simp only[C8,Ae,Ai,Aa,D.int.injEq,true_and]at h;obtain⟨J,M,N,O⟩:=h;obtain⟨U,V⟩:=P5 O (by simp[DH]);obtain⟨Y,E⟩:=P5 V (by simp[DH]);simp only[Aa,D.bool.injEq]at E;obtain⟨q4,q5,h3⟩:=E;obtain⟨e3,h4⟩:=P5 h3 (by simp[DH]);obtain⟨e4,h5⟩:=P5 h4 (by simp[DH]);obtain⟨e5,h6⟩:=P5 h5 (by simp[DH]);obtain⟨e6,I⟩:=P5 h6 (by simp[DH]);simp only[Aa,D.int.injEq,true_and,and_true]at I;rw[J,M,N,q4,q5,I,Ll U,Ll Y,Ll e3,Ll e4,Ll e5,Ll e6]
theorem V7{x y:Bis}:DF x=DF y↔x=y:=⟨fun h=>by simp only[DF,D.agg.injEq]at h; exact lO h,fun h=>by rw[h]⟩
section
variable (x:Bis) (sz:Nat) (lent:Bool)
theorem UB:Dn (some ⟨false,sz,C8 x,lent⟩) 1 false 0=some (.int .i64 x.h):=IK (A:=[]) rfl rfl
theorem Uz:Dn (some ⟨false,sz,C8 x,lent⟩) 1 false 1=some (.int .i64 x.l):=IK (A:=[.int .i64 x.h]) rfl rfl
theorem UA:Dn (some ⟨false,sz,C8 x,lent⟩) 1 false 2=some (.int .i64 x.i):=IK (A:=[.int .i64 x.h,.int .i64 x.l]) rfl rfl
theorem Yts:Dn (some ⟨false,sz,C8 x,lent⟩) 32 true 3=some (CY x.n0):=LD (A:=[.int .i64 x.h,.int .i64 x.l,.int .i64 x.i]) (B:=CW x.n0) rfl rfl (DH _)
theorem Ytr:Dn (some ⟨false,sz,C8 x,lent⟩) 32 true 35=some (CY x.n1):=LD (A:=[.int .i64 x.h,.int .i64 x.l,.int .i64 x.i]++CW x.n0) (B:=CW x.n1) (by simp[C8]; rfl) (by simp[DH]) (DH _)
theorem Uy:Dn (some ⟨false,sz,C8 x,lent⟩) 64 true 3=some (.agg (EA x.n0 x.n1)):=LD (A:=[.int .i64 x.h,.int .i64 x.l,.int .i64 x.i]) (B:=EA x.n0 x.n1) (by simp[C8,EA]; rfl) rfl (Ms _ _)
theorem Ytq:Dn (some ⟨false,sz,C8 x,lent⟩) 1 false 67=some (.bool x.t0):=IK (A:=[.int .i64 x.h,.int .i64 x.l,.int .i64 x.i]++(CW x.n0++CW x.n1)) (by simp[C8]; rfl) (by simp[DH])
theorem Ytp:Dn (some ⟨false,sz,C8 x,lent⟩) 1 false 68=some (.bool x.t1):=IK (A:=[.int .i64 x.h,.int .i64 x.l,.int .i64 x.i]++(CW x.n0++(CW x.n1++[.bool x.t0]))) (by simp[C8]; rfl) (by simp[DH])
theorem Ytu:Dn (some ⟨false,sz,C8 x,lent⟩) 32 true 69=some (CY x.l0):=LD (A:=[.int .i64 x.h,.int .i64 x.l,.int .i64 x.i]++(CW x.n0++(CW x.n1++[.bool x.t0,.bool x.t1]))) (B:=CW x.l0) (by simp[C8]; rfl) (by simp[DH]) (DH _)
theorem Ytt:Dn (some ⟨false,sz,C8 x,lent⟩) 32 true 101=some (CY x.l1):=LD (A:=[.int .i64 x.h,.int .i64 x.l,.int .i64 x.i]++(CW x.n0++(CW x.n1++([.bool x.t0,.bool x.t1]++CW x.l0)))) (B:=CW x.l1) (by simp[C8]; rfl) (by simp[DH]) (DH _)
theorem UD:Dn (some ⟨false,sz,C8 x,lent⟩) 64 true 69=some (.agg (EA x.l0 x.l1)):=LD (A:=[.int .i64 x.h,.int .i64 x.l,.int .i64 x.i]++(CW x.n0++(CW x.n1++[.bool x.t0,.bool x.t1]))) (B:=EA x.l0 x.l1) (by simp[C8,EA]; rfl) (by simp[DH]) (Ms _ _)
theorem UC:Dn (some ⟨false,sz,C8 x,lent⟩) 64 true 133=some (.agg (EA x.r0 x.r1)):=LD (A:=[.int .i64 x.h,.int .i64 x.l,.int .i64 x.i]++(CW x.n0++(CW x.n1++([.bool x.t0,.bool x.t1]++(CW x.l0++CW x.l1))))) (B:=EA x.r0 x.r1) (C:=[.int .i64 x.r]) (by simp[C8,EA]) (by simp[DH]) (Ms _ _)
theorem Ux:Dn (some ⟨false,sz,C8 x,lent⟩) 1 false 197=some (.int .i64 x.r):=IK (A:=[.int .i64 x.h,.int .i64 x.l,.int .i64 x.i]++(CW x.n0++(CW x.n1++([.bool x.t0,.bool x.t1]++(CW x.l0++(CW x.l1++(CW x.r0++CW x.r1))))))) (C:=[]) (by simp[C8]) (by simp[DH])
theorem Ym7:Dn (some ⟨false,sz,C8 x,lent⟩) 198 true 0=some (DF x):=KJ sz lent _ 198 (SD x)
theorem Ylk(y:Bis):DQ (some ⟨false,sz,C8 x,false⟩) 198 0 (DF y)=some ⟨false,sz,C8 y,false⟩:=Lj sz _ _ 198 (SD x) (SD y) (fu y)
theorem TZ(v:Int):DQ (some ⟨false,sz,C8 x,false⟩) 1 2 (.int .i64 v)=some ⟨false,sz,C8 {x with i:=v},false⟩:=Ko (A:=[.int .i64 x.h,.int .i64 x.l]) (B:=[.int .i64 x.i]) (xs:=[.int .i64 v]) rfl rfl rfl rfl rfl rfl rfl
theorem TY(a b:Dig):DQ (some ⟨false,sz,C8 x,false⟩) 64 3 (.agg (EA a b))=some ⟨false,sz,C8 {x with n0:=a,n1:=b},false⟩:=Ko (A:=[.int .i64 x.h,.int .i64 x.l,.int .i64 x.i]) (B:=EA x.n0 x.n1) (xs:=EA a b) (by simp[C8,EA]; rfl) (by simp[C8,EA]) rfl (Ms _ _) rfl (Ms _ _) (VK a b)
theorem Yr5(v:Bool):DQ (some ⟨false,sz,C8 x,false⟩) 1 67 (.bool v)=some ⟨false,sz,C8 {x with t0:=v},false⟩:=Ko (A:=[.int .i64 x.h,.int .i64 x.l,.int .i64 x.i]++(CW x.n0++CW x.n1)) (B:=[.bool x.t0]) (xs:=[.bool v]) (by simp[C8]; rfl) (by simp[C8]) (by simp[DH]) rfl rfl rfl rfl
theorem Yr4(v:Bool):DQ (some ⟨false,sz,C8 x,false⟩) 1 68 (.bool v)=some ⟨false,sz,C8 {x with t1:=v},false⟩:=Ko (A:=[.int .i64 x.h,.int .i64 x.l,.int .i64 x.i]++(CW x.n0++(CW x.n1++[.bool x.t0]))) (B:=[.bool x.t1]) (xs:=[.bool v]) (by simp[C8]; rfl) (by simp[C8]) (by simp[DH]) rfl rfl rfl rfl
theorem Yr9(v:Dig):DQ (some ⟨false,sz,C8 x,false⟩) 32 69 (CY v)=some ⟨false,sz,C8 {x with l0:=v},false⟩:=Ko (A:=[.int .i64 x.h,.int .i64 x.l,.int .i64 x.i]++(CW x.n0++(CW x.n1++[.bool x.t0,.bool x.t1]))) (B:=CW x.l0) (xs:=CW v) (by simp[C8]; rfl) (by simp[C8]) (by simp[DH]) (DH _) rfl (DH _) (IC v)
theorem Yr8(v:Dig):DQ (some ⟨false,sz,C8 x,false⟩) 32 101 (CY v)=some ⟨false,sz,C8 {x with l1:=v},false⟩:=Ko (A:=[.int .i64 x.h,.int .i64 x.l,.int .i64 x.i]++(CW x.n0++(CW x.n1++([.bool x.t0,.bool x.t1]++CW x.l0)))) (B:=CW x.l1) (xs:=CW v) (by simp[C8]; rfl) (by simp[C8]) (by simp[DH]) (DH _) rfl (DH _) (IC v)
theorem Yr7(v:Dig):DQ (some ⟨false,sz,C8 x,false⟩) 32 133 (CY v)=some ⟨false,sz,C8 {x with r0:=v},false⟩:=Ko (A:=[.int .i64 x.h,.int .i64 x.l,.int .i64 x.i]++(CW x.n0++(CW x.n1++([.bool x.t0,.bool x.t1]++(CW x.l0++CW x.l1))))) (B:=CW x.r0) (xs:=CW v) (by simp[C8]; rfl) (by simp[C8]) (by simp[DH]) (DH _) rfl (DH _) (IC v)
theorem Yr6(v:Dig):DQ (some ⟨false,sz,C8 x,false⟩) 32 165 (CY v)=some ⟨false,sz,C8 {x with r1:=v},false⟩:=Ko (A:=[.int .i64 x.h,.int .i64 x.l,.int .i64 x.i]++(CW x.n0++(CW x.n1++([.bool x.t0,.bool x.t1]++(CW x.l0++(CW x.l1++CW x.r0)))))) (B:=CW x.r1) (C:=[.int .i64 x.r]) (xs:=CW v) (by simp[C8]) (by simp[C8]) (by simp[DH]) (DH _) rfl (DH _) (IC v)
theorem U2(v:Int)(r:List (Nat×Nat×D)):DD (C8 x) ((0,1,.int .i64 v)::r)=DD (C8 {x with h:=v}) r:=IA (A:=[]) (B:=[.int .i64 x.h]) (xs:=[.int .i64 v]) rfl rfl rfl rfl rfl rfl rfl
theorem U0(v:Int)(r:List (Nat×Nat×D)):DD (C8 x) ((1,1,.int .i64 v)::r)=DD (C8 {x with l:=v}) r:=IA (A:=[.int .i64 x.h]) (B:=[.int .i64 x.l]) (xs:=[.int .i64 v]) rfl rfl rfl rfl rfl rfl rfl
theorem U1(v:Int)(r:List (Nat×Nat×D)):DD (C8 x) ((2,1,.int .i64 v)::r)=DD (C8 {x with i:=v}) r:=IA (A:=[.int .i64 x.h,.int .i64 x.l]) (B:=[.int .i64 x.i]) (xs:=[.int .i64 v]) rfl rfl rfl rfl rfl rfl rfl
theorem UZ(a b:Dig)(r:List (Nat×Nat×D)):DD (C8 x) ((3,64,.agg (EA a b))::r)=DD (C8 {x with n0:=a,n1:=b}) r:=IA (A:=[.int .i64 x.h,.int .i64 x.l,.int .i64 x.i]) (B:=EA x.n0 x.n1) (xs:=EA a b) (by simp[C8,EA]; rfl) (by simp[C8,EA]) rfl (Ms _ _) rfl (Ms _ _) (VK a b)
theorem UY(v:Int)(r:List (Nat×Nat×D)):DD (C8 x) ((197,1,.int .i64 v)::r)=DD (C8 {x with r:=v}) r:=IA (A:=[.int .i64 x.h,.int .i64 x.l,.int .i64 x.i]++(CW x.n0++(CW x.n1++([.bool x.t0,.bool x.t1]++(CW x.l0++(CW x.l1++(CW x.r0++CW x.r1))))))) (B:=[.int .i64 x.r]) (C:=[]) (xs:=[.int .i64 v]) (by simp[C8]) (by simp[C8]) (by simp[DH]) rfl rfl rfl rfl
end
theorem U4(a b v:Dig)(r:List (Nat×Nat×D)):DD (EA a b) ((0,32,CY v)::r)=DD (EA v b) r:=IA (A:=[]) (B:=CW a) (xs:=CW v) rfl rfl rfl (DH _) rfl (DH _) (IC v)
theorem U3(a b v:Dig)(r:List (Nat×Nat×D)):DD (EA a b) ((32,32,CY v)::r)=DD (EA a v) r:=IA (A:=CW a) (B:=CW b) (C:=[]) (xs:=CW v) (by simp[EA]) (by simp[EA]) (DH _) (DH _) rfl (DH _) (IC v)
theorem Ym8(sz:Nat)(lent:Bool)(a b:Dig):Dn (some ⟨false,sz,EA a b,lent⟩) 64 true 0=some (.agg (EA a b)):=KJ sz lent _ 64 (Ms _ _)
theorem Yll(sz:Nat)(a b c d:Dig):DQ (some ⟨false,sz,EA a b,false⟩) 64 0 (.agg (EA c d))=some ⟨false,sz,EA c d,false⟩:=Lj sz _ _ 64 (Ms _ _) (Ms _ _) (VK _ _)
theorem Yp1(x:Bis):Dv (DF x)=some (C8 x):=by
 simp only[Dv,DF,D.cells,fu,if_true]
theorem Yvv(a b:Dig):Dv (.agg (EA a b))=some (EA a b):=by
 simp only[Dv,D.cells,VK,if_true]
theorem Yqg(x:Bis):D.agg (C8 x)=DF x:=rfl
theorem Ynx(st:St)(x:Bis):DN st (DF x)=some (DF x):=QB st (yA x)
theorem Ynd(a b:Dig):keys (.agg (EA a b))=[]:=QJ (nO a b)
theorem zQ(x:Bis):((C8 x).all D.noRef1)=true:=dB (fun _ _=>rfl) (fun _=>rfl) x
theorem wB(a b:Dig):((EA a b).all D.noRef1)=true:=cw (fun _ _=>rfl) a b
theorem Yk1(x:Bis)(k:IntKind)(n:Int):(D.tup [DF x,.int k n]).noRef=true:=by
 simp[D.noRef,DF,zQ,D.noRef1]
theorem xZ(k:IntKind)(n:Int)(a c:Dig)(b:Bool):(D.tup [.int k n,.agg (EA a c),.bool b]).noRef=true:=by
 simp[D.noRef,wB,D.noRef1]
theorem OR(a b:Dig):Ey Fh (CW a) (CW b)=some (decide (a=b)):=pq a b
theorem Ygz(x y:Bis):Ey gx (C8 x) (C8 y)=some (decide (x=y)):=by
 have l1:∀ d:Dig,(CW d).length=Fh.length:=fun d=>by rw[DH]; rfl
 have E:=Ss .i64 x.r y.r;have I:=J4 Fh _ _ _ _ _ _ _ (l1 x.r1) (l1 y.r1) (OR x.r1 y.r1) E;have J:=J4 Fh _ _ _ _ _ _ _ (l1 x.r0) (l1 y.r0) (OR x.r0 y.r0) I;have M:=J4 Fh _ _ _ _ _ _ _ (l1 x.l1) (l1 y.l1) (OR x.l1 y.l1) J;have N:=J4 Fh _ _ _ _ _ _ _ (l1 x.l0) (l1 y.l0) (OR x.l0 y.l0) M;have O:=J4 [1] _ _ _ _ _ _ _ rfl rfl (iv x.t1 y.t1) N;have U:=J4 [1] _ _ _ _ _ _ _ rfl rfl (iv x.t0 y.t0) O;have V:=J4 Fh _ _ _ _ _ _ _ (l1 x.n1) (l1 y.n1) (OR x.n1 y.n1) U;have Y:=J4 Fh _ _ _ _ _ _ _ (l1 x.n0) (l1 y.n0) (OR x.n0 y.n0) V;have e2:=J4 [0] _ _ _ _ _ _ _ rfl rfl (Ss .i64 x.i y.i) Y;have e1:=J4 [0] _ _ _ _ _ _ _ rfl rfl (Ss .i64 x.l y.l) e2;have e0:=J4 [0] _ _ _ _ _ _ _ rfl rfl (Ss .i64 x.h y.h) e1;refine e0.trans (congrArg some ?_);rw[BZ];simp only[Af,decide_eq_true_eq];constructor
 ·rintro⟨a,b,c,d,e,f,g,h,i,j,k,l⟩;cases x; cases y; simp_all
 ·rintro rfl; simp
theorem Tn(E:Bool)(x y:Bis):Gn gx E (DF x) (DF y)=some (.bool (decide (x=y) != E)):=by
 simp only[Gn,DF,Ygz,Ag]
attribute [push_cast] UB Uz UA Yts Ytr Uy Ytq Ytp Ytu Ytt UD UC Ux Ym7 Ylk TZ TY Yr5 Yr4 Yr9 Yr8 Yr7 Yr6 U2 U0 U1 UZ UY U4 U3 Ym8 Yll Yp1 Yvv Yqg Ynx Ynd Yk1 xZ Tn Yqu
inductive Sg where
 |c (d:D)
 |g (x:Dig)
 |w (n:Nat) (l:List D)
def Sg.sz:Sg→Nat
 |.c _=>1
 |.g _=>32
 |.w n _=>n
def Sg.cs:Sg→List D
 |.c d=>[d]
 |.g x=>CW x
 |.w _ l=>l
def C7:List Sg→List D
 |[]=>[]
 |s::r=>s.cs++C7 r
def Jn:List Sg→Prop
 |[]=>True
 |.c _::r=>Jn r
 |.g _::r=>Jn r
 |.w n l::r=>l.length=n∧Jn r
def HR:List Sg→Nat
 |[]=>0
 |s::r=>s.sz+HR r
theorem Ku:∀ A B:List Sg,C7 (A++B)=C7 A++C7 B
 |[],_=>rfl
 |s::A,B=>by rw[Ae,C7,C7,Ku A B,Ah]
theorem Rk:∀ {A B:List Sg},Jn (A++B)→Jn A∧Jn B
 |[],_,h=>⟨trivial,h⟩
 |.c _::A,_,h=>Rk (A:=A) h
 |.g _::A,_,h=>Rk (A:=A) h
 |.w _ _::A,_,h=>⟨⟨h.1,(Rk (A:=A) h.2).1⟩,(Rk (A:=A) h.2).2⟩
theorem M5:∀ {A:List Sg},Jn A→(C7 A).length=HR A
 |[],_=>rfl
 |.c d::A,h=>by rw[C7,HR,Ab,M5 (A:=A) h]; rfl
 |.g x::A,h=>by rw[C7,HR,Ab,M5 (A:=A) h]; simp[Sg.cs,Sg.sz,DH]
 |.w n l::A,h=>by rw[C7,HR,Ab,M5 (A:=A) h.2]; simp[Sg.cs,Sg.sz,h.1]
def SX:List Sg→Nat→Option (List Sg×List Sg)
 |l,0=>some ([],l)
 |[],_+1=>none
 |s::r,n+1=>match Nat.ble s.sz (n+1)with
  |true=>match SX r (n+1 - s.sz)with
   |some (A,B)=>some (s::A,B)
   |none=>none
  |false=>none
theorem eR:∀ (l:List Sg) (n:Nat) (A B:List Sg),SX l n=some (A,B)→l=A++B∧HR A=n
 |l,0,A,B,h=>by
  have h:some (([]:List Sg),l)=some (A,B):=by cases l <;> exact h
  simp only[AN,AA]at h;obtain⟨rfl,rfl⟩:=h;exact⟨rfl,rfl⟩
 |[],n+1,A,B,h=>by cases h
 |s::r,n+1,A,B,h=>by
  simp only[SX]at h
  split at h
  case h_2=>cases h
  rename_i hb
  split at h
  case h_2=>cases h
  rename_i M N E;simp only[AN,AA]at h;obtain⟨rfl,rfl⟩:=h;obtain⟨I,J⟩:=eR r _ _ _ E;have:=Nat.le_of_ble_eq_true hb;exact⟨by rw[I]; rfl,by rw[HR,J]; omega⟩
def Rf(l:List Sg)(off n:Nat):Option (List Sg×List Sg×List Sg):=match SX l off with
 |some (A,R)=>match SX R n with
  |some (B,C)=>some (A,B,C)
  |none=>none
 |none=>none
variable {l:List Sg}
theorem Wo{A B C:List Sg}(h:Rf l off n=some (A,B,C))(E:Jn l):C7 l=C7 A++(C7 B++C7 C)∧(C7 A).length=off∧(C7 B).length=n:=by
 unfold Rf at h
 split at h
 case h_2=>cases h
 rename_i Y R I
 split at h
 case h_2=>cases h
 rename_i B' C' J;simp only[AN,AA]at h;obtain⟨rfl,rfl,rfl⟩:=h;obtain⟨M,N⟩:=eR _ _ _ _ I;obtain⟨O,U⟩:=eR _ _ _ _ J;subst M;obtain⟨w1,w2⟩:=Rk E;subst O;obtain⟨V,w4⟩:=Rk w2;exact⟨by rw[Ku,Ku],by rw[M5 w1,N],by rw[M5 V,U]⟩
theorem Iy{A B C:List Sg}{sz:Nat}{cs:List D}(E:cs=C7 l)(h:Rf l off n=some (A,B,C))(I:Jn l)(J:d=.agg (C7 B)):Dn (some ⟨false,sz,cs,lent⟩) n true off=some d:=by
 obtain⟨M,N,O⟩:=Wo h I;rw[E,J];exact LD M N O
theorem GR{A C:List Sg}{sz:Nat}{cs:List D}(E:cs=C7 l)(h:Rf l off 1=some (A,[.c d],C))(I:Jn l):Dn (some ⟨false,sz,cs,lent⟩) 1 false off=some d:=by
 obtain⟨J,M,N⟩:=Wo h I;rw[E];exact IK J M
variable {X:List Sg}
theorem JN{A B C:List Sg}{sz:Nat}{cs:List D}(I:cs=C7 l)(h:Rf l off n=some (A,B,C))(J:Jn l)(E:cs'=C7 (A++(X++C)))(hv:v.cells=C7 X)(M:(C7 X).length=n)(hc:(C7 X).all D.isCell=true) :
  DQ (some ⟨false,sz,cs,false⟩) n off v=some ⟨false,sz,cs',false⟩:=by
 obtain⟨N,O,U⟩:=Wo h J;rw[I,E];exact Ko N (by rw[Ku,Ku]) O U hv M hc
theorem Ih{A B C:List Sg}{cs:List D}(I:cs=C7 l)(h:Rf l off n=some (A,B,C))(J:Jn l)(E:cs'=C7 (A++(X++C)))(hv:v.cells=C7 X)(M:(C7 X).length=n)(hc:(C7 X).all D.isCell=true) :
  DD cs ((off,n,v)::r)=DD cs' r:=by
 obtain⟨N,O,U⟩:=Wo h J;rw[I,E];exact IA N (by rw[Ku,Ku]) O U hv M hc
theorem M4{p:D→Bool}(E:∀ k n,p (.int k n)=true):∀ {l:List Sg},(∀ s∈l,s.cs.all p=true)→(C7 l).all p=true
 |[],_=>rfl
 |s::l,h=>by
  rw[C7,Bw,h s (A7 ..),M4 E (fun x I=>h x (Ar _ I))]; rfl
def zI(n:Nat):List D:=CD n (.int .i64 0)
def Kz:List D:=zI 4++(.slc 0 [] true::.int .i64 0::CW Dl)
def ME:List D:=(.int .i64 0::CW Dl)++(.int .i64 0::CW Dl)
def ER:List D:=zI 11++(ME++(C8 Gk++(zI 3++[.slc 0 [] true])))
def EB:List D:=zI 3++((.int .i64 0::CW Dl)++(CW Dl++(CW Dl++(Kz++(.slc 0 [] true::zI 5)))))
def Oo:List D:=ER++(.slc 0 [] true::(zI 17++(EB++[.int .i64 0])))
def Jz:List Nat:=[0]++Fh
def PM:List Nat:=Jz++Jz
namespace Sha
def rotr(x:UInt32)(n:Nat):UInt32:=x >>> UInt32.ofNat n ||| x <<< UInt32.ofNat (32 - n)
def word(b:List UInt8)(i:Nat):UInt32:=
 (b.getD (4*i) 0).toUInt32 <<< UInt32.ofNat 24 ||| (b.getD (4*i+1) 0).toUInt32 <<< UInt32.ofNat 16 ||| (b.getD (4*i+2) 0).toUInt32 <<< UInt32.ofNat 8 ||| (b.getD (4*i+3) 0).toUInt32
def sig0(x:UInt32):UInt32:=rotr x 7 ^^^ rotr x 18 ^^^ x >>> UInt32.ofNat 3
def sig1(x:UInt32):UInt32:=rotr x 17 ^^^ rotr x 19 ^^^ x >>> UInt32.ofNat 10
def sch(b:List UInt8):Nat→List UInt32
 |0=>[]
 |n+1=>let w:=sch b n
  w++[if n<16 then word b n else w.getD (n - 16) 0+sig0 (w.getD (n - 15) 0)+w.getD (n - 7) 0+sig1 (w.getD (n - 2) 0)]
theorem sch_length(b:List UInt8):∀ n,(sch b n).length=n
 |0=>rfl
 |n+1=>by simp[sch,sch_length b n]
structure St8 where
 a:UInt32
 b:UInt32
 c:UInt32
 d:UInt32
 e:UInt32
 f:UInt32
 g:UInt32
 h:UInt32
def St8.list(s:St8):List UInt32:=[s.a,s.b,s.c,s.d,s.e,s.f,s.g,s.h]
def round(s:St8)(k w:UInt32):St8:=
 let t:=s.h+(rotr s.e 6 ^^^ rotr s.e 11 ^^^ rotr s.e 25)+(s.e &&& s.f ^^^ ~~~s.e &&& s.g)+k+w
 let u:=(rotr s.a 2 ^^^ rotr s.a 13 ^^^ rotr s.a 22)+(s.a &&& s.b ^^^ s.a &&& s.c ^^^ s.b &&& s.c)
 {a:=t+u,b:=s.a,c:=s.b,d:=s.c,e:=s.d+t,f:=s.e,g:=s.f,h:=s.g}
def K:List UInt32:=[
 0x428a2f98,0x71374491,0xb5c0fbcf,0xe9b5dba5,0x3956c25b,0x59f111f1,0x923f82a4,0xab1c5ed5,
 0xd807aa98,0x12835b01,0x243185be,0x550c7dc3,0x72be5d74,0x80deb1fe,0x9bdc06a7,0xc19bf174,
 0xe49b69c1,0xefbe4786,0x0fc19dc6,0x240ca1cc,0x2de92c6f,0x4a7484aa,0x5cb0a9dc,0x76f988da,
 0x983e5152,0xa831c66d,0xb00327c8,0xbf597fc7,0xc6e00bf3,0xd5a79147,0x06ca6351,0x14292967,
 0x27b70a85,0x2e1b2138,0x4d2c6dfc,0x53380d13,0x650a7354,0x766a0abb,0x81c2c92e,0x92722c85,
 0xa2bfe8a1,0xa81a664b,0xc24b8b70,0xc76c51a3,0xd192e819,0xd6990624,0xf40e3585,0x106aa070,
 0x19a4c116,0x1e376c08,0x2748774c,0x34b0bcb5,0x391c0cb3,0x4ed8aa4a,0x5b9cca4f,0x682e6ff3,
 0x748f82ee,0x78a5636f,0x84c87814,0x8cc70208,0x90befffa,0xa4506ceb,0xbef9a3f7,0xc67178f2]
def rounds(w:List UInt32)(s:St8):Nat→St8
 |0=>s
 |n+1=>round (rounds w s n) (K.getD n 0) (w.getD n 0)
def St8.add(s t:St8):St8:={a:=s.a+t.a,b:=s.b+t.b,c:=s.c+t.c,d:=s.d+t.d,e:=s.e+t.e,f:=s.f+t.f,g:=s.g+t.g,h:=s.h+t.h}
def block(s:St8)(b:List UInt8):St8:=s.add (rounds (sch b 64) s 64)
def H0:St8:=⟨0x6a09e667,0xbb67ae85,0x3c6ef372,0xa54ff53a,0x510e527f,0x9b05688c,0x1f83d9ab,0x5be0cd19⟩
def lenB(q:UInt64):Nat→List UInt8
 |0=>[]
 |n+1=>lenB q n++[(q >>> CU (56 - 8*n)).toUInt8]
def zeros(n:Nat):Nat:=(119 - n % 64) % 64
def padded(m:List UInt8):List UInt8:=m++[128]++CD (zeros m.length) 0++lenB (CU m.length*8) 8
def blocks(s:St8):Nat→List UInt8→St8
 |0,_=>s
 |n+1,m=>blocks (block s (m.take 64)) n (m.drop 64)
def outB(l:List UInt32):Nat→List UInt8
 |0=>[]
 |n+1=>outB l n++[(l.getD (n / 4) 0 >>> UInt32.ofNat (24 - 8*(n % 4))).toUInt8]
theorem outB_length(l:List UInt32):∀ n,(outB l n).length=n
 |0=>rfl
 |n+1=>by simp[outB,outB_length l n]
theorem lenB_length(q:UInt64):∀ n,(lenB q n).length=n
 |0=>rfl
 |n+1=>by simp[lenB,lenB_length q n]
theorem St8.list_inj{s t:St8}(h:s.list=t.list):s=t:=by
 cases s; cases t;simpa[St8.list]using h
theorem St8.list_iff{s t:St8}:s.list=t.list↔s=t:=⟨St8.list_inj,fun h=>by rw[h]⟩
theorem St8.list_length(s:St8):s.list.length=8:=rfl
end Sha
theorem Yut:DD ((zW 8).map wD) [(0,1,.int .u32 1779033703),(1,1,.int .u32 3144134277),(2,1,.int .u32 1013904242),(3,1,.int .u32 2773480762),(4,1,.int .u32 1359893119),(5,1,.int .u32 2600822924),(6,1,.int .u32 528734635),(7,1,.int .u32 1541459225)]=some (Sha.H0.list.map wD):=by kernel_rfl
def KT(m:List UInt8):Dig:=⟨Sha.outB (Sha.blocks Sha.H0 ((Sha.padded m).length / 64) (Sha.padded m)).list 32,Sha.outB_length _ 32⟩
def Yof(t b:List UInt8):List UInt8:=UInt8.ofNat (t.take 255).length::(t.take 255++b)
def Qe(t b:List UInt8):Dig:=KT (Yof t b)
end Go.Proofs.YtijnglngaogdjaaGreatDoor.PI
