/-
  SHA-256 and tagged digests over lists of bytes, in plain Lean.
  Conditions: none; these are definitions and lemmas.
-/
import Derived.Test.YtijnglngaogdjaaGreatDoorEngHe
import Derived.Test.YtijnglngaogdjaaGreatDoorEngB2
import Derived.KernelRfl
open List renaming replicate→CF
open UInt64 renaming ofNat→CW
set_option linter.unusedVariables false
set_option linter.unusedSimpArgs false
namespace Go.Proofs.YtijnglngaogdjaaGreatDoor.PI
open Go
set_option linter.unusedSimpArgs false
set_option linter.unusedVariables false
variable {off:Nat}{A B C xs:List D}
theorem aG(E:A.length=off)(I:B.length=xs.length):Fc (A++(B++C)) off xs=A++(xs++C):=by
 subst E;rw[Fc,List.take_append_of_le_length (AE _),Bf,← I,Cw,List.drop_eq_nil_of_le (by omega),Ai,Ag]
 congr 2
 rw[show A.length+B.length - A.length=B.length by omega,Cw,Ba,BK];rfl
variable {n:Nat}
theorem V9(E:A.length=off)(I:B.length=n):((A++(B++C)).drop off).take n=B:=by
 subst E; subst I;rw[Cw,Ba,BK];simp
variable {lent:Bool}
theorem LQ{cs:List D}{sz:Nat}(h:cs=A++(B++C))(E:A.length=off)(I:B.length=n):Dq (some ⟨false,sz,cs,lent⟩) n true off=some (.agg B):=by
 subst h;simp only[Dq,Bl,V9 E I,Bool.not_true,Bool.false_and,Al,if_false,Av,Bp];rw[if_pos (by simp[E,I])];rfl
variable {d:D}
theorem IX{cs:List D}{sz:Nat}(h:cs=A++(d::C))(E:A.length=off):Dq (some ⟨false,sz,cs,lent⟩) 1 false off=some d:=by
 subst h;have:=V9 (A:=A) (B:=[d]) (C:=C) (off:=off) (n:=1) E rfl;simp only[Ae,Ai]at this;simp only[Dq,Bl,this,Av,Bp,bne_self_eq_false,Al,if_false];rw[if_pos (by simp[E])];rfl
variable {v:D}{cs':List D}
theorem Kx{cs:List D}{sz:Nat}(h:cs=A++(B++C))(M:cs'=A++(xs++C))(E:A.length=off)(I:B.length=n)(hv:v.cells=xs)(J:xs.length=n)(hc:xs.all D.isCell=true) :
  DY (some ⟨false,sz,cs,false⟩) n off v=some ⟨false,sz,cs',false⟩:=by
 subst h; subst M;simp only[DY,Bl,hv,hc,aG E (I.trans J.symm)];rw[if_pos (by simp[E,I,J])]
variable {r:List (Nat×Nat×D)}
theorem IK{cs:List D}(h:cs=A++(B++C))(M:cs'=A++(xs++C))(E:A.length=off)(I:B.length=n)(hv:v.cells=xs)(J:xs.length=n)(hc:xs.all D.isCell=true) :
  DF cs ((off,n,v)::r)=DF cs' r:=by
 subst h; subst M;simp only[DF,hv,hc,aG E (I.trans J.symm)];rw[if_pos (by simp[E,I,J])]
theorem mK{cs:List D}(h:cs=A++(B++C))(E:A.length=off)(I:B.length=n):LK off n true (.agg cs)=some (.agg B):=by
 subst h;simp only[LK,V9 E I];rw[if_pos (by simp[E,I])];rfl
theorem wa{cs:List D}(h:cs=A++(d::C))(E:A.length=off):LK off 1 false (.agg cs)=some d:=by
 subst h;have:=V9 (A:=A) (B:=[d]) (C:=C) (off:=off) (n:=1) E rfl;simp only[Ae,Ai]at this;simp only[LK,this];rw[if_pos (by simp[E])];rfl
theorem Kc:∀ (E J:List Nat) (a1 M b1 N:List D) (x y:Bool),a1.length=E.length→b1.length=E.length→EC E a1 b1=some x→EC J M N=some y→EC (E++J) (a1++M) (b1++N)=some (x && y)
 |[],J,[],M,[],N,x,y,_,_,I,O=>by
  simp only[EC,C3]at I;subst I;simpa using O
 |[],_,_::_,_,_,_,_,_,h,_,_,_=>by cases h
 |[],_,[],_,_::_,_,_,_,_,h,_,_=>by cases h
 |k::E,J,[],M,b1,N,x,y,h,_,_,_=>by cases h
 |k::E,J,a::a1,M,[],N,x,y,_,h,_,_=>by cases h
 |k::E,J,a::a1,M,b::b1,N,x,y,h,U,I,O=>by
  simp only[EC]at I
  split at I
  ·rename_i u v hu hv;simp only[C3]at I;subst I;have:=Kc E J a1 M b1 N v y (by simpa using h) (by simpa using U) hv O;simp only[Ae,EC,hu,this,Bool.and_assoc]
  ·cases I
theorem Sq(k:IntKind)(a b:Int):EC [0] [.int k a] [.int k b]=some (decide (a=b)):=by
 simp only[EC,Ii,if_true,BX]
 by_cases h:a=b <;> simp[h]
theorem qN(a b:Bool):EC [1] [.bool a] [.bool b]=some (decide (a=b)):=by
 cases a <;> cases b <;> rfl
structure Bis where
 h:Int
 l:Int
 i:Int
 n0:Dig
 n1:Dig
 t0:Bool
 t1:Bool
 l0:Dig
 l1:Dig
 r0:Dig
 r1:Dig
 r:Int
 deriving DecidableEq
def Da(x:Bis):List D:=[.int .i64 x.h]++([.int .i64 x.l]++([.int .i64 x.i]++(CY x.n0++(CY x.n1++([.bool x.t0]++([.bool x.t1]++(CY x.l0++(CY x.l1++(CY x.r0++(CY x.r1++[.int .i64 x.r]))))))))))
def DI(x:Bis):D:=.agg (Da x)
def Gq:Bis:=⟨0,0,0,Dn,Dn,false,false,Dn,Dn,Dn,Dn,0⟩
def EF(a b:Dig):List D:=CY a++CY b
def RB:List D:=EF Dn Dn
theorem Yrf:RB=EF Dn Dn:=rfl
def Fm:List Nat:=CF 32 0
def gO:List Nat:=[0]++([0]++([0]++(Fm++(Fm++([1]++([1]++(Fm++(Fm++(Fm++(Fm++[0]))))))))))
theorem SE(x:Bis):(Da x).length=198:=by simp[Da,DJ]
theorem MF(a b:Dig):(EF a b).length=64:=by simp[EF,DJ]
variable {p:D→Bool}
theorem ep(E:∀ k n,p (.int k n)=true)(I:∀ b,p (.bool b)=true)(x:Bis):(Da x).all p=true:=by
 have:∀ d,(CY d).all p=true:=fun d=>KC (fun b=>E _ _) d;simp only[Da,Bw,A3,Cy,E,I,this,Az]
theorem cL(E:∀ k n,p (.int k n)=true)(a b:Dig):(EF a b).all p=true:=by
 have:∀ d,(CY d).all p=true:=fun d=>KC (fun b=>E _ _) d;simp only[EF,Bw,this,Az]
theorem yE(x:Bis):(Da x).all Eo=true:=ep (fun _ _=>rfl) (fun _=>rfl) x
theorem fu(x:Bis):(Da x).all D.isCell=true:=ep (fun _ _=>rfl) (fun _=>rfl) x
theorem ot(a b:Dig):(EF a b).all Eo=true:=cL (fun _ _=>rfl) a b
theorem Wb(a b:Dig):(EF a b).all D.isCell=true:=cL (fun _ _=>rfl) a b
theorem Qi{E:List D}(h:A++B=C++E)(hl:A.length=C.length):A=C∧B=E:=A2 h hl
theorem lP{x y:Bis}(h:Da x=Da y):x=y:=by
 obtain⟨xh,xl,xi,a3,a4,a5,a6,a7,a8,a9,ba,xr⟩:=x;obtain⟨yh,yl,yi,bb,bc,bd,be,bf,bg,bh,b1,yr⟩:=y;simp only[Da,Ae,Ai,Aa,D.int.injEq,true_and]at h;obtain⟨J,M,N,O⟩:=h;obtain⟨U,V⟩:=Qi O (by simp[DJ]);obtain⟨Y,E⟩:=Qi V (by simp[DJ]);simp only[Aa,D.bool.injEq]at E;obtain⟨q4,q5,h3⟩:=E;obtain⟨e3,h4⟩:=Qi h3 (by simp[DJ]);obtain⟨e4,h5⟩:=Qi h4 (by simp[DJ]);obtain⟨e5,h6⟩:=Qi h5 (by simp[DJ]);obtain⟨e6,I⟩:=Qi h6 (by simp[DJ]);simp only[Aa,D.int.injEq,true_and,and_true]at I;rw[J,M,N,q4,q5,I,Lz U,Lz Y,Lz e3,Lz e4,Lz e5,Lz e6]
theorem VP{x y:Bis}:DI x=DI y↔x=y:=⟨fun h=>by simp only[DI,D.agg.injEq]at h; exact lP h,fun h=>by rw[h]⟩
section
variable (x:Bis) (sz:Nat) (lent:Bool)
theorem UJ:Dq (some ⟨false,sz,Da x,lent⟩) 1 false 0=some (.int .i64 x.h):=IX (A:=[]) rfl rfl
theorem UH:Dq (some ⟨false,sz,Da x,lent⟩) 1 false 1=some (.int .i64 x.l):=IX (A:=[.int .i64 x.h]) rfl rfl
theorem UI:Dq (some ⟨false,sz,Da x,lent⟩) 1 false 2=some (.int .i64 x.i):=IX (A:=[.int .i64 x.h,.int .i64 x.l]) rfl rfl
theorem Yuf:Dq (some ⟨false,sz,Da x,lent⟩) 32 true 3=some (C0 x.n0):=LQ (A:=[.int .i64 x.h,.int .i64 x.l,.int .i64 x.i]) (B:=CY x.n0) rfl rfl (DJ _)
theorem Yue:Dq (some ⟨false,sz,Da x,lent⟩) 32 true 35=some (C0 x.n1):=LQ (A:=[.int .i64 x.h,.int .i64 x.l,.int .i64 x.i]++CY x.n0) (B:=CY x.n1) (by simp[Da]; rfl) (by simp[DJ]) (DJ _)
theorem UG:Dq (some ⟨false,sz,Da x,lent⟩) 64 true 3=some (.agg (EF x.n0 x.n1)):=LQ (A:=[.int .i64 x.h,.int .i64 x.l,.int .i64 x.i]) (B:=EF x.n0 x.n1) (by simp[Da,EF]; rfl) rfl (MF _ _)
theorem Yud:Dq (some ⟨false,sz,Da x,lent⟩) 1 false 67=some (.bool x.t0):=IX (A:=[.int .i64 x.h,.int .i64 x.l,.int .i64 x.i]++(CY x.n0++CY x.n1)) (by simp[Da]; rfl) (by simp[DJ])
theorem Yuc:Dq (some ⟨false,sz,Da x,lent⟩) 1 false 68=some (.bool x.t1):=IX (A:=[.int .i64 x.h,.int .i64 x.l,.int .i64 x.i]++(CY x.n0++(CY x.n1++[.bool x.t0]))) (by simp[Da]; rfl) (by simp[DJ])
theorem Yuh:Dq (some ⟨false,sz,Da x,lent⟩) 32 true 69=some (C0 x.l0):=LQ (A:=[.int .i64 x.h,.int .i64 x.l,.int .i64 x.i]++(CY x.n0++(CY x.n1++[.bool x.t0,.bool x.t1]))) (B:=CY x.l0) (by simp[Da]; rfl) (by simp[DJ]) (DJ _)
theorem Yug:Dq (some ⟨false,sz,Da x,lent⟩) 32 true 101=some (C0 x.l1):=LQ (A:=[.int .i64 x.h,.int .i64 x.l,.int .i64 x.i]++(CY x.n0++(CY x.n1++([.bool x.t0,.bool x.t1]++CY x.l0)))) (B:=CY x.l1) (by simp[Da]; rfl) (by simp[DJ]) (DJ _)
theorem UL:Dq (some ⟨false,sz,Da x,lent⟩) 64 true 69=some (.agg (EF x.l0 x.l1)):=LQ (A:=[.int .i64 x.h,.int .i64 x.l,.int .i64 x.i]++(CY x.n0++(CY x.n1++[.bool x.t0,.bool x.t1]))) (B:=EF x.l0 x.l1) (by simp[Da,EF]; rfl) (by simp[DJ]) (MF _ _)
theorem UK:Dq (some ⟨false,sz,Da x,lent⟩) 64 true 133=some (.agg (EF x.r0 x.r1)):=LQ (A:=[.int .i64 x.h,.int .i64 x.l,.int .i64 x.i]++(CY x.n0++(CY x.n1++([.bool x.t0,.bool x.t1]++(CY x.l0++CY x.l1))))) (B:=EF x.r0 x.r1) (C:=[.int .i64 x.r]) (by simp[Da,EF]) (by simp[DJ]) (MF _ _)
theorem UF:Dq (some ⟨false,sz,Da x,lent⟩) 1 false 197=some (.int .i64 x.r):=IX (A:=[.int .i64 x.h,.int .i64 x.l,.int .i64 x.i]++(CY x.n0++(CY x.n1++([.bool x.t0,.bool x.t1]++(CY x.l0++(CY x.l1++(CY x.r0++CY x.r1))))))) (C:=[]) (by simp[Da]) (by simp[DJ])
theorem Ynn:Dq (some ⟨false,sz,Da x,lent⟩) 198 true 0=some (DI x):=KT sz lent _ 198 (SE x)
theorem Yl0(y:Bis):DY (some ⟨false,sz,Da x,false⟩) 198 0 (DI y)=some ⟨false,sz,Da y,false⟩:=Lx sz _ _ 198 (SE x) (SE y) (fu y)
theorem T8(v:Int):DY (some ⟨false,sz,Da x,false⟩) 1 2 (.int .i64 v)=some ⟨false,sz,Da {x with i:=v},false⟩:=Kx (A:=[.int .i64 x.h,.int .i64 x.l]) (B:=[.int .i64 x.i]) (xs:=[.int .i64 v]) rfl rfl rfl rfl rfl rfl rfl
theorem T7(a b:Dig):DY (some ⟨false,sz,Da x,false⟩) 64 3 (.agg (EF a b))=some ⟨false,sz,Da {x with n0:=a,n1:=b},false⟩:=Kx (A:=[.int .i64 x.h,.int .i64 x.l,.int .i64 x.i]) (B:=EF x.n0 x.n1) (xs:=EF a b) (by simp[Da,EF]; rfl) (by simp[Da,EF]) rfl (MF _ _) rfl (MF _ _) (Wb a b)
theorem Yss(v:Bool):DY (some ⟨false,sz,Da x,false⟩) 1 67 (.bool v)=some ⟨false,sz,Da {x with t0:=v},false⟩:=Kx (A:=[.int .i64 x.h,.int .i64 x.l,.int .i64 x.i]++(CY x.n0++CY x.n1)) (B:=[.bool x.t0]) (xs:=[.bool v]) (by simp[Da]; rfl) (by simp[Da]) (by simp[DJ]) rfl rfl rfl rfl
theorem Ysr(v:Bool):DY (some ⟨false,sz,Da x,false⟩) 1 68 (.bool v)=some ⟨false,sz,Da {x with t1:=v},false⟩:=Kx (A:=[.int .i64 x.h,.int .i64 x.l,.int .i64 x.i]++(CY x.n0++(CY x.n1++[.bool x.t0]))) (B:=[.bool x.t1]) (xs:=[.bool v]) (by simp[Da]; rfl) (by simp[Da]) (by simp[DJ]) rfl rfl rfl rfl
theorem Ysw(v:Dig):DY (some ⟨false,sz,Da x,false⟩) 32 69 (C0 v)=some ⟨false,sz,Da {x with l0:=v},false⟩:=Kx (A:=[.int .i64 x.h,.int .i64 x.l,.int .i64 x.i]++(CY x.n0++(CY x.n1++[.bool x.t0,.bool x.t1]))) (B:=CY x.l0) (xs:=CY v) (by simp[Da]; rfl) (by simp[Da]) (by simp[DJ]) (DJ _) rfl (DJ _) (IL v)
theorem Ysv(v:Dig):DY (some ⟨false,sz,Da x,false⟩) 32 101 (C0 v)=some ⟨false,sz,Da {x with l1:=v},false⟩:=Kx (A:=[.int .i64 x.h,.int .i64 x.l,.int .i64 x.i]++(CY x.n0++(CY x.n1++([.bool x.t0,.bool x.t1]++CY x.l0)))) (B:=CY x.l1) (xs:=CY v) (by simp[Da]; rfl) (by simp[Da]) (by simp[DJ]) (DJ _) rfl (DJ _) (IL v)
theorem Ysu(v:Dig):DY (some ⟨false,sz,Da x,false⟩) 32 133 (C0 v)=some ⟨false,sz,Da {x with r0:=v},false⟩:=Kx (A:=[.int .i64 x.h,.int .i64 x.l,.int .i64 x.i]++(CY x.n0++(CY x.n1++([.bool x.t0,.bool x.t1]++(CY x.l0++CY x.l1))))) (B:=CY x.r0) (xs:=CY v) (by simp[Da]; rfl) (by simp[Da]) (by simp[DJ]) (DJ _) rfl (DJ _) (IL v)
theorem Yst(v:Dig):DY (some ⟨false,sz,Da x,false⟩) 32 165 (C0 v)=some ⟨false,sz,Da {x with r1:=v},false⟩:=Kx (A:=[.int .i64 x.h,.int .i64 x.l,.int .i64 x.i]++(CY x.n0++(CY x.n1++([.bool x.t0,.bool x.t1]++(CY x.l0++(CY x.l1++CY x.r0)))))) (B:=CY x.r1) (C:=[.int .i64 x.r]) (xs:=CY v) (by simp[Da]) (by simp[Da]) (by simp[DJ]) (DJ _) rfl (DJ _) (IL v)
theorem Va(v:Int)(r:List (Nat×Nat×D)):DF (Da x) ((0,1,.int .i64 v)::r)=DF (Da {x with h:=v}) r:=IK (A:=[]) (B:=[.int .i64 x.h]) (xs:=[.int .i64 v]) rfl rfl rfl rfl rfl rfl rfl
theorem U8(v:Int)(r:List (Nat×Nat×D)):DF (Da x) ((1,1,.int .i64 v)::r)=DF (Da {x with l:=v}) r:=IK (A:=[.int .i64 x.h]) (B:=[.int .i64 x.l]) (xs:=[.int .i64 v]) rfl rfl rfl rfl rfl rfl rfl
theorem U9(v:Int)(r:List (Nat×Nat×D)):DF (Da x) ((2,1,.int .i64 v)::r)=DF (Da {x with i:=v}) r:=IK (A:=[.int .i64 x.h,.int .i64 x.l]) (B:=[.int .i64 x.i]) (xs:=[.int .i64 v]) rfl rfl rfl rfl rfl rfl rfl
theorem U7(a b:Dig)(r:List (Nat×Nat×D)):DF (Da x) ((3,64,.agg (EF a b))::r)=DF (Da {x with n0:=a,n1:=b}) r:=IK (A:=[.int .i64 x.h,.int .i64 x.l,.int .i64 x.i]) (B:=EF x.n0 x.n1) (xs:=EF a b) (by simp[Da,EF]; rfl) (by simp[Da,EF]) rfl (MF _ _) rfl (MF _ _) (Wb a b)
theorem U6(v:Int)(r:List (Nat×Nat×D)):DF (Da x) ((197,1,.int .i64 v)::r)=DF (Da {x with r:=v}) r:=IK (A:=[.int .i64 x.h,.int .i64 x.l,.int .i64 x.i]++(CY x.n0++(CY x.n1++([.bool x.t0,.bool x.t1]++(CY x.l0++(CY x.l1++(CY x.r0++CY x.r1))))))) (B:=[.int .i64 x.r]) (C:=[]) (xs:=[.int .i64 v]) (by simp[Da]) (by simp[Da]) (by simp[DJ]) rfl rfl rfl rfl
end
theorem Vc(a b v:Dig)(r:List (Nat×Nat×D)):DF (EF a b) ((0,32,C0 v)::r)=DF (EF v b) r:=IK (A:=[]) (B:=CY a) (xs:=CY v) rfl rfl rfl (DJ _) rfl (DJ _) (IL v)
theorem Vb(a b v:Dig)(r:List (Nat×Nat×D)):DF (EF a b) ((32,32,C0 v)::r)=DF (EF a v) r:=IK (A:=CY a) (B:=CY b) (C:=[]) (xs:=CY v) (by simp[EF]) (by simp[EF]) (DJ _) (DJ _) rfl (DJ _) (IL v)
theorem Yno(sz:Nat)(lent:Bool)(a b:Dig):Dq (some ⟨false,sz,EF a b,lent⟩) 64 true 0=some (.agg (EF a b)):=KT sz lent _ 64 (MF _ _)
theorem Yl1(sz:Nat)(a b c d:Dig):DY (some ⟨false,sz,EF a b,false⟩) 64 0 (.agg (EF c d))=some ⟨false,sz,EF c d,false⟩:=Lx sz _ _ 64 (MF _ _) (MF _ _) (Wb _ _)
theorem Yqm(x:Bis):Dx (DI x)=some (Da x):=by
 simp only[Dx,DI,D.cells,fu,if_true]
theorem Ywl(a b:Dig):Dx (.agg (EF a b))=some (EF a b):=by
 simp only[Dx,D.cells,Wb,if_true]
theorem Yq1(x:Bis):D.agg (Da x)=DI x:=rfl
theorem Yoe(st:St)(x:Bis):DO st (DI x)=some (DI x):=Ph st (yE x)
theorem Ynt(a b:Dig):keys (.agg (EF a b))=[]:=Pn (ot a b)
theorem z9(x:Bis):((Da x).all D.noRef1)=true:=ep (fun _ _=>rfl) (fun _=>rfl) x
theorem wN(a b:Dig):((EF a b).all D.noRef1)=true:=cL (fun _ _=>rfl) a b
theorem Ylg(x:Bis)(k:IntKind)(n:Int):(D.tup [DI x,.int k n]).noRef=true:=by
 simp[D.noRef,DI,z9,D.noRef1]
theorem yp(k:IntKind)(n:Int)(a c:Dig)(b:Bool):(D.tup [.int k n,.agg (EF a c),.bool b]).noRef=true:=by
 simp[D.noRef,wN,D.noRef1]
theorem O8(a b:Dig):EC Fm (CY a) (CY b)=some (decide (a=b)):=p6 a b
theorem Yhf(x y:Bis):EC gO (Da x) (Da y)=some (decide (x=y)):=by
 have l1:∀ d:Dig,(CY d).length=Fm.length:=fun d=>by rw[DJ]; rfl
 have E:=Sq .i64 x.r y.r;have I:=Kc Fm _ _ _ _ _ _ _ (l1 x.r1) (l1 y.r1) (O8 x.r1 y.r1) E;have J:=Kc Fm _ _ _ _ _ _ _ (l1 x.r0) (l1 y.r0) (O8 x.r0 y.r0) I;have M:=Kc Fm _ _ _ _ _ _ _ (l1 x.l1) (l1 y.l1) (O8 x.l1 y.l1) J;have N:=Kc Fm _ _ _ _ _ _ _ (l1 x.l0) (l1 y.l0) (O8 x.l0 y.l0) M;have O:=Kc [1] _ _ _ _ _ _ _ rfl rfl (qN x.t1 y.t1) N;have U:=Kc [1] _ _ _ _ _ _ _ rfl rfl (qN x.t0 y.t0) O;have V:=Kc Fm _ _ _ _ _ _ _ (l1 x.n1) (l1 y.n1) (O8 x.n1 y.n1) U;have Y:=Kc Fm _ _ _ _ _ _ _ (l1 x.n0) (l1 y.n0) (O8 x.n0 y.n0) V;have e2:=Kc [0] _ _ _ _ _ _ _ rfl rfl (Sq .i64 x.i y.i) Y;have e1:=Kc [0] _ _ _ _ _ _ _ rfl rfl (Sq .i64 x.l y.l) e2;have e0:=Kc [0] _ _ _ _ _ _ _ rfl rfl (Sq .i64 x.h y.h) e1;refine e0.trans (congrArg some ?_);rw[B0];simp only[Af,decide_eq_true_eq];constructor
 ·rintro⟨a,b,c,d,e,f,g,h,i,j,k,l⟩;cases x; cases y; simp_all
 ·rintro rfl; simp
theorem Tn(E:Bool)(x y:Bis):Gt gO E (DI x) (DI y)=some (.bool (decide (x=y) != E)):=by
 simp only[Gt,DI,Yhf,Ah]
attribute [push_cast] UJ UH UI Yuf Yue UG Yud Yuc Yuh Yug UL UK UF Ynn Yl0 T8 T7 Yss Ysr Ysw Ysv Ysu Yst Va U8 U9 U7 U6 Vc Vb Yno Yl1 Yqm Ywl Yq1 Yoe Ynt Ylg yp Tn Yrf
inductive Sg where
 |c (d:D)
 |g (x:Dig)
 |w (n:Nat) (l:List D)
def Sg.sz:Sg→Nat
 |.c _=>1
 |.g _=>32
 |.w n _=>n
def Sg.cs:Sg→List D
 |.c d=>[d]
 |.g x=>CY x
 |.w _ l=>l
def C9:List Sg→List D
 |[]=>[]
 |s::r=>s.cs++C9 r
def Jx:List Sg→Prop
 |[]=>True
 |.c _::r=>Jx r
 |.g _::r=>Jx r
 |.w n l::r=>l.length=n∧Jx r
def H2:List Sg→Nat
 |[]=>0
 |s::r=>s.sz+H2 r
theorem Ka:∀ A B:List Sg,C9 (A++B)=C9 A++C9 B
 |[],_=>rfl
 |s::A,B=>by rw[Ae,C9,C9,Ka A B,Ag]
theorem Rs:∀ {A B:List Sg},Jx (A++B)→Jx A∧Jx B
 |[],_,h=>⟨trivial,h⟩
 |.c _::A,_,h=>Rs (A:=A) h
 |.g _::A,_,h=>Rs (A:=A) h
 |.w _ _::A,_,h=>⟨⟨h.1,(Rs (A:=A) h.2).1⟩,(Rs (A:=A) h.2).2⟩
theorem Ng:∀ {A:List Sg},Jx A→(C9 A).length=H2 A
 |[],_=>rfl
 |.c d::A,h=>by rw[C9,H2,Ab,Ng (A:=A) h]; rfl
 |.g x::A,h=>by rw[C9,H2,Ab,Ng (A:=A) h]; simp[Sg.cs,Sg.sz,DJ]
 |.w n l::A,h=>by rw[C9,H2,Ab,Ng (A:=A) h.2]; simp[Sg.cs,Sg.sz,h.1]
def S0:List Sg→Nat→Option (List Sg×List Sg)
 |l,0=>some ([],l)
 |[],_+1=>none
 |s::r,n+1=>match Nat.ble s.sz (n+1)with
  |true=>match S0 r (n+1 - s.sz)with
   |some (A,B)=>some (s::A,B)
   |none=>none
  |false=>none
theorem fh:∀ (l:List Sg) (n:Nat) (A B:List Sg),S0 l n=some (A,B)→l=A++B∧H2 A=n
 |l,0,A,B,h=>by
  have h:some (([]:List Sg),l)=some (A,B):=by cases l <;> exact h
  simp only[AN,AA]at h;obtain⟨rfl,rfl⟩:=h;exact⟨rfl,rfl⟩
 |[],n+1,A,B,h=>by cases h
 |s::r,n+1,A,B,h=>by
  simp only[S0]at h
  split at h
  case h_2=>cases h
  rename_i hb
  split at h
  case h_2=>cases h
  rename_i M N E;simp only[AN,AA]at h;obtain⟨rfl,rfl⟩:=h;obtain⟨I,J⟩:=fh r _ _ _ E;have:=Nat.le_of_ble_eq_true hb;exact⟨by rw[I]; rfl,by rw[H2,J]; omega⟩
def Rn(l:List Sg)(off n:Nat):Option (List Sg×List Sg×List Sg):=match S0 l off with
 |some (A,R)=>match S0 R n with
  |some (B,C)=>some (A,B,C)
  |none=>none
 |none=>none
variable {l:List Sg}
theorem WA{A B C:List Sg}(h:Rn l off n=some (A,B,C))(E:Jx l):C9 l=C9 A++(C9 B++C9 C)∧(C9 A).length=off∧(C9 B).length=n:=by
 unfold Rn at h
 split at h
 case h_2=>cases h
 rename_i Y R I
 split at h
 case h_2=>cases h
 rename_i B' C' J;simp only[AN,AA]at h;obtain⟨rfl,rfl,rfl⟩:=h;obtain⟨M,N⟩:=fh _ _ _ _ I;obtain⟨O,U⟩:=fh _ _ _ _ J;subst M;obtain⟨w1,w2⟩:=Rs E;subst O;obtain⟨V,w4⟩:=Rs w2;exact⟨by rw[Ka,Ka],by rw[Ng w1,N],by rw[Ng V,U]⟩
theorem II{A B C:List Sg}{sz:Nat}{cs:List D}(E:cs=C9 l)(h:Rn l off n=some (A,B,C))(I:Jx l)(J:d=.agg (C9 B)):Dq (some ⟨false,sz,cs,lent⟩) n true off=some d:=by
 obtain⟨M,N,O⟩:=WA h I;rw[E,J];exact LQ M N O
theorem Hg{A C:List Sg}{sz:Nat}{cs:List D}(E:cs=C9 l)(h:Rn l off 1=some (A,[.c d],C))(I:Jx l):Dq (some ⟨false,sz,cs,lent⟩) 1 false off=some d:=by
 obtain⟨J,M,N⟩:=WA h I;rw[E];exact IX J M
variable {X:List Sg}
theorem KQ{A B C:List Sg}{sz:Nat}{cs:List D}(I:cs=C9 l)(h:Rn l off n=some (A,B,C))(J:Jx l)(E:cs'=C9 (A++(X++C)))(hv:v.cells=C9 X)(M:(C9 X).length=n)(hc:(C9 X).all D.isCell=true) :
  DY (some ⟨false,sz,cs,false⟩) n off v=some ⟨false,sz,cs',false⟩:=by
 obtain⟨N,O,U⟩:=WA h J;rw[I,E];exact Kx N (by rw[Ka,Ka]) O U hv M hc
theorem Iu{A B C:List Sg}{cs:List D}(I:cs=C9 l)(h:Rn l off n=some (A,B,C))(J:Jx l)(E:cs'=C9 (A++(X++C)))(hv:v.cells=C9 X)(M:(C9 X).length=n)(hc:(C9 X).all D.isCell=true) :
  DF cs ((off,n,v)::r)=DF cs' r:=by
 obtain⟨N,O,U⟩:=WA h J;rw[I,E];exact IK N (by rw[Ka,Ka]) O U hv M hc
theorem Nf{p:D→Bool}(E:∀ k n,p (.int k n)=true):∀ {l:List Sg},(∀ s∈l,s.cs.all p=true)→(C9 l).all p=true
 |[],_=>rfl
 |s::l,h=>by
  rw[C9,Bw,h s (A7 ..),Nf E (fun x I=>h x (Ar _ I))]; rfl
def zI(n:Nat):List D:=CF n (.int .i64 0)
def KG:List D:=zI 4++(.slc 0 [] true::.int .i64 0::CY Dn)
def MP:List D:=(.int .i64 0::CY Dn)++(.int .i64 0::CY Dn)
def EW:List D:=zI 11++(MP++(Da Gq++(zI 3++[.slc 0 [] true])))
def EG:List D:=zI 3++((.int .i64 0::CY Dn)++(CY Dn++(CY Dn++(KG++(.slc 0 [] true::zI 5)))))
def OG:List D:=EW++(.slc 0 [] true::(zI 17++(EG++[.int .i64 0])))
def JJ:List Nat:=[0]++Fm
def P1:List Nat:=JJ++JJ
namespace Sha
def rotr(x:UInt32)(n:Nat):UInt32:=x >>> UInt32.ofNat n ||| x <<< UInt32.ofNat (32 - n)
def word(b:List UInt8)(i:Nat):UInt32:=
 (b.getD (4*i) 0).toUInt32 <<< UInt32.ofNat 24 ||| (b.getD (4*i+1) 0).toUInt32 <<< UInt32.ofNat 16 ||| (b.getD (4*i+2) 0).toUInt32 <<< UInt32.ofNat 8 ||| (b.getD (4*i+3) 0).toUInt32
def sig0(x:UInt32):UInt32:=rotr x 7 ^^^ rotr x 18 ^^^ x >>> UInt32.ofNat 3
def sig1(x:UInt32):UInt32:=rotr x 17 ^^^ rotr x 19 ^^^ x >>> UInt32.ofNat 10
def sch(b:List UInt8):Nat→List UInt32
 |0=>[]
 |n+1=>let w:=sch b n
  w++[if n<16 then word b n else w.getD (n - 16) 0+sig0 (w.getD (n - 15) 0)+w.getD (n - 7) 0+sig1 (w.getD (n - 2) 0)]
theorem sch_length(b:List UInt8):∀ n,(sch b n).length=n
 |0=>rfl
 |n+1=>by simp[sch,sch_length b n]
structure St8 where
 a:UInt32
 b:UInt32
 c:UInt32
 d:UInt32
 e:UInt32
 f:UInt32
 g:UInt32
 h:UInt32
def St8.list(s:St8):List UInt32:=[s.a,s.b,s.c,s.d,s.e,s.f,s.g,s.h]
def round(s:St8)(k w:UInt32):St8:=
 let t:=s.h+(rotr s.e 6 ^^^ rotr s.e 11 ^^^ rotr s.e 25)+(s.e &&& s.f ^^^ ~~~s.e &&& s.g)+k+w
 let u:=(rotr s.a 2 ^^^ rotr s.a 13 ^^^ rotr s.a 22)+(s.a &&& s.b ^^^ s.a &&& s.c ^^^ s.b &&& s.c)
 {a:=t+u,b:=s.a,c:=s.b,d:=s.c,e:=s.d+t,f:=s.e,g:=s.f,h:=s.g}
def K:List UInt32:=[
 0x428a2f98,0x71374491,0xb5c0fbcf,0xe9b5dba5,0x3956c25b,0x59f111f1,0x923f82a4,0xab1c5ed5,
 0xd807aa98,0x12835b01,0x243185be,0x550c7dc3,0x72be5d74,0x80deb1fe,0x9bdc06a7,0xc19bf174,
 0xe49b69c1,0xefbe4786,0x0fc19dc6,0x240ca1cc,0x2de92c6f,0x4a7484aa,0x5cb0a9dc,0x76f988da,
 0x983e5152,0xa831c66d,0xb00327c8,0xbf597fc7,0xc6e00bf3,0xd5a79147,0x06ca6351,0x14292967,
 0x27b70a85,0x2e1b2138,0x4d2c6dfc,0x53380d13,0x650a7354,0x766a0abb,0x81c2c92e,0x92722c85,
 0xa2bfe8a1,0xa81a664b,0xc24b8b70,0xc76c51a3,0xd192e819,0xd6990624,0xf40e3585,0x106aa070,
 0x19a4c116,0x1e376c08,0x2748774c,0x34b0bcb5,0x391c0cb3,0x4ed8aa4a,0x5b9cca4f,0x682e6ff3,
 0x748f82ee,0x78a5636f,0x84c87814,0x8cc70208,0x90befffa,0xa4506ceb,0xbef9a3f7,0xc67178f2]
def rounds(w:List UInt32)(s:St8):Nat→St8
 |0=>s
 |n+1=>round (rounds w s n) (K.getD n 0) (w.getD n 0)
def St8.add(s t:St8):St8:={a:=s.a+t.a,b:=s.b+t.b,c:=s.c+t.c,d:=s.d+t.d,e:=s.e+t.e,f:=s.f+t.f,g:=s.g+t.g,h:=s.h+t.h}
def block(s:St8)(b:List UInt8):St8:=s.add (rounds (sch b 64) s 64)
def H0:St8:=⟨0x6a09e667,0xbb67ae85,0x3c6ef372,0xa54ff53a,0x510e527f,0x9b05688c,0x1f83d9ab,0x5be0cd19⟩
def lenB(q:UInt64):Nat→List UInt8
 |0=>[]
 |n+1=>lenB q n++[(q >>> CW (56 - 8*n)).toUInt8]
def zeros(n:Nat):Nat:=(119 - n % 64) % 64
def padded(m:List UInt8):List UInt8:=m++[128]++CF (zeros m.length) 0++lenB (CW m.length*8) 8
def blocks(s:St8):Nat→List UInt8→St8
 |0,_=>s
 |n+1,m=>blocks (block s (m.take 64)) n (m.drop 64)
def outB(l:List UInt32):Nat→List UInt8
 |0=>[]
 |n+1=>outB l n++[(l.getD (n / 4) 0 >>> UInt32.ofNat (24 - 8*(n % 4))).toUInt8]
theorem outB_length(l:List UInt32):∀ n,(outB l n).length=n
 |0=>rfl
 |n+1=>by simp[outB,outB_length l n]
theorem lenB_length(q:UInt64):∀ n,(lenB q n).length=n
 |0=>rfl
 |n+1=>by simp[lenB,lenB_length q n]
theorem St8.list_inj{s t:St8}(h:s.list=t.list):s=t:=by
 cases s; cases t;simpa[St8.list]using h
theorem St8.list_iff{s t:St8}:s.list=t.list↔s=t:=⟨St8.list_inj,fun h=>by rw[h]⟩
theorem St8.list_length(s:St8):s.list.length=8:=rfl
end Sha
theorem Yvi:DF ((zW 8).map wD) [(0,1,.int .u32 1779033703),(1,1,.int .u32 3144134277),(2,1,.int .u32 1013904242),(3,1,.int .u32 2773480762),(4,1,.int .u32 1359893119),(5,1,.int .u32 2600822924),(6,1,.int .u32 528734635),(7,1,.int .u32 1541459225)]=some (Sha.H0.list.map wD):=by kernel_rfl
def K3(m:List UInt8):Dig:=⟨Sha.outB (Sha.blocks Sha.H0 ((Sha.padded m).length / 64) (Sha.padded m)).list 32,Sha.outB_length _ 32⟩
def Yow(t b:List UInt8):List UInt8:=UInt8.ofNat (t.take 255).length::(t.take 255++b)
def Qp(t b:List UInt8):Dig:=K3 (Yow t b)
end Go.Proofs.YtijnglngaogdjaaGreatDoor.PI
