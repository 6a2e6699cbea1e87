/-
  SHA-256 and tagged digests over lists of bytes, in plain Lean.
  Conditions: none; these are definitions and lemmas.
-/
import Derived.Test.YtijnglngaogdjaaGreatDoorEngHe
import Derived.Test.YtijnglngaogdjaaGreatDoorEngI2
import Derived.KernelRfl
open List renaming replicate→CQ
open UInt64 renaming ofNat→C7
namespace Go.Proofs.YtijnglngaogdjaaGreatDoor.PI
open Go
set_option linter.unusedSimpArgs false
set_option linter.unusedVariables false
variable {off:Nat}{A B C xs:List D}
theorem eY(E:A.length=off)(I:B.length=xs.length):FM (A++(B++C)) off xs=A++(xs++C):=by
 subst E;rw[FM,Ck (Ax _),Bi,← I,CF,List.drop_eq_nil_of_le (by omega),Ao,Ap]
 congr 2
 rw[show A.length+B.length - A.length=B.length by omega,CF,Bf,BG];rfl
variable {n:Nat}
theorem dI(E:A.length=off)(I:B.length=n):((A++(B++C)).drop off).take n=B:=by
 subst E; subst I;rw[CF,Bf,BG];simp
variable {lent:Bool}
theorem Mz{cs:List D}{sz:Nat}(h:cs=A++(B++C))(E:A.length=off)(I:B.length=n):DA (some ⟨false,sz,cs,lent⟩) n true off=some (.agg B):=by
 subst h;simp only[DA,Bo,dI E I,Bool.not_true,Bool.false_and,Al,if_false,AV,Bt];rw[if_pos (by simp[E,I])];rfl
variable {d:D}
theorem I5{cs:List D}{sz:Nat}(h:cs=A++(d::C))(E:A.length=off):DA (some ⟨false,sz,cs,lent⟩) 1 false off=some d:=by
 subst h;have:=dI (A:=A) (B:=[d]) (C:=C) (off:=off) (n:=1) E rfl;simp only[Ak,Ao]at this;simp only[DA,Bo,this,AV,Bt,bne_self_eq_false,Al,if_false];rw[if_pos (by simp[E])];rfl
variable {v:D}{cs':List D}
theorem Km{cs:List D}{sz:Nat}(h:cs=A++(B++C))(M:cs'=A++(xs++C))(E:A.length=off)(I:B.length=n)(hv:v.cells=xs)(J:xs.length=n)(hc:xs.all D.isCell=true) :
  DR (some ⟨false,sz,cs,false⟩) n off v=some ⟨false,sz,cs',false⟩:=by
 subst h; subst M;simp only[DR,Bo,hv,hc,eY E (I.trans J.symm)];rw[if_pos (by simp[E,I,J])]
variable {r:List (Nat×Nat×D)}
theorem I4{cs:List D}(h:cs=A++(B++C))(M:cs'=A++(xs++C))(E:A.length=off)(I:B.length=n)(hv:v.cells=xs)(J:xs.length=n)(hc:xs.all D.isCell=true) :
  DL cs ((off,n,v)::r)=DL cs' r:=by
 subst h; subst M;simp only[DL,hv,hc,eY E (I.trans J.symm)];rw[if_pos (by simp[E,I,J])]
theorem pZ{cs:List D}(h:cs=A++(B++C))(E:A.length=off)(I:B.length=n):Nj off n true (.agg cs)=some (.agg B):=by
 subst h;simp only[Nj,dI E I];rw[if_pos (by simp[E,I])];rfl
theorem Yg3{cs:List D}(h:cs=A++(d::C))(E:A.length=off):Nj off 1 false (.agg cs)=some d:=by
 subst h;have:=dI (A:=A) (B:=[d]) (C:=C) (off:=off) (n:=1) E rfl;simp only[Ak,Ao]at this;simp only[Nj,this];rw[if_pos (by simp[E])];rfl
theorem Ld:∀ (E J:List Nat) (a1 M b1 U:List D) (x y:Bool),a1.length=E.length→b1.length=E.length→E0 E a1 b1=some x→E0 J M U=some y→E0 (E++J) (a1++M) (b1++U)=some (x && y)
 |[],J,[],M,[],U,x,y,_,_,I,V=>by
  simp only[E0,Db]at I;subst I;simpa using V
 |[],_,_::_,_,_,_,_,_,h,_,_,_=>by cases h
 |[],_,[],_,_::_,_,_,_,_,h,_,_=>by cases h
 |k::E,J,[],M,b1,U,x,y,h,_,_,_=>by cases h
 |k::E,J,a::a1,M,[],U,x,y,_,h,_,_=>by cases h
 |k::E,J,a::a1,M,b::b1,U,x,y,h,Y,I,V=>by
  simp only[E0]at I
  split at I
  ·rename_i u v hu hv;simp only[Db]at I;subst I;have:=Ld E J a1 M b1 U v y (by simpa using h) (by simpa using Y) hv V;simp only[Ak,E0,hu,this,Bool.and_assoc]
  ·cases I
theorem UA(k:IntKind)(a b:Int):E0 [0] [.int k a] [.int k b]=some (decide (a=b)):=by
 simp only[E0,I3,if_true,BT]
 by_cases h:a=b <;> simp[h]
theorem v9(a b:Bool):E0 [1] [.bool a] [.bool b]=some (decide (a=b)):=by
 cases a <;> cases b <;> rfl
structure Bis where
 h:Int
 l:Int
 i:Int
 n0:Dig
 n1:Dig
 t0:Bool
 t1:Bool
 l0:Dig
 l1:Dig
 r0:Dig
 r1:Dig
 r:Int
 deriving DecidableEq
def Di(x:Bis):List D:=[.int .i64 x.h]++([.int .i64 x.l]++([.int .i64 x.i]++(C8 x.n0++(C8 x.n1++([.bool x.t0]++([.bool x.t1]++(C8 x.l0++(C8 x.l1++(C8 x.r0++(C8 x.r1++[.int .i64 x.r]))))))))))
def DZ(x:Bis):D:=.agg (Di x)
def F6:Bis:=⟨0,0,0,Dt,Dt,false,false,Dt,Dt,Dt,Dt,0⟩
def EX(a b:Dig):List D:=C8 a++C8 b
def TI:List D:=EX Dt Dt
theorem Yz4:TI=EX Dt Dt:=rfl
def FD:List Nat:=CQ 32 0
def lR:List Nat:=[0]++([0]++([0]++(FD++(FD++([1]++([1]++(FD++(FD++(FD++(FD++[0]))))))))))
theorem UK(x:Bis):(Di x).length=198:=by simp[Di,D1]
theorem N5(a b:Dig):(EX a b).length=64:=by simp[EX,D1]
variable {p:D→Bool}
theorem iw(E:∀ k n,p (.int k n)=true)(I:∀ b,p (.bool b)=true)(x:Bis):(Di x).all p=true:=by
 have:∀ d,(C8 d).all p=true:=fun d=>KW (fun b=>E _ _) d;simp only[Di,Bl,AY,Ct,E,I,this,A9]
theorem gj(E:∀ k n,p (.int k n)=true)(a b:Dig):(EX a b).all p=true:=by
 have:∀ d,(C8 d).all p=true:=fun d=>KW (fun b=>E _ _) d;simp only[EX,Bl,this,A9]
theorem eO(x:Bis):(Di x).all Ep=true:=iw (fun _ _=>rfl) (fun _=>rfl) x
theorem jY(x:Bis):(Di x).all D.isCell=true:=iw (fun _ _=>rfl) (fun _=>rfl) x
theorem sL(a b:Dig):(EX a b).all Ep=true:=gj (fun _ _=>rfl) a b
theorem cV(a b:Dig):(EX a b).all D.isCell=true:=gj (fun _ _=>rfl) a b
theorem Qz{E:List D}(h:A++B=C++E)(hl:A.length=C.length):A=C∧B=E:=A3 h hl
theorem Yya{a b c d:Dig}(h:EX a b=EX c d):a=c∧b=d:=by
 obtain⟨E,I⟩:=Qz h (by simp[D1]);exact⟨LC E,LC I⟩
theorem pI{x y:Bis}(h:Di x=Di y):x=y:=by
 obtain⟨xh,xl,xi,a5,a6,a7,a8,a9,ba,bb,bc,xr⟩:=x;obtain⟨yh,yl,yi,bd,be,bf,bg,bh,b1,b2,b3,yr⟩:=y;simp only[Di,Ak,Ao,Aa,D.int.injEq,true_and]at h;obtain⟨J,M,U,V⟩:=h;obtain⟨Y,h1⟩:=Qz V (by simp[D1]);obtain⟨e2,E⟩:=Qz h1 (by simp[D1]);simp only[Aa,D.bool.injEq]at E;obtain⟨q4,q5,h3⟩:=E;obtain⟨e3,h4⟩:=Qz h3 (by simp[D1]);obtain⟨e4,h5⟩:=Qz h4 (by simp[D1]);obtain⟨e5,h6⟩:=Qz h5 (by simp[D1]);obtain⟨e6,I⟩:=Qz h6 (by simp[D1]);simp only[Aa,D.int.injEq,true_and,and_true]at I;rw[J,M,U,q4,q5,I,LC Y,LC e2,LC e3,LC e4,LC e5,LC e6]
theorem TK{x y:Bis}:DZ x=DZ y↔x=y:=⟨fun h=>by simp only[DZ,D.agg.injEq]at h; exact pI h,fun h=>by rw[h]⟩
theorem YEx{a b c d:Dig}:EX a b=EX c d↔a=c∧b=d:=⟨Yya,fun⟨E,I⟩=>by rw[E,I]⟩
section
variable (x:Bis) (sz:Nat) (lent:Bool)
theorem WO:DA (some ⟨false,sz,Di x,lent⟩) 1 false 0=some (.int .i64 x.h):=I5 (A:=[]) rfl rfl
theorem WM:DA (some ⟨false,sz,Di x,lent⟩) 1 false 1=some (.int .i64 x.l):=I5 (A:=[.int .i64 x.h]) rfl rfl
theorem WN:DA (some ⟨false,sz,Di x,lent⟩) 1 false 2=some (.int .i64 x.i):=I5 (A:=[.int .i64 x.h,.int .i64 x.l]) rfl rfl
theorem YDe:DA (some ⟨false,sz,Di x,lent⟩) 32 true 3=some (C9 x.n0):=Mz (A:=[.int .i64 x.h,.int .i64 x.l,.int .i64 x.i]) (B:=C8 x.n0) rfl rfl (D1 _)
theorem YDd:DA (some ⟨false,sz,Di x,lent⟩) 32 true 35=some (C9 x.n1):=Mz (A:=[.int .i64 x.h,.int .i64 x.l,.int .i64 x.i]++C8 x.n0) (B:=C8 x.n1) (by simp[Di]; rfl) (by simp[D1]) (D1 _)
theorem WL:DA (some ⟨false,sz,Di x,lent⟩) 64 true 3=some (.agg (EX x.n0 x.n1)):=Mz (A:=[.int .i64 x.h,.int .i64 x.l,.int .i64 x.i]) (B:=EX x.n0 x.n1) (by simp[Di,EX]; rfl) rfl (N5 _ _)
theorem YDc:DA (some ⟨false,sz,Di x,lent⟩) 1 false 67=some (.bool x.t0):=I5 (A:=[.int .i64 x.h,.int .i64 x.l,.int .i64 x.i]++(C8 x.n0++C8 x.n1)) (by simp[Di]; rfl) (by simp[D1])
theorem YDb:DA (some ⟨false,sz,Di x,lent⟩) 1 false 68=some (.bool x.t1):=I5 (A:=[.int .i64 x.h,.int .i64 x.l,.int .i64 x.i]++(C8 x.n0++(C8 x.n1++[.bool x.t0]))) (by simp[Di]; rfl) (by simp[D1])
theorem YDg:DA (some ⟨false,sz,Di x,lent⟩) 32 true 69=some (C9 x.l0):=Mz (A:=[.int .i64 x.h,.int .i64 x.l,.int .i64 x.i]++(C8 x.n0++(C8 x.n1++[.bool x.t0,.bool x.t1]))) (B:=C8 x.l0) (by simp[Di]; rfl) (by simp[D1]) (D1 _)
theorem YDf:DA (some ⟨false,sz,Di x,lent⟩) 32 true 101=some (C9 x.l1):=Mz (A:=[.int .i64 x.h,.int .i64 x.l,.int .i64 x.i]++(C8 x.n0++(C8 x.n1++([.bool x.t0,.bool x.t1]++C8 x.l0)))) (B:=C8 x.l1) (by simp[Di]; rfl) (by simp[D1]) (D1 _)
theorem WR:DA (some ⟨false,sz,Di x,lent⟩) 64 true 69=some (.agg (EX x.l0 x.l1)):=Mz (A:=[.int .i64 x.h,.int .i64 x.l,.int .i64 x.i]++(C8 x.n0++(C8 x.n1++[.bool x.t0,.bool x.t1]))) (B:=EX x.l0 x.l1) (by simp[Di,EX]; rfl) (by simp[D1]) (N5 _ _)
theorem WQ:DA (some ⟨false,sz,Di x,lent⟩) 64 true 133=some (.agg (EX x.r0 x.r1)):=Mz (A:=[.int .i64 x.h,.int .i64 x.l,.int .i64 x.i]++(C8 x.n0++(C8 x.n1++([.bool x.t0,.bool x.t1]++(C8 x.l0++C8 x.l1))))) (B:=EX x.r0 x.r1) (C:=[.int .i64 x.r]) (by simp[Di,EX]) (by simp[D1]) (N5 _ _)
theorem WK:DA (some ⟨false,sz,Di x,lent⟩) 1 false 197=some (.int .i64 x.r):=I5 (A:=[.int .i64 x.h,.int .i64 x.l,.int .i64 x.i]++(C8 x.n0++(C8 x.n1++([.bool x.t0,.bool x.t1]++(C8 x.l0++(C8 x.l1++(C8 x.r0++C8 x.r1))))))) (C:=[]) (by simp[Di]) (by simp[D1])
theorem Ywf:DA (some ⟨false,sz,Di x,lent⟩) 198 true 0=some (DZ x):=Lz sz lent _ 198 (UK x)
theorem Yun(y:Bis):DR (some ⟨false,sz,Di x,false⟩) 198 0 (DZ y)=some ⟨false,sz,Di y,false⟩:=Lx sz _ _ 198 (UK x) (UK y) (jY y)
theorem Wb(v:Int):DR (some ⟨false,sz,Di x,false⟩) 1 2 (.int .i64 v)=some ⟨false,sz,Di {x with i:=v},false⟩:=Km (A:=[.int .i64 x.h,.int .i64 x.l]) (B:=[.int .i64 x.i]) (xs:=[.int .i64 v]) rfl rfl rfl rfl rfl rfl rfl
theorem Wa(a b:Dig):DR (some ⟨false,sz,Di x,false⟩) 64 3 (.agg (EX a b))=some ⟨false,sz,Di {x with n0:=a,n1:=b},false⟩:=Km (A:=[.int .i64 x.h,.int .i64 x.l,.int .i64 x.i]) (B:=EX x.n0 x.n1) (xs:=EX a b) (by simp[Di,EX]; rfl) (by simp[Di,EX]) rfl (N5 _ _) rfl (N5 _ _) (cV a b)
theorem YBn(v:Bool):DR (some ⟨false,sz,Di x,false⟩) 1 67 (.bool v)=some ⟨false,sz,Di {x with t0:=v},false⟩:=Km (A:=[.int .i64 x.h,.int .i64 x.l,.int .i64 x.i]++(C8 x.n0++C8 x.n1)) (B:=[.bool x.t0]) (xs:=[.bool v]) (by simp[Di]; rfl) (by simp[Di]) (by simp[D1]) rfl rfl rfl rfl
theorem YBm(v:Bool):DR (some ⟨false,sz,Di x,false⟩) 1 68 (.bool v)=some ⟨false,sz,Di {x with t1:=v},false⟩:=Km (A:=[.int .i64 x.h,.int .i64 x.l,.int .i64 x.i]++(C8 x.n0++(C8 x.n1++[.bool x.t0]))) (B:=[.bool x.t1]) (xs:=[.bool v]) (by simp[Di]; rfl) (by simp[Di]) (by simp[D1]) rfl rfl rfl rfl
theorem YBr(v:Dig):DR (some ⟨false,sz,Di x,false⟩) 32 69 (C9 v)=some ⟨false,sz,Di {x with l0:=v},false⟩:=Km (A:=[.int .i64 x.h,.int .i64 x.l,.int .i64 x.i]++(C8 x.n0++(C8 x.n1++[.bool x.t0,.bool x.t1]))) (B:=C8 x.l0) (xs:=C8 v) (by simp[Di]; rfl) (by simp[Di]) (by simp[D1]) (D1 _) rfl (D1 _) (IF v)
theorem YBq(v:Dig):DR (some ⟨false,sz,Di x,false⟩) 32 101 (C9 v)=some ⟨false,sz,Di {x with l1:=v},false⟩:=Km (A:=[.int .i64 x.h,.int .i64 x.l,.int .i64 x.i]++(C8 x.n0++(C8 x.n1++([.bool x.t0,.bool x.t1]++C8 x.l0)))) (B:=C8 x.l1) (xs:=C8 v) (by simp[Di]; rfl) (by simp[Di]) (by simp[D1]) (D1 _) rfl (D1 _) (IF v)
theorem YBp(v:Dig):DR (some ⟨false,sz,Di x,false⟩) 32 133 (C9 v)=some ⟨false,sz,Di {x with r0:=v},false⟩:=Km (A:=[.int .i64 x.h,.int .i64 x.l,.int .i64 x.i]++(C8 x.n0++(C8 x.n1++([.bool x.t0,.bool x.t1]++(C8 x.l0++C8 x.l1))))) (B:=C8 x.r0) (xs:=C8 v) (by simp[Di]; rfl) (by simp[Di]) (by simp[D1]) (D1 _) rfl (D1 _) (IF v)
theorem YBo(v:Dig):DR (some ⟨false,sz,Di x,false⟩) 32 165 (C9 v)=some ⟨false,sz,Di {x with r1:=v},false⟩:=Km (A:=[.int .i64 x.h,.int .i64 x.l,.int .i64 x.i]++(C8 x.n0++(C8 x.n1++([.bool x.t0,.bool x.t1]++(C8 x.l0++(C8 x.l1++C8 x.r0)))))) (B:=C8 x.r1) (C:=[.int .i64 x.r]) (xs:=C8 v) (by simp[Di]) (by simp[Di]) (by simp[D1]) (D1 _) rfl (D1 _) (IF v)
theorem Xi(v:Int)(r:List (Nat×Nat×D)):DL (Di x) ((0,1,.int .i64 v)::r)=DL (Di {x with h:=v}) r:=I4 (A:=[]) (B:=[.int .i64 x.h]) (xs:=[.int .i64 v]) rfl rfl rfl rfl rfl rfl rfl
theorem Xg(v:Int)(r:List (Nat×Nat×D)):DL (Di x) ((1,1,.int .i64 v)::r)=DL (Di {x with l:=v}) r:=I4 (A:=[.int .i64 x.h]) (B:=[.int .i64 x.l]) (xs:=[.int .i64 v]) rfl rfl rfl rfl rfl rfl rfl
theorem Xh(v:Int)(r:List (Nat×Nat×D)):DL (Di x) ((2,1,.int .i64 v)::r)=DL (Di {x with i:=v}) r:=I4 (A:=[.int .i64 x.h,.int .i64 x.l]) (B:=[.int .i64 x.i]) (xs:=[.int .i64 v]) rfl rfl rfl rfl rfl rfl rfl
theorem Xf(a b:Dig)(r:List (Nat×Nat×D)):DL (Di x) ((3,64,.agg (EX a b))::r)=DL (Di {x with n0:=a,n1:=b}) r:=I4 (A:=[.int .i64 x.h,.int .i64 x.l,.int .i64 x.i]) (B:=EX x.n0 x.n1) (xs:=EX a b) (by simp[Di,EX]; rfl) (by simp[Di,EX]) rfl (N5 _ _) rfl (N5 _ _) (cV a b)
theorem Xe(v:Int)(r:List (Nat×Nat×D)):DL (Di x) ((197,1,.int .i64 v)::r)=DL (Di {x with r:=v}) r:=I4 (A:=[.int .i64 x.h,.int .i64 x.l,.int .i64 x.i]++(C8 x.n0++(C8 x.n1++([.bool x.t0,.bool x.t1]++(C8 x.l0++(C8 x.l1++(C8 x.r0++C8 x.r1))))))) (B:=[.int .i64 x.r]) (C:=[]) (xs:=[.int .i64 v]) (by simp[Di]) (by simp[Di]) (by simp[D1]) rfl rfl rfl rfl
end
theorem Xk(a b v:Dig)(r:List (Nat×Nat×D)):DL (EX a b) ((0,32,C9 v)::r)=DL (EX v b) r:=I4 (A:=[]) (B:=C8 a) (xs:=C8 v) rfl rfl rfl (D1 _) rfl (D1 _) (IF v)
theorem Xj(a b v:Dig)(r:List (Nat×Nat×D)):DL (EX a b) ((32,32,C9 v)::r)=DL (EX a v) r:=I4 (A:=C8 a) (B:=C8 b) (C:=[]) (xs:=C8 v) (by simp[EX]) (by simp[EX]) (D1 _) (D1 _) rfl (D1 _) (IF v)
theorem Ywg(sz:Nat)(lent:Bool)(a b:Dig):DA (some ⟨false,sz,EX a b,lent⟩) 64 true 0=some (.agg (EX a b)):=Lz sz lent _ 64 (N5 _ _)
theorem Yuo(sz:Nat)(a b c d:Dig):DR (some ⟨false,sz,EX a b,false⟩) 64 0 (.agg (EX c d))=some ⟨false,sz,EX c d,false⟩:=Lx sz _ _ 64 (N5 _ _) (N5 _ _) (cV _ _)
theorem Yza(x:Bis):DG (DZ x)=some (Di x):=by
 simp only[DG,DZ,D.cells,jY,if_true]
theorem YFq(a b:Dig):DG (.agg (EX a b))=some (EX a b):=by
 simp only[DG,D.cells,cV,if_true]
theorem Yzq(x:Bis):D.agg (Di x)=DZ x:=rfl
theorem zx(st:St)(x:Bis):DV st (DZ x)=some (DZ x):=QU st (eO x)
theorem Ywk(a b:Dig):keys (.agg (EX a b))=[]:=Qa (sL a b)
theorem yYl(x:Bis):((Di x).all D.noRef1)=true:=iw (fun _ _=>rfl) (fun _=>rfl) x
theorem Yen(a b:Dig):((EX a b).all D.noRef1)=true:=gj (fun _ _=>rfl) a b
theorem yYj(a:Dig):((C8 a).all D.noRef1)=true:=KW (fun _=>rfl) a
theorem Yt3(x:Bis)(k:IntKind)(n:Int):(D.tup [DZ x,.int k n]).noRef=true:=by
 simp[D.noRef,DZ,yYl,D.noRef1]
theorem Ybj(k:IntKind)(n:Int)(a c:Dig)(b:Bool):(D.tup [.int k n,.agg (EX a c),.bool b]).noRef=true:=by
 simp[D.noRef,Yen,D.noRef1]
theorem Ykz(a b:Dig)(k:IntKind)(n:Int):(D.tup [C9 a,C9 b,.int k n]).noRef=true:=by
 simp[D.noRef,C9,yYj,D.noRef1]
theorem QJ(a b:Dig):E0 FD (C8 a) (C8 b)=some (decide (a=b)):=vu a b
theorem Yo9(x y:Bis):E0 lR (Di x) (Di y)=some (decide (x=y)):=by
 have l1:∀ d:Dig,(C8 d).length=FD.length:=fun d=>by rw[D1]; rfl
 have E:=UA .i64 x.r y.r;have I:=Ld FD _ _ _ _ _ _ _ (l1 x.r1) (l1 y.r1) (QJ x.r1 y.r1) E;have J:=Ld FD _ _ _ _ _ _ _ (l1 x.r0) (l1 y.r0) (QJ x.r0 y.r0) I;have M:=Ld FD _ _ _ _ _ _ _ (l1 x.l1) (l1 y.l1) (QJ x.l1 y.l1) J;have U:=Ld FD _ _ _ _ _ _ _ (l1 x.l0) (l1 y.l0) (QJ x.l0 y.l0) M;have V:=Ld [1] _ _ _ _ _ _ _ rfl rfl (v9 x.t1 y.t1) U;have Y:=Ld [1] _ _ _ _ _ _ _ rfl rfl (v9 x.t0 y.t0) V;have e4:=Ld FD _ _ _ _ _ _ _ (l1 x.n1) (l1 y.n1) (QJ x.n1 y.n1) Y;have e3:=Ld FD _ _ _ _ _ _ _ (l1 x.n0) (l1 y.n0) (QJ x.n0 y.n0) e4;have e2:=Ld [0] _ _ _ _ _ _ _ rfl rfl (UA .i64 x.i y.i) e3;have e1:=Ld [0] _ _ _ _ _ _ _ rfl rfl (UA .i64 x.l y.l) e2;have e0:=Ld [0] _ _ _ _ _ _ _ rfl rfl (UA .i64 x.h y.h) e1;refine e0.trans (congrArg some ?_);rw[B5];simp only[Ac,decide_eq_true_eq];constructor
 ·rintro⟨a,b,c,d,e,f,g,h,i,j,k,l⟩;cases x; cases y; simp_all
 ·rintro rfl; simp
theorem Ve(E:Bool)(x y:Bis):GU lR E (DZ x) (DZ y)=some (.bool (decide (x=y) != E)):=by
 simp only[GU,DZ,Yo9,Ae]
attribute [push_cast] WO WM WN YDe YDd WL YDc YDb YDg YDf WR WQ WK Ywf Yun Wb Wa YBn YBm YBr YBq YBp YBo Xi Xg Xh Xf Xe Xk Xj Ywg Yuo Yza YFq Yzq zx Ywk Yt3 Ybj Ykz Ve Yz4
inductive Sg where
 |c (d:D)
 |g (x:Dig)
 |w (n:Nat) (l:List D)
def Sg.sz:Sg→Nat
 |.c _=>1
 |.g _=>32
 |.w n _=>n
def Sg.cs:Sg→List D
 |.c d=>[d]
 |.g x=>C8 x
 |.w _ l=>l
def Dg:List Sg→List D
 |[]=>[]
 |s::r=>s.cs++Dg r
def Ks:List Sg→Prop
 |[]=>True
 |.c _::r=>Ks r
 |.g _::r=>Ks r
 |.w n l::r=>l.length=n∧Ks r
def IS:List Sg→Nat
 |[]=>0
 |s::r=>s.sz+IS r
theorem L5:∀ A B:List Sg,Dg (A++B)=Dg A++Dg B
 |[],_=>rfl
 |s::A,B=>by rw[Ak,Dg,Dg,L5 A B,Ap]
theorem Tu:∀ {A B:List Sg},Ks (A++B)→Ks A∧Ks B
 |[],_,h=>⟨trivial,h⟩
 |.c _::A,_,h=>Tu (A:=A) h
 |.g _::A,_,h=>Tu (A:=A) h
 |.w _ _::A,_,h=>⟨⟨h.1,(Tu (A:=A) h.2).1⟩,(Tu (A:=A) h.2).2⟩
theorem OI:∀ {A:List Sg},Ks A→(Dg A).length=IS A
 |[],_=>rfl
 |.c d::A,h=>by rw[Dg,IS,Ad,OI (A:=A) h]; rfl
 |.g x::A,h=>by rw[Dg,IS,Ad,OI (A:=A) h]; simp[Sg.cs,Sg.sz,D1]
 |.w n l::A,h=>by rw[Dg,IS,Ad,OI (A:=A) h.2]; simp[Sg.cs,Sg.sz,h.1]
def Yd:List Sg→Nat→Option (List Sg×List Sg)
 |l,0=>some ([],l)
 |[],_+1=>none
 |s::r,n+1=>match Nat.ble s.sz (n+1)with
  |true=>match Yd r (n+1 - s.sz)with
   |some (A,B)=>some (s::A,B)
   |none=>none
  |false=>none
theorem jC:∀ (l:List Sg) (n:Nat) (A B:List Sg),Yd l n=some (A,B)→l=A++B∧IS A=n
 |l,0,A,B,h=>by
  have h:some (([]:List Sg),l)=some (A,B):=by cases l <;> exact h
  simp only[AK,AA]at h;obtain⟨rfl,rfl⟩:=h;exact⟨rfl,rfl⟩
 |[],n+1,A,B,h=>by cases h
 |s::r,n+1,A,B,h=>by
  simp only[Yd]at h
  split at h
  case h_2=>cases h
  rename_i hb
  split at h
  case h_2=>cases h
  rename_i M U E;simp only[AK,AA]at h;obtain⟨rfl,rfl⟩:=h;obtain⟨I,J⟩:=jC r _ _ _ E;have:=Nat.le_of_ble_eq_true hb;exact⟨by rw[I]; rfl,by rw[IS,J]; omega⟩
def Tv(l:List Sg)(off n:Nat):Option (List Sg×List Sg×List Sg):=match Yd l off with
 |some (A,R)=>match Yd R n with
  |some (B,C)=>some (A,B,C)
  |none=>none
 |none=>none
variable {l:List Sg}
theorem YA{A B C:List Sg}(h:Tv l off n=some (A,B,C))(E:Ks l):Dg l=Dg A++(Dg B++Dg C)∧(Dg A).length=off∧(Dg B).length=n:=by
 unfold Tv at h
 split at h
 case h_2=>cases h
 rename_i A' R I
 split at h
 case h_2=>cases h
 rename_i B' C' J;simp only[AK,AA]at h;obtain⟨rfl,rfl,rfl⟩:=h;obtain⟨M,U⟩:=jC _ _ _ _ I;obtain⟨V,Y⟩:=jC _ _ _ _ J;subst M;obtain⟨w1,w2⟩:=Tu E;subst V;obtain⟨w3,w4⟩:=Tu w2;exact⟨by rw[L5,L5],by rw[OI w1,U],by rw[OI w3,Y]⟩
theorem Jr{A B C:List Sg}{sz:Nat}{cs:List D}(E:cs=Dg l)(h:Tv l off n=some (A,B,C))(I:Ks l)(J:d=.agg (Dg B)):DA (some ⟨false,sz,cs,lent⟩) n true off=some d:=by
 obtain⟨M,U,V⟩:=YA h I;rw[E,J];exact Mz M U V
theorem IE{A C:List Sg}{sz:Nat}{cs:List D}(E:cs=Dg l)(h:Tv l off 1=some (A,[.c d],C))(I:Ks l):DA (some ⟨false,sz,cs,lent⟩) 1 false off=some d:=by
 obtain⟨J,M,U⟩:=YA h I;rw[E];exact I5 J M
variable {X:List Sg}
theorem Lb{A B C:List Sg}{sz:Nat}{cs:List D}(I:cs=Dg l)(h:Tv l off n=some (A,B,C))(J:Ks l)(E:cs'=Dg (A++(X++C)))(hv:v.cells=Dg X)(M:(Dg X).length=n)(hc:(Dg X).all D.isCell=true) :
  DR (some ⟨false,sz,cs,false⟩) n off v=some ⟨false,sz,cs',false⟩:=by
 obtain⟨U,V,Y⟩:=YA h J;rw[I,E];exact Km U (by rw[L5,L5]) V Y hv M hc
theorem ID{A B C:List Sg}{cs:List D}(I:cs=Dg l)(h:Tv l off n=some (A,B,C))(J:Ks l)(E:cs'=Dg (A++(X++C)))(hv:v.cells=Dg X)(M:(Dg X).length=n)(hc:(Dg X).all D.isCell=true) :
  DL cs ((off,n,v)::r)=DL cs' r:=by
 obtain⟨U,V,Y⟩:=YA h J;rw[I,E];exact I4 U (by rw[L5,L5]) V Y hv M hc
theorem OH{p:D→Bool}(E:∀ k n,p (.int k n)=true):∀ {l:List Sg},(∀ s∈l,s.cs.all p=true)→(Dg l).all p=true
 |[],_=>rfl
 |s::l,h=>by
  rw[Dg,Bl,h s (Ba ..),OH E (fun x I=>h x (Am _ I))]; rfl
def zI(n:Nat):List D:=CQ n (.int .i64 0)
def LI:List D:=zI 4++(.slc 0 [] true::.int .i64 0::C8 Dt)
def Ok:List D:=(.int .i64 0::C8 Dt)++(.int .i64 0::C8 Dt)
def Fo:List D:=zI 11++(Ok++(Di F6++(zI 3++[.slc 0 [] true])))
def EB:List D:=zI 3++((.int .i64 0::C8 Dt)++(C8 Dt++(C8 Dt++(LI++(.slc 0 [] true::zI 5)))))
def Qr:List D:=Fo++(.slc 0 [] true::(zI 17++(EB++[.int .i64 0])))
def KJ:List Nat:=[0]++FD
def RN:List Nat:=KJ++KJ
namespace Sha
def rotr(x:UInt32)(n:Nat):UInt32:=x >>> UInt32.ofNat n ||| x <<< UInt32.ofNat (32 - n)
def word(b:List UInt8)(i:Nat):UInt32:=
 (b.getD (4*i) 0).toUInt32 <<< UInt32.ofNat 24 ||| (b.getD (4*i+1) 0).toUInt32 <<< UInt32.ofNat 16 ||| (b.getD (4*i+2) 0).toUInt32 <<< UInt32.ofNat 8 ||| (b.getD (4*i+3) 0).toUInt32
def sig0(x:UInt32):UInt32:=rotr x 7 ^^^ rotr x 18 ^^^ x >>> UInt32.ofNat 3
def sig1(x:UInt32):UInt32:=rotr x 17 ^^^ rotr x 19 ^^^ x >>> UInt32.ofNat 10
def sch(b:List UInt8):Nat→List UInt32
 |0=>[]
 |n+1=>let w:=sch b n
  w++[if n<16 then word b n else w.getD (n - 16) 0+sig0 (w.getD (n - 15) 0)+w.getD (n - 7) 0+sig1 (w.getD (n - 2) 0)]
theorem sch_length(b:List UInt8):∀ n,(sch b n).length=n
 |0=>rfl
 |n+1=>by simp[sch,sch_length b n]
structure St8 where
 a:UInt32
 b:UInt32
 c:UInt32
 d:UInt32
 e:UInt32
 f:UInt32
 g:UInt32
 h:UInt32
def St8.list(s:St8):List UInt32:=[s.a,s.b,s.c,s.d,s.e,s.f,s.g,s.h]
def round(s:St8)(k w:UInt32):St8:=
 let t:=s.h+(rotr s.e 6 ^^^ rotr s.e 11 ^^^ rotr s.e 25)+(s.e &&& s.f ^^^ ~~~s.e &&& s.g)+k+w
 let u:=(rotr s.a 2 ^^^ rotr s.a 13 ^^^ rotr s.a 22)+(s.a &&& s.b ^^^ s.a &&& s.c ^^^ s.b &&& s.c)
 {a:=t+u,b:=s.a,c:=s.b,d:=s.c,e:=s.d+t,f:=s.e,g:=s.f,h:=s.g}
def K:List UInt32:=[
 0x428a2f98,0x71374491,0xb5c0fbcf,0xe9b5dba5,0x3956c25b,0x59f111f1,0x923f82a4,0xab1c5ed5,
 0xd807aa98,0x12835b01,0x243185be,0x550c7dc3,0x72be5d74,0x80deb1fe,0x9bdc06a7,0xc19bf174,
 0xe49b69c1,0xefbe4786,0x0fc19dc6,0x240ca1cc,0x2de92c6f,0x4a7484aa,0x5cb0a9dc,0x76f988da,
 0x983e5152,0xa831c66d,0xb00327c8,0xbf597fc7,0xc6e00bf3,0xd5a79147,0x06ca6351,0x14292967,
 0x27b70a85,0x2e1b2138,0x4d2c6dfc,0x53380d13,0x650a7354,0x766a0abb,0x81c2c92e,0x92722c85,
 0xa2bfe8a1,0xa81a664b,0xc24b8b70,0xc76c51a3,0xd192e819,0xd6990624,0xf40e3585,0x106aa070,
 0x19a4c116,0x1e376c08,0x2748774c,0x34b0bcb5,0x391c0cb3,0x4ed8aa4a,0x5b9cca4f,0x682e6ff3,
 0x748f82ee,0x78a5636f,0x84c87814,0x8cc70208,0x90befffa,0xa4506ceb,0xbef9a3f7,0xc67178f2]
def rounds(w:List UInt32)(s:St8):Nat→St8
 |0=>s
 |n+1=>round (rounds w s n) (K.getD n 0) (w.getD n 0)
def St8.add(s t:St8):St8:={a:=s.a+t.a,b:=s.b+t.b,c:=s.c+t.c,d:=s.d+t.d,e:=s.e+t.e,f:=s.f+t.f,g:=s.g+t.g,h:=s.h+t.h}
def block(s:St8)(b:List UInt8):St8:=s.add (rounds (sch b 64) s 64)
def H0:St8:=⟨0x6a09e667,0xbb67ae85,0x3c6ef372,0xa54ff53a,0x510e527f,0x9b05688c,0x1f83d9ab,0x5be0cd19⟩
def lenB(q:UInt64):Nat→List UInt8
 |0=>[]
 |n+1=>lenB q n++[(q >>> C7 (56 - 8*n)).toUInt8]
def zeros(n:Nat):Nat:=(119 - n % 64) % 64
def padded(m:List UInt8):List UInt8:=m++[128]++CQ (zeros m.length) 0++lenB (C7 m.length*8) 8
def blocks(s:St8):Nat→List UInt8→St8
 |0,_=>s
 |n+1,m=>blocks (block s (m.take 64)) n (m.drop 64)
def outB(l:List UInt32):Nat→List UInt8
 |0=>[]
 |n+1=>outB l n++[(l.getD (n / 4) 0 >>> UInt32.ofNat (24 - 8*(n % 4))).toUInt8]
theorem outB_length(l:List UInt32):∀ n,(outB l n).length=n
 |0=>rfl
 |n+1=>by simp[outB,outB_length l n]
theorem lenB_length(q:UInt64):∀ n,(lenB q n).length=n
 |0=>rfl
 |n+1=>by simp[lenB,lenB_length q n]
theorem St8.list_inj{s t:St8}(h:s.list=t.list):s=t:=by
 cases s; cases t;simpa[St8.list]using h
theorem St8.list_iff{s t:St8}:s.list=t.list↔s=t:=⟨St8.list_inj,fun h=>by rw[h]⟩
theorem St8.list_length(s:St8):s.list.length=8:=rfl
end Sha
theorem YEk:DL ((zW 8).map wD) [(0,1,.int .u32 1779033703),(1,1,.int .u32 3144134277),(2,1,.int .u32 1013904242),(3,1,.int .u32 2773480762),(4,1,.int .u32 1359893119),(5,1,.int .u32 2600822924),(6,1,.int .u32 528734635),(7,1,.int .u32 1541459225)]=some (Sha.H0.list.map wD):=by kernel_rfl
def Mf(m:List UInt8):Dig:=⟨Sha.outB (Sha.blocks Sha.H0 ((Sha.padded m).length / 64) (Sha.padded m)).list 32,Sha.outB_length _ 32⟩
def Yxl(t b:List UInt8):List UInt8:=UInt8.ofNat (t.take 255).length::(t.take 255++b)
def Si(t b:List UInt8):Dig:=Mf (Yxl t b)
end Go.Proofs.YtijnglngaogdjaaGreatDoor.PI
