/-
  SHA-256 and tagged digests over lists of bytes, in plain Lean.
  Conditions: none; these are definitions and lemmas.
-/
import Derived.Test.YtijnglngaogdjaaGreatDoorEngHe
import Derived.Test.YtijnglngaogdjaaGreatDoorEngI2
import Derived.KernelRfl
open List renaming replicate→CQ
open UInt64 renaming ofNat→C7
namespace Go.Proofs.YtijnglngaogdjaaGreatDoor.PI
open Go
set_option linter.unusedSimpArgs false
set_option linter.unusedVariables false
variable {off:Nat}{A B C xs:List D}
theorem ff(E:A.length=off)(I:B.length=xs.length):FU (A++(B++C)) off xs=A++(xs++C):=by
 subst E;rw[FU,Ck (Ay _),Bj,← I,CF,List.drop_eq_nil_of_le (by omega),Aj,Ak]
 congr 2
 rw[show A.length+B.length - A.length=B.length by omega,CF,Bg,BG];rfl
variable {n:Nat}
theorem dO(E:A.length=off)(I:B.length=n):((A++(B++C)).drop off).take n=B:=by
 subst E; subst I;rw[CF,Bg,BG];simp
variable {lent:Bool}
theorem MN{cs:List D}{sz:Nat}(h:cs=A++(B++C))(E:A.length=off)(I:B.length=n):DA (some ⟨false,sz,cs,lent⟩) n true off=some (.agg B):=by
 subst h;simp only[DA,Bp,dO E I,Bool.not_true,Bool.false_and,Ap,if_false,Av,Bu];rw[if_pos (by simp[E,I])];rfl
variable {d:D}
theorem Jp{cs:List D}{sz:Nat}(h:cs=A++(d::C))(E:A.length=off):DA (some ⟨false,sz,cs,lent⟩) 1 false off=some d:=by
 subst h;have:=dO (A:=A) (B:=[d]) (C:=C) (off:=off) (n:=1) E rfl;simp only[Ae,Aj]at this;simp only[DA,Bp,this,Av,Bu,bne_self_eq_false,Ap,if_false];rw[if_pos (by simp[E])];rfl
variable {v:D}{cs':List D}
theorem KG{cs:List D}{sz:Nat}(h:cs=A++(B++C))(M:cs'=A++(xs++C))(E:A.length=off)(I:B.length=n)(hv:v.cells=xs)(J:xs.length=n)(hc:xs.all D.isCell=true) :
  DT (some ⟨false,sz,cs,false⟩) n off v=some ⟨false,sz,cs',false⟩:=by
 subst h; subst M;simp only[DT,Bp,hv,hc,ff E (I.trans J.symm)];rw[if_pos (by simp[E,I,J])]
variable {r:List (Nat×Nat×D)}
theorem Jo{cs:List D}(h:cs=A++(B++C))(M:cs'=A++(xs++C))(E:A.length=off)(I:B.length=n)(hv:v.cells=xs)(J:xs.length=n)(hc:xs.all D.isCell=true) :
  DN cs ((off,n,v)::r)=DN cs' r:=by
 subst h; subst M;simp only[DN,hv,hc,ff E (I.trans J.symm)];rw[if_pos (by simp[E,I,J])]
theorem p5{cs:List D}(h:cs=A++(B++C))(E:A.length=off)(I:B.length=n):Nu off n true (.agg cs)=some (.agg B):=by
 subst h;simp only[Nu,dO E I];rw[if_pos (by simp[E,I])];rfl
theorem Yg5{cs:List D}(h:cs=A++(d::C))(E:A.length=off):Nu off 1 false (.agg cs)=some d:=by
 subst h;have:=dO (A:=A) (B:=[d]) (C:=C) (off:=off) (n:=1) E rfl;simp only[Ae,Aj]at this;simp only[Nu,this];rw[if_pos (by simp[E])];rfl
theorem Lv:∀ (E J:List Nat) (a1 M b1 U:List D) (x y:Bool),a1.length=E.length→b1.length=E.length→E9 E a1 b1=some x→E9 J M U=some y→E9 (E++J) (a1++M) (b1++U)=some (x && y)
 |[],J,[],M,[],U,x,y,_,_,I,V=>by
  simp only[E9,Db]at I;subst I;simpa using V
 |[],_,_::_,_,_,_,_,_,h,_,_,_=>by cases h
 |[],_,[],_,_::_,_,_,_,_,h,_,_=>by cases h
 |k::E,J,[],M,b1,U,x,y,h,_,_,_=>by cases h
 |k::E,J,a::a1,M,[],U,x,y,_,h,_,_=>by cases h
 |k::E,J,a::a1,M,b::b1,U,x,y,h,Y,I,V=>by
  simp only[E9]at I
  split at I
  ·rename_i u v hu hv;simp only[Db]at I;subst I;have:=Lv E J a1 M b1 U v y (by simpa using h) (by simpa using Y) hv V;simp only[Ae,E9,hu,this,Bool.and_assoc]
  ·cases I
theorem UN(k:IntKind)(a b:Int):E9 [0] [.int k a] [.int k b]=some (decide (a=b)):=by
 simp only[E9,Jn,if_true,BT]
 by_cases h:a=b <;> simp[h]
theorem wb(a b:Bool):E9 [1] [.bool a] [.bool b]=some (decide (a=b)):=by
 cases a <;> cases b <;> rfl
structure Bis where
 h:Int
 l:Int
 i:Int
 n0:Dig
 n1:Dig
 t0:Bool
 t1:Bool
 l0:Dig
 l1:Dig
 r0:Dig
 r1:Dig
 r:Int
 deriving DecidableEq
def Di(x:Bis):List D:=[.int .i64 x.h]++([.int .i64 x.l]++([.int .i64 x.i]++(C8 x.n0++(C8 x.n1++([.bool x.t0]++([.bool x.t1]++(C8 x.l0++(C8 x.l1++(C8 x.r0++(C8 x.r1++[.int .i64 x.r]))))))))))
def D1(x:Bis):D:=.agg (Di x)
def Gd:Bis:=⟨0,0,0,Dt,Dt,false,false,Dt,Dt,Dt,Dt,0⟩
def E4(a b:Dig):List D:=C8 a++C8 b
def TN:List D:=E4 Dt Dt
theorem Yz5:TN=E4 Dt Dt:=rfl
def FK:List Nat:=CQ 32 0
def lX:List Nat:=[0]++([0]++([0]++(FK++(FK++([1]++([1]++(FK++(FK++(FK++(FK++[0]))))))))))
theorem UO(x:Bis):(Di x).length=198:=by simp[Di,D2]
theorem Ob(a b:Dig):(E4 a b).length=64:=by simp[E4,D2]
variable {p:D→Bool}
theorem iE(E:∀ k n,p (.int k n)=true)(I:∀ b,p (.bool b)=true)(x:Bis):(Di x).all p=true:=by
 have:∀ d,(C8 d).all p=true:=fun d=>Lf (fun b=>E _ _) d;simp only[Di,Bm,A0,Ct,E,I,this,AA]
theorem gw(E:∀ k n,p (.int k n)=true)(a b:Dig):(E4 a b).all p=true:=by
 have:∀ d,(C8 d).all p=true:=fun d=>Lf (fun b=>E _ _) d;simp only[E4,Bm,this,AA]
theorem eT(x:Bis):(Di x).all Es=true:=iE (fun _ _=>rfl) (fun _=>rfl) x
theorem jS(x:Bis):(Di x).all D.isCell=true:=iE (fun _ _=>rfl) (fun _=>rfl) x
theorem sL(a b:Dig):(E4 a b).all Es=true:=gw (fun _ _=>rfl) a b
theorem dk(a b:Dig):(E4 a b).all D.isCell=true:=gw (fun _ _=>rfl) a b
theorem QG{E:List D}(h:A++B=C++E)(hl:A.length=C.length):A=C∧B=E:=A5 h hl
theorem Yyb{a b c d:Dig}(h:E4 a b=E4 c d):a=c∧b=d:=by
 obtain⟨E,I⟩:=QG h (by simp[D2]);exact⟨LV E,LV I⟩
theorem pH{x y:Bis}(h:Di x=Di y):x=y:=by
 obtain⟨xh,xl,xi,a5,a6,a7,a8,a9,ba,bb,bc,xr⟩:=x;obtain⟨yh,yl,yi,bd,be,bf,bg,bh,b1,b2,b3,yr⟩:=y;simp only[Di,Ae,Aj,Aa,D.int.injEq,true_and]at h;obtain⟨J,M,U,V⟩:=h;obtain⟨Y,h1⟩:=QG V (by simp[D2]);obtain⟨e2,E⟩:=QG h1 (by simp[D2]);simp only[Aa,D.bool.injEq]at E;obtain⟨q4,q5,h3⟩:=E;obtain⟨e3,h4⟩:=QG h3 (by simp[D2]);obtain⟨e4,h5⟩:=QG h4 (by simp[D2]);obtain⟨e5,h6⟩:=QG h5 (by simp[D2]);obtain⟨e6,I⟩:=QG h6 (by simp[D2]);simp only[Aa,D.int.injEq,true_and,and_true]at I;rw[J,M,U,q4,q5,I,LV Y,LV e2,LV e3,LV e4,LV e5,LV e6]
theorem TP{x y:Bis}:D1 x=D1 y↔x=y:=⟨fun h=>by simp only[D1,D.agg.injEq]at h; exact pH h,fun h=>by rw[h]⟩
theorem YEx{a b c d:Dig}:E4 a b=E4 c d↔a=c∧b=d:=⟨Yyb,fun⟨E,I⟩=>by rw[E,I]⟩
section
variable (x:Bis) (sz:Nat) (lent:Bool)
theorem WV:DA (some ⟨false,sz,Di x,lent⟩) 1 false 0=some (.int .i64 x.h):=Jp (A:=[]) rfl rfl
theorem WT:DA (some ⟨false,sz,Di x,lent⟩) 1 false 1=some (.int .i64 x.l):=Jp (A:=[.int .i64 x.h]) rfl rfl
theorem WU:DA (some ⟨false,sz,Di x,lent⟩) 1 false 2=some (.int .i64 x.i):=Jp (A:=[.int .i64 x.h,.int .i64 x.l]) rfl rfl
theorem YDe:DA (some ⟨false,sz,Di x,lent⟩) 32 true 3=some (C9 x.n0):=MN (A:=[.int .i64 x.h,.int .i64 x.l,.int .i64 x.i]) (B:=C8 x.n0) rfl rfl (D2 _)
theorem YDd:DA (some ⟨false,sz,Di x,lent⟩) 32 true 35=some (C9 x.n1):=MN (A:=[.int .i64 x.h,.int .i64 x.l,.int .i64 x.i]++C8 x.n0) (B:=C8 x.n1) (by simp[Di]; rfl) (by simp[D2]) (D2 _)
theorem WS:DA (some ⟨false,sz,Di x,lent⟩) 64 true 3=some (.agg (E4 x.n0 x.n1)):=MN (A:=[.int .i64 x.h,.int .i64 x.l,.int .i64 x.i]) (B:=E4 x.n0 x.n1) (by simp[Di,E4]; rfl) rfl (Ob _ _)
theorem YDc:DA (some ⟨false,sz,Di x,lent⟩) 1 false 67=some (.bool x.t0):=Jp (A:=[.int .i64 x.h,.int .i64 x.l,.int .i64 x.i]++(C8 x.n0++C8 x.n1)) (by simp[Di]; rfl) (by simp[D2])
theorem YDb:DA (some ⟨false,sz,Di x,lent⟩) 1 false 68=some (.bool x.t1):=Jp (A:=[.int .i64 x.h,.int .i64 x.l,.int .i64 x.i]++(C8 x.n0++(C8 x.n1++[.bool x.t0]))) (by simp[Di]; rfl) (by simp[D2])
theorem YDg:DA (some ⟨false,sz,Di x,lent⟩) 32 true 69=some (C9 x.l0):=MN (A:=[.int .i64 x.h,.int .i64 x.l,.int .i64 x.i]++(C8 x.n0++(C8 x.n1++[.bool x.t0,.bool x.t1]))) (B:=C8 x.l0) (by simp[Di]; rfl) (by simp[D2]) (D2 _)
theorem YDf:DA (some ⟨false,sz,Di x,lent⟩) 32 true 101=some (C9 x.l1):=MN (A:=[.int .i64 x.h,.int .i64 x.l,.int .i64 x.i]++(C8 x.n0++(C8 x.n1++([.bool x.t0,.bool x.t1]++C8 x.l0)))) (B:=C8 x.l1) (by simp[Di]; rfl) (by simp[D2]) (D2 _)
theorem WX:DA (some ⟨false,sz,Di x,lent⟩) 64 true 69=some (.agg (E4 x.l0 x.l1)):=MN (A:=[.int .i64 x.h,.int .i64 x.l,.int .i64 x.i]++(C8 x.n0++(C8 x.n1++[.bool x.t0,.bool x.t1]))) (B:=E4 x.l0 x.l1) (by simp[Di,E4]; rfl) (by simp[D2]) (Ob _ _)
theorem WW:DA (some ⟨false,sz,Di x,lent⟩) 64 true 133=some (.agg (E4 x.r0 x.r1)):=MN (A:=[.int .i64 x.h,.int .i64 x.l,.int .i64 x.i]++(C8 x.n0++(C8 x.n1++([.bool x.t0,.bool x.t1]++(C8 x.l0++C8 x.l1))))) (B:=E4 x.r0 x.r1) (C:=[.int .i64 x.r]) (by simp[Di,E4]) (by simp[D2]) (Ob _ _)
theorem WR:DA (some ⟨false,sz,Di x,lent⟩) 1 false 197=some (.int .i64 x.r):=Jp (A:=[.int .i64 x.h,.int .i64 x.l,.int .i64 x.i]++(C8 x.n0++(C8 x.n1++([.bool x.t0,.bool x.t1]++(C8 x.l0++(C8 x.l1++(C8 x.r0++C8 x.r1))))))) (C:=[]) (by simp[Di]) (by simp[D2])
theorem Ywg:DA (some ⟨false,sz,Di x,lent⟩) 198 true 0=some (D1 x):=LQ sz lent _ 198 (UO x)
theorem Yuo(y:Bis):DT (some ⟨false,sz,Di x,false⟩) 198 0 (D1 y)=some ⟨false,sz,Di y,false⟩:=LS sz _ _ 198 (UO x) (UO y) (jS y)
theorem Wi(v:Int):DT (some ⟨false,sz,Di x,false⟩) 1 2 (.int .i64 v)=some ⟨false,sz,Di {x with i:=v},false⟩:=KG (A:=[.int .i64 x.h,.int .i64 x.l]) (B:=[.int .i64 x.i]) (xs:=[.int .i64 v]) rfl rfl rfl rfl rfl rfl rfl
theorem Wh(a b:Dig):DT (some ⟨false,sz,Di x,false⟩) 64 3 (.agg (E4 a b))=some ⟨false,sz,Di {x with n0:=a,n1:=b},false⟩:=KG (A:=[.int .i64 x.h,.int .i64 x.l,.int .i64 x.i]) (B:=E4 x.n0 x.n1) (xs:=E4 a b) (by simp[Di,E4]; rfl) (by simp[Di,E4]) rfl (Ob _ _) rfl (Ob _ _) (dk a b)
theorem YBo(v:Bool):DT (some ⟨false,sz,Di x,false⟩) 1 67 (.bool v)=some ⟨false,sz,Di {x with t0:=v},false⟩:=KG (A:=[.int .i64 x.h,.int .i64 x.l,.int .i64 x.i]++(C8 x.n0++C8 x.n1)) (B:=[.bool x.t0]) (xs:=[.bool v]) (by simp[Di]; rfl) (by simp[Di]) (by simp[D2]) rfl rfl rfl rfl
theorem YBn(v:Bool):DT (some ⟨false,sz,Di x,false⟩) 1 68 (.bool v)=some ⟨false,sz,Di {x with t1:=v},false⟩:=KG (A:=[.int .i64 x.h,.int .i64 x.l,.int .i64 x.i]++(C8 x.n0++(C8 x.n1++[.bool x.t0]))) (B:=[.bool x.t1]) (xs:=[.bool v]) (by simp[Di]; rfl) (by simp[Di]) (by simp[D2]) rfl rfl rfl rfl
theorem YBs(v:Dig):DT (some ⟨false,sz,Di x,false⟩) 32 69 (C9 v)=some ⟨false,sz,Di {x with l0:=v},false⟩:=KG (A:=[.int .i64 x.h,.int .i64 x.l,.int .i64 x.i]++(C8 x.n0++(C8 x.n1++[.bool x.t0,.bool x.t1]))) (B:=C8 x.l0) (xs:=C8 v) (by simp[Di]; rfl) (by simp[Di]) (by simp[D2]) (D2 _) rfl (D2 _) (I0 v)
theorem YBr(v:Dig):DT (some ⟨false,sz,Di x,false⟩) 32 101 (C9 v)=some ⟨false,sz,Di {x with l1:=v},false⟩:=KG (A:=[.int .i64 x.h,.int .i64 x.l,.int .i64 x.i]++(C8 x.n0++(C8 x.n1++([.bool x.t0,.bool x.t1]++C8 x.l0)))) (B:=C8 x.l1) (xs:=C8 v) (by simp[Di]; rfl) (by simp[Di]) (by simp[D2]) (D2 _) rfl (D2 _) (I0 v)
theorem YBq(v:Dig):DT (some ⟨false,sz,Di x,false⟩) 32 133 (C9 v)=some ⟨false,sz,Di {x with r0:=v},false⟩:=KG (A:=[.int .i64 x.h,.int .i64 x.l,.int .i64 x.i]++(C8 x.n0++(C8 x.n1++([.bool x.t0,.bool x.t1]++(C8 x.l0++C8 x.l1))))) (B:=C8 x.r0) (xs:=C8 v) (by simp[Di]; rfl) (by simp[Di]) (by simp[D2]) (D2 _) rfl (D2 _) (I0 v)
theorem YBp(v:Dig):DT (some ⟨false,sz,Di x,false⟩) 32 165 (C9 v)=some ⟨false,sz,Di {x with r1:=v},false⟩:=KG (A:=[.int .i64 x.h,.int .i64 x.l,.int .i64 x.i]++(C8 x.n0++(C8 x.n1++([.bool x.t0,.bool x.t1]++(C8 x.l0++(C8 x.l1++C8 x.r0)))))) (B:=C8 x.r1) (C:=[.int .i64 x.r]) (xs:=C8 v) (by simp[Di]) (by simp[Di]) (by simp[D2]) (D2 _) rfl (D2 _) (I0 v)
theorem Xo(v:Int)(r:List (Nat×Nat×D)):DN (Di x) ((0,1,.int .i64 v)::r)=DN (Di {x with h:=v}) r:=Jo (A:=[]) (B:=[.int .i64 x.h]) (xs:=[.int .i64 v]) rfl rfl rfl rfl rfl rfl rfl
theorem Xm(v:Int)(r:List (Nat×Nat×D)):DN (Di x) ((1,1,.int .i64 v)::r)=DN (Di {x with l:=v}) r:=Jo (A:=[.int .i64 x.h]) (B:=[.int .i64 x.l]) (xs:=[.int .i64 v]) rfl rfl rfl rfl rfl rfl rfl
theorem Xn(v:Int)(r:List (Nat×Nat×D)):DN (Di x) ((2,1,.int .i64 v)::r)=DN (Di {x with i:=v}) r:=Jo (A:=[.int .i64 x.h,.int .i64 x.l]) (B:=[.int .i64 x.i]) (xs:=[.int .i64 v]) rfl rfl rfl rfl rfl rfl rfl
theorem Xl(a b:Dig)(r:List (Nat×Nat×D)):DN (Di x) ((3,64,.agg (E4 a b))::r)=DN (Di {x with n0:=a,n1:=b}) r:=Jo (A:=[.int .i64 x.h,.int .i64 x.l,.int .i64 x.i]) (B:=E4 x.n0 x.n1) (xs:=E4 a b) (by simp[Di,E4]; rfl) (by simp[Di,E4]) rfl (Ob _ _) rfl (Ob _ _) (dk a b)
theorem Xk(v:Int)(r:List (Nat×Nat×D)):DN (Di x) ((197,1,.int .i64 v)::r)=DN (Di {x with r:=v}) r:=Jo (A:=[.int .i64 x.h,.int .i64 x.l,.int .i64 x.i]++(C8 x.n0++(C8 x.n1++([.bool x.t0,.bool x.t1]++(C8 x.l0++(C8 x.l1++(C8 x.r0++C8 x.r1))))))) (B:=[.int .i64 x.r]) (C:=[]) (xs:=[.int .i64 v]) (by simp[Di]) (by simp[Di]) (by simp[D2]) rfl rfl rfl rfl
end
theorem Xq(a b v:Dig)(r:List (Nat×Nat×D)):DN (E4 a b) ((0,32,C9 v)::r)=DN (E4 v b) r:=Jo (A:=[]) (B:=C8 a) (xs:=C8 v) rfl rfl rfl (D2 _) rfl (D2 _) (I0 v)
theorem Xp(a b v:Dig)(r:List (Nat×Nat×D)):DN (E4 a b) ((32,32,C9 v)::r)=DN (E4 a v) r:=Jo (A:=C8 a) (B:=C8 b) (C:=[]) (xs:=C8 v) (by simp[E4]) (by simp[E4]) (D2 _) (D2 _) rfl (D2 _) (I0 v)
theorem Ywh(sz:Nat)(lent:Bool)(a b:Dig):DA (some ⟨false,sz,E4 a b,lent⟩) 64 true 0=some (.agg (E4 a b)):=LQ sz lent _ 64 (Ob _ _)
theorem Yup(sz:Nat)(a b c d:Dig):DT (some ⟨false,sz,E4 a b,false⟩) 64 0 (.agg (E4 c d))=some ⟨false,sz,E4 c d,false⟩:=LS sz _ _ 64 (Ob _ _) (Ob _ _) (dk _ _)
theorem Yzb(x:Bis):DH (D1 x)=some (Di x):=by
 simp only[DH,D1,D.cells,jS,if_true]
theorem YFq(a b:Dig):DH (.agg (E4 a b))=some (E4 a b):=by
 simp only[DH,D.cells,dk,if_true]
theorem Yzr(x:Bis):D.agg (Di x)=D1 x:=rfl
theorem zA(st:St)(x:Bis):DX st (D1 x)=some (D1 x):=Q3 st (eT x)
theorem Ywl(a b:Dig):keys (.agg (E4 a b))=[]:=Qc (sL a b)
theorem yYo(x:Bis):((Di x).all D.noRef1)=true:=iE (fun _ _=>rfl) (fun _=>rfl) x
theorem Yep(a b:Dig):((E4 a b).all D.noRef1)=true:=gw (fun _ _=>rfl) a b
theorem yYm(a:Dig):((C8 a).all D.noRef1)=true:=Lf (fun _=>rfl) a
theorem Yt4(x:Bis)(k:IntKind)(n:Int):(D.tup [D1 x,.int k n]).noRef=true:=by
 simp[D.noRef,D1,yYo,D.noRef1]
theorem Ybl(k:IntKind)(n:Int)(a c:Dig)(b:Bool):(D.tup [.int k n,.agg (E4 a c),.bool b]).noRef=true:=by
 simp[D.noRef,Yep,D.noRef1]
theorem Yk1(a b:Dig)(k:IntKind)(n:Int):(D.tup [C9 a,C9 b,.int k n]).noRef=true:=by
 simp[D.noRef,C9,yYm,D.noRef1]
theorem QT(a b:Dig):E9 FK (C8 a) (C8 b)=some (decide (a=b)):=vu a b
theorem Yo9(x y:Bis):E9 lX (Di x) (Di y)=some (decide (x=y)):=by
 have l1:∀ d:Dig,(C8 d).length=FK.length:=fun d=>by rw[D2]; rfl
 have E:=UN .i64 x.r y.r;have I:=Lv FK _ _ _ _ _ _ _ (l1 x.r1) (l1 y.r1) (QT x.r1 y.r1) E;have J:=Lv FK _ _ _ _ _ _ _ (l1 x.r0) (l1 y.r0) (QT x.r0 y.r0) I;have M:=Lv FK _ _ _ _ _ _ _ (l1 x.l1) (l1 y.l1) (QT x.l1 y.l1) J;have U:=Lv FK _ _ _ _ _ _ _ (l1 x.l0) (l1 y.l0) (QT x.l0 y.l0) M;have V:=Lv [1] _ _ _ _ _ _ _ rfl rfl (wb x.t1 y.t1) U;have Y:=Lv [1] _ _ _ _ _ _ _ rfl rfl (wb x.t0 y.t0) V;have e4:=Lv FK _ _ _ _ _ _ _ (l1 x.n1) (l1 y.n1) (QT x.n1 y.n1) Y;have e3:=Lv FK _ _ _ _ _ _ _ (l1 x.n0) (l1 y.n0) (QT x.n0 y.n0) e4;have e2:=Lv [0] _ _ _ _ _ _ _ rfl rfl (UN .i64 x.i y.i) e3;have e1:=Lv [0] _ _ _ _ _ _ _ rfl rfl (UN .i64 x.l y.l) e2;have e0:=Lv [0] _ _ _ _ _ _ _ rfl rfl (UN .i64 x.h y.h) e1;refine e0.trans (congrArg some ?_);rw[B5];simp only[Af,decide_eq_true_eq];constructor
 ·rintro⟨a,b,c,d,e,f,g,h,i,j,k,l⟩;cases x; cases y; simp_all
 ·rintro rfl; simp
theorem Vl(E:Bool)(x y:Bis):G7 lX E (D1 x) (D1 y)=some (.bool (decide (x=y) != E)):=by
 simp only[G7,D1,Yo9,Ag]
attribute [push_cast] WV WT WU YDe YDd WS YDc YDb YDg YDf WX WW WR Ywg Yuo Wi Wh YBo YBn YBs YBr YBq YBp Xo Xm Xn Xl Xk Xq Xp Ywh Yup Yzb YFq Yzr zA Ywl Yt4 Ybl Yk1 Vl Yz5
inductive Sg where
 |c (d:D)
 |g (x:Dig)
 |w (n:Nat) (l:List D)
def Sg.sz:Sg→Nat
 |.c _=>1
 |.g _=>32
 |.w n _=>n
def Sg.cs:Sg→List D
 |.c d=>[d]
 |.g x=>C8 x
 |.w _ l=>l
def Dg:List Sg→List D
 |[]=>[]
 |s::r=>s.cs++Dg r
def KN:List Sg→Prop
 |[]=>True
 |.c _::r=>KN r
 |.g _::r=>KN r
 |.w n l::r=>l.length=n∧KN r
def Jb:List Sg→Nat
 |[]=>0
 |s::r=>s.sz+Jb r
theorem Ml:∀ A B:List Sg,Dg (A++B)=Dg A++Dg B
 |[],_=>rfl
 |s::A,B=>by rw[Ae,Dg,Dg,Ml A B,Ak]
theorem Tw:∀ {A B:List Sg},KN (A++B)→KN A∧KN B
 |[],_,h=>⟨trivial,h⟩
 |.c _::A,_,h=>Tw (A:=A) h
 |.g _::A,_,h=>Tw (A:=A) h
 |.w _ _::A,_,h=>⟨⟨h.1,(Tw (A:=A) h.2).1⟩,(Tw (A:=A) h.2).2⟩
theorem OQ:∀ {A:List Sg},KN A→(Dg A).length=Jb A
 |[],_=>rfl
 |.c d::A,h=>by rw[Dg,Jb,Ab,OQ (A:=A) h]; rfl
 |.g x::A,h=>by rw[Dg,Jb,Ab,OQ (A:=A) h]; simp[Sg.cs,Sg.sz,D2]
 |.w n l::A,h=>by rw[Dg,Jb,Ab,OQ (A:=A) h.2]; simp[Sg.cs,Sg.sz,h.1]
def Yk:List Sg→Nat→Option (List Sg×List Sg)
 |l,0=>some ([],l)
 |[],_+1=>none
 |s::r,n+1=>match Nat.ble s.sz (n+1)with
  |true=>match Yk r (n+1 - s.sz)with
   |some (A,B)=>some (s::A,B)
   |none=>none
  |false=>none
theorem jG:∀ (l:List Sg) (n:Nat) (A B:List Sg),Yk l n=some (A,B)→l=A++B∧Jb A=n
 |l,0,A,B,h=>by
  have h:some (([]:List Sg),l)=some (A,B):=by cases l <;> exact h
  simp only[AN,AD]at h;obtain⟨rfl,rfl⟩:=h;exact⟨rfl,rfl⟩
 |[],n+1,A,B,h=>by cases h
 |s::r,n+1,A,B,h=>by
  simp only[Yk]at h
  split at h
  case h_2=>cases h
  rename_i hb
  split at h
  case h_2=>cases h
  rename_i M U E;simp only[AN,AD]at h;obtain⟨rfl,rfl⟩:=h;obtain⟨I,J⟩:=jG r _ _ _ E;have:=Nat.le_of_ble_eq_true hb;exact⟨by rw[I]; rfl,by rw[Jb,J]; omega⟩
def Tx(l:List Sg)(off n:Nat):Option (List Sg×List Sg×List Sg):=match Yk l off with
 |some (A,R)=>match Yk R n with
  |some (B,C)=>some (A,B,C)
  |none=>none
 |none=>none
variable {l:List Sg}
theorem YH{A B C:List Sg}(h:Tx l off n=some (A,B,C))(E:KN l):Dg l=Dg A++(Dg B++Dg C)∧(Dg A).length=off∧(Dg B).length=n:=by
 unfold Tx at h
 split at h
 case h_2=>cases h
 rename_i A' R I
 split at h
 case h_2=>cases h
 rename_i B' C' J;simp only[AN,AD]at h;obtain⟨rfl,rfl,rfl⟩:=h;obtain⟨M,U⟩:=jG _ _ _ _ I;obtain⟨V,Y⟩:=jG _ _ _ _ J;subst M;obtain⟨w1,w2⟩:=Tw E;subst V;obtain⟨w3,w4⟩:=Tw w2;exact⟨by rw[Ml,Ml],by rw[OQ w1,U],by rw[OQ w3,Y]⟩
theorem JN{A B C:List Sg}{sz:Nat}{cs:List D}(E:cs=Dg l)(h:Tx l off n=some (A,B,C))(I:KN l)(J:d=.agg (Dg B)):DA (some ⟨false,sz,cs,lent⟩) n true off=some d:=by
 obtain⟨M,U,V⟩:=YH h I;rw[E,J];exact MN M U V
theorem IZ{A C:List Sg}{sz:Nat}{cs:List D}(E:cs=Dg l)(h:Tx l off 1=some (A,[.c d],C))(I:KN l):DA (some ⟨false,sz,cs,lent⟩) 1 false off=some d:=by
 obtain⟨J,M,U⟩:=YH h I;rw[E];exact Jp J M
variable {X:List Sg}
theorem Lt{A B C:List Sg}{sz:Nat}{cs:List D}(I:cs=Dg l)(h:Tx l off n=some (A,B,C))(J:KN l)(E:cs'=Dg (A++(X++C)))(hv:v.cells=Dg X)(M:(Dg X).length=n)(hc:(Dg X).all D.isCell=true) :
  DT (some ⟨false,sz,cs,false⟩) n off v=some ⟨false,sz,cs',false⟩:=by
 obtain⟨U,V,Y⟩:=YH h J;rw[I,E];exact KG U (by rw[Ml,Ml]) V Y hv M hc
theorem IY{A B C:List Sg}{cs:List D}(I:cs=Dg l)(h:Tx l off n=some (A,B,C))(J:KN l)(E:cs'=Dg (A++(X++C)))(hv:v.cells=Dg X)(M:(Dg X).length=n)(hc:(Dg X).all D.isCell=true) :
  DN cs ((off,n,v)::r)=DN cs' r:=by
 obtain⟨U,V,Y⟩:=YH h J;rw[I,E];exact Jo U (by rw[Ml,Ml]) V Y hv M hc
theorem OP{p:D→Bool}(E:∀ k n,p (.int k n)=true):∀ {l:List Sg},(∀ s∈l,s.cs.all p=true)→(Dg l).all p=true
 |[],_=>rfl
 |s::l,h=>by
  rw[Dg,Bm,h s (Bb ..),OP E (fun x I=>h x (Ar _ I))]; rfl
def zI(n:Nat):List D:=CQ n (.int .i64 0)
def L0:List D:=zI 4++(.slc 0 [] true::.int .i64 0::C8 Dt)
def Ou:List D:=(.int .i64 0::C8 Dt)++(.int .i64 0::C8 Dt)
def Fz:List D:=zI 11++(Ou++(Di Gd++(zI 3++[.slc 0 [] true])))
def EG:List D:=zI 3++((.int .i64 0::C8 Dt)++(C8 Dt++(C8 Dt++(L0++(.slc 0 [] true::zI 5)))))
def Qy:List D:=Fz++(.slc 0 [] true::(zI 17++(EG++[.int .i64 0])))
def K2:List Nat:=[0]++FK
def RU:List Nat:=K2++K2
namespace Sha
def rotr(x:UInt32)(n:Nat):UInt32:=x >>> UInt32.ofNat n ||| x <<< UInt32.ofNat (32 - n)
def word(b:List UInt8)(i:Nat):UInt32:=
 (b.getD (4*i) 0).toUInt32 <<< UInt32.ofNat 24 ||| (b.getD (4*i+1) 0).toUInt32 <<< UInt32.ofNat 16 ||| (b.getD (4*i+2) 0).toUInt32 <<< UInt32.ofNat 8 ||| (b.getD (4*i+3) 0).toUInt32
def sig0(x:UInt32):UInt32:=rotr x 7 ^^^ rotr x 18 ^^^ x >>> UInt32.ofNat 3
def sig1(x:UInt32):UInt32:=rotr x 17 ^^^ rotr x 19 ^^^ x >>> UInt32.ofNat 10
def sch(b:List UInt8):Nat→List UInt32
 |0=>[]
 |n+1=>let w:=sch b n
  w++[if n<16 then word b n else w.getD (n - 16) 0+sig0 (w.getD (n - 15) 0)+w.getD (n - 7) 0+sig1 (w.getD (n - 2) 0)]
theorem sch_length(b:List UInt8):∀ n,(sch b n).length=n
 |0=>rfl
 |n+1=>by simp[sch,sch_length b n]
structure St8 where
 a:UInt32
 b:UInt32
 c:UInt32
 d:UInt32
 e:UInt32
 f:UInt32
 g:UInt32
 h:UInt32
def St8.list(s:St8):List UInt32:=[s.a,s.b,s.c,s.d,s.e,s.f,s.g,s.h]
def round(s:St8)(k w:UInt32):St8:=
 let t:=s.h+(rotr s.e 6 ^^^ rotr s.e 11 ^^^ rotr s.e 25)+(s.e &&& s.f ^^^ ~~~s.e &&& s.g)+k+w
 let u:=(rotr s.a 2 ^^^ rotr s.a 13 ^^^ rotr s.a 22)+(s.a &&& s.b ^^^ s.a &&& s.c ^^^ s.b &&& s.c)
 {a:=t+u,b:=s.a,c:=s.b,d:=s.c,e:=s.d+t,f:=s.e,g:=s.f,h:=s.g}
def K:List UInt32:=[
 0x428a2f98,0x71374491,0xb5c0fbcf,0xe9b5dba5,0x3956c25b,0x59f111f1,0x923f82a4,0xab1c5ed5,
 0xd807aa98,0x12835b01,0x243185be,0x550c7dc3,0x72be5d74,0x80deb1fe,0x9bdc06a7,0xc19bf174,
 0xe49b69c1,0xefbe4786,0x0fc19dc6,0x240ca1cc,0x2de92c6f,0x4a7484aa,0x5cb0a9dc,0x76f988da,
 0x983e5152,0xa831c66d,0xb00327c8,0xbf597fc7,0xc6e00bf3,0xd5a79147,0x06ca6351,0x14292967,
 0x27b70a85,0x2e1b2138,0x4d2c6dfc,0x53380d13,0x650a7354,0x766a0abb,0x81c2c92e,0x92722c85,
 0xa2bfe8a1,0xa81a664b,0xc24b8b70,0xc76c51a3,0xd192e819,0xd6990624,0xf40e3585,0x106aa070,
 0x19a4c116,0x1e376c08,0x2748774c,0x34b0bcb5,0x391c0cb3,0x4ed8aa4a,0x5b9cca4f,0x682e6ff3,
 0x748f82ee,0x78a5636f,0x84c87814,0x8cc70208,0x90befffa,0xa4506ceb,0xbef9a3f7,0xc67178f2]
def rounds(w:List UInt32)(s:St8):Nat→St8
 |0=>s
 |n+1=>round (rounds w s n) (K.getD n 0) (w.getD n 0)
def St8.add(s t:St8):St8:={a:=s.a+t.a,b:=s.b+t.b,c:=s.c+t.c,d:=s.d+t.d,e:=s.e+t.e,f:=s.f+t.f,g:=s.g+t.g,h:=s.h+t.h}
def block(s:St8)(b:List UInt8):St8:=s.add (rounds (sch b 64) s 64)
def H0:St8:=⟨0x6a09e667,0xbb67ae85,0x3c6ef372,0xa54ff53a,0x510e527f,0x9b05688c,0x1f83d9ab,0x5be0cd19⟩
def lenB(q:UInt64):Nat→List UInt8
 |0=>[]
 |n+1=>lenB q n++[(q >>> C7 (56 - 8*n)).toUInt8]
def zeros(n:Nat):Nat:=(119 - n % 64) % 64
def padded(m:List UInt8):List UInt8:=m++[128]++CQ (zeros m.length) 0++lenB (C7 m.length*8) 8
def blocks(s:St8):Nat→List UInt8→St8
 |0,_=>s
 |n+1,m=>blocks (block s (m.take 64)) n (m.drop 64)
def outB(l:List UInt32):Nat→List UInt8
 |0=>[]
 |n+1=>outB l n++[(l.getD (n / 4) 0 >>> UInt32.ofNat (24 - 8*(n % 4))).toUInt8]
theorem outB_length(l:List UInt32):∀ n,(outB l n).length=n
 |0=>rfl
 |n+1=>by simp[outB,outB_length l n]
theorem lenB_length(q:UInt64):∀ n,(lenB q n).length=n
 |0=>rfl
 |n+1=>by simp[lenB,lenB_length q n]
theorem St8.list_inj{s t:St8}(h:s.list=t.list):s=t:=by
 cases s; cases t;simpa[St8.list]using h
theorem St8.list_iff{s t:St8}:s.list=t.list↔s=t:=⟨St8.list_inj,fun h=>by rw[h]⟩
theorem St8.list_length(s:St8):s.list.length=8:=rfl
end Sha
theorem YEk:DN ((zW 8).map wD) [(0,1,.int .u32 1779033703),(1,1,.int .u32 3144134277),(2,1,.int .u32 1013904242),(3,1,.int .u32 2773480762),(4,1,.int .u32 1359893119),(5,1,.int .u32 2600822924),(6,1,.int .u32 528734635),(7,1,.int .u32 1541459225)]=some (Sha.H0.list.map wD):=by kernel_rfl
def Mu(m:List UInt8):Dig:=⟨Sha.outB (Sha.blocks Sha.H0 ((Sha.padded m).length / 64) (Sha.padded m)).list 32,Sha.outB_length _ 32⟩
def Yxm(t b:List UInt8):List UInt8:=UInt8.ofNat (t.take 255).length::(t.take 255++b)
def Sn(t b:List UInt8):Dig:=Mu (Yxm t b)
end Go.Proofs.YtijnglngaogdjaaGreatDoor.PI
