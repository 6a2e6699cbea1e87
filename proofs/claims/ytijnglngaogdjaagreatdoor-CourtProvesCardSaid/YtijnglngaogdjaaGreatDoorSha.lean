/-
  SHA-256 and tagged digests over lists of bytes, in plain Lean.
  Conditions: none; these are definitions and lemmas.
-/
import Derived.Test.YtijnglngaogdjaaGreatDoorEngHe
import Derived.Test.YtijnglngaogdjaaGreatDoorEngI2
import Derived.KernelRfl
open List renaming replicate→CQ
open UInt64 renaming ofNat→C7
set_option linter.unusedVariables false
set_option linter.unusedSimpArgs false
namespace Go.Proofs.YtijnglngaogdjaaGreatDoor.PI
open Go
set_option linter.unusedSimpArgs false
set_option linter.unusedVariables false
variable {off:Nat}{A B C xs:List D}
theorem ez(E:A.length=off)(I:B.length=xs.length):FG (A++(B++C)) off xs=A++(xs++C):=by
 subst E;rw[FG,List.take_append_of_le_length (AD _),Bj,← I,CF,List.drop_eq_nil_of_le (by omega),Ai,Aj]
 congr 2
 rw[show A.length+B.length - A.length=B.length by omega,CF,Bd,BQ];rfl
variable {n:Nat}
theorem cL(E:A.length=off)(I:B.length=n):((A++(B++C)).drop off).take n=B:=by
 subst E; subst I;rw[CF,Bd,BQ];simp
variable {lent:Bool}
theorem MC{cs:List D}{sz:Nat}(h:cs=A++(B++C))(E:A.length=off)(I:B.length=n):Dy (some ⟨false,sz,cs,lent⟩) n true off=some (.agg B):=by
 subst h;simp only[Dy,Bp,cL E I,Bool.not_true,Bool.false_and,Ao,if_false,Av,Bx];rw[if_pos (by simp[E,I])];rfl
variable {d:D}
theorem I2{cs:List D}{sz:Nat}(h:cs=A++(d::C))(E:A.length=off):Dy (some ⟨false,sz,cs,lent⟩) 1 false off=some d:=by
 subst h;have:=cL (A:=A) (B:=[d]) (C:=C) (off:=off) (n:=1) E rfl;simp only[Ae,Ai]at this;simp only[Dy,Bp,this,Av,Bx,bne_self_eq_false,Ao,if_false];rw[if_pos (by simp[E])];rfl
variable {v:D}{cs':List D}
theorem Ku{cs:List D}{sz:Nat}(h:cs=A++(B++C))(M:cs'=A++(xs++C))(E:A.length=off)(I:B.length=n)(hv:v.cells=xs)(J:xs.length=n)(hc:xs.all D.isCell=true) :
  DY (some ⟨false,sz,cs,false⟩) n off v=some ⟨false,sz,cs',false⟩:=by
 subst h; subst M;simp only[DY,Bp,hv,hc,ez E (I.trans J.symm)];rw[if_pos (by simp[E,I,J])]
variable {r:List (Nat×Nat×D)}
theorem I1{cs:List D}(h:cs=A++(B++C))(M:cs'=A++(xs++C))(E:A.length=off)(I:B.length=n)(hv:v.cells=xs)(J:xs.length=n)(hc:xs.all D.isCell=true) :
  DO cs ((off,n,v)::r)=DO cs' r:=by
 subst h; subst M;simp only[DO,hv,hc,ez E (I.trans J.symm)];rw[if_pos (by simp[E,I,J])]
theorem om{cs:List D}(h:cs=A++(B++C))(E:A.length=off)(I:B.length=n):Nj off n true (.agg cs)=some (.agg B):=by
 subst h;simp only[Nj,cL E I];rw[if_pos (by simp[E,I])];rfl
theorem Ye3{cs:List D}(h:cs=A++(d::C))(E:A.length=off):Nj off 1 false (.agg cs)=some d:=by
 subst h;have:=cL (A:=A) (B:=[d]) (C:=C) (off:=off) (n:=1) E rfl;simp only[Ae,Ai]at this;simp only[Nj,this];rw[if_pos (by simp[E])];rfl
theorem Lk:∀ (E J:List Nat) (a1 M b1 N:List D) (x y:Bool),a1.length=E.length→b1.length=E.length→EY E a1 b1=some x→EY J M N=some y→EY (E++J) (a1++M) (b1++N)=some (x && y)
 |[],J,[],M,[],N,x,y,_,_,I,O=>by
  simp only[EY,Db]at I;subst I;simpa using O
 |[],_,_::_,_,_,_,_,_,h,_,_,_=>by cases h
 |[],_,[],_,_::_,_,_,_,_,h,_,_=>by cases h
 |k::E,J,[],M,b1,N,x,y,h,_,_,_=>by cases h
 |k::E,J,a::a1,M,[],N,x,y,_,h,_,_=>by cases h
 |k::E,J,a::a1,M,b::b1,N,x,y,h,U,I,O=>by
  simp only[EY]at I
  split at I
  ·rename_i u v hu hv;simp only[Db]at I;subst I;have:=Lk E J a1 M b1 N v y (by simpa using h) (by simpa using U) hv O;simp only[Ae,EY,hu,this,Bool.and_assoc]
  ·cases I
theorem Uq(k:IntKind)(a b:Int):EY [0] [.int k a] [.int k b]=some (decide (a=b)):=by
 simp only[EY,I0,if_true,BU]
 by_cases h:a=b <;> simp[h]
theorem tR(a b:Bool):EY [1] [.bool a] [.bool b]=some (decide (a=b)):=by
 cases a <;> cases b <;> rfl
structure Bis where
 h:Int
 l:Int
 i:Int
 n0:Dig
 n1:Dig
 t0:Bool
 t1:Bool
 l0:Dig
 l1:Dig
 r0:Dig
 r1:Dig
 r:Int
 deriving DecidableEq
def Di(x:Bis):List D:=[.int .i64 x.h]++([.int .i64 x.l]++([.int .i64 x.i]++(C8 x.n0++(C8 x.n1++([.bool x.t0]++([.bool x.t1]++(C8 x.l0++(C8 x.l1++(C8 x.r0++(C8 x.r1++[.int .i64 x.r]))))))))))
def Ea(x:Bis):D:=.agg (Di x)
def Gz:Bis:=⟨0,0,0,Du,Du,false,false,Du,Du,Du,Du,0⟩
def E5(a b:Dig):List D:=C8 a++C8 b
def Tv:List D:=E5 Du Du
theorem Yxg:Tv=E5 Du Du:=rfl
def Fg:List Nat:=CQ 32 0
def ky:List Nat:=[0]++([0]++([0]++(Fg++(Fg++([1]++([1]++(Fg++(Fg++(Fg++(Fg++[0]))))))))))
theorem Ux(x:Bis):(Di x).length=198:=by simp[Di,DX]
theorem NU(a b:Dig):(E5 a b).length=64:=by simp[E5,DX]
variable {p:D→Bool}
theorem gU(E:∀ k n,p (.int k n)=true)(I:∀ b,p (.bool b)=true)(x:Bis):(Di x).all p=true:=by
 have:∀ d,(C8 d).all p=true:=fun d=>Lh (fun b=>E _ _) d;simp only[Di,Bm,AZ,Ct,E,I,this,AA]
theorem fT(E:∀ k n,p (.int k n)=true)(a b:Dig):(E5 a b).all p=true:=by
 have:∀ d,(C8 d).all p=true:=fun d=>Lh (fun b=>E _ _) d;simp only[E5,Bm,this,AA]
theorem yY8(x:Bis):(Di x).all EJ=true:=gU (fun _ _=>rfl) (fun _=>rfl) x
theorem iT(x:Bis):(Di x).all D.isCell=true:=gU (fun _ _=>rfl) (fun _=>rfl) x
theorem qE(a b:Dig):(E5 a b).all EJ=true:=fT (fun _ _=>rfl) a b
theorem bW(a b:Dig):(E5 a b).all D.isCell=true:=fT (fun _ _=>rfl) a b
theorem RW{E:List D}(h:A++B=C++E)(hl:A.length=C.length):A=C∧B=E:=A5 h hl
theorem ot{x y:Bis}(h:Di x=Di y):x=y:=by
 obtain⟨xh,xl,xi,a3,a4,a5,a6,a7,a8,a9,ba,xr⟩:=x;obtain⟨yh,yl,yi,bb,bc,bd,be,bf,bg,bh,b1,yr⟩:=y;simp only[Di,Ae,Ai,Aa,D.int.injEq,true_and]at h;obtain⟨J,M,N,O⟩:=h;obtain⟨U,V⟩:=RW O (by simp[DX]);obtain⟨Y,E⟩:=RW V (by simp[DX]);simp only[Aa,D.bool.injEq]at E;obtain⟨q4,q5,h3⟩:=E;obtain⟨e3,h4⟩:=RW h3 (by simp[DX]);obtain⟨e4,h5⟩:=RW h4 (by simp[DX]);obtain⟨e5,h6⟩:=RW h5 (by simp[DX]);obtain⟨e6,I⟩:=RW h6 (by simp[DX]);simp only[Aa,D.int.injEq,true_and,and_true]at I;rw[J,M,N,q4,q5,I,ME U,ME Y,ME e3,ME e4,ME e5,ME e6]
theorem bR{x y:Bis}:Ea x=Ea y↔x=y:=⟨fun h=>by simp only[Ea,D.agg.injEq]at h; exact ot h,fun h=>by rw[h]⟩
section
variable (x:Bis) (sz:Nat) (lent:Bool)
theorem Wz:Dy (some ⟨false,sz,Di x,lent⟩) 1 false 0=some (.int .i64 x.h):=I2 (A:=[]) rfl rfl
theorem Wx:Dy (some ⟨false,sz,Di x,lent⟩) 1 false 1=some (.int .i64 x.l):=I2 (A:=[.int .i64 x.h]) rfl rfl
theorem Wy:Dy (some ⟨false,sz,Di x,lent⟩) 1 false 2=some (.int .i64 x.i):=I2 (A:=[.int .i64 x.h,.int .i64 x.l]) rfl rfl
theorem YAi:Dy (some ⟨false,sz,Di x,lent⟩) 32 true 3=some (C9 x.n0):=MC (A:=[.int .i64 x.h,.int .i64 x.l,.int .i64 x.i]) (B:=C8 x.n0) rfl rfl (DX _)
theorem YAh:Dy (some ⟨false,sz,Di x,lent⟩) 32 true 35=some (C9 x.n1):=MC (A:=[.int .i64 x.h,.int .i64 x.l,.int .i64 x.i]++C8 x.n0) (B:=C8 x.n1) (by simp[Di]; rfl) (by simp[DX]) (DX _)
theorem Ww:Dy (some ⟨false,sz,Di x,lent⟩) 64 true 3=some (.agg (E5 x.n0 x.n1)):=MC (A:=[.int .i64 x.h,.int .i64 x.l,.int .i64 x.i]) (B:=E5 x.n0 x.n1) (by simp[Di,E5]; rfl) rfl (NU _ _)
theorem YAg:Dy (some ⟨false,sz,Di x,lent⟩) 1 false 67=some (.bool x.t0):=I2 (A:=[.int .i64 x.h,.int .i64 x.l,.int .i64 x.i]++(C8 x.n0++C8 x.n1)) (by simp[Di]; rfl) (by simp[DX])
theorem YAf:Dy (some ⟨false,sz,Di x,lent⟩) 1 false 68=some (.bool x.t1):=I2 (A:=[.int .i64 x.h,.int .i64 x.l,.int .i64 x.i]++(C8 x.n0++(C8 x.n1++[.bool x.t0]))) (by simp[Di]; rfl) (by simp[DX])
theorem YAk:Dy (some ⟨false,sz,Di x,lent⟩) 32 true 69=some (C9 x.l0):=MC (A:=[.int .i64 x.h,.int .i64 x.l,.int .i64 x.i]++(C8 x.n0++(C8 x.n1++[.bool x.t0,.bool x.t1]))) (B:=C8 x.l0) (by simp[Di]; rfl) (by simp[DX]) (DX _)
theorem YAj:Dy (some ⟨false,sz,Di x,lent⟩) 32 true 101=some (C9 x.l1):=MC (A:=[.int .i64 x.h,.int .i64 x.l,.int .i64 x.i]++(C8 x.n0++(C8 x.n1++([.bool x.t0,.bool x.t1]++C8 x.l0)))) (B:=C8 x.l1) (by simp[Di]; rfl) (by simp[DX]) (DX _)
theorem WB:Dy (some ⟨false,sz,Di x,lent⟩) 64 true 69=some (.agg (E5 x.l0 x.l1)):=MC (A:=[.int .i64 x.h,.int .i64 x.l,.int .i64 x.i]++(C8 x.n0++(C8 x.n1++[.bool x.t0,.bool x.t1]))) (B:=E5 x.l0 x.l1) (by simp[Di,E5]; rfl) (by simp[DX]) (NU _ _)
theorem WA:Dy (some ⟨false,sz,Di x,lent⟩) 64 true 133=some (.agg (E5 x.r0 x.r1)):=MC (A:=[.int .i64 x.h,.int .i64 x.l,.int .i64 x.i]++(C8 x.n0++(C8 x.n1++([.bool x.t0,.bool x.t1]++(C8 x.l0++C8 x.l1))))) (B:=E5 x.r0 x.r1) (C:=[.int .i64 x.r]) (by simp[Di,E5]) (by simp[DX]) (NU _ _)
theorem Wv:Dy (some ⟨false,sz,Di x,lent⟩) 1 false 197=some (.int .i64 x.r):=I2 (A:=[.int .i64 x.h,.int .i64 x.l,.int .i64 x.i]++(C8 x.n0++(C8 x.n1++([.bool x.t0,.bool x.t1]++(C8 x.l0++(C8 x.l1++(C8 x.r0++C8 x.r1))))))) (C:=[]) (by simp[Di]) (by simp[DX])
theorem Ytp:Dy (some ⟨false,sz,Di x,lent⟩) 198 true 0=some (Ea x):=LF sz lent _ 198 (Ux x)
theorem Yrz(y:Bis):DY (some ⟨false,sz,Di x,false⟩) 198 0 (Ea y)=some ⟨false,sz,Di y,false⟩:=L1 sz _ _ 198 (Ux x) (Ux y) (iT y)
theorem VZ(v:Int):DY (some ⟨false,sz,Di x,false⟩) 1 2 (.int .i64 v)=some ⟨false,sz,Di {x with i:=v},false⟩:=Ku (A:=[.int .i64 x.h,.int .i64 x.l]) (B:=[.int .i64 x.i]) (xs:=[.int .i64 v]) rfl rfl rfl rfl rfl rfl rfl
theorem VY(a b:Dig):DY (some ⟨false,sz,Di x,false⟩) 64 3 (.agg (E5 a b))=some ⟨false,sz,Di {x with n0:=a,n1:=b},false⟩:=Ku (A:=[.int .i64 x.h,.int .i64 x.l,.int .i64 x.i]) (B:=E5 x.n0 x.n1) (xs:=E5 a b) (by simp[Di,E5]; rfl) (by simp[Di,E5]) rfl (NU _ _) rfl (NU _ _) (bW a b)
theorem Yyu(v:Bool):DY (some ⟨false,sz,Di x,false⟩) 1 67 (.bool v)=some ⟨false,sz,Di {x with t0:=v},false⟩:=Ku (A:=[.int .i64 x.h,.int .i64 x.l,.int .i64 x.i]++(C8 x.n0++C8 x.n1)) (B:=[.bool x.t0]) (xs:=[.bool v]) (by simp[Di]; rfl) (by simp[Di]) (by simp[DX]) rfl rfl rfl rfl
theorem Yyt(v:Bool):DY (some ⟨false,sz,Di x,false⟩) 1 68 (.bool v)=some ⟨false,sz,Di {x with t1:=v},false⟩:=Ku (A:=[.int .i64 x.h,.int .i64 x.l,.int .i64 x.i]++(C8 x.n0++(C8 x.n1++[.bool x.t0]))) (B:=[.bool x.t1]) (xs:=[.bool v]) (by simp[Di]; rfl) (by simp[Di]) (by simp[DX]) rfl rfl rfl rfl
theorem Yyy(v:Dig):DY (some ⟨false,sz,Di x,false⟩) 32 69 (C9 v)=some ⟨false,sz,Di {x with l0:=v},false⟩:=Ku (A:=[.int .i64 x.h,.int .i64 x.l,.int .i64 x.i]++(C8 x.n0++(C8 x.n1++[.bool x.t0,.bool x.t1]))) (B:=C8 x.l0) (xs:=C8 v) (by simp[Di]; rfl) (by simp[Di]) (by simp[DX]) (DX _) rfl (DX _) (Jf v)
theorem Yyx(v:Dig):DY (some ⟨false,sz,Di x,false⟩) 32 101 (C9 v)=some ⟨false,sz,Di {x with l1:=v},false⟩:=Ku (A:=[.int .i64 x.h,.int .i64 x.l,.int .i64 x.i]++(C8 x.n0++(C8 x.n1++([.bool x.t0,.bool x.t1]++C8 x.l0)))) (B:=C8 x.l1) (xs:=C8 v) (by simp[Di]; rfl) (by simp[Di]) (by simp[DX]) (DX _) rfl (DX _) (Jf v)
theorem Yyw(v:Dig):DY (some ⟨false,sz,Di x,false⟩) 32 133 (C9 v)=some ⟨false,sz,Di {x with r0:=v},false⟩:=Ku (A:=[.int .i64 x.h,.int .i64 x.l,.int .i64 x.i]++(C8 x.n0++(C8 x.n1++([.bool x.t0,.bool x.t1]++(C8 x.l0++C8 x.l1))))) (B:=C8 x.r0) (xs:=C8 v) (by simp[Di]; rfl) (by simp[Di]) (by simp[DX]) (DX _) rfl (DX _) (Jf v)
theorem Yyv(v:Dig):DY (some ⟨false,sz,Di x,false⟩) 32 165 (C9 v)=some ⟨false,sz,Di {x with r1:=v},false⟩:=Ku (A:=[.int .i64 x.h,.int .i64 x.l,.int .i64 x.i]++(C8 x.n0++(C8 x.n1++([.bool x.t0,.bool x.t1]++(C8 x.l0++(C8 x.l1++C8 x.r0)))))) (B:=C8 x.r1) (C:=[.int .i64 x.r]) (xs:=C8 v) (by simp[Di]) (by simp[Di]) (by simp[DX]) (DX _) rfl (DX _) (Jf v)
theorem W1(v:Int)(r:List (Nat×Nat×D)):DO (Di x) ((0,1,.int .i64 v)::r)=DO (Di {x with h:=v}) r:=I1 (A:=[]) (B:=[.int .i64 x.h]) (xs:=[.int .i64 v]) rfl rfl rfl rfl rfl rfl rfl
theorem WZ(v:Int)(r:List (Nat×Nat×D)):DO (Di x) ((1,1,.int .i64 v)::r)=DO (Di {x with l:=v}) r:=I1 (A:=[.int .i64 x.h]) (B:=[.int .i64 x.l]) (xs:=[.int .i64 v]) rfl rfl rfl rfl rfl rfl rfl
theorem W0(v:Int)(r:List (Nat×Nat×D)):DO (Di x) ((2,1,.int .i64 v)::r)=DO (Di {x with i:=v}) r:=I1 (A:=[.int .i64 x.h,.int .i64 x.l]) (B:=[.int .i64 x.i]) (xs:=[.int .i64 v]) rfl rfl rfl rfl rfl rfl rfl
theorem WY(a b:Dig)(r:List (Nat×Nat×D)):DO (Di x) ((3,64,.agg (E5 a b))::r)=DO (Di {x with n0:=a,n1:=b}) r:=I1 (A:=[.int .i64 x.h,.int .i64 x.l,.int .i64 x.i]) (B:=E5 x.n0 x.n1) (xs:=E5 a b) (by simp[Di,E5]; rfl) (by simp[Di,E5]) rfl (NU _ _) rfl (NU _ _) (bW a b)
theorem WX(v:Int)(r:List (Nat×Nat×D)):DO (Di x) ((197,1,.int .i64 v)::r)=DO (Di {x with r:=v}) r:=I1 (A:=[.int .i64 x.h,.int .i64 x.l,.int .i64 x.i]++(C8 x.n0++(C8 x.n1++([.bool x.t0,.bool x.t1]++(C8 x.l0++(C8 x.l1++(C8 x.r0++C8 x.r1))))))) (B:=[.int .i64 x.r]) (C:=[]) (xs:=[.int .i64 v]) (by simp[Di]) (by simp[Di]) (by simp[DX]) rfl rfl rfl rfl
end
theorem W4(a b v:Dig)(r:List (Nat×Nat×D)):DO (E5 a b) ((0,32,C9 v)::r)=DO (E5 v b) r:=I1 (A:=[]) (B:=C8 a) (xs:=C8 v) rfl rfl rfl (DX _) rfl (DX _) (Jf v)
theorem W3(a b v:Dig)(r:List (Nat×Nat×D)):DO (E5 a b) ((32,32,C9 v)::r)=DO (E5 a v) r:=I1 (A:=C8 a) (B:=C8 b) (C:=[]) (xs:=C8 v) (by simp[E5]) (by simp[E5]) (DX _) (DX _) rfl (DX _) (Jf v)
theorem Ytq(sz:Nat)(lent:Bool)(a b:Dig):Dy (some ⟨false,sz,E5 a b,lent⟩) 64 true 0=some (.agg (E5 a b)):=LF sz lent _ 64 (NU _ _)
theorem Yr0(sz:Nat)(a b c d:Dig):DY (some ⟨false,sz,E5 a b,false⟩) 64 0 (.agg (E5 c d))=some ⟨false,sz,E5 c d,false⟩:=L1 sz _ _ 64 (NU _ _) (NU _ _) (bW _ _)
theorem Ywn(x:Bis):DH (Ea x)=some (Di x):=by
 simp only[DH,Ea,D.cells,iT,if_true]
theorem YCn(a b:Dig):DH (.agg (E5 a b))=some (E5 a b):=by
 simp only[DH,D.cells,bW,if_true]
theorem Yw2(x:Bis):D.agg (Di x)=Ea x:=rfl
theorem Yue(st:St)(x:Bis):DW st (Ea x)=some (Ea x):=QH st (yY8 x)
theorem Ytu(a b:Dig):keys (.agg (E5 a b))=[]:=PW (qE a b)
theorem yWy(x:Bis):((Di x).all D.noRef1)=true:=gU (fun _ _=>rfl) (fun _=>rfl) x
theorem Ycy(a b:Dig):((E5 a b).all D.noRef1)=true:=fT (fun _ _=>rfl) a b
theorem Yrg(x:Bis)(k:IntKind)(n:Int):(D.tup [Ea x,.int k n]).noRef=true:=by
 simp[D.noRef,Ea,yWy,D.noRef1]
theorem z6(k:IntKind)(n:Int)(a c:Dig)(b:Bool):(D.tup [.int k n,.agg (E5 a c),.bool b]).noRef=true:=by
 simp[D.noRef,Ycy,D.noRef1]
theorem Qu(a b:Dig):EY Fg (C8 a) (C8 b)=some (decide (a=b)):=sM a b
theorem Ymw(x y:Bis):EY ky (Di x) (Di y)=some (decide (x=y)):=by
 have l1:∀ d:Dig,(C8 d).length=Fg.length:=fun d=>by rw[DX]; rfl
 have E:=Uq .i64 x.r y.r;have I:=Lk Fg _ _ _ _ _ _ _ (l1 x.r1) (l1 y.r1) (Qu x.r1 y.r1) E;have J:=Lk Fg _ _ _ _ _ _ _ (l1 x.r0) (l1 y.r0) (Qu x.r0 y.r0) I;have M:=Lk Fg _ _ _ _ _ _ _ (l1 x.l1) (l1 y.l1) (Qu x.l1 y.l1) J;have N:=Lk Fg _ _ _ _ _ _ _ (l1 x.l0) (l1 y.l0) (Qu x.l0 y.l0) M;have O:=Lk [1] _ _ _ _ _ _ _ rfl rfl (tR x.t1 y.t1) N;have U:=Lk [1] _ _ _ _ _ _ _ rfl rfl (tR x.t0 y.t0) O;have V:=Lk Fg _ _ _ _ _ _ _ (l1 x.n1) (l1 y.n1) (Qu x.n1 y.n1) U;have Y:=Lk Fg _ _ _ _ _ _ _ (l1 x.n0) (l1 y.n0) (Qu x.n0 y.n0) V;have e2:=Lk [0] _ _ _ _ _ _ _ rfl rfl (Uq .i64 x.i y.i) Y;have e1:=Lk [0] _ _ _ _ _ _ _ rfl rfl (Uq .i64 x.l y.l) e2;have e0:=Lk [0] _ _ _ _ _ _ _ rfl rfl (Uq .i64 x.h y.h) e1;refine e0.trans (congrArg some ?_);rw[B5];simp only[Af,decide_eq_true_eq];constructor
 ·rintro⟨a,b,c,d,e,f,g,h,i,j,k,l⟩;cases x; cases y; simp_all
 ·rintro rfl; simp
theorem U4(E:Bool)(x y:Bis):GM ky E (Ea x) (Ea y)=some (.bool (decide (x=y) != E)):=by
 simp only[GM,Ea,Ymw,Ag]
attribute [push_cast] Wz Wx Wy YAi YAh Ww YAg YAf YAk YAj WB WA Wv Ytp Yrz VZ VY Yyu Yyt Yyy Yyx Yyw Yyv W1 WZ W0 WY WX W4 W3 Ytq Yr0 Ywn YCn Yw2 Yue Ytu Yrg z6 U4 Yxg
inductive Sg where
 |c (d:D)
 |g (x:Dig)
 |w (n:Nat) (l:List D)
def Sg.sz:Sg→Nat
 |.c _=>1
 |.g _=>32
 |.w n _=>n
def Sg.cs:Sg→List D
 |.c d=>[d]
 |.g x=>C8 x
 |.w _ l=>l
def Dh:List Sg→List D
 |[]=>[]
 |s::r=>s.cs++Dh r
def Kz:List Sg→Prop
 |[]=>True
 |.c _::r=>Kz r
 |.g _::r=>Kz r
 |.w n l::r=>l.length=n∧Kz r
def II:List Sg→Nat
 |[]=>0
 |s::r=>s.sz+II r
theorem L7:∀ A B:List Sg,Dh (A++B)=Dh A++Dh B
 |[],_=>rfl
 |s::A,B=>by rw[Ae,Dh,Dh,L7 A B,Aj]
theorem Tk:∀ {A B:List Sg},Kz (A++B)→Kz A∧Kz B
 |[],_,h=>⟨trivial,h⟩
 |.c _::A,_,h=>Tk (A:=A) h
 |.g _::A,_,h=>Tk (A:=A) h
 |.w _ _::A,_,h=>⟨⟨h.1,(Tk (A:=A) h.2).1⟩,(Tk (A:=A) h.2).2⟩
theorem Oy:∀ {A:List Sg},Kz A→(Dh A).length=II A
 |[],_=>rfl
 |.c d::A,h=>by rw[Dh,II,Ab,Oy (A:=A) h]; rfl
 |.g x::A,h=>by rw[Dh,II,Ab,Oy (A:=A) h]; simp[Sg.cs,Sg.sz,DX]
 |.w n l::A,h=>by rw[Dh,II,Ab,Oy (A:=A) h.2]; simp[Sg.cs,Sg.sz,h.1]
def UH:List Sg→Nat→Option (List Sg×List Sg)
 |l,0=>some ([],l)
 |[],_+1=>none
 |s::r,n+1=>match Nat.ble s.sz (n+1)with
  |true=>match UH r (n+1 - s.sz)with
   |some (A,B)=>some (s::A,B)
   |none=>none
  |false=>none
theorem iK:∀ (l:List Sg) (n:Nat) (A B:List Sg),UH l n=some (A,B)→l=A++B∧II A=n
 |l,0,A,B,h=>by
  have h:some (([]:List Sg),l)=some (A,B):=by cases l <;> exact h
  simp only[AO,Az]at h;obtain⟨rfl,rfl⟩:=h;exact⟨rfl,rfl⟩
 |[],n+1,A,B,h=>by cases h
 |s::r,n+1,A,B,h=>by
  simp only[UH]at h
  split at h
  case h_2=>cases h
  rename_i hb
  split at h
  case h_2=>cases h
  rename_i M N E;simp only[AO,Az]at h;obtain⟨rfl,rfl⟩:=h;obtain⟨I,J⟩:=iK r _ _ _ E;have:=Nat.le_of_ble_eq_true hb;exact⟨by rw[I]; rfl,by rw[II,J]; omega⟩
def S9(l:List Sg)(off n:Nat):Option (List Sg×List Sg×List Sg):=match UH l off with
 |some (A,R)=>match UH R n with
  |some (B,C)=>some (A,B,C)
  |none=>none
 |none=>none
variable {l:List Sg}
theorem Yp{A B C:List Sg}(h:S9 l off n=some (A,B,C))(E:Kz l):Dh l=Dh A++(Dh B++Dh C)∧(Dh A).length=off∧(Dh B).length=n:=by
 unfold S9 at h
 split at h
 case h_2=>cases h
 rename_i Y R I
 split at h
 case h_2=>cases h
 rename_i B' C' J;simp only[AO,Az]at h;obtain⟨rfl,rfl,rfl⟩:=h;obtain⟨M,N⟩:=iK _ _ _ _ I;obtain⟨O,U⟩:=iK _ _ _ _ J;subst M;obtain⟨w1,w2⟩:=Tk E;subst O;obtain⟨V,w4⟩:=Tk w2;exact⟨by rw[L7,L7],by rw[Oy w1,N],by rw[Oy V,U]⟩
theorem Jw{A B C:List Sg}{sz:Nat}{cs:List D}(E:cs=Dh l)(h:S9 l off n=some (A,B,C))(I:Kz l)(J:d=.agg (Dh B)):Dy (some ⟨false,sz,cs,lent⟩) n true off=some d:=by
 obtain⟨M,N,O⟩:=Yp h I;rw[E,J];exact MC M N O
theorem Ix{A C:List Sg}{sz:Nat}{cs:List D}(E:cs=Dh l)(h:S9 l off 1=some (A,[.c d],C))(I:Kz l):Dy (some ⟨false,sz,cs,lent⟩) 1 false off=some d:=by
 obtain⟨J,M,N⟩:=Yp h I;rw[E];exact I2 J M
variable {X:List Sg}
theorem L2{A B C:List Sg}{sz:Nat}{cs:List D}(I:cs=Dh l)(h:S9 l off n=some (A,B,C))(J:Kz l)(E:cs'=Dh (A++(X++C)))(hv:v.cells=Dh X)(M:(Dh X).length=n)(hc:(Dh X).all D.isCell=true) :
  DY (some ⟨false,sz,cs,false⟩) n off v=some ⟨false,sz,cs',false⟩:=by
 obtain⟨N,O,U⟩:=Yp h J;rw[I,E];exact Ku N (by rw[L7,L7]) O U hv M hc
theorem Iw{A B C:List Sg}{cs:List D}(I:cs=Dh l)(h:S9 l off n=some (A,B,C))(J:Kz l)(E:cs'=Dh (A++(X++C)))(hv:v.cells=Dh X)(M:(Dh X).length=n)(hc:(Dh X).all D.isCell=true) :
  DO cs ((off,n,v)::r)=DO cs' r:=by
 obtain⟨N,O,U⟩:=Yp h J;rw[I,E];exact I1 N (by rw[L7,L7]) O U hv M hc
theorem Ox{p:D→Bool}(E:∀ k n,p (.int k n)=true):∀ {l:List Sg},(∀ s∈l,s.cs.all p=true)→(Dh l).all p=true
 |[],_=>rfl
 |s::l,h=>by
  rw[Dh,Bm,h s (Bb ..),Ox E (fun x I=>h x (Ar _ I))]; rfl
def zI(n:Nat):List D:=CQ n (.int .i64 0)
def LL:List D:=zI 4++(.slc 0 [] true::.int .i64 0::C8 Du)
def N6:List D:=(.int .i64 0::C8 Du)++(.int .i64 0::C8 Du)
def Fk:List D:=zI 11++(N6++(Di Gz++(zI 3++[.slc 0 [] true])))
def EM:List D:=zI 3++((.int .i64 0::C8 Du)++(C8 Du++(C8 Du++(LL++(.slc 0 [] true::zI 5)))))
def Qe:List D:=Fk++(.slc 0 [] true::(zI 17++(EM++[.int .i64 0])))
def KN:List Nat:=[0]++Fg
def Rw:List Nat:=KN++KN
namespace Sha
def rotr(x:UInt32)(n:Nat):UInt32:=x >>> UInt32.ofNat n ||| x <<< UInt32.ofNat (32 - n)
def word(b:List UInt8)(i:Nat):UInt32:=
 (b.getD (4*i) 0).toUInt32 <<< UInt32.ofNat 24 ||| (b.getD (4*i+1) 0).toUInt32 <<< UInt32.ofNat 16 ||| (b.getD (4*i+2) 0).toUInt32 <<< UInt32.ofNat 8 ||| (b.getD (4*i+3) 0).toUInt32
def sig0(x:UInt32):UInt32:=rotr x 7 ^^^ rotr x 18 ^^^ x >>> UInt32.ofNat 3
def sig1(x:UInt32):UInt32:=rotr x 17 ^^^ rotr x 19 ^^^ x >>> UInt32.ofNat 10
def sch(b:List UInt8):Nat→List UInt32
 |0=>[]
 |n+1=>let w:=sch b n
  w++[if n<16 then word b n else w.getD (n - 16) 0+sig0 (w.getD (n - 15) 0)+w.getD (n - 7) 0+sig1 (w.getD (n - 2) 0)]
theorem sch_length(b:List UInt8):∀ n,(sch b n).length=n
 |0=>rfl
 |n+1=>by simp[sch,sch_length b n]
structure St8 where
 a:UInt32
 b:UInt32
 c:UInt32
 d:UInt32
 e:UInt32
 f:UInt32
 g:UInt32
 h:UInt32
def St8.list(s:St8):List UInt32:=[s.a,s.b,s.c,s.d,s.e,s.f,s.g,s.h]
def round(s:St8)(k w:UInt32):St8:=
 let t:=s.h+(rotr s.e 6 ^^^ rotr s.e 11 ^^^ rotr s.e 25)+(s.e &&& s.f ^^^ ~~~s.e &&& s.g)+k+w
 let u:=(rotr s.a 2 ^^^ rotr s.a 13 ^^^ rotr s.a 22)+(s.a &&& s.b ^^^ s.a &&& s.c ^^^ s.b &&& s.c)
 {a:=t+u,b:=s.a,c:=s.b,d:=s.c,e:=s.d+t,f:=s.e,g:=s.f,h:=s.g}
def K:List UInt32:=[
 0x428a2f98,0x71374491,0xb5c0fbcf,0xe9b5dba5,0x3956c25b,0x59f111f1,0x923f82a4,0xab1c5ed5,
 0xd807aa98,0x12835b01,0x243185be,0x550c7dc3,0x72be5d74,0x80deb1fe,0x9bdc06a7,0xc19bf174,
 0xe49b69c1,0xefbe4786,0x0fc19dc6,0x240ca1cc,0x2de92c6f,0x4a7484aa,0x5cb0a9dc,0x76f988da,
 0x983e5152,0xa831c66d,0xb00327c8,0xbf597fc7,0xc6e00bf3,0xd5a79147,0x06ca6351,0x14292967,
 0x27b70a85,0x2e1b2138,0x4d2c6dfc,0x53380d13,0x650a7354,0x766a0abb,0x81c2c92e,0x92722c85,
 0xa2bfe8a1,0xa81a664b,0xc24b8b70,0xc76c51a3,0xd192e819,0xd6990624,0xf40e3585,0x106aa070,
 0x19a4c116,0x1e376c08,0x2748774c,0x34b0bcb5,0x391c0cb3,0x4ed8aa4a,0x5b9cca4f,0x682e6ff3,
 0x748f82ee,0x78a5636f,0x84c87814,0x8cc70208,0x90befffa,0xa4506ceb,0xbef9a3f7,0xc67178f2]
def rounds(w:List UInt32)(s:St8):Nat→St8
 |0=>s
 |n+1=>round (rounds w s n) (K.getD n 0) (w.getD n 0)
def St8.add(s t:St8):St8:={a:=s.a+t.a,b:=s.b+t.b,c:=s.c+t.c,d:=s.d+t.d,e:=s.e+t.e,f:=s.f+t.f,g:=s.g+t.g,h:=s.h+t.h}
def block(s:St8)(b:List UInt8):St8:=s.add (rounds (sch b 64) s 64)
def H0:St8:=⟨0x6a09e667,0xbb67ae85,0x3c6ef372,0xa54ff53a,0x510e527f,0x9b05688c,0x1f83d9ab,0x5be0cd19⟩
def lenB(q:UInt64):Nat→List UInt8
 |0=>[]
 |n+1=>lenB q n++[(q >>> C7 (56 - 8*n)).toUInt8]
def zeros(n:Nat):Nat:=(119 - n % 64) % 64
def padded(m:List UInt8):List UInt8:=m++[128]++CQ (zeros m.length) 0++lenB (C7 m.length*8) 8
def blocks(s:St8):Nat→List UInt8→St8
 |0,_=>s
 |n+1,m=>blocks (block s (m.take 64)) n (m.drop 64)
def outB(l:List UInt32):Nat→List UInt8
 |0=>[]
 |n+1=>outB l n++[(l.getD (n / 4) 0 >>> UInt32.ofNat (24 - 8*(n % 4))).toUInt8]
theorem outB_length(l:List UInt32):∀ n,(outB l n).length=n
 |0=>rfl
 |n+1=>by simp[outB,outB_length l n]
theorem lenB_length(q:UInt64):∀ n,(lenB q n).length=n
 |0=>rfl
 |n+1=>by simp[lenB,lenB_length q n]
theorem St8.list_inj{s t:St8}(h:s.list=t.list):s=t:=by
 cases s; cases t;simpa[St8.list]using h
theorem St8.list_iff{s t:St8}:s.list=t.list↔s=t:=⟨St8.list_inj,fun h=>by rw[h]⟩
theorem St8.list_length(s:St8):s.list.length=8:=rfl
end Sha
theorem YBk:DO ((zW 8).map wD) [(0,1,.int .u32 1779033703),(1,1,.int .u32 3144134277),(2,1,.int .u32 1013904242),(3,1,.int .u32 2773480762),(4,1,.int .u32 1359893119),(5,1,.int .u32 2600822924),(6,1,.int .u32 528734635),(7,1,.int .u32 1541459225)]=some (Sha.H0.list.map wD):=by kernel_rfl
def Me(m:List UInt8):Dig:=⟨Sha.outB (Sha.blocks Sha.H0 ((Sha.padded m).length / 64) (Sha.padded m)).list 32,Sha.outB_length _ 32⟩
def Yuw(t b:List UInt8):List UInt8:=UInt8.ofNat (t.take 255).length::(t.take 255++b)
def R3(t b:List UInt8):Dig:=Me (Yuw t b)
end Go.Proofs.YtijnglngaogdjaaGreatDoor.PI
