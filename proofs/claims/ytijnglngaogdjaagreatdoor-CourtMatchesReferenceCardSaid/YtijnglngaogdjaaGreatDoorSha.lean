/-
  SHA-256 and tagged digests over lists of bytes, in plain Lean.
  Conditions: none; these are definitions and lemmas.
-/
import Derived.Test.YtijnglngaogdjaaGreatDoorEngHe
import Derived.Test.YtijnglngaogdjaaGreatDoorEngI2
import Derived.KernelRfl
open Bool renaming false→f_,true→t_
open Option renaming some→s_
open List renaming replicate→CZ
open UInt64 renaming ofNat→Dh
set_option maxHeartbeats 8000000
set_option maxRecDepth 20000
set_option linter.unusedSimpArgs false
set_option linter.unusedVariables false
namespace Go.Proofs.YtijnglngaogdjaaGreatDoor.PI
open Go
open D renaming int→I,slc→O,agg→U,bool→V,ptr→Y
open Go.IntKind renaming i64→J
variable {off:Nat}{A B C xs:List D}
theorem nZ(E:A.length=off)(M:B.length=xs.length):F7 (A++(B++C)) off xs=A++(xs++C):=by
 subst E;rw[F7,List.take_append_of_le_length (AF _),AR,← M,CT,List.drop_eq_nil_of_le (by omega),Al,Am]
 congr 2
 rw[show A.length+B.length - A.length=B.length by omega,CT,A2,BF];rfl
variable {n:Nat}
theorem eS(E:A.length=off)(M:B.length=n):((A++(B++C)).drop off).take n=B:=by subst E; subst M;rw[CT,A2,BF];simp
variable {lent:Bool}
theorem Mf{cs:List D}{sz:Nat}(h:cs=A++(B++C))(E:A.length=off)(M:B.length=n):DJ (s_ ⟨f_,sz,cs,lent⟩) n t_ off=s_ (U B):=by subst h;simp only[DJ,Bk,eS E M,At,Bt,Ao,if_false,Ax,Bb];rw[if_pos (by simp[E,M])];rfl
variable {d:D}
theorem JW{cs:List D}{sz:Nat}(h:cs=A++(d::C))(E:A.length=off):DJ (s_ ⟨f_,sz,cs,lent⟩) 1 f_ off=s_ d:=by subst h;have:=eS (A:=A) (B:=[d]) (C:=C) (off:=off) (n:=1) E rfl;simp only[Ag,Al]at this;simp only[DJ,Bk,this,Ax,Bb,bne_self_eq_false,Ao,if_false];rw[if_pos (by simp[E])];rfl
variable {v:D}{cs':List D}
theorem KR{cs:List D}{sz:Nat}(h:cs=A++(B++C))(h':cs'=A++(xs++C))(E:A.length=off)(M:B.length=n)(hv:v.cells=xs)(N:xs.length=n)(hc:xs.all D.isCell=t_) :
  Eb (s_ ⟨f_,sz,cs,f_⟩) n off v=s_ ⟨f_,sz,cs',f_⟩:=by subst h; subst h';simp only[Eb,Bk,hv,hc,nZ E (M.trans N.symm)];rw[if_pos (by simp[E,M,N])]
variable {r:List (Nat×Nat×D)}
theorem JV{cs:List D}(h:cs=A++(B++C))(h':cs'=A++(xs++C))(E:A.length=off)(M:B.length=n)(hv:v.cells=xs)(N:xs.length=n)(hc:xs.all D.isCell=t_) :
  Ed cs ((off,n,v)::r)=Ed cs' r:=by subst h; subst h';simp only[Ed,hv,hc,nZ E (M.trans N.symm)];rw[if_pos (by simp[E,M,N])]
theorem Ycz{cs:List D}(h:cs=A++(B++C))(E:A.length=off)(M:B.length=n):NQ off n t_ (U cs)=s_ (U B):=by subst h;simp only[NQ,eS E M];rw[if_pos (by simp[E,M])];rfl
theorem Ynn{cs:List D}(h:cs=A++(d::C))(E:A.length=off):NQ off 1 f_ (U cs)=s_ d:=by subst h;have:=eS (A:=A) (B:=[d]) (C:=C) (off:=off) (n:=1) E rfl;simp only[Ag,Al]at this;simp only[NQ,this];rw[if_pos (by simp[E])];rfl
theorem Ly:∀ (E N:List Nat) (a1 a2 b1 b2:List D) (x y:Bool),a1.length=E.length→b1.length=E.length→Fl E a1 b1=s_ x→Fl N a2 b2=s_ y→Fl (E++N) (a1++a2) (b1++b2)=s_ (x && y)
 |[],N,[],a2,[],b2,x,y,_,_,M,h2=>by
  simp only[Fl,Dp]at M;subst M;simpa using h2
 |[],_,_::_,_,_,_,_,_,h,_,_,_=>by cases h
 |[],_,[],_,_::_,_,_,_,_,h,_,_=>by cases h
 |k::E,N,[],a2,b1,b2,x,y,h,_,_,_=>by cases h
 |k::E,N,a::a1,a2,[],b2,x,y,_,h,_,_=>by cases h
 |k::E,N,a::a1,a2,b::b1,b2,x,y,h,h',M,h2=>by
  simp only[Fl]at M
  split at M
  ·rename_i u v hu hv;simp only[Dp]at M;subst M;have:=Ly E N a1 a2 b1 b2 v y (by simpa using h) (by simpa using h') hv h2;simp only[Ag,Fl,hu,this,Bool.and_assoc]
  ·cases M
theorem Us(k:IntKind)(a b:Int):Fl [0] [I k a] [I k b]=s_ (decide (a=b)):=by
 simp only[Fl,Jl,if_true,B5]
 by_cases h:a=b <;> simp[h]
theorem xL(a b:Bool):Fl [1] [V a] [V b]=s_ (decide (a=b)):=by cases a <;> cases b <;> rfl
structure Bis where
 h:Int
 l:Int
 i:Int
 n0:Dig
 n1:Dig
 t0:Bool
 t1:Bool
 l0:Dig
 l1:Dig
 r0:Dig
 r1:Dig
 r:Int
 deriving DecidableEq
def Dw(x:Bis):List D:=[I J x.h]++([I J x.l]++([I J x.i]++(Dj x.n0++(Dj x.n1++([V x.t0]++([V x.t1]++(Dj x.l0++(Dj x.l1++(Dj x.r0++(Dj x.r1++[I J x.r]))))))))))
def D3(x:Bis):D:=U (Dw x)
def Fm:Bis:=⟨0,0,0,DH,DH,f_,f_,DH,DH,DH,DH,0⟩
def E9(a b:Dig):List D:=Dj a++Dj b
def N7:List D:=E9 DH DH
theorem YGm:N7=E9 DH DH:=rfl
def Gg:List Nat:=CZ 32 0
def rp:List Nat:=[0]++([0]++([0]++(Gg++(Gg++([1]++([1]++(Gg++(Gg++(Gg++(Gg++[0]))))))))))
theorem SX(x:Bis):(Dw x).length=198:=by simp[Dw,Ef]
theorem Oy(a b:Dig):(E9 a b).length=64:=by simp[E9,Ef]
variable {p:D→Bool}
theorem kP(E:∀ k n,p (I k n)=t_)(M:∀ b,p (V b)=t_)(x:Bis):(Dw x).all p=t_:=by have:∀ d,(Dj d).all p=t_:=fun d=>Lu (fun b=>E _ _) d;simp only[Dw,BB,AX,CH,E,M,this,AN]
theorem iY(E:∀ k n,p (I k n)=t_)(a b:Dig):(E9 a b).all p=t_:=by have:∀ d,(Dj d).all p=t_:=fun d=>Lu (fun b=>E _ _) d;simp only[E9,BB,this,AN]
theorem Yhn(x:Bis):(Dw x).all EY=t_:=kP (fun _ _=>rfl) (fun _=>rfl) x
theorem ff(x:Bis):(Dw x).all D.isCell=t_:=kP (fun _ _=>rfl) (fun _=>rfl) x
theorem uF(a b:Dig):(E9 a b).all EY=t_:=iY (fun _ _=>rfl) a b
theorem eY(a b:Dig):(E9 a b).all D.isCell=t_:=iY (fun _ _=>rfl) a b
theorem TB{E:List D}(h:A++B=C++E)(hl:A.length=C.length):A=C∧B=E:=A9 h hl
theorem Yd0{x y:Bis}(h:Dw x=Dw y):x=y:=by obtain⟨xh,xl,xi,a9,ba,bb,bc,bd,be,bf,bg,xr⟩:=x;obtain⟨yh,yl,yi,bh,b1,b2,b3,b4,b5,b6,b7,yr⟩:=y;simp only[Dw,Ag,Al,Aa,D.int.injEq,true_and]at h;obtain⟨N,q2,q3,h0⟩:=h;obtain⟨e1,h1⟩:=TB h0 (by simp[Ef]);obtain⟨e2,E⟩:=TB h1 (by simp[Ef]);simp only[Aa,D.bool.injEq]at E;obtain⟨q4,q5,h3⟩:=E;obtain⟨e3,h4⟩:=TB h3 (by simp[Ef]);obtain⟨e4,h5⟩:=TB h4 (by simp[Ef]);obtain⟨e5,h6⟩:=TB h5 (by simp[Ef]);obtain⟨e6,M⟩:=TB h6 (by simp[Ef]);simp only[Aa,D.int.injEq,true_and,and_true]at M;rw[N,q2,q3,q4,q5,M,MZ e1,MZ e2,MZ e3,MZ e4,MZ e5,MZ e6]
theorem SA{x y:Bis}:D3 x=D3 y↔x=y:=⟨fun h=>by simp only[D3,D.agg.injEq]at h; exact Yd0 h,fun h=>by rw[h]⟩
section
variable (x:Bis) (sz:Nat) (lent:Bool)
theorem W5:DJ (s_ ⟨f_,sz,Dw x,lent⟩) 1 f_ 0=s_ (I J x.h):=JW (A:=[]) rfl rfl
theorem W3:DJ (s_ ⟨f_,sz,Dw x,lent⟩) 1 f_ 1=s_ (I J x.l):=JW (A:=[I J x.h]) rfl rfl
theorem W4:DJ (s_ ⟨f_,sz,Dw x,lent⟩) 1 f_ 2=s_ (I J x.i):=JW (A:=[I J x.h,I J x.l]) rfl rfl
theorem YKy:DJ (s_ ⟨f_,sz,Dw x,lent⟩) 32 t_ 3=s_ (Dl x.n0):=Mf (A:=[I J x.h,I J x.l,I J x.i]) (B:=Dj x.n0) rfl rfl (Ef _)
theorem YKx:DJ (s_ ⟨f_,sz,Dw x,lent⟩) 32 t_ 35=s_ (Dl x.n1):=Mf (A:=[I J x.h,I J x.l,I J x.i]++Dj x.n0) (B:=Dj x.n1) (by simp[Dw]; rfl) (by simp[Ef]) (Ef _)
theorem W1:DJ (s_ ⟨f_,sz,Dw x,lent⟩) 64 t_ 3=s_ (U (E9 x.n0 x.n1)):=Mf (A:=[I J x.h,I J x.l,I J x.i]) (B:=E9 x.n0 x.n1) (by simp[Dw,E9]; rfl) rfl (Oy _ _)
theorem YKw:DJ (s_ ⟨f_,sz,Dw x,lent⟩) 1 f_ 67=s_ (V x.t0):=JW (A:=[I J x.h,I J x.l,I J x.i]++(Dj x.n0++Dj x.n1)) (by simp[Dw]; rfl) (by simp[Ef])
theorem YKv:DJ (s_ ⟨f_,sz,Dw x,lent⟩) 1 f_ 68=s_ (V x.t1):=JW (A:=[I J x.h,I J x.l,I J x.i]++(Dj x.n0++(Dj x.n1++[V x.t0]))) (by simp[Dw]; rfl) (by simp[Ef])
theorem YK0:DJ (s_ ⟨f_,sz,Dw x,lent⟩) 32 t_ 69=s_ (Dl x.l0):=Mf (A:=[I J x.h,I J x.l,I J x.i]++(Dj x.n0++(Dj x.n1++[V x.t0,V x.t1]))) (B:=Dj x.l0) (by simp[Dw]; rfl) (by simp[Ef]) (Ef _)
theorem YKz:DJ (s_ ⟨f_,sz,Dw x,lent⟩) 32 t_ 101=s_ (Dl x.l1):=Mf (A:=[I J x.h,I J x.l,I J x.i]++(Dj x.n0++(Dj x.n1++([V x.t0,V x.t1]++Dj x.l0)))) (B:=Dj x.l1) (by simp[Dw]; rfl) (by simp[Ef]) (Ef _)
theorem W7:DJ (s_ ⟨f_,sz,Dw x,lent⟩) 64 t_ 69=s_ (U (E9 x.l0 x.l1)):=Mf (A:=[I J x.h,I J x.l,I J x.i]++(Dj x.n0++(Dj x.n1++[V x.t0,V x.t1]))) (B:=E9 x.l0 x.l1) (by simp[Dw,E9]; rfl) (by simp[Ef]) (Oy _ _)
theorem W6:DJ (s_ ⟨f_,sz,Dw x,lent⟩) 64 t_ 133=s_ (U (E9 x.r0 x.r1)):=Mf (A:=[I J x.h,I J x.l,I J x.i]++(Dj x.n0++(Dj x.n1++([V x.t0,V x.t1]++(Dj x.l0++Dj x.l1))))) (B:=E9 x.r0 x.r1) (C:=[I J x.r]) (by simp[Dw,E9]) (by simp[Ef]) (Oy _ _)
theorem W0:DJ (s_ ⟨f_,sz,Dw x,lent⟩) 1 f_ 197=s_ (I J x.r):=JW (A:=[I J x.h,I J x.l,I J x.i]++(Dj x.n0++(Dj x.n1++([V x.t0,V x.t1]++(Dj x.l0++(Dj x.l1++(Dj x.r0++Dj x.r1))))))) (C:=[]) (by simp[Dw]) (by simp[Ef])
theorem YC0:DJ (s_ ⟨f_,sz,Dw x,lent⟩) 198 t_ 0=s_ (D3 x):=LP sz lent _ 198 (SX x)
theorem Q1(y:Bis):Eb (s_ ⟨f_,sz,Dw x,f_⟩) 198 0 (D3 y)=s_ ⟨f_,sz,Dw y,f_⟩:=LQ sz _ _ 198 (SX x) (SX y) (ff y)
theorem Wt(v:Int):Eb (s_ ⟨f_,sz,Dw x,f_⟩) 1 2 (I J v)=s_ ⟨f_,sz,Dw {x with i:=v},f_⟩:=KR (A:=[I J x.h,I J x.l]) (B:=[I J x.i]) (xs:=[I J v]) rfl rfl rfl rfl rfl rfl rfl
theorem YJk(v:Dig):Eb (s_ ⟨f_,sz,Dw x,f_⟩) 32 3 (Dl v)=s_ ⟨f_,sz,Dw {x with n0:=v},f_⟩:=KR (A:=[I J x.h,I J x.l,I J x.i]) (B:=Dj x.n0) (xs:=Dj v) rfl rfl rfl (Ef _) rfl (Ef _) (IT v)
theorem YJj(v:Dig):Eb (s_ ⟨f_,sz,Dw x,f_⟩) 32 35 (Dl v)=s_ ⟨f_,sz,Dw {x with n1:=v},f_⟩:=KR (A:=[I J x.h,I J x.l,I J x.i]++Dj x.n0) (B:=Dj x.n1) (xs:=Dj v) (by simp[Dw]; rfl) (by simp[Dw]) (by simp[Ef]) (Ef _) rfl (Ef _) (IT v)
theorem Ws(a b:Dig):Eb (s_ ⟨f_,sz,Dw x,f_⟩) 64 3 (U (E9 a b))=s_ ⟨f_,sz,Dw {x with n0:=a,n1:=b},f_⟩:=KR (A:=[I J x.h,I J x.l,I J x.i]) (B:=E9 x.n0 x.n1) (xs:=E9 a b) (by simp[Dw,E9]; rfl) (by simp[Dw,E9]) rfl (Oy _ _) rfl (Oy _ _) (eY a b)
theorem YJg(v:Bool):Eb (s_ ⟨f_,sz,Dw x,f_⟩) 1 67 (V v)=s_ ⟨f_,sz,Dw {x with t0:=v},f_⟩:=KR (A:=[I J x.h,I J x.l,I J x.i]++(Dj x.n0++Dj x.n1)) (B:=[V x.t0]) (xs:=[V v]) (by simp[Dw]; rfl) (by simp[Dw]) (by simp[Ef]) rfl rfl rfl rfl
theorem YJf(v:Bool):Eb (s_ ⟨f_,sz,Dw x,f_⟩) 1 68 (V v)=s_ ⟨f_,sz,Dw {x with t1:=v},f_⟩:=KR (A:=[I J x.h,I J x.l,I J x.i]++(Dj x.n0++(Dj x.n1++[V x.t0]))) (B:=[V x.t1]) (xs:=[V v]) (by simp[Dw]; rfl) (by simp[Dw]) (by simp[Ef]) rfl rfl rfl rfl
theorem YJm(v:Dig):Eb (s_ ⟨f_,sz,Dw x,f_⟩) 32 69 (Dl v)=s_ ⟨f_,sz,Dw {x with l0:=v},f_⟩:=KR (A:=[I J x.h,I J x.l,I J x.i]++(Dj x.n0++(Dj x.n1++[V x.t0,V x.t1]))) (B:=Dj x.l0) (xs:=Dj v) (by simp[Dw]; rfl) (by simp[Dw]) (by simp[Ef]) (Ef _) rfl (Ef _) (IT v)
theorem YJl(v:Dig):Eb (s_ ⟨f_,sz,Dw x,f_⟩) 32 101 (Dl v)=s_ ⟨f_,sz,Dw {x with l1:=v},f_⟩:=KR (A:=[I J x.h,I J x.l,I J x.i]++(Dj x.n0++(Dj x.n1++([V x.t0,V x.t1]++Dj x.l0)))) (B:=Dj x.l1) (xs:=Dj v) (by simp[Dw]; rfl) (by simp[Dw]) (by simp[Ef]) (Ef _) rfl (Ef _) (IT v)
theorem YJi(v:Dig):Eb (s_ ⟨f_,sz,Dw x,f_⟩) 32 133 (Dl v)=s_ ⟨f_,sz,Dw {x with r0:=v},f_⟩:=KR (A:=[I J x.h,I J x.l,I J x.i]++(Dj x.n0++(Dj x.n1++([V x.t0,V x.t1]++(Dj x.l0++Dj x.l1))))) (B:=Dj x.r0) (xs:=Dj v) (by simp[Dw]; rfl) (by simp[Dw]) (by simp[Ef]) (Ef _) rfl (Ef _) (IT v)
theorem YJh(v:Dig):Eb (s_ ⟨f_,sz,Dw x,f_⟩) 32 165 (Dl v)=s_ ⟨f_,sz,Dw {x with r1:=v},f_⟩:=KR (A:=[I J x.h,I J x.l,I J x.i]++(Dj x.n0++(Dj x.n1++([V x.t0,V x.t1]++(Dj x.l0++(Dj x.l1++Dj x.r0)))))) (B:=Dj x.r1) (C:=[I J x.r]) (xs:=Dj v) (by simp[Dw]) (by simp[Dw]) (by simp[Ef]) (Ef _) rfl (Ef _) (IT v)
theorem Xz(v:Int)(r:List (Nat×Nat×D)):Ed (Dw x) ((0,1,I J v)::r)=Ed (Dw {x with h:=v}) r:=JV (A:=[]) (B:=[I J x.h]) (xs:=[I J v]) rfl rfl rfl rfl rfl rfl rfl
theorem Xx(v:Int)(r:List (Nat×Nat×D)):Ed (Dw x) ((1,1,I J v)::r)=Ed (Dw {x with l:=v}) r:=JV (A:=[I J x.h]) (B:=[I J x.l]) (xs:=[I J v]) rfl rfl rfl rfl rfl rfl rfl
theorem Xy(v:Int)(r:List (Nat×Nat×D)):Ed (Dw x) ((2,1,I J v)::r)=Ed (Dw {x with i:=v}) r:=JV (A:=[I J x.h,I J x.l]) (B:=[I J x.i]) (xs:=[I J v]) rfl rfl rfl rfl rfl rfl rfl
theorem Xw(a b:Dig)(r:List (Nat×Nat×D)):Ed (Dw x) ((3,64,U (E9 a b))::r)=Ed (Dw {x with n0:=a,n1:=b}) r:=JV (A:=[I J x.h,I J x.l,I J x.i]) (B:=E9 x.n0 x.n1) (xs:=E9 a b) (by simp[Dw,E9]; rfl) (by simp[Dw,E9]) rfl (Oy _ _) rfl (Oy _ _) (eY a b)
theorem Xv(v:Int)(r:List (Nat×Nat×D)):Ed (Dw x) ((197,1,I J v)::r)=Ed (Dw {x with r:=v}) r:=JV (A:=[I J x.h,I J x.l,I J x.i]++(Dj x.n0++(Dj x.n1++([V x.t0,V x.t1]++(Dj x.l0++(Dj x.l1++(Dj x.r0++Dj x.r1))))))) (B:=[I J x.r]) (C:=[]) (xs:=[I J v]) (by simp[Dw]) (by simp[Dw]) (by simp[Ef]) rfl rfl rfl rfl
end
theorem XF(a b v:Dig)(r:List (Nat×Nat×D)):Ed (E9 a b) ((0,32,Dl v)::r)=Ed (E9 v b) r:=JV (A:=[]) (B:=Dj a) (xs:=Dj v) rfl rfl rfl (Ef _) rfl (Ef _) (IT v)
theorem XE(a b v:Dig)(r:List (Nat×Nat×D)):Ed (E9 a b) ((32,32,Dl v)::r)=Ed (E9 a v) r:=JV (A:=Dj a) (B:=Dj b) (C:=[]) (xs:=Dj v) (by simp[E9]) (by simp[E9]) (Ef _) (Ef _) rfl (Ef _) (IT v)
theorem YC1(sz:Nat)(lent:Bool)(a b:Dig):DJ (s_ ⟨f_,sz,E9 a b,lent⟩) 64 t_ 0=s_ (U (E9 a b)):=LP sz lent _ 64 (Oy _ _)
theorem YBc(sz:Nat)(a b c d:Dig):Eb (s_ ⟨f_,sz,E9 a b,f_⟩) 64 0 (U (E9 c d))=s_ ⟨f_,sz,E9 c d,f_⟩:=LQ sz _ _ 64 (Oy _ _) (Oy _ _) (eY _ _)
theorem YFz(x:Bis):D4 (D3 x)=s_ (Dw x):=by simp only[D4,D3,D.cells,ff,if_true]
theorem YOk(a b:Dig):D4 (U (E9 a b))=s_ (E9 a b):=by simp only[D4,D.cells,eY,if_true]
theorem YGd(x:Bis):D.agg (Dw x)=D3 x:=rfl
theorem YDr(st:St)(x:Bis):Ej st (D3 x)=s_ (D3 x):=O8 st (Yhn x)
theorem YC5(a b:Dig):keys (U (E9 a b))=[]:=Ql (uF a b)
theorem Yfl(x:Bis):((Dw x).all D.noRef1)=t_:=kP (fun _ _=>rfl) (fun _=>rfl) x
theorem Yk7(a b:Dig):((E9 a b).all D.noRef1)=t_:=iY (fun _ _=>rfl) a b
theorem YAt(x:Bis)(k:IntKind)(n:Int):(D.tup [D3 x,I k n]).noRef=t_:=by simp[D.noRef,D3,Yfl,D.noRef1]
theorem Yii(k:IntKind)(n:Int)(a c:Dig)(b:Bool):(D.tup [I k n,U (E9 a c),V b]).noRef=t_:=by simp[D.noRef,Yk7,D.noRef1]
theorem Ra(a b:Dig):Fl Gg (Dj a) (Dj b)=s_ (decide (a=b)):=wB a b
theorem Yv7(x y:Bis):Fl rp (Dw x) (Dw y)=s_ (decide (x=y)):=by
 have l1:∀ d:Dig,(Dj d).length=Gg.length:=fun d=>by rw[Ef]; rfl
 have E:=Us J x.r y.r;have M:=Ly Gg _ _ _ _ _ _ _ (l1 x.r1) (l1 y.r1) (Ra x.r1 y.r1) E;have N:=Ly Gg _ _ _ _ _ _ _ (l1 x.r0) (l1 y.r0) (Ra x.r0 y.r0) M;have e8:=Ly Gg _ _ _ _ _ _ _ (l1 x.l1) (l1 y.l1) (Ra x.l1 y.l1) N;have e7:=Ly Gg _ _ _ _ _ _ _ (l1 x.l0) (l1 y.l0) (Ra x.l0 y.l0) e8;have e6:=Ly [1] _ _ _ _ _ _ _ rfl rfl (xL x.t1 y.t1) e7;have e5:=Ly [1] _ _ _ _ _ _ _ rfl rfl (xL x.t0 y.t0) e6;have e4:=Ly Gg _ _ _ _ _ _ _ (l1 x.n1) (l1 y.n1) (Ra x.n1 y.n1) e5;have e3:=Ly Gg _ _ _ _ _ _ _ (l1 x.n0) (l1 y.n0) (Ra x.n0 y.n0) e4;have e2:=Ly [0] _ _ _ _ _ _ _ rfl rfl (Us J x.i y.i) e3;have e1:=Ly [0] _ _ _ _ _ _ _ rfl rfl (Us J x.l y.l) e2;have e0:=Ly [0] _ _ _ _ _ _ _ rfl rfl (Us J x.h y.h) e1;refine e0.trans (congrArg s_ ?_);rw[B8];simp only[Ad,decide_eq_true_eq];constructor
 ·rintro⟨a,b,c,d,e,f,g,h,i,j,k,l⟩;cases x; cases y; simp_all
 ·rintro rfl; simp
theorem U9(E:Bool)(x y:Bis):Hu rp E (D3 x) (D3 y)=s_ (V (decide (x=y) != E)):=by simp only[Hu,D3,Yv7,Ae]
attribute [push_cast] W5 W3 W4 YKy YKx W1 YKw YKv YK0 YKz W7 W6 W0 YC0 Q1 Wt YJk YJj Ws YJg YJf YJm YJl YJi YJh Xz Xx Xy Xw Xv XF XE YC1 YBc YFz YOk YGd YDr YC5 YAt Yii U9 YGm
inductive Sg where
 |c (d:D)
 |g (x:Dig)
 |w (n:Nat) (l:List D)
def Sg.sz:Sg→Nat
 |.c _=>1
 |.g _=>32
 |.w n _=>n
def Sg.cs:Sg→List D
 |.c d=>[d]
 |.g x=>Dj x
 |.w _ l=>l
def Dy:List Sg→List D
 |[]=>[]
 |s::r=>s.cs++Dy r
def KV:List Sg→Prop
 |[]=>True
 |.c _::r=>KV r
 |.g _::r=>KV r
 |.w n l::r=>l.length=n∧KV r
def I7:List Sg→Nat
 |[]=>0
 |s::r=>s.sz+I7 r
theorem Lv:∀ A B:List Sg,Dy (A++B)=Dy A++Dy B
 |[],_=>rfl
 |s::A,B=>by rw[Ag,Dy,Dy,Lv A B,Am]
theorem Tn:∀ {A B:List Sg},KV (A++B)→KV A∧KV B
 |[],_,h=>⟨trivial,h⟩
 |.c _::A,_,h=>Tn (A:=A) h
 |.g _::A,_,h=>Tn (A:=A) h
 |.w _ _::A,_,h=>⟨⟨h.1,(Tn (A:=A) h.2).1⟩,(Tn (A:=A) h.2).2⟩
theorem O1:∀ {A:List Sg},KV A→(Dy A).length=I7 A
 |[],_=>rfl
 |.c d::A,h=>by rw[Dy,I7,Ac,O1 (A:=A) h]; rfl
 |.g x::A,h=>by rw[Dy,I7,Ac,O1 (A:=A) h]; simp[Sg.cs,Sg.sz,Ef]
 |.w n l::A,h=>by rw[Dy,I7,Ac,O1 (A:=A) h.2]; simp[Sg.cs,Sg.sz,h.1]
def Yy:List Sg→Nat→Option (List Sg×List Sg)
 |l,0=>s_ ([],l)
 |[],_+1=>none
 |s::r,n+1=>match Nat.ble s.sz (n+1)with
  |true=>match Yy r (n+1 - s.sz)with
   |some (A,B)=>s_ (s::A,B)
   |none=>none
  |false=>none
theorem mu:∀ (l:List Sg) (n:Nat) (A B:List Sg),Yy l n=s_ (A,B)→l=A++B∧I7 A=n
 |l,0,A,B,h=>by
  have h:s_ (([]:List Sg),l)=s_ (A,B):=by cases l <;> exact h
  simp only[AS,AB]at h;obtain⟨rfl,rfl⟩:=h;exact⟨rfl,rfl⟩
 |[],n+1,A,B,h=>by cases h
 |s::r,n+1,A,B,h=>by
  simp only[Yy]at h
  split at h
  case h_2=>cases h
  rename_i hb
  split at h
  case h_2=>cases h
  rename_i A' B' E;simp only[AS,AB]at h;obtain⟨rfl,rfl⟩:=h;obtain⟨M,N⟩:=mu r _ _ _ E;have:=Nat.le_of_ble_eq_true hb;exact⟨by rw[M]; rfl,by rw[I7,N]; omega⟩
def Tg(l:List Sg)(off n:Nat):Option (List Sg×List Sg×List Sg):=match Yy l off with
 |some (A,R)=>match Yy R n with
  |some (B,C)=>s_ (A,B,C)
  |none=>none
 |none=>none
variable {l:List Sg}
theorem fL{A B C:List Sg}(h:Tg l off n=s_ (A,B,C))(E:KV l):Dy l=Dy A++(Dy B++Dy C)∧(Dy A).length=off∧(Dy B).length=n:=by
 unfold Tg at h
 split at h
 case h_2=>cases h
 rename_i A' R M
 split at h
 case h_2=>cases h
 rename_i B' C' N;simp only[AS,AB]at h;obtain⟨rfl,rfl,rfl⟩:=h;obtain⟨e1,e2⟩:=mu _ _ _ _ M;obtain⟨e3,e4⟩:=mu _ _ _ _ N;subst e1;obtain⟨w1,w2⟩:=Tn E;subst e3;obtain⟨w3,w4⟩:=Tn w2;exact⟨by rw[Lv,Lv],by rw[O1 w1,e2],by rw[O1 w3,e4]⟩
theorem Ii{A B C:List Sg}{sz:Nat}{cs:List D}(E:cs=Dy l)(h:Tg l off n=s_ (A,B,C))(M:KV l)(N:d=U (Dy B)):DJ (s_ ⟨f_,sz,cs,lent⟩) n t_ off=s_ d:=by obtain⟨e1,e2,e3⟩:=fL h M;rw[E,N];exact Mf e1 e2 e3
theorem G6{A C:List Sg}{sz:Nat}{cs:List D}(E:cs=Dy l)(h:Tg l off 1=s_ (A,[.c d],C))(M:KV l):DJ (s_ ⟨f_,sz,cs,lent⟩) 1 f_ off=s_ d:=by obtain⟨N,e2,e3⟩:=fL h M;rw[E];exact JW N e2
variable {X:List Sg}
theorem Jv{A B C:List Sg}{sz:Nat}{cs:List D}(M:cs=Dy l)(h:Tg l off n=s_ (A,B,C))(N:KV l)(E:cs'=Dy (A++(X++C)))(hv:v.cells=Dy X)(hx:(Dy X).length=n)(hc:(Dy X).all D.isCell=t_) :
  Eb (s_ ⟨f_,sz,cs,f_⟩) n off v=s_ ⟨f_,sz,cs',f_⟩:=by obtain⟨e1,e2,e3⟩:=fL h N;rw[M,E];exact KR e1 (by rw[Lv,Lv]) e2 e3 hv hx hc
theorem Jw{A B C:List Sg}{cs:List D}(M:cs=Dy l)(h:Tg l off n=s_ (A,B,C))(N:KV l)(E:cs'=Dy (A++(X++C)))(hv:v.cells=Dy X)(hx:(Dy X).length=n)(hc:(Dy X).all D.isCell=t_) :
  Ed cs ((off,n,v)::r)=Ed cs' r:=by obtain⟨e1,e2,e3⟩:=fL h N;rw[M,E];exact JV e1 (by rw[Lv,Lv]) e2 e3 hv hx hc
theorem O0{p:D→Bool}(E:∀ k n,p (I k n)=t_):∀ {l:List Sg},(∀ s∈l,s.cs.all p=t_)→(Dy l).all p=t_
 |[],_=>rfl
 |s::l,h=>by
  rw[Dy,BB,h s (Bg ..),O0 E (fun x M=>h x (Ap _ M))]; rfl
def zI(n:Nat):List D:=CZ n (I J 0)
def L6:List D:=zI 4++(O 0 [] t_::I J 0::Dj DH)
def OK:List D:=(I J 0::Dj DH)++(I J 0::Dj DH)
def EJ:List D:=zI 11++(OK++(Dw Fm++(zI 3++[O 0 [] t_])))
def Fs:List D:=zI 3++((I J 0::Dj DH)++(Dj DH++(Dj DH++(L6++(O 0 [] t_::zI 5)))))
def QG:List D:=EJ++(O 0 [] t_::(zI 17++(Fs++[I J 0])))
def K9:List Nat:=[0]++Gg
def R3:List Nat:=K9++K9
namespace Sha
def rotr(x:UInt32)(n:Nat):UInt32:=x >>> UInt32.ofNat n ||| x <<< UInt32.ofNat (32 - n)
def word(b:List UInt8)(i:Nat):UInt32:=
 (b.getD (4*i) 0).toUInt32 <<< UInt32.ofNat 24 ||| (b.getD (4*i+1) 0).toUInt32 <<< UInt32.ofNat 16 ||| (b.getD (4*i+2) 0).toUInt32 <<< UInt32.ofNat 8 ||| (b.getD (4*i+3) 0).toUInt32
def sig0(x:UInt32):UInt32:=rotr x 7 ^^^ rotr x 18 ^^^ x >>> UInt32.ofNat 3
def sig1(x:UInt32):UInt32:=rotr x 17 ^^^ rotr x 19 ^^^ x >>> UInt32.ofNat 10
def sch(b:List UInt8):Nat→List UInt32
 |0=>[]
 |n+1=>let w:=sch b n
  w++[if n<16 then word b n else w.getD (n - 16) 0+sig0 (w.getD (n - 15) 0)+w.getD (n - 7) 0+sig1 (w.getD (n - 2) 0)]
theorem sch_length(b:List UInt8):∀ n,(sch b n).length=n
 |0=>rfl
 |n+1=>by simp[sch,sch_length b n]
structure St8 where
 a:UInt32
 b:UInt32
 c:UInt32
 d:UInt32
 e:UInt32
 f:UInt32
 g:UInt32
 h:UInt32
def St8.list(s:St8):List UInt32:=[s.a,s.b,s.c,s.d,s.e,s.f,s.g,s.h]
def round(s:St8)(k w:UInt32):St8:=
 let t:=s.h+(rotr s.e 6 ^^^ rotr s.e 11 ^^^ rotr s.e 25)+(s.e &&& s.f ^^^ ~~~s.e &&& s.g)+k+w
 let u:=(rotr s.a 2 ^^^ rotr s.a 13 ^^^ rotr s.a 22)+(s.a &&& s.b ^^^ s.a &&& s.c ^^^ s.b &&& s.c)
 {a:=t+u,b:=s.a,c:=s.b,d:=s.c,e:=s.d+t,f:=s.e,g:=s.f,h:=s.g}
def K:List UInt32:=[
 0x428a2f98,0x71374491,0xb5c0fbcf,0xe9b5dba5,0x3956c25b,0x59f111f1,0x923f82a4,0xab1c5ed5,
 0xd807aa98,0x12835b01,0x243185be,0x550c7dc3,0x72be5d74,0x80deb1fe,0x9bdc06a7,0xc19bf174,
 0xe49b69c1,0xefbe4786,0x0fc19dc6,0x240ca1cc,0x2de92c6f,0x4a7484aa,0x5cb0a9dc,0x76f988da,
 0x983e5152,0xa831c66d,0xb00327c8,0xbf597fc7,0xc6e00bf3,0xd5a79147,0x06ca6351,0x14292967,
 0x27b70a85,0x2e1b2138,0x4d2c6dfc,0x53380d13,0x650a7354,0x766a0abb,0x81c2c92e,0x92722c85,
 0xa2bfe8a1,0xa81a664b,0xc24b8b70,0xc76c51a3,0xd192e819,0xd6990624,0xf40e3585,0x106aa070,
 0x19a4c116,0x1e376c08,0x2748774c,0x34b0bcb5,0x391c0cb3,0x4ed8aa4a,0x5b9cca4f,0x682e6ff3,
 0x748f82ee,0x78a5636f,0x84c87814,0x8cc70208,0x90befffa,0xa4506ceb,0xbef9a3f7,0xc67178f2]
def rounds(w:List UInt32)(s:St8):Nat→St8
 |0=>s
 |n+1=>round (rounds w s n) (K.getD n 0) (w.getD n 0)
def St8.add(s t:St8):St8:={a:=s.a+t.a,b:=s.b+t.b,c:=s.c+t.c,d:=s.d+t.d,e:=s.e+t.e,f:=s.f+t.f,g:=s.g+t.g,h:=s.h+t.h}
def block(s:St8)(b:List UInt8):St8:=s.add (rounds (sch b 64) s 64)
def H0:St8:=⟨0x6a09e667,0xbb67ae85,0x3c6ef372,0xa54ff53a,0x510e527f,0x9b05688c,0x1f83d9ab,0x5be0cd19⟩
def lenB(q:UInt64):Nat→List UInt8
 |0=>[]
 |n+1=>lenB q n++[(q >>> Dh (56 - 8*n)).toUInt8]
def zeros(n:Nat):Nat:=(119 - n % 64) % 64
def padded(m:List UInt8):List UInt8:=m++[128]++CZ (zeros m.length) 0++lenB (Dh m.length*8) 8
def blocks(s:St8):Nat→List UInt8→St8
 |0,_=>s
 |n+1,m=>blocks (block s (m.take 64)) n (m.drop 64)
def outB(l:List UInt32):Nat→List UInt8
 |0=>[]
 |n+1=>outB l n++[(l.getD (n / 4) 0 >>> UInt32.ofNat (24 - 8*(n % 4))).toUInt8]
theorem outB_length(l:List UInt32):∀ n,(outB l n).length=n
 |0=>rfl
 |n+1=>by simp[outB,outB_length l n]
theorem lenB_length(q:UInt64):∀ n,(lenB q n).length=n
 |0=>rfl
 |n+1=>by simp[lenB,lenB_length q n]
theorem St8.list_inj{s t:St8}(h:s.list=t.list):s=t:=by cases s; cases t;simpa[St8.list]using h
theorem St8.list_iff{s t:St8}:s.list=t.list↔s=t:=⟨St8.list_inj,fun h=>by rw[h]⟩
theorem St8.list_length(s:St8):s.list.length=8:=rfl
end Sha
theorem zx:Ed ((zW 8).map wD) [(0,1,I .u32 1779033703),(1,1,I .u32 3144134277),(2,1,I .u32 1013904242),(3,1,I .u32 2773480762),(4,1,I .u32 1359893119),(5,1,I .u32 2600822924),(6,1,I .u32 528734635),(7,1,I .u32 1541459225)]=s_ (Sha.H0.list.map wD):=by kernel_rfl
theorem Xt:Ed ((zW 64).map wD) [(0,1,I .u32 1116352408),(1,1,I .u32 1899447441),(2,1,I .u32 3049323471),(3,1,I .u32 3921009573),(4,1,I .u32 961987163),(5,1,I .u32 1508970993),(6,1,I .u32 2453635748),(7,1,I .u32 2870763221),(8,1,I .u32 3624381080),(9,1,I .u32 310598401),(10,1,I .u32 607225278),(11,1,I .u32 1426881987),(12,1,I .u32 1925078388),(13,1,I .u32 2162078206),(14,1,I .u32 2614888103),(15,1,I .u32 3248222580),(16,1,I .u32 3835390401),(17,1,I .u32 4022224774),(18,1,I .u32 264347078),(19,1,I .u32 604807628),(20,1,I .u32 770255983),(21,1,I .u32 1249150122),(22,1,I .u32 1555081692),(23,1,I .u32 1996064986),(24,1,I .u32 2554220882),(25,1,I .u32 2821834349),(26,1,I .u32 2952996808),(27,1,I .u32 3210313671),(28,1,I .u32 3336571891),(29,1,I .u32 3584528711),(30,1,I .u32 113926993),(31,1,I .u32 338241895),(32,1,I .u32 666307205),(33,1,I .u32 773529912),(34,1,I .u32 1294757372),(35,1,I .u32 1396182291),(36,1,I .u32 1695183700),(37,1,I .u32 1986661051),(38,1,I .u32 2177026350),(39,1,I .u32 2456956037),(40,1,I .u32 2730485921),(41,1,I .u32 2820302411),(42,1,I .u32 3259730800),(43,1,I .u32 3345764771),(44,1,I .u32 3516065817),(45,1,I .u32 3600352804),(46,1,I .u32 4094571909),(47,1,I .u32 275423344),(48,1,I .u32 430227734),(49,1,I .u32 506948616),(50,1,I .u32 659060556),(51,1,I .u32 883997877),(52,1,I .u32 958139571),(53,1,I .u32 1322822218),(54,1,I .u32 1537002063),(55,1,I .u32 1747873779),(56,1,I .u32 1955562222),(57,1,I .u32 2024104815),(58,1,I .u32 2227730452),(59,1,I .u32 2361852424),(60,1,I .u32 2428436474),(61,1,I .u32 2756734187),(62,1,I .u32 3204031479),(63,1,I .u32 3329325298)]=s_ (Sha.K.map wD):=by kernel_rfl
def JA(m:List UInt8):Dig:=⟨Sha.outB (Sha.blocks Sha.H0 ((Sha.padded m).length / 64) (Sha.padded m)).list 32,Sha.outB_length _ 32⟩
def Om(t b:List UInt8):List UInt8:=UInt8.ofNat (t.take 255).length::(t.take 255++b)
def OW(t b:List UInt8):Dig:=JA (Om t b)
