/-
  SHA-256 and tagged digests over lists of bytes, in plain Lean.
  Conditions: none; these are definitions and lemmas.
-/
import Derived.Test.YtijnglngaogdjaaGreatDoorEngHe
import Derived.KernelRfl
set_option linter.unusedVariables false
set_option linter.unusedSimpArgs false
namespace Go.Proofs.YtijnglngaogdjaaGreatDoor.PI
open Go
set_option linter.unusedSimpArgs false
set_option linter.unusedVariables false
theorem yvq{A B C xs:List D}{off:Nat}(hA:A.length=off)(hB:B.length=xs.length):ybl (A++(B++C)) off xs=A++(xs++C):=by
 subst hA
 rw[ybl,List.take_append_of_le_length (Nat.le_refl _),List.take_length,← hB,List.drop_append,List.drop_eq_nil_of_le (by omega),List.nil_append,List.append_assoc]
 congr 2
 rw[show A.length+B.length - A.length=B.length by omega,List.drop_append,List.drop_length,Nat.sub_self]
 rfl
theorem yxl{A B C:List D}{off n:Nat}(hA:A.length=off)(hB:B.length=n):((A++(B++C)).drop off).take n=B:=by
 subst hA; subst hB
 rw[List.drop_append,List.drop_length,Nat.sub_self]
 simp
theorem yj9{cs A B C:List D}{off n:Nat}{sz:Nat}{lent:Bool}(h:cs=A++(B++C))(hA:A.length=off)(hB:B.length=n):ldO (some ⟨false,sz,cs,lent⟩) n true off=some (.agg B):=by
 subst h
 simp only[ldO,Option.bind_some,yxl hA hB,Bool.not_true,Bool.false_and,Bool.false_eq_true,if_false,Bool.not_false,Bool.true_and]
 rw[if_pos (by simp[hA,hB])]
 rfl
theorem ycs{cs A C:List D}{d:D}{off:Nat}{sz:Nat}{lent:Bool}(h:cs=A++(d::C))(hA:A.length=off):ldO (some ⟨false,sz,cs,lent⟩) 1 false off=some d:=by
 subst h
 have:=yxl (A:=A) (B:=[d]) (C:=C) (off:=off) (n:=1) hA rfl
 simp only[List.cons_append,List.nil_append]at this
 simp only[ldO,Option.bind_some,this,Bool.not_false,Bool.true_and,bne_self_eq_false,Bool.false_eq_true,if_false]
 rw[if_pos (by simp[hA])]
 rfl
theorem ygt{cs cs' A B C xs:List D}{off n:Nat}{sz:Nat}{v:D}(h:cs=A++(B++C))(h':cs'=A++(xs++C))(hA:A.length=off)(hB:B.length=n)(hv:v.cells=xs)(hx:xs.length=n)(hc:xs.all D.isCell=true) :
  stO (some ⟨false,sz,cs,false⟩) n off v=some ⟨false,sz,cs',false⟩:=by
 subst h; subst h'
 simp only[stO,Option.bind_some,hv,hc,yvq hA (hB.trans hx.symm)]
 rw[if_pos (by simp[hA,hB,hx])]
theorem ych{cs cs' A B C xs:List D}{off n:Nat}{v:D}{r:List (Nat×Nat×D)}(h:cs=A++(B++C))(h':cs'=A++(xs++C))(hA:A.length=off)(hB:B.length=n)(hv:v.cells=xs)(hx:xs.length=n)(hc:xs.all D.isCell=true) :
  yar cs ((off,n,v)::r)=yar cs' r:=by
 subst h; subst h'
 simp only[yar,hv,hc,yvq hA (hB.trans hx.symm)]
 rw[if_pos (by simp[hA,hB,hx])]
theorem yP1{cs A B C:List D}{off n:Nat}(h:cs=A++(B++C))(hA:A.length=off)(hB:B.length=n):yzj off n true (.agg cs)=some (.agg B):=by
 subst h
 simp only[yzj,yxl hA hB]
 rw[if_pos (by simp[hA,hB])]
 rfl
theorem yZy{cs A C:List D}{d:D}{off:Nat}(h:cs=A++(d::C))(hA:A.length=off):yzj off 1 false (.agg cs)=some d:=by
 subst h
 have:=yxl (A:=A) (B:=[d]) (C:=C) (off:=off) (n:=1) hA rfl
 simp only[List.cons_append,List.nil_append]at this
 simp only[yzj,this]
 rw[if_pos (by simp[hA])]
 rfl
theorem yb5:∀ (k1 k2:List Nat) (a1 a2 b1 b2:List D) (x y:Bool),a1.length=k1.length→b1.length=k1.length→ya0 k1 a1 b1=some x→ya0 k2 a2 b2=some y→ya0 (k1++k2) (a1++a2) (b1++b2)=some (x && y)
 |[],k2,[],a2,[],b2,x,y,_,_,h1,h2=>by
  simp only[ya0,Ywh]at h1
  subst h1
  simpa using h2
 |[],_,_::_,_,_,_,_,_,h,_,_,_=>by cases h
 |[],_,[],_,_::_,_,_,_,_,h,_,_=>by cases h
 |k::k1,k2,[],a2,b1,b2,x,y,h,_,_,_=>by cases h
 |k::k1,k2,a::a1,a2,[],b2,x,y,_,h,_,_=>by cases h
 |k::k1,k2,a::a1,a2,b::b1,b2,x,y,h,h',h1,h2=>by
  simp only[ya0]at h1
  split at h1
  ·rename_i u v hu hv
   simp only[Ywh]at h1
   subst h1
   have:=yb5 k1 k2 a1 a2 b1 b2 v y (by simpa using h) (by simpa using h') hv h2
   simp only[List.cons_append,ya0,hu,this,Bool.and_assoc]
  ·cases h1
theorem ymw(k:IntKind)(a b:Int):ya0 [0] [.int k a] [.int k b]=some (decide (a=b)):=by
 simp only[ya0,ydk,if_true,Bool.and_true]
 by_cases h:a=b <;> simp[h]
theorem yAj(a b:Bool):ya0 [1] [.bool a] [.bool b]=some (decide (a=b)):=by
 cases a <;> cases b <;> rfl
structure Bis where
 h:Int
 l:Int
 i:Int
 n0:Dig
 n1:Dig
 t0:Bool
 t1:Bool
 l0:Dig
 l1:Dig
 r0:Dig
 r1:Dig
 r:Int
 deriving DecidableEq
def bisC(x:Bis):List D:=[.int .i64 x.h]++([.int .i64 x.l]++([.int .i64 x.i]++(digC x.n0++(digC x.n1++([.bool x.t0]++([.bool x.t1]++(digC x.l0++(digC x.l1++(digC x.r0++(digC x.r1++[.int .i64 x.r]))))))))))
def bisD(x:Bis):D:=.agg (bisC x)
def ybh:Bis:=⟨0,0,0,yab,yab,false,false,yab,yab,yab,yab,0⟩
def d2C(a b:Dig):List D:=digC a++digC b
def zD2:List D:=d2C yab yab
theorem Yqx:zD2=d2C yab yab:=rfl
def ks32:List Nat:=List.replicate 32 0
def Ynb:List Nat:=[0]++([0]++([0]++(ks32++(ks32++([1]++([1]++(ks32++(ks32++(ks32++(ks32++[0]))))))))))
theorem ykm(x:Bis):(bisC x).length=198:=by simp[bisC,yaa]
theorem yeh(a b:Dig):(d2C a b).length=64:=by simp[d2C,yaa]
theorem yGs{p:D→Bool}(h1:∀ k n,p (.int k n)=true)(h2:∀ b,p (.bool b)=true)(x:Bis):(bisC x).all p=true:=by
 have:∀ d,(digC d).all p=true:=fun d=>yet (fun b=>h1 _ _) d
 simp only[bisC,List.all_append,List.all_cons,List.all_nil,h1,h2,this,Bool.and_self]
theorem yM9{p:D→Bool}(h1:∀ k n,p (.int k n)=true)(a b:Dig):(d2C a b).all p=true:=by
 have:∀ d,(digC d).all p=true:=fun d=>yet (fun b=>h1 _ _) d
 simp only[d2C,List.all_append,this,Bool.and_self]
theorem yUk(x:Bis):(bisC x).all yas=true:=yGs (fun _ _=>rfl) (fun _=>rfl) x
theorem yBf(x:Bis):(bisC x).all D.isCell=true:=yGs (fun _ _=>rfl) (fun _=>rfl) x
theorem yJx(a b:Dig):(d2C a b).all yas=true:=yM9 (fun _ _=>rfl) a b
theorem yx7(a b:Dig):(d2C a b).all D.isCell=true:=yM9 (fun _ _=>rfl) a b
theorem ywn{A B C E:List D}(h:A++B=C++E)(hl:A.length=C.length):A=C∧B=E:=List.append_inj h hl
theorem yQr{x y:Bis}(h:bisC x=bisC y):x=y:=by
 obtain⟨xh,xl,xi,xn0,xn1,xt0,xt1,xl0,xl1,xr0,xr1,xr⟩:=x
 obtain⟨yh,yl,yi,yn0,yn1,yt0,yt1,yl0,yl1,yr0,yr1,yr⟩:=y
 simp only[bisC,List.cons_append,List.nil_append,List.cons.injEq,D.int.injEq,true_and]at h
 obtain⟨q1,q2,q3,h0⟩:=h
 obtain⟨e1,h1⟩:=ywn h0 (by simp[yaa])
 obtain⟨e2,h2⟩:=ywn h1 (by simp[yaa])
 simp only[List.cons.injEq,D.bool.injEq]at h2
 obtain⟨q4,q5,h3⟩:=h2
 obtain⟨e3,h4⟩:=ywn h3 (by simp[yaa])
 obtain⟨e4,h5⟩:=ywn h4 (by simp[yaa])
 obtain⟨e5,h6⟩:=ywn h5 (by simp[yaa])
 obtain⟨e6,h7⟩:=ywn h6 (by simp[yaa])
 simp only[List.cons.injEq,D.int.injEq,true_and,and_true]at h7
 rw[q1,q2,q3,q4,q5,h7,yga e1,yga e2,yga e3,yga e4,yga e5,yga e6]
theorem yyd{x y:Bis}:bisD x=bisD y↔x=y:=⟨fun h=>by simp only[bisD,D.agg.injEq]at h; exact yQr h,fun h=>by rw[h]⟩
section
variable (x:Bis) (sz:Nat) (lent:Bool)
theorem ldB_h:ldO (some ⟨false,sz,bisC x,lent⟩) 1 false 0=some (.int .i64 x.h):=ycs (A:=[]) rfl rfl
theorem ldB_l:ldO (some ⟨false,sz,bisC x,lent⟩) 1 false 1=some (.int .i64 x.l):=ycs (A:=[.int .i64 x.h]) rfl rfl
theorem ldB_i:ldO (some ⟨false,sz,bisC x,lent⟩) 1 false 2=some (.int .i64 x.i):=ycs (A:=[.int .i64 x.h,.int .i64 x.l]) rfl rfl
theorem Ytt:ldO (some ⟨false,sz,bisC x,lent⟩) 32 true 3=some (digD x.n0):=yj9 (A:=[.int .i64 x.h,.int .i64 x.l,.int .i64 x.i]) (B:=digC x.n0) rfl rfl (yaa _)
theorem Yts:ldO (some ⟨false,sz,bisC x,lent⟩) 32 true 35=some (digD x.n1):=yj9 (A:=[.int .i64 x.h,.int .i64 x.l,.int .i64 x.i]++digC x.n0) (B:=digC x.n1) (by simp[bisC]; rfl) (by simp[yaa]) (yaa _)
theorem ldB_n:ldO (some ⟨false,sz,bisC x,lent⟩) 64 true 3=some (.agg (d2C x.n0 x.n1)):=yj9 (A:=[.int .i64 x.h,.int .i64 x.l,.int .i64 x.i]) (B:=d2C x.n0 x.n1) (by simp[bisC,d2C]; rfl) rfl (yeh _ _)
theorem Ytr:ldO (some ⟨false,sz,bisC x,lent⟩) 1 false 67=some (.bool x.t0):=ycs (A:=[.int .i64 x.h,.int .i64 x.l,.int .i64 x.i]++(digC x.n0++digC x.n1)) (by simp[bisC]; rfl) (by simp[yaa])
theorem Ytq:ldO (some ⟨false,sz,bisC x,lent⟩) 1 false 68=some (.bool x.t1):=ycs (A:=[.int .i64 x.h,.int .i64 x.l,.int .i64 x.i]++(digC x.n0++(digC x.n1++[.bool x.t0]))) (by simp[bisC]; rfl) (by simp[yaa])
theorem Ytv:ldO (some ⟨false,sz,bisC x,lent⟩) 32 true 69=some (digD x.l0):=yj9 (A:=[.int .i64 x.h,.int .i64 x.l,.int .i64 x.i]++(digC x.n0++(digC x.n1++[.bool x.t0,.bool x.t1]))) (B:=digC x.l0) (by simp[bisC]; rfl) (by simp[yaa]) (yaa _)
theorem Ytu:ldO (some ⟨false,sz,bisC x,lent⟩) 32 true 101=some (digD x.l1):=yj9 (A:=[.int .i64 x.h,.int .i64 x.l,.int .i64 x.i]++(digC x.n0++(digC x.n1++([.bool x.t0,.bool x.t1]++digC x.l0)))) (B:=digC x.l1) (by simp[bisC]; rfl) (by simp[yaa]) (yaa _)
theorem ldB_L:ldO (some ⟨false,sz,bisC x,lent⟩) 64 true 69=some (.agg (d2C x.l0 x.l1)):=yj9 (A:=[.int .i64 x.h,.int .i64 x.l,.int .i64 x.i]++(digC x.n0++(digC x.n1++[.bool x.t0,.bool x.t1]))) (B:=d2C x.l0 x.l1) (by simp[bisC,d2C]; rfl) (by simp[yaa]) (yeh _ _)
theorem ldB_R:ldO (some ⟨false,sz,bisC x,lent⟩) 64 true 133=some (.agg (d2C x.r0 x.r1)):=yj9 (A:=[.int .i64 x.h,.int .i64 x.l,.int .i64 x.i]++(digC x.n0++(digC x.n1++([.bool x.t0,.bool x.t1]++(digC x.l0++digC x.l1))))) (B:=d2C x.r0 x.r1) (C:=[.int .i64 x.r]) (by simp[bisC,d2C]) (by simp[yaa]) (yeh _ _)
theorem ldB_r:ldO (some ⟨false,sz,bisC x,lent⟩) 1 false 197=some (.int .i64 x.r):=ycs (A:=[.int .i64 x.h,.int .i64 x.l,.int .i64 x.i]++(digC x.n0++(digC x.n1++([.bool x.t0,.bool x.t1]++(digC x.l0++(digC x.l1++(digC x.r0++digC x.r1))))))) (C:=[]) (by simp[bisC]) (by simp[yaa])
theorem Ym8:ldO (some ⟨false,sz,bisC x,lent⟩) 198 true 0=some (bisD x):=yh0 sz lent _ 198 (ykm x)
theorem Yll(y:Bis):stO (some ⟨false,sz,bisC x,false⟩) 198 0 (bisD y)=some ⟨false,sz,bisC y,false⟩:=yi2 sz _ _ 198 (ykm x) (ykm y) (yBf y)
theorem stB_i(v:Int):stO (some ⟨false,sz,bisC x,false⟩) 1 2 (.int .i64 v)=some ⟨false,sz,bisC {x with i:=v},false⟩:=ygt (A:=[.int .i64 x.h,.int .i64 x.l]) (B:=[.int .i64 x.i]) (xs:=[.int .i64 v]) rfl rfl rfl rfl rfl rfl rfl
theorem stB_n(a b:Dig):stO (some ⟨false,sz,bisC x,false⟩) 64 3 (.agg (d2C a b))=some ⟨false,sz,bisC {x with n0:=a,n1:=b},false⟩:=ygt (A:=[.int .i64 x.h,.int .i64 x.l,.int .i64 x.i]) (B:=d2C x.n0 x.n1) (xs:=d2C a b) (by simp[bisC,d2C]; rfl) (by simp[bisC,d2C]) rfl (yeh _ _) rfl (yeh _ _) (yx7 a b)
theorem Yr8(v:Bool):stO (some ⟨false,sz,bisC x,false⟩) 1 67 (.bool v)=some ⟨false,sz,bisC {x with t0:=v},false⟩:=ygt (A:=[.int .i64 x.h,.int .i64 x.l,.int .i64 x.i]++(digC x.n0++digC x.n1)) (B:=[.bool x.t0]) (xs:=[.bool v]) (by simp[bisC]; rfl) (by simp[bisC]) (by simp[yaa]) rfl rfl rfl rfl
theorem Yr7(v:Bool):stO (some ⟨false,sz,bisC x,false⟩) 1 68 (.bool v)=some ⟨false,sz,bisC {x with t1:=v},false⟩:=ygt (A:=[.int .i64 x.h,.int .i64 x.l,.int .i64 x.i]++(digC x.n0++(digC x.n1++[.bool x.t0]))) (B:=[.bool x.t1]) (xs:=[.bool v]) (by simp[bisC]; rfl) (by simp[bisC]) (by simp[yaa]) rfl rfl rfl rfl
theorem Ysc(v:Dig):stO (some ⟨false,sz,bisC x,false⟩) 32 69 (digD v)=some ⟨false,sz,bisC {x with l0:=v},false⟩:=ygt (A:=[.int .i64 x.h,.int .i64 x.l,.int .i64 x.i]++(digC x.n0++(digC x.n1++[.bool x.t0,.bool x.t1]))) (B:=digC x.l0) (xs:=digC v) (by simp[bisC]; rfl) (by simp[bisC]) (by simp[yaa]) (yaa _) rfl (yaa _) (ybc v)
theorem Ysb(v:Dig):stO (some ⟨false,sz,bisC x,false⟩) 32 101 (digD v)=some ⟨false,sz,bisC {x with l1:=v},false⟩:=ygt (A:=[.int .i64 x.h,.int .i64 x.l,.int .i64 x.i]++(digC x.n0++(digC x.n1++([.bool x.t0,.bool x.t1]++digC x.l0)))) (B:=digC x.l1) (xs:=digC v) (by simp[bisC]; rfl) (by simp[bisC]) (by simp[yaa]) (yaa _) rfl (yaa _) (ybc v)
theorem Ysa(v:Dig):stO (some ⟨false,sz,bisC x,false⟩) 32 133 (digD v)=some ⟨false,sz,bisC {x with r0:=v},false⟩:=ygt (A:=[.int .i64 x.h,.int .i64 x.l,.int .i64 x.i]++(digC x.n0++(digC x.n1++([.bool x.t0,.bool x.t1]++(digC x.l0++digC x.l1))))) (B:=digC x.r0) (xs:=digC v) (by simp[bisC]; rfl) (by simp[bisC]) (by simp[yaa]) (yaa _) rfl (yaa _) (ybc v)
theorem Yr9(v:Dig):stO (some ⟨false,sz,bisC x,false⟩) 32 165 (digD v)=some ⟨false,sz,bisC {x with r1:=v},false⟩:=ygt (A:=[.int .i64 x.h,.int .i64 x.l,.int .i64 x.i]++(digC x.n0++(digC x.n1++([.bool x.t0,.bool x.t1]++(digC x.l0++(digC x.l1++digC x.r0)))))) (B:=digC x.r1) (C:=[.int .i64 x.r]) (xs:=digC v) (by simp[bisC]) (by simp[bisC]) (by simp[yaa]) (yaa _) rfl (yaa _) (ybc v)
theorem fiB_h(v:Int)(r:List (Nat×Nat×D)):yar (bisC x) ((0,1,.int .i64 v)::r)=yar (bisC {x with h:=v}) r:=ych (A:=[]) (B:=[.int .i64 x.h]) (xs:=[.int .i64 v]) rfl rfl rfl rfl rfl rfl rfl
theorem fiB_l(v:Int)(r:List (Nat×Nat×D)):yar (bisC x) ((1,1,.int .i64 v)::r)=yar (bisC {x with l:=v}) r:=ych (A:=[.int .i64 x.h]) (B:=[.int .i64 x.l]) (xs:=[.int .i64 v]) rfl rfl rfl rfl rfl rfl rfl
theorem fiB_i(v:Int)(r:List (Nat×Nat×D)):yar (bisC x) ((2,1,.int .i64 v)::r)=yar (bisC {x with i:=v}) r:=ych (A:=[.int .i64 x.h,.int .i64 x.l]) (B:=[.int .i64 x.i]) (xs:=[.int .i64 v]) rfl rfl rfl rfl rfl rfl rfl
theorem fiB_n(a b:Dig)(r:List (Nat×Nat×D)):yar (bisC x) ((3,64,.agg (d2C a b))::r)=yar (bisC {x with n0:=a,n1:=b}) r:=ych (A:=[.int .i64 x.h,.int .i64 x.l,.int .i64 x.i]) (B:=d2C x.n0 x.n1) (xs:=d2C a b) (by simp[bisC,d2C]; rfl) (by simp[bisC,d2C]) rfl (yeh _ _) rfl (yeh _ _) (yx7 a b)
theorem fiB_r(v:Int)(r:List (Nat×Nat×D)):yar (bisC x) ((197,1,.int .i64 v)::r)=yar (bisC {x with r:=v}) r:=ych (A:=[.int .i64 x.h,.int .i64 x.l,.int .i64 x.i]++(digC x.n0++(digC x.n1++([.bool x.t0,.bool x.t1]++(digC x.l0++(digC x.l1++(digC x.r0++digC x.r1))))))) (B:=[.int .i64 x.r]) (C:=[]) (xs:=[.int .i64 v]) (by simp[bisC]) (by simp[bisC]) (by simp[yaa]) rfl rfl rfl rfl
end
theorem fi2_0(a b v:Dig)(r:List (Nat×Nat×D)):yar (d2C a b) ((0,32,digD v)::r)=yar (d2C v b) r:=ych (A:=[]) (B:=digC a) (xs:=digC v) rfl rfl rfl (yaa _) rfl (yaa _) (ybc v)
theorem fi2_1(a b v:Dig)(r:List (Nat×Nat×D)):yar (d2C a b) ((32,32,digD v)::r)=yar (d2C a v) r:=ych (A:=digC a) (B:=digC b) (C:=[]) (xs:=digC v) (by simp[d2C]) (by simp[d2C]) (yaa _) (yaa _) rfl (yaa _) (ybc v)
theorem Ym9(sz:Nat)(lent:Bool)(a b:Dig):ldO (some ⟨false,sz,d2C a b,lent⟩) 64 true 0=some (.agg (d2C a b)):=yh0 sz lent _ 64 (yeh _ _)
theorem Ylm(sz:Nat)(a b c d:Dig):stO (some ⟨false,sz,d2C a b,false⟩) 64 0 (.agg (d2C c d))=some ⟨false,sz,d2C c d,false⟩:=yi2 sz _ _ 64 (yeh _ _) (yeh _ _) (yx7 _ _)
theorem Yp4(x:Bis):boxD (bisD x)=some (bisC x):=by
 simp only[boxD,bisD,D.cells,yBf,if_true]
theorem Yvu(a b:Dig):boxD (.agg (d2C a b))=some (d2C a b):=by
 simp only[boxD,D.cells,yx7,if_true]
theorem Yqj(x:Bis):D.agg (bisC x)=bisD x:=rfl
theorem Yny(st:St)(x:Bis):imm st (bisD x)=some (bisD x):=ymj st (yUk x)
theorem Yne(a b:Dig):keys (.agg (d2C a b))=[]:=yju (yJx a b)
theorem ySh(x:Bis):((bisC x).all D.noRef1)=true:=yGs (fun _ _=>rfl) (fun _=>rfl) x
theorem yXw(a b:Dig):((d2C a b).all D.noRef1)=true:=yM9 (fun _ _=>rfl) a b
theorem Yk2(x:Bis)(k:IntKind)(n:Int):(D.tup [bisD x,.int k n]).noRef=true:=by
 simp[D.noRef,bisD,ySh,D.noRef1]
theorem yU9(k:IntKind)(n:Int)(a c:Dig)(b:Bool):(D.tup [.int k n,.agg (d2C a c),.bool b]).noRef=true:=by
 simp[D.noRef,yXw,D.noRef1]
theorem yn4(a b:Dig):ya0 ks32 (digC a) (digC b)=some (decide (a=b)):=yC0 a b
theorem Yg5(x y:Bis):ya0 Ynb (bisC x) (bisC y)=some (decide (x=y)):=by
 have l1:∀ d:Dig,(digC d).length=ks32.length:=fun d=>by rw[yaa]; rfl
 have e11:=ymw .i64 x.r y.r
 have e10:=yb5 ks32 _ _ _ _ _ _ _ (l1 x.r1) (l1 y.r1) (yn4 x.r1 y.r1) e11
 have e9:=yb5 ks32 _ _ _ _ _ _ _ (l1 x.r0) (l1 y.r0) (yn4 x.r0 y.r0) e10
 have e8:=yb5 ks32 _ _ _ _ _ _ _ (l1 x.l1) (l1 y.l1) (yn4 x.l1 y.l1) e9
 have e7:=yb5 ks32 _ _ _ _ _ _ _ (l1 x.l0) (l1 y.l0) (yn4 x.l0 y.l0) e8
 have e6:=yb5 [1] _ _ _ _ _ _ _ rfl rfl (yAj x.t1 y.t1) e7
 have e5:=yb5 [1] _ _ _ _ _ _ _ rfl rfl (yAj x.t0 y.t0) e6
 have e4:=yb5 ks32 _ _ _ _ _ _ _ (l1 x.n1) (l1 y.n1) (yn4 x.n1 y.n1) e5
 have e3:=yb5 ks32 _ _ _ _ _ _ _ (l1 x.n0) (l1 y.n0) (yn4 x.n0 y.n0) e4
 have e2:=yb5 [0] _ _ _ _ _ _ _ rfl rfl (ymw .i64 x.i y.i) e3
 have e1:=yb5 [0] _ _ _ _ _ _ _ rfl rfl (ymw .i64 x.l y.l) e2
 have e0:=yb5 [0] _ _ _ _ _ _ _ rfl rfl (ymw .i64 x.h y.h) e1
 refine e0.trans (congrArg some ?_)
 rw[Bool.eq_iff_iff]
 simp only[Bool.and_eq_true,decide_eq_true_eq]
 constructor
 ·rintro⟨a,b,c,d,e,f,g,h,i,j,k,l⟩
  cases x; cases y; simp_all
 ·rintro rfl; simp
theorem yBj(neg:Bool)(x y:Bis):paeq Ynb neg (bisD x) (bisD y)=some (.bool (decide (x=y) != neg)):=by
 simp only[paeq,bisD,Yg5,Option.map_some]
attribute [push_cast] ldB_h ldB_l ldB_i Ytt Yts ldB_n Ytr Ytq Ytv Ytu ldB_L ldB_R ldB_r Ym8 Yll stB_i stB_n Yr8 Yr7 Ysc Ysb Ysa Yr9 fiB_h fiB_l fiB_i fiB_n fiB_r fi2_0 fi2_1 Ym9 Ylm Yp4 Yvu Yqj Yny Yne Yk2 yU9 yBj Yqx
inductive Sg where
 |c (d:D)
 |g (x:Dig)
 |w (n:Nat) (l:List D)
def Sg.sz:Sg→Nat
 |.c _=>1
 |.g _=>32
 |.w n _=>n
def Sg.cs:Sg→List D
 |.c d=>[d]
 |.g x=>digC x
 |.w _ l=>l
def flat:List Sg→List D
 |[]=>[]
 |s::r=>s.cs++flat r
def wfS:List Sg→Prop
 |[]=>True
 |.c _::r=>wfS r
 |.g _::r=>wfS r
 |.w n l::r=>l.length=n∧wfS r
def lenS:List Sg→Nat
 |[]=>0
 |s::r=>s.sz+lenS r
theorem yfi:∀ A B:List Sg,flat (A++B)=flat A++flat B
 |[],_=>rfl
 |s::A,B=>by rw[List.cons_append,flat,flat,yfi A B,List.append_assoc]
theorem yBy:∀ {A B:List Sg},wfS (A++B)→wfS A∧wfS B
 |[],_,h=>⟨trivial,h⟩
 |.c _::A,_,h=>yBy (A:=A) h
 |.g _::A,_,h=>yBy (A:=A) h
 |.w _ _::A,_,h=>⟨⟨h.1,(yBy (A:=A) h.2).1⟩,(yBy (A:=A) h.2).2⟩
theorem yjk:∀ {A:List Sg},wfS A→(flat A).length=lenS A
 |[],_=>rfl
 |.c d::A,h=>by rw[flat,lenS,List.length_append,yjk (A:=A) h]; rfl
 |.g x::A,h=>by rw[flat,lenS,List.length_append,yjk (A:=A) h]; simp[Sg.cs,Sg.sz,yaa]
 |.w n l::A,h=>by rw[flat,lenS,List.length_append,yjk (A:=A) h.2]; simp[Sg.cs,Sg.sz,h.1]
def yVf:List Sg→Nat→Option (List Sg×List Sg)
 |l,0=>some ([],l)
 |[],_+1=>none
 |s::r,n+1=>match Nat.ble s.sz (n+1)with
  |true=>match yVf r (n+1 - s.sz)with
   |some (A,B)=>some (s::A,B)
   |none=>none
  |false=>none
theorem yD6:∀ (l:List Sg) (n:Nat) (A B:List Sg),yVf l n=some (A,B)→l=A++B∧lenS A=n
 |l,0,A,B,h=>by
  have h:some (([]:List Sg),l)=some (A,B):=by cases l <;> exact h
  simp only[Option.some.injEq,Prod.mk.injEq]at h
  obtain⟨rfl,rfl⟩:=h
  exact⟨rfl,rfl⟩
 |[],n+1,A,B,h=>by cases h
 |s::r,n+1,A,B,h=>by
  simp only[yVf]at h
  split at h
  case h_2=>cases h
  rename_i hb
  split at h
  case h_2=>cases h
  rename_i A' B' hr
  simp only[Option.some.injEq,Prod.mk.injEq]at h
  obtain⟨rfl,rfl⟩:=h
  obtain⟨e1,e2⟩:=yD6 r _ _ _ hr
  have:=Nat.le_of_ble_eq_true hb
  exact⟨by rw[e1]; rfl,by rw[lenS,e2]; omega⟩
def yB5(l:List Sg)(off n:Nat):Option (List Sg×List Sg×List Sg):=match yVf l off with
 |some (A,R)=>match yVf R n with
  |some (B,C)=>some (A,B,C)
  |none=>none
 |none=>none
theorem ytv{l:List Sg}{off n:Nat}{A B C:List Sg}(h:yB5 l off n=some (A,B,C))(hw:wfS l):flat l=flat A++(flat B++flat C)∧(flat A).length=off∧(flat B).length=n:=by
 unfold yB5 at h
 split at h
 case h_2=>cases h
 rename_i A' R h1
 split at h
 case h_2=>cases h
 rename_i B' C' h2
 simp only[Option.some.injEq,Prod.mk.injEq]at h
 obtain⟨rfl,rfl,rfl⟩:=h
 obtain⟨e1,e2⟩:=yD6 _ _ _ _ h1
 obtain⟨e3,e4⟩:=yD6 _ _ _ _ h2
 subst e1
 obtain⟨w1,w2⟩:=yBy hw
 subst e3
 obtain⟨w3,w4⟩:=yBy w2
 exact⟨by rw[yfi,yfi],by rw[yjk w1,e2],by rw[yjk w3,e4]⟩
theorem yd3{l A B C:List Sg}{off n sz:Nat}{lent:Bool}{cs:List D}{d:D}(hcs:cs=flat l)(h:yB5 l off n=some (A,B,C))(hw:wfS l)(hd:d=.agg (flat B)):ldO (some ⟨false,sz,cs,lent⟩) n true off=some d:=by
 obtain⟨e1,e2,e3⟩:=ytv h hw
 rw[hcs,hd]
 exact yj9 e1 e2 e3
theorem ybu{l A C:List Sg}{off sz:Nat}{lent:Bool}{cs:List D}{d:D}(hcs:cs=flat l)(h:yB5 l off 1=some (A,[.c d],C))(hw:wfS l):ldO (some ⟨false,sz,cs,lent⟩) 1 false off=some d:=by
 obtain⟨e1,e2,e3⟩:=ytv h hw
 rw[hcs]
 exact ycs e1 e2
theorem yht{l A B C X:List Sg}{off n sz:Nat}{cs cs':List D}{v:D}(hcs:cs=flat l)(h:yB5 l off n=some (A,B,C))(hw:wfS l)(hcs':cs'=flat (A++(X++C)))(hv:v.cells=flat X)(hx:(flat X).length=n)(hc:(flat X).all D.isCell=true) :
  stO (some ⟨false,sz,cs,false⟩) n off v=some ⟨false,sz,cs',false⟩:=by
 obtain⟨e1,e2,e3⟩:=ytv h hw
 rw[hcs,hcs']
 exact ygt e1 (by rw[yfi,yfi]) e2 e3 hv hx hc
theorem yca{l A B C X:List Sg}{off n:Nat}{cs cs':List D}{v:D}{r:List (Nat×Nat×D)}(hcs:cs=flat l)(h:yB5 l off n=some (A,B,C))(hw:wfS l)(hcs':cs'=flat (A++(X++C)))(hv:v.cells=flat X)(hx:(flat X).length=n)(hc:(flat X).all D.isCell=true) :
  yar cs ((off,n,v)::r)=yar cs' r:=by
 obtain⟨e1,e2,e3⟩:=ytv h hw
 rw[hcs,hcs']
 exact ych e1 (by rw[yfi,yfi]) e2 e3 hv hx hc
theorem yjl{p:D→Bool}(h0:∀ k n,p (.int k n)=true):∀ {l:List Sg},(∀ s∈l,s.cs.all p=true)→(flat l).all p=true
 |[],_=>rfl
 |s::l,h=>by
  rw[flat,List.all_append,h s (List.mem_cons_self ..),yjl h0 (fun x hx=>h x (List.mem_cons_of_mem _ hx))]; rfl
def zI(n:Nat):List D:=List.replicate n (.int .i64 0)
def zOpC:List D:=zI 4++(.slc 0 [] true::.int .i64 0::digC yab)
def zCm2:List D:=(.int .i64 0::digC yab)++(.int .i64 0::digC yab)
def yce:List D:=zI 11++(zCm2++(bisC ybh++(zI 3++[.slc 0 [] true])))
def zMvC:List D:=zI 3++((.int .i64 0::digC yab)++(digC yab++(digC yab++(zOpC++(.slc 0 [] true::zI 5)))))
def yGw:List D:=yce++(.slc 0 [] true::(zI 17++(zMvC++[.int .i64 0])))
def ks33:List Nat:=[0]++ks32
def ks66:List Nat:=ks33++ks33
namespace Sha
def rotr(x:UInt32)(n:Nat):UInt32:=x >>> UInt32.ofNat n ||| x <<< UInt32.ofNat (32 - n)
def word(b:List UInt8)(i:Nat):UInt32:=
 (b.getD (4*i) 0).toUInt32 <<< UInt32.ofNat 24 ||| (b.getD (4*i+1) 0).toUInt32 <<< UInt32.ofNat 16 ||| (b.getD (4*i+2) 0).toUInt32 <<< UInt32.ofNat 8 ||| (b.getD (4*i+3) 0).toUInt32
def sig0(x:UInt32):UInt32:=rotr x 7 ^^^ rotr x 18 ^^^ x >>> UInt32.ofNat 3
def sig1(x:UInt32):UInt32:=rotr x 17 ^^^ rotr x 19 ^^^ x >>> UInt32.ofNat 10
def sch(b:List UInt8):Nat→List UInt32
 |0=>[]
 |n+1=>let w:=sch b n
  w++[if n<16 then word b n else w.getD (n - 16) 0+sig0 (w.getD (n - 15) 0)+w.getD (n - 7) 0+sig1 (w.getD (n - 2) 0)]
theorem sch_length(b:List UInt8):∀ n,(sch b n).length=n
 |0=>rfl
 |n+1=>by simp[sch,sch_length b n]
structure St8 where
 a:UInt32
 b:UInt32
 c:UInt32
 d:UInt32
 e:UInt32
 f:UInt32
 g:UInt32
 h:UInt32
def St8.list(s:St8):List UInt32:=[s.a,s.b,s.c,s.d,s.e,s.f,s.g,s.h]
def round(s:St8)(k w:UInt32):St8:=
 let t:=s.h+(rotr s.e 6 ^^^ rotr s.e 11 ^^^ rotr s.e 25)+(s.e &&& s.f ^^^ ~~~s.e &&& s.g)+k+w
 let u:=(rotr s.a 2 ^^^ rotr s.a 13 ^^^ rotr s.a 22)+(s.a &&& s.b ^^^ s.a &&& s.c ^^^ s.b &&& s.c)
 {a:=t+u,b:=s.a,c:=s.b,d:=s.c,e:=s.d+t,f:=s.e,g:=s.f,h:=s.g}
def K:List UInt32:=[
 0x428a2f98,0x71374491,0xb5c0fbcf,0xe9b5dba5,0x3956c25b,0x59f111f1,0x923f82a4,0xab1c5ed5,
 0xd807aa98,0x12835b01,0x243185be,0x550c7dc3,0x72be5d74,0x80deb1fe,0x9bdc06a7,0xc19bf174,
 0xe49b69c1,0xefbe4786,0x0fc19dc6,0x240ca1cc,0x2de92c6f,0x4a7484aa,0x5cb0a9dc,0x76f988da,
 0x983e5152,0xa831c66d,0xb00327c8,0xbf597fc7,0xc6e00bf3,0xd5a79147,0x06ca6351,0x14292967,
 0x27b70a85,0x2e1b2138,0x4d2c6dfc,0x53380d13,0x650a7354,0x766a0abb,0x81c2c92e,0x92722c85,
 0xa2bfe8a1,0xa81a664b,0xc24b8b70,0xc76c51a3,0xd192e819,0xd6990624,0xf40e3585,0x106aa070,
 0x19a4c116,0x1e376c08,0x2748774c,0x34b0bcb5,0x391c0cb3,0x4ed8aa4a,0x5b9cca4f,0x682e6ff3,
 0x748f82ee,0x78a5636f,0x84c87814,0x8cc70208,0x90befffa,0xa4506ceb,0xbef9a3f7,0xc67178f2]
def rounds(w:List UInt32)(s:St8):Nat→St8
 |0=>s
 |n+1=>round (rounds w s n) (K.getD n 0) (w.getD n 0)
def St8.add(s t:St8):St8:={a:=s.a+t.a,b:=s.b+t.b,c:=s.c+t.c,d:=s.d+t.d,e:=s.e+t.e,f:=s.f+t.f,g:=s.g+t.g,h:=s.h+t.h}
def block(s:St8)(b:List UInt8):St8:=s.add (rounds (sch b 64) s 64)
def H0:St8:=⟨0x6a09e667,0xbb67ae85,0x3c6ef372,0xa54ff53a,0x510e527f,0x9b05688c,0x1f83d9ab,0x5be0cd19⟩
def lenB(q:UInt64):Nat→List UInt8
 |0=>[]
 |n+1=>lenB q n++[(q >>> UInt64.ofNat (56 - 8*n)).toUInt8]
def zeros(n:Nat):Nat:=(119 - n % 64) % 64
def padded(m:List UInt8):List UInt8:=m++[128]++List.replicate (zeros m.length) 0++lenB (UInt64.ofNat m.length*8) 8
def blocks(s:St8):Nat→List UInt8→St8
 |0,_=>s
 |n+1,m=>blocks (block s (m.take 64)) n (m.drop 64)
def outB(l:List UInt32):Nat→List UInt8
 |0=>[]
 |n+1=>outB l n++[(l.getD (n / 4) 0 >>> UInt32.ofNat (24 - 8*(n % 4))).toUInt8]
theorem outB_length(l:List UInt32):∀ n,(outB l n).length=n
 |0=>rfl
 |n+1=>by simp[outB,outB_length l n]
theorem lenB_length(q:UInt64):∀ n,(lenB q n).length=n
 |0=>rfl
 |n+1=>by simp[lenB,lenB_length q n]
theorem St8.list_inj{s t:St8}(h:s.list=t.list):s=t:=by
 cases s; cases t
 simpa[St8.list]using h
theorem St8.list_iff{s t:St8}:s.list=t.list↔s=t:=⟨St8.list_inj,fun h=>by rw[h]⟩
theorem St8.list_length(s:St8):s.list.length=8:=rfl
end Sha
theorem Yuw:yar ((zW 8).map wD) [(0,1,.int .u32 1779033703),(1,1,.int .u32 3144134277),(2,1,.int .u32 1013904242),(3,1,.int .u32 2773480762),(4,1,.int .u32 1359893119),(5,1,.int .u32 2600822924),(6,1,.int .u32 528734635),(7,1,.int .u32 1541459225)]=some (Sha.H0.list.map wD):=by kernel_rfl
def shaL(m:List UInt8):Dig:=⟨Sha.outB (Sha.blocks Sha.H0 ((Sha.padded m).length / 64) (Sha.padded m)).list 32,Sha.outB_length _ 32⟩
def Yog(t b:List UInt8):List UInt8:=UInt8.ofNat (t.take 255).length::(t.take 255++b)
def yvp(t b:List UInt8):Dig:=shaL (Yog t b)
end Go.Proofs.YtijnglngaogdjaaGreatDoor.PI
