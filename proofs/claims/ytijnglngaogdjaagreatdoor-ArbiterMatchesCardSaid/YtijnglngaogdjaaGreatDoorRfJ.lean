/-
  arbiter's reference, and the law that it agrees.
  Conditions: none; these are lemmas.
-/
import Derived.Test.YtijnglngaogdjaaGreatDoorRfG
import Derived.Test.YtijnglngaogdjaaGreatDoorArE
import Derived.Test.YtijnglngaogdjaaGreatDoorEngHe
import Derived.Test.YtijnglngaogdjaaGreatDoorSha
open Int renaming reduceEq→CR,reduceNeg→CN
open Nat renaming reduceAdd→CH,reduceEqDiff→CG
set_option linter.unusedVariables false
set_option linter.unusedSimpArgs false
namespace Go.Proofs.YtijnglngaogdjaaGreatDoor.PI
open Go
set_option linter.unusedSimpArgs false
set_option maxHeartbeats 8000000
set_option maxRecDepth 20000
set_option linter.unusedVariables false
theorem gg(st:St)(L:List Int)(r:Int)(sz:Nat)(t:Bool)(u:sz=1∨L.map nI=[])(hl:L.length≤1000) :
  DR st 1 8 (.slc 1 [] true) (.slc sz (L.map nI) t)=some (DC 1 st.length (L.map nI),st++Di 1 (L.map nI)):=by
 have:=NK nI 1 1 8 [] L t (by decide) (by simp; omega) (by simp; omega) st sz u;simpa[Di,DC]using this
theorem ai(st:St)(l:List Int)(k:Nat)(h:k≤l.length):FX st 1 (.slc (nz 1 (l.map nI)) (l.map nI) false) none (some (.int .i64 ((l.length:Int) - k))) none=some (.slc (nz 1 (l.map nI)) ((l.take (l.length - k)).map nI) false):=by
 rw[show(l.length:Int) - k=((l.length - k:Nat):Int) by omega];exact Xt st l (by omega)
theorem VB(st:St)(l:List Int)(k:Nat)(h:k<l.length):Fy st 1 (.slc (nz 1 (l.map nI)) (l.map nI) false) (.int .i64 ((l.length:Int) - ((k:Int)+1)))=some (.eptr (nI (EC l k)) 0):=by
 have:=Nm st l false (l.length - 1 - k) (by omega);rw[show((l.length - 1 - k:Nat):Int)=(l.length:Int) - ((k:Int)+1) by omega]at this;exact this
theorem Xq(l:List Int)(h:0<l.length):nz 1 (l.map nI)=1:=by
 cases l with
 |nil=>cases h
 |cons a r=>rfl
theorem lV(s:Sta)(sz:Nat)(l:List D)(q:Bool):Eh (some ⟨false,1,DB s,false⟩) 1 4 (.slc sz l q)=some ⟨false,1,FB s.pc s.fuel s.status s.clause (.slc sz l q),false⟩:=(rfl)
theorem Ypv(st:St)(p f t c:Int)(L:List Int)(q:Bool):D4 st (.agg (FB p f t c (.slc 1 (L.map nI) q)))=some (Dk ⟨p,f,t,c,L⟩):=(rfl)
noncomputable def Yh:List D→Option D:=Dd (α:=Ins×(Int×List Int)×Sta×Int) (fun a=>[C5 a.1,DQ a.2.1,Dk a.2.2.1,.int .i64 a.2.2.2]) (fun a=>D5 a.2.1∧EB a.1=true∧(0≤a.2.2.2∧a.2.2.2≤64)∧a.2.2.1.stack.length≤64∧(0≤a.2.2.1.pc∧a.2.2.1.pc≤100000)) (fun a=>.tup [Dk (Em a.2.2.1 (EO a.2.1 a.2.2.2 a.2.2.1 a.1)).1,.int .i64 (Em a.2.2.1 (EO a.2.1 a.2.2.2 a.2.2.1 a.1)).2])
theorem q6(x:Ins)(v:Int×List Int)(s:Sta)(b:Int)(h:D5 v∧EB x=true∧(0≤b∧b≤64)∧s.stack.length≤64∧(0≤s.pc∧s.pc≤100000)):Yh [C5 x,DQ v,Dk s,.int .i64 b]=some (.tup [Dk (Em s (EO v b s x)).1,.int .i64 (Em s (EO v b s x)).2]):=
 DG (fun⟨a0,a1,u,E⟩ ⟨b0,b1,I,J⟩ h=>by simp only[Aa,D.int.injEq,true_and,and_true,K0,JP,Gz]at h; simp[h]) (x,v,s,b) h
theorem Ynh(x:Ins)(v:Int×List Int)(s:Sta)(b:Int)(h:D5 v∧EB x=true∧(0≤b∧b≤64)∧s.stack.length≤64∧(0≤s.pc∧s.pc≤100000)):@wW GG (tb [(112,U9),(185,Yq),(186,Ya)] []) Uf.code (Db [C5 x,DQ v,Dk s,.int .i64 b]) [] ⟨De Uf.res (.tup [Dk (Em s (EO v b s x)).1,.int .i64 (Em s (EO v b s x)).2])⟩:=by
 obtain⟨hv,hf,⟨a5,a6⟩,hl,⟨a7,a8⟩⟩:=h;unfold Uf;have I:=jr x.op;have bd:1≤x.op∧x.op≤16:=by have:=of_decide_eq_true hf; exact⟨this.1,this.2.1⟩
 obtain⟨_,_,a4⟩:=gQ hf
 by_cases u:(s.stack.length:Int)<EZ x.op
 ·rw[show EO v b s x=.err 200 from if_pos u];simp (disch:=first|omega|decide) only[push_cast,↓reduceIte,CG,CH,DX,D9,En,EH,FM,Ge,Eg,I,u,E2,FN,FA,Em]
 rw[show EO v b s x=Dl v b s x from if_neg u]
 by_cases ac:x.op=1∨x.op=2
 ·have hc:=rL x v s b ⟨hv,ac,⟨a5,a6⟩,hl,⟨a7,a8⟩,fun q=>⟨by omega,a4 q⟩⟩;generalize Em s (Dl v b s x)=r at*;obtain⟨r1,r2⟩:=r;rcases ac with h | h
  ·rw[h]at I u;simp (disch:=first|omega|decide) only[push_cast,↓reduceIte,CG,CH,DX,D9,En,EH,FM,Ge,Eg,h,I,u,decide_true,J3,Fw hv,E2,Lv,OQ,F7,H3,FA,H4,hc,FN]
  ·rw[h]at I u;simp (disch:=first|omega|decide) only[push_cast,↓reduceIte,CG,CH,DX,D9,En,EH,FM,Ge,Eg,h,I,u,Oi,decide_false,decide_true,J3,Fw hv,E2,Lv,OQ,F7,H3,FA,H4,hc,FN]
 have U:∀ (L:List Int) (r:Int) (k:Nat),s.stack.take (s.stack.length - k)=L→Em s (.pop k (some r) none)=(⟨s.pc+1,s.fuel,s.status,s.clause,L++[r]⟩,0):=fun L r k h=>by
  show((⟨s.pc+1,s.fuel,s.status,s.clause,s.stack.take (s.stack.length - k)++[r]⟩:Sta),(0:Int))=_
  rw[h]
 have hk:=fun(A:List Int) (m:Nat) (hm:A.length=m)=>lG ⟨false,1,Dz x,false⟩ ⟨false,1,DS v,false⟩ ⟨false,1,FB (s.pc+1) s.fuel s.status s.clause (.row 4 m 0 m),false⟩ ⟨false,1,FB (s.pc+1) s.fuel s.status s.clause (.row 4 m 0 m),false⟩ (s.pc+1) s.fuel s.status s.clause A m hm;rcases(by omega:x.op=12∨x.op=13∨x.op=14∨x.op=15∨x.op=16∨(3≤x.op∧x.op≤11))with h | h | h | h | h | h
 ·rw[h]at I u;have hlen:1≤s.stack.length:=by have:EZ 12=1:=rfl; omega
  have E:=fun st=>VB st s.stack 0 (by omega);have J:=fun st=>ai st s.stack 1 hlen;rw[show(((0:Nat):Int)+1)=1 from rfl]at E;rw[show((1:Nat):Int)=1 from rfl]at J;obtain⟨L,M⟩:∃ L,s.stack.take (s.stack.length - 1)=L:=⟨_,rfl⟩;have ba:L.length≤64:=by rw[← M,As]; omega
  rw[M]at J;obtain⟨t,ht⟩:∃ t,EC s.stack 0=t:=⟨_,rfl⟩;rw[ht]at E;obtain⟨r,N⟩:∃ r:Int,(if x.n≤t∧t≤x.m then 1 else 0)=r:=⟨_,rfl⟩
  have V:Dl v b s x=.pop 1 (some r) none:=by
   rw[← N,← ht]; unfold Dl; rw[if_neg (by omega),if_neg (by omega),if_pos h]; rfl
  rw[V,U L r 1 M];have a1:=gg [⟨false,1,Dz x,false⟩,⟨false,1,DS v,false⟩,⟨false,1,DB s,false⟩,⟨false,1,[.int .i64 0,.int .i64 0,.int .i64 0,.int .i64 0,.slc 0 [] true],false⟩] L r (nz 1 (s.stack.map nI)) false (.inl (Xq _ (by omega))) (by omega);have O:=(XR [⟨false,1,Dz x,false⟩,⟨false,1,DS v,false⟩,⟨false,1,DB s,false⟩,⟨false,1,[.int .i64 0,.int .i64 0,.int .i64 0,.int .i64 0,.slc 0 [] true],false⟩] L r false (by omega)).2;have hk:=hk (L++[r]) (L.length+1) (by simp);simp only[Al,Ap,At,AH]at a1 O
  by_cases g1:x.n≤t
  ·by_cases g2:t≤x.m
   ·rw[if_pos ⟨g1,g2⟩]at N;subst N;simp (disch:=first|omega|decide) only[push_cast,↓reduceIte,CG,CH,DX,D9,En,EH,FM,Ge,Eg,h,I,u,CR,decide_false,decide_true,FH,JL,Ez,E,IG,g1,g2,J,a1,Ev,O,N5,MQ,DL,L8,LY,N6,hk]
   ·rw[if_neg (fun q=>g2 q.2)]at N;subst N;simp (disch:=first|omega|decide) only[push_cast,↓reduceIte,CG,CH,DX,D9,En,EH,FM,Ge,Eg,h,I,u,CR,decide_false,decide_true,FH,JL,Ez,E,IG,g1,g2,J,a1,Ev,O,N5,MQ,DL,L8,LY,N6,hk]
  ·rw[if_neg (fun q=>g1 q.1)]at N;subst N;simp (disch:=first|omega|decide) only[push_cast,↓reduceIte,CG,CH,DX,D9,En,EH,FM,Ge,Eg,h,I,u,CR,decide_false,decide_true,FH,Ez,E,IG,g1,J,a1,Ev,O,N5,MQ,DL,L8,LY,N6,hk]
 ·rw[h]at I u;have hlen:1≤s.stack.length:=by have:EZ 13=1:=rfl; omega
  have E:=fun st=>VB st s.stack 0 (by omega);have J:=fun st=>ai st s.stack 1 hlen;rw[show(((0:Nat):Int)+1)=1 from rfl]at E;rw[show((1:Nat):Int)=1 from rfl]at J
  have V:Dl v b s x=.pop 1 none (if EC s.stack 0=0 then some x.n else none):=by
   unfold Dl; rw[if_neg (by omega),if_neg (by omega),if_neg (by omega),if_pos h]; rfl
  rw[V];obtain⟨L,M⟩:∃ L,s.stack.take (s.stack.length - 1)=L:=⟨_,rfl⟩;rw[M]at J;obtain⟨t,ht⟩:∃ t,EC s.stack 0=t:=⟨_,rfl⟩;rw[ht]at E ⊢;have X:=Xq s.stack (by omega);rw[X]at J E;have ad:=fun st p=>Ypv st p s.fuel s.status s.clause L false
  by_cases g:t=0
  ·rw[if_pos g,show Em s (.pop 1 none (some x.n))=(⟨x.n,s.fuel,s.status,s.clause,L⟩,0) by
    show((⟨x.n,s.fuel,s.status,s.clause,s.stack.take (s.stack.length - 1)++[]⟩:Sta),(0:Int))=_
    rw[M,Av]]
   subst g;simp (disch:=first|omega|decide) only[push_cast,↓reduceIte,CG,CH,DX,D9,En,EH,FM,Ge,Eg,h,I,u,CR,decide_false,decide_true,X,FH,Ez,E,IG,J,lV,L8,LY,mE,ad]
  ·rw[if_neg g,show Em s (.pop 1 none none)=(⟨s.pc+1,s.fuel,s.status,s.clause,L⟩,0) by
    show((⟨s.pc+1,s.fuel,s.status,s.clause,s.stack.take (s.stack.length - 1)++[]⟩:Sta),(0:Int))=_
    rw[M,Av]]
   have g':=eq_false g;simp (disch:=first|omega|decide) only[push_cast,↓reduceIte,CG,CH,DX,D9,En,EH,FM,Ge,Eg,h,I,u,CR,decide_false,decide_true,X,Ez,E,IG,g',J,lV,MQ,DL,L8,LY,mE,ad]
 ·rw[show Dl v b s x=.set x.n s.status s.clause by unfold Dl; rw[if_neg (by omega),if_neg (by omega),if_neg (by omega),if_neg (by omega),if_pos h]];rw[h]at I u;simp (disch:=first|omega|decide) only[push_cast,↓reduceIte,CG,CH,DX,D9,En,EH,FM,Ge,Eg,h,I,u,CR,decide_false,decide_true,FH,Qi,E2,FN,FA,Em,EE]
 ·rw[show Dl v b s x=.set s.pc 1 x.n by unfold Dl; rw[if_neg (by omega),if_neg (by omega),if_neg (by omega),if_neg (by omega),if_neg (by omega),if_pos h]];rw[h]at I u;simp (disch:=first|omega|decide) only[push_cast,↓reduceIte,CG,CH,DX,D9,En,EH,FM,Ge,Eg,h,I,u,CR,decide_false,decide_true,FH,Px,Qh,E2,FN,FA,Em,EE]
 ·rw[show Dl v b s x=.err 180 by unfold Dl; rw[if_neg (by omega),if_neg (by omega),if_neg (by omega),if_neg (by omega),if_neg (by omega),if_neg (by omega),if_pos h]];rw[h]at I u;simp (disch:=first|omega|decide) only[push_cast,↓reduceIte,CG,CH,DX,D9,En,EH,FM,Ge,Eg,h,I,u,CR,decide_false,decide_true,E2,FN,FA,Em]
 ·have e1:(x.op=1)=False:=eq_false (by omega);have e2:(x.op=2)=False:=eq_false (by omega);have ae:(x.op=12)=False:=eq_false (by omega);have af:(x.op=13)=False:=eq_false (by omega);have ah:(x.op=14)=False:=eq_false (by omega);have a0:(x.op=15)=False:=eq_false (by omega);have a3:(x.op=16)=False:=eq_false (by omega)
  have hlen:2≤s.stack.length:=by
   have:EZ x.op=2:=by unfold EZ; rw[if_neg (by omega),if_pos h]
   omega
  have E:=fun st=>VB st s.stack 0 (by omega);have Y:=fun st=>VB st s.stack 1 (by omega);have aa:=fun st=>ai st s.stack 2 hlen;rw[show(((0:Nat):Int)+1)=1 from rfl]at E;rw[show(((1:Nat):Int)+1)=2 from rfl]at Y;rw[show((2:Nat):Int)=2 from rfl]at aa;have hb:=qW x.op (EC s.stack 1) (EC s.stack 0) h
  have V:Dl v b s x=if(DK x.op (EC s.stack 1) (EC s.stack 0)).2=0 then .pop 2 (some (DK x.op (EC s.stack 1) (EC s.stack 0)).1) none else .err (DK x.op (EC s.stack 1) (EC s.stack 0)).2:=by
   unfold Dl; rw[if_neg (by omega),if_neg (by omega),if_neg (by omega),if_neg (by omega),if_neg (by omega),if_neg (by omega),if_neg (by omega)]; rfl
  rw[V];generalize EC s.stack 1=t1 at*;generalize EC s.stack 0=t0 at*;generalize DK x.op t1 t0=r at*;obtain⟨r,e⟩:=r;dsimp only at hb ⊢;obtain⟨L,M⟩:∃ L,s.stack.take (s.stack.length - 2)=L:=⟨_,rfl⟩;have ba:L.length≤64:=by rw[← M,As]; omega
  rw[M]at aa
  by_cases g:e=0
  ·subst g;rw[if_pos rfl,U L r 2 M];have a1:=gg [⟨false,1,Dz x,false⟩,⟨false,1,DS v,false⟩,⟨false,1,DB s,false⟩,⟨false,1,[.int .i64 0,.int .i64 0,.int .i64 0,.int .i64 0,.slc 0 [] true],false⟩] L r (nz 1 (s.stack.map nI)) false (.inl (Xq _ (by omega))) (by omega);have O:=(XR [⟨false,1,Dz x,false⟩,⟨false,1,DS v,false⟩,⟨false,1,DB s,false⟩,⟨false,1,[.int .i64 0,.int .i64 0,.int .i64 0,.int .i64 0,.slc 0 [] true],false⟩] L r false (by omega)).2;have hk:=hk (L++[r]) (L.length+1) (by simp);simp only[Al,Ap,At,AH]at a1 O;simp (disch:=first|omega|decide) only[push_cast,↓reduceIte,CG,CH,DX,D9,En,EH,FM,Ge,Eg,I,u,e1,e2,ae,af,ah,a0,a3,decide_false,decide_true,Ez,E,Y,IG,hb,aa,a1,Ev,O,N5,MQ,DL,L8,LY,N6,hk]
  ·rw[if_neg g];have g':=eq_false g;simp (disch:=first|omega|decide) only[push_cast,↓reduceIte,CG,CH,DX,D9,En,EH,FM,Ge,Eg,I,u,e1,e2,ae,af,ah,a0,a3,decide_false,Ez,E,Y,IG,hb,g',E2,FN,FA,Em]
theorem zS:Contract Tryz.prog GG 158 Yh:=
 DH pb (Dy (all_cons mc (all_cons zr (all_cons y6 all_nil))) all_nil) (fun a h=>Ynh a.1 a.2.1 a.2.2.1 a.2.2.2 h)
noncomputable def X9:List D→Option D:=Dd (α:=List Ins×(Int×List Int)×Sta×Int) (fun a=>[.slc (nz 3 (a.1.map C5)) (a.1.map C5) false,DQ a.2.1,Dk a.2.2.1,.int .i64 a.2.2.2]) (fun a=>aOK a.1 a.2.1 a.2.2.1 a.2.2.2) (fun a=>Dk (Ef a.2.1 a.2.2.2 a.2.2.1 (a.1.getD a.2.2.1.pc.toNat default)))
theorem qS(c:List Ins)(v:Int×List Int)(s:Sta)(b:Int)(h:aOK c v s b):X9 [.slc (nz 3 (c.map C5)) (c.map C5) false,DQ v,Dk s,.int .i64 b]=some (Dk (Ef v b s (c.getD s.pc.toNat default))):=
 DG (fun⟨a0,a1,u,E⟩ ⟨b0,b1,I,J⟩ h=>by simp only[Aa,D.slc.injEq,D.int.injEq,true_and,and_true,GA,JP,Gz]at h; simp[h]) (c,v,s,b) h
theorem Ynn(c:List Ins)(v:Int×List Int)(s:Sta)(b:Int)(h:aOK c v s b):@wW GG (tb [(158,Yh)] []) Ur.code (Db [.slc (nz 3 (c.map C5)) (c.map C5) false,DQ v,Dk s,.int .i64 b]) [] ⟨De Ur.res (Dk (Ef v b s (c.getD s.pc.toNat default)))⟩:=by
 obtain⟨hv,V,X,hl,Y,ac,hc,hf,ad,ae⟩:=h;have I:s.pc.toNat<c.length:=by omega
 unfold Ur
 by_cases N:s.fuel=0
 ·rw[show Ef v b s (c.getD s.pc.toNat default)={s with status:=220} from if_pos N];simp (disch:=first|omega|decide) only[push_cast,↓reduceIte,CG,CH,D9,En,EH,F9,N,Px,E2,FN,FA]
 ·rw[show Ef v b s (c.getD s.pc.toNat default)=EE (Dg s) (EO v b (Dg s) (c.getD s.pc.toNat default))from if_neg N];have E:=fun st=>J5 st c false s.pc.toNat I;rw[show((s.pc.toNat:Nat):Int)=s.pc by omega]at E
  have U:EB (c.getD s.pc.toNat default)=true:=by
   rw[Aj,Af I];exact Ag.1 hf _ (Bj I)
  obtain⟨x,aa⟩:∃ x,c.getD s.pc.toNat default=x:=⟨_,rfl⟩;rw[aa]at E U ⊢;have E:∀ st:St,Fy st 3 (.slc (nz 3 (c.map C5)) (c.map C5) false) (.int .i64 (Dg s).pc)=some (.eptr (C5 x) 0):=E;have u:=q6 x v (Dg s) b ⟨hv,U,⟨V,X⟩,hl,⟨Y,by show s.pc≤100000; omega⟩⟩;have J:(⟨s.pc,s.fuel - 1,s.status,s.clause,s.stack⟩:Sta)=Dg s:=rfl;have M:=eq_false N
  cases O:EO v b (Dg s) x with
  |err e=>
   have af:=XJ O;rw[O]at u;simp only[Em]at u;have ab:(e=0)=False:=eq_false (by omega);simp (disch:=first|omega|decide) only[push_cast,↓reduceIte,CG,CH,D9,En,EH,F9,M,decide_false,Ez,MS,J,Fw hv,F7,H3,E2,F2,E,He,Lv,OQ,FA,H4,u,FN,ab,DL,Px,EE]
  |pop k push pc=>
   rw[O]at u;simp only[Em]at u;generalize EE (Dg s) (.pop k push pc)=y at*;simp (disch:=first|omega|decide) only[push_cast,↓reduceIte,CG,CH,D9,En,EH,F9,M,decide_false,Ez,MS,J,Fw hv,F7,H3,E2,F2,E,He,Lv,OQ,FA,H4,u,FN]
  |set p t cl=>
   rw[O]at u;simp only[Em]at u;generalize EE (Dg s) (.set p t cl)=y at*;simp (disch:=first|omega|decide) only[push_cast,↓reduceIte,CG,CH,D9,En,EH,F9,M,decide_false,Ez,MS,J,Fw hv,F7,H3,E2,F2,E,He,Lv,OQ,FA,H4,u,FN]
theorem y0:Contract Tryz.prog GG 113 X9:=
 DH o9 (Dy (all_cons zS all_nil) all_nil) (fun a h=>Ynn a.1 a.2.1 a.2.2.1 a.2.2.2 h)
noncomputable def Yv:List D→Option D:=Dd (α:=List Ins×Sta×Int) (fun a=>[.slc (nz 3 (a.1.map C5)) (a.1.map C5) false,Dk a.2.1,.int .i64 a.2.2]) (fun a=>a.1.length≤9223372036854775807∧a.2.1.stack.length≤4294967296) (fun a=>.bool (!decide (Eb a.1 a.2.1 a.2.2)))
theorem rR(c:List Ins)(s:Sta)(b:Int)(h:c.length≤9223372036854775807∧s.stack.length≤4294967296):Yv [.slc (nz 3 (c.map C5)) (c.map C5) false,Dk s,.int .i64 b]=some (.bool (!decide (Eb c s b))):=
 DG (fun⟨a0,a1,u⟩ ⟨b0,b1,E⟩ h=>by simp only[Aa,D.slc.injEq,D.int.injEq,true_and,and_true,GA,JP]at h; simp[h]) (c,s,b) h
theorem Ymw(c:List Ins)(s:Sta)(b:Int)(h:c.length≤9223372036854775807∧s.stack.length≤4294967296):@wW GG (tb [] []) Uc.code (Db [.slc (nz 3 (c.map C5)) (c.map C5) false,Dk s,.int .i64 b]) [] ⟨De Uc.res (.bool (!decide (Eb c s b)))⟩:=by
 obtain⟨O,U⟩:=h;unfold Uc
 by_cases g1:0≤s.pc
 ·by_cases g2:s.pc<c.length
  ·by_cases u:0≤s.fuel
   ·by_cases E:s.fuel≤32768
    ·by_cases I:s.clause=0
     ·by_cases J:0≤b
      ·by_cases M:b≤64
       ·by_cases N:(s.stack.length:Int)≤64 - b
        ·rw[decide_eq_false (show ¬ Eb c s b by unfold Eb; omega)];simp (disch:=first|omega|decide) only[push_cast,↓reduceIte,CG,En,F2,F9,HC,FM,Ge,g1,g2,u,E,I,J,M,Ez,N,A0]
        ·rw[decide_eq_true (show Eb c s b by unfold Eb; omega)];simp (disch:=first|omega|decide) only[push_cast,↓reduceIte,CG,En,F2,F9,HC,FM,Ge,g1,g2,u,E,I,J,M,Ez,N,Bg]
       ·rw[decide_eq_true (show Eb c s b by unfold Eb; omega)];simp (disch:=first|omega|decide) only[push_cast,↓reduceIte,CG,En,F2,F9,HC,g1,g2,u,E,I,J,M,Bg]
      ·rw[decide_eq_true (show Eb c s b by unfold Eb; omega)];simp (disch:=first|omega|decide) only[push_cast,↓reduceIte,CG,En,F2,F9,HC,g1,g2,u,E,I,J,Bg]
     ·rw[decide_eq_true (show Eb c s b by unfold Eb; omega)];simp (disch:=first|omega|decide) only[push_cast,↓reduceIte,CG,En,F2,F9,HC,g1,g2,u,E,eq_false I,decide_false,Bg]
    ·rw[decide_eq_true (show Eb c s b by unfold Eb; omega)];simp (disch:=first|omega|decide) only[push_cast,↓reduceIte,CG,En,F2,F9,g1,g2,u,E,Bg]
   ·rw[decide_eq_true (show Eb c s b by unfold Eb; omega)];simp (disch:=first|omega|decide) only[push_cast,↓reduceIte,CG,En,F2,F9,g1,g2,u,Bg]
  ·rw[decide_eq_true (show Eb c s b by unfold Eb; omega)];simp (disch:=first|omega|decide) only[push_cast,↓reduceIte,CG,En,F2,g1,g2,Bg]
 ·rw[decide_eq_true (show Eb c s b by unfold Eb; omega)];simp (disch:=first|omega|decide) only[push_cast,↓reduceIte,CG,En,F2,g1,Bg]
theorem zy:Contract Tryz.prog GG 111 Yv:=
 DH oq (Dy all_nil all_nil) (fun a h=>Ymw a.1 a.2.1 a.2.2 h)
noncomputable def Yr:List D→Option D:=Dd (α:=List Ins×(Int×List Int)×Opn) (fun a=>[.slc (nz 3 (a.1.map C5)) (a.1.map C5) false,DQ a.2.1,Dv a.2.2]) (fun a=>a.1.length≤4294967296∧D5 a.2.1∧a.2.2.top.length≤4294967296) (fun a=>.tup [Dv (GF a.1 a.2.1 a.2.2),.int .i64 (F1 a.1 a.2.2)])
theorem rM(c:List Ins)(v:Int×List Int)(o:Opn)(h:c.length≤4294967296∧D5 v∧o.top.length≤4294967296):Yr [.slc (nz 3 (c.map C5)) (c.map C5) false,DQ v,Dv o]=some (.tup [Dv (GF c v o),.int .i64 (F1 c o)]):=
 DG (fun⟨a0,a1,u⟩ ⟨b0,b1,E⟩ h=>by simp only[Aa,D.slc.injEq,and_true,GA,KB,Gz]at h; simp[h]) (c,v,o) h
set_option maxHeartbeats 4000000 in
set_option maxRecDepth 20000 in
theorem Ym1(c:List Ins)(v:Int×List Int)(o:Opn)(h:c.length≤4294967296∧D5 v∧o.top.length≤4294967296):@wW GG (tb [(52,Vf),(111,Yv),(112,U9),(113,X9)] []) Uj.code (Db [.slc (nz 3 (c.map C5)) (c.map C5) false,DQ v,Dv o]) [] ⟨De Uj.res (.tup [Dv (GF c v o),.int .i64 (F1 c o)])⟩:=by
 obtain⟨hc,hv,ad⟩:=h;have u:=iQ c (by omega);have E:=rR c (Ec o) o.depth ⟨by omega,ad⟩;unfold Uj;have l0:=UG false o.pc o.fuel o.status o.clause (Ed o.top) o.depth o.rest;have l1:=UH false o.pc o.fuel o.status o.clause (Ed o.top) o.depth o.rest;have M:=PJ false o.pc o.fuel o.status o.clause (Ed o.top) o.depth o.rest;have N:=UI false o.pc o.fuel o.status o.clause (Ed o.top) o.depth o.rest;have O:=PK false o.pc o.fuel o.status o.clause (Ed o.top) o.depth o.rest;have U:=Ks false o.pc o.fuel o.status o.clause (Ed o.top) o.depth o.rest;have l6:=UJ false o.pc o.fuel o.status o.clause (Ed o.top) o.depth o.rest;rw[← Hb]at l0 l1 M N O U l6
 by_cases s0:o.status=0
 ·by_cases v0:(Ei c).2=0
  ·rw[v0]at u
   by_cases b0:Eb c (Ec o) o.depth
   ·have I:Fz c (Ec o) o.depth=1:=by unfold Fz; rw[if_neg (show ¬ (Ec o).status≠0 from fun q=>q s0),if_neg (fun q=>q v0),if_pos b0]
    have e:F1 c o=1:=by unfold F1; rw[if_neg (by rw[I]; decide),I]
    rw[show GF c v o=H5 from if_neg (by rw[e]; decide),e];rw[decide_eq_true b0]at E;simp (disch:=first|omega|decide) only[push_cast,↓reduceIte,CG,CH,D9,Gd,Ih,Ig,EH,l0,l1,M,N,O,U,eq_true s0,decide_true,u,Kw,Kv,FN,E2,FA,E,Bg,KS,Ku,Jf,KL];rfl
   ·have I:Fz c (Ec o) o.depth=0:=by unfold Fz; rw[if_neg (show ¬ (Ec o).status≠0 from fun q=>q s0),if_neg (fun q=>q v0),if_neg b0]
    rw[decide_eq_false b0]at E;obtain⟨ha,hs,a1,a2⟩:=Y5 hv I;have ae:o.pc.toNat<c.length:=by have:=ha.p0; have:=ha.p1; simp only[Ec]at *; omega
    have X:=fun st=>J5 st c false o.pc.toNat ae;rw[show((o.pc.toNat:Nat):Int)=o.pc by have:=ha.p0; simp only[Ec]at *; omega]at X;have X:∀ st:St,Fy st 3 (.slc (nz 3 (c.map C5)) (c.map C5) false) (.int .i64 o.pc)=some (.eptr (C5 (FK c (Ec o))) 0):=X;have hn:=jr (FK c (Ec o)).op
    by_cases h2:Kp c o
    ·have e:F1 c o=390:=by unfold F1; rw[if_pos I,if_pos h2]
     rw[show GF c v o=H5 from if_neg (by rw[e]; decide),e];obtain⟨V,Y,q3⟩:=h2;simp (disch:=first|omega|decide) only[push_cast,↓reduceIte,CG,CH,D9,Gd,Ih,Ig,EH,l0,l1,M,N,O,U,eq_true s0,decide_true,u,Kw,Kv,FN,E2,FA,E,A0,V,Y,GO,X,Jo,Jq,hn,q3,KS,Ku,Jf,KL];rfl
    ·have e:F1 c o=0:=by unfold F1; rw[if_pos I,if_neg h2]
     rw[show GF c v o=HH (Ef v o.depth (Ec o) (FK c (Ec o))) o from if_pos e,e];have J:=qS c v (Ec o) o.depth ha;rw[show c.getD (Ec o).pc.toNat default=FK c (Ec o)from rfl]at J;generalize Ef v o.depth (Ec o) (FK c (Ec o))=s at*
     by_cases V:0<o.fuel
     ·by_cases Y:0<o.depth
      ·have q3:¬ (o.top.length:Int)<EZ (FK c (Ec o)).op:=fun q=>h2 ⟨V,Y,q⟩;simp (disch:=first|omega|decide) only[push_cast,↓reduceIte,CG,CH,D9,Gd,Ih,Ig,EH,l0,l1,M,N,O,U,l6,eq_true s0,decide_true,u,Kw,Kv,FN,E2,FA,H4,E,A0,V,Y,GO,X,Jo,Jq,hn,q3,Fw hv,F7,H3,J,F2,F9,GI,HC,FM,NB,Nn,Nf,Hv]
      ·simp (disch:=first|omega|decide) only[push_cast,↓reduceIte,CG,CH,D9,Gd,Ih,Ig,EH,l0,l1,M,N,O,U,l6,eq_true s0,decide_true,u,Kw,Kv,FN,E2,FA,H4,E,A0,V,Y,Fw hv,F7,H3,J,F2,F9,GI,HC,FM,NB,Nn,Nf,Hv]
     ·simp (disch:=first|omega|decide) only[push_cast,↓reduceIte,CG,CH,D9,Gd,Ih,Ig,EH,l0,l1,M,N,O,U,l6,eq_true s0,decide_true,u,Kw,Kv,FN,E2,FA,H4,E,A0,V,Fw hv,F7,H3,J,F2,F9,GI,HC,FM,NB,Nn,Nf,Hv]
  ·have I:Fz c (Ec o) o.depth=(Ei c).2:=by unfold Fz; rw[if_neg (show ¬ (Ec o).status≠0 from fun q=>q s0),if_pos v0]
   have e:F1 c o=(Ei c).2:=by unfold F1; rw[if_neg (by rw[I]; exact v0),I]
   rw[show GF c v o=H5 from if_neg (by rw[e]; exact v0),e];have ah:=eq_false v0;generalize (Ei c).2=ve at*;simp (disch:=first|omega|decide) only[push_cast,↓reduceIte,CG,CH,D9,Gd,Ih,Ig,M,eq_true s0,decide_true,u,ah,decide_false,KS,Ku,Jf,KL];rfl
 ·have I:Fz c (Ec o) o.depth=211:=by unfold Fz; rw[if_pos (show(Ec o).status≠0 from s0)]
  have e:F1 c o=211:=by unfold F1; rw[if_neg (by rw[I]; decide),I]
  rw[show GF c v o=H5 from if_neg (by rw[e]; decide),e];have a0:=eq_false s0;simp (disch:=first|omega|decide) only[push_cast,↓reduceIte,CG,CH,D9,Gd,Ih,Ig,M,a0,decide_false,KS,Ku,Jf,KL];rfl
theorem zt:Contract Tryz.prog GG 57 Yr:=
 DH pf (Dy (all_cons mN (all_cons zy (all_cons mc (all_cons y0 all_nil)))) all_nil) (fun a h=>Ym1 a.1 a.2.1 a.2.2 h)
theorem eV(st:St)(n sz key off:Nat)(k:IntKind)(i:Int)(u:0≤i)(E:i<(n:Int)):GS st n sz (.ptr key off) (.int k i)=some (.ptr key (off+i.toNat*sz)):=by
 simp only[GS,K2 k i u,EK];rw[if_pos (by omega)]
theorem Z5(lent:Bool)(p:Dig×Dig):DY (some ⟨false,1,C6 p.1++C6 p.2,lent⟩) 32 true 0=some (C7 p.1):=Ns (A:=[]) (B:=C6 p.1) (C:=C6 p.2) rfl rfl (Fh _)
theorem lI(lent:Bool)(p:Dig×Dig):DY (some ⟨false,1,C6 p.1++C6 p.2,lent⟩) 32 true 32=some (C7 p.2):=Ns (A:=C6 p.1) (B:=C6 p.2) (C:=[]) (by rw[Av]) (Fh _) (Fh _)
theorem JH(a b:Int)(d e:Dig):Eh (some ⟨false,1,.int .i64 b::C6 e,false⟩) 33 0 (.agg (.int .i64 a::C6 d))=some ⟨false,1,.int .i64 a::C6 d,false⟩:=Mi (b,e) a d
theorem JF(a:Int)(d:Dig)(lent:Bool):DY (some ⟨false,1,.int .i64 a::C6 d,lent⟩) 33 true 0=some (.agg (.int .i64 a::C6 d)):=Lw 1 lent _ 33 (by simp[Fh])
theorem J1(st:St)(a:Int)(d:Dig):D4 st (.agg (.int .i64 a::C6 d))=some (.agg (.int .i64 a::C6 d)):=Sj st (d:=.agg (.int .i64 a::C6 d)) (by simp only[Ha,AU,MH]; rfl)
theorem yR(a:Int)(d:Dig):D0 (.agg (.int .i64 a::C6 d))=some (.int .i64 a::C6 d):=by
 rw[show D0 (.agg (.int .i64 a::C6 d))=if((.int .i64 a::C6 d:List D)).all D.isCell then some (.int .i64 a::C6 d)else none from rfl,if_pos];rw[AU,I4 (fun _=>rfl)]; rfl
theorem Za(st:St)(k:Nat):GS st 2 32 (.ptr k 0) (.int .i64 0)=some (.ptr k 0):=eV st 2 32 k 0 .i64 0 (by decide) (by decide)
theorem gT(st:St)(k:Nat):GS st 2 32 (.ptr k 0) (.int .i64 1)=some (.ptr k 32):=eV st 2 32 k 0 .i64 1 (by decide) (by decide)
noncomputable def Ve:List D→Option D:=Dd (α:=Dig×(Dig×Dig)) (fun a=>[C7 a.1,Fv a.2]) (fun a=>True) (fun a=>D6 (Ie a.2 a.1,a.1))
theorem R8(d:Dig)(u:Dig×Dig):Ve [C7 d,Fv u]=some (D6 (Ie u d,d)):=
 DG (fun⟨a0,a1⟩ ⟨b0,b1⟩ h=>by simp only[Aa,KR,and_true,Nq]at h; simp[h]) (d,u) trivial
theorem Ymv(d:Dig)(u:Dig×Dig):@wW GG (tb [] []) Ug.code (Db [C7 d,Fv u]) [] ⟨De Ug.res (D6 (Ie u d,d))⟩:=by
 unfold Ug D6 Ie
 by_cases E:u.1=d
 ·rw[if_pos E];simp (disch:=first|omega|decide) only[push_cast,↓reduceIte,CG,CH,CN,IE,Za,Z5,Je,KX,eq_true E,decide_true,Mp,JH,JF,J1]
 ·rw[if_neg E];have J:=eq_false E
  by_cases I:u.2=d
  ·rw[if_pos I];simp (disch:=first|omega|decide) only[push_cast,↓reduceIte,CG,CH,CN,IE,Za,gT,Z5,lI,Je,KX,J,eq_true I,decide_true,decide_false,Mp,JH,JF,J1]
  ·rw[if_neg I];have M:=eq_false I;simp (disch:=first|omega|decide) only[push_cast,↓reduceIte,CG,CH,CN,IE,Za,gT,Z5,lI,Je,KX,J,M,decide_false,Mp,JH,JF,J1]
theorem mM:Contract Tryz.prog GG 50 Ve:=
 DH pd (Dy all_nil all_nil) (fun a h=>Ymv a.1 a.2)
theorem Ykp(n:Int):Fi [.int .i64 0,.int .i64 0,.int .i64 0,.int .i64 0,.slc 0 [] true] [(1,1,.int .i64 n)]=some [.int .i64 0,.int .i64 n,.int .i64 0,.int .i64 0,.slc 0 [] true]:=(rfl)
theorem Ypx(st:St)(n:Int):D4 st (.agg [.int .i64 0,.int .i64 n,.int .i64 0,.int .i64 0,.slc 0 [] true])=some (Dk {EY with fuel:=n}):=(rfl)
theorem XK:Fi (.int .i64 0::C6 DF) []=some (.int .i64 0::C6 DF):=(rfl)
noncomputable def U7:List D→Option D:=Dd (α:=List Ins×(Int×List Int)×(Dig×Dig)) (fun a=>[.slc (nz 3 (a.1.map C5)) (a.1.map C5) false,DQ a.2.1,Fv a.2.2]) (fun a=>a.1.length≤4294967296∧D5 a.2.1) (fun a=>.tup [D6 (Fe a.2.2 (FZ a.1 a.2.1)),.int .i64 (FZ a.1 a.2.1).2])
theorem q9(c:List Ins)(v:Int×List Int)(u:Dig×Dig)(h:c.length≤4294967296∧D5 v):U7 [.slc (nz 3 (c.map C5)) (c.map C5) false,DQ v,Fv u]=some (.tup [D6 (Fe u (FZ c v)),.int .i64 (FZ c v).2]):=
 DG (fun⟨a0,a1,E⟩ ⟨b0,b1,I⟩ h=>by simp only[Aa,D.slc.injEq,and_true,GA,Gz,Nq]at h; simp[h]) (c,v,u) h
theorem Ynd(c:List Ins)(v:Int×List Int)(u:Dig×Dig)(h:c.length≤4294967296∧D5 v):@wW GG (tb [(51,Vb),(50,Ve),(52,Vf),(53,Yd)] []) Ue.code (Db [.slc (nz 3 (c.map C5)) (c.map C5) false,DQ v,Fv u]) [] ⟨De Ue.res (.tup [D6 (Fe u (FZ c v)),.int .i64 (FZ c v).2])⟩:=by
 obtain⟨X,hv⟩:=h;unfold Ue;have I:=iQ c (by omega);have Y:=iO
 by_cases N:c.length=0
 ·have E:=R8 DV u;rw[show FZ c v=(DV,0)from if_pos N,show Fe u (DV,0)=(Ie u DV,DV)from if_pos rfl];unfold D6 at E ⊢;have J:(c.length:Int)=0:=by omega
  simp (disch:=first|omega|decide) only[push_cast,↓reduceIte,CG,CH,D9,IE,K5,Nc,J,Y,E,JH,JF,J1]
 ·have J:((c.length:Int)=0)=False:=eq_false (by omega)
  by_cases M:(Ei c).2=0
  ·obtain⟨aa,_⟩:=K4 M;have O:E8 ((c.length:Int)+1)={EY with fuel:=(c.length:Int)+1}:=if_neg (by omega);have U:=qZ c v (E8 ((c.length:Int)+1)) ⟨X,hv,by rw[O]; exact Ba _⟩;have E:=R8 (DU c v (E8 ((c.length:Int)+1))) u;rw[show FZ c v=(DU c v (E8 (c.length+1)),0) by unfold FZ; rw[if_neg N,if_neg (by simp[M])],show Fe u (DU c v (E8 (c.length+1)),0)=(Ie u (DU c v (E8 (c.length+1))),DU c v (E8 (c.length+1)))from if_pos rfl];generalize DU c v (E8 ((c.length:Int)+1))=g at*;rw[O]at U;rw[M]at I;unfold D6 at E ⊢;simp (disch:=first|omega|decide) only[push_cast,↓reduceIte,CG,CH,D9,IE,K5,Nc,J,decide_false,I,DL,Ykp,Ypx,Fw hv,F7,U,E,JH,JF,J1]
  ·rw[show FZ c v=(DF,(Ei c).2) by unfold FZ; rw[if_neg N,if_pos M],show Fe u (DF,(Ei c).2)=(0,DF)from if_neg M];have V:=eq_false M;generalize (Ei c).2=e at*;unfold D6;simp (disch:=first|omega|decide) only[push_cast,↓reduceIte,CG,CH,D9,IE,J,decide_false,I,V,XK,JH,JF,J1]
theorem zX:Contract Tryz.prog GG 15 U7:=
 DH ou (Dy (all_cons mK (all_cons mM (all_cons mN (all_cons y9 all_nil)))) all_nil) (fun a h=>Ynd a.1 a.2.1 a.2.2 h)
noncomputable def Vd:List D→Option D:=Dd (α:=List Ins×(Int×List Int)×Dig×(Dig×Dig)×Opn) (fun a=>[.slc (nz 3 (a.1.map C5)) (a.1.map C5) false,DQ a.2.1,C7 a.2.2.1,Fv a.2.2.2.1,Dv a.2.2.2.2]) (fun a=>a.1.length≤4294967296∧D5 a.2.1∧a.2.2.2.2.top.length≤4294967295) (fun a=>.tup [D6 (Fe a.2.2.2.1 (E6 a.1 a.2.1 a.2.2.1 a.2.2.2.2)),.int .i64 (E6 a.1 a.2.1 a.2.2.1 a.2.2.2.2).2])
theorem rO(c:List Ins)(v:Int×List Int)(b:Dig)(u:Dig×Dig)(o:Opn)(h:c.length≤4294967296∧D5 v∧o.top.length≤4294967295):Vd [.slc (nz 3 (c.map C5)) (c.map C5) false,DQ v,C7 b,Fv u,Dv o]=some (.tup [D6 (Fe u (E6 c v b o)),.int .i64 (E6 c v b o).2]):=
 DG (fun⟨a0,a1,E,I,J⟩ ⟨b0,b1,M,N,O⟩ h=>by simp only[Aa,D.slc.injEq,KR,and_true,GA,KB,Gz,Nq]at h; simp[h]) (c,v,b,u,o) h
theorem Ymz(c:List Ins)(v:Int×List Int)(b:Dig)(u:Dig×Dig)(o:Opn)(h:c.length≤4294967296∧D5 v∧o.top.length≤4294967295):@wW GG (tb [(51,Vb),(50,Ve),(56,Yc),(57,Yr)] []) TM.code (Db [.slc (nz 3 (c.map C5)) (c.map C5) false,DQ v,C7 b,Fv u,Dv o]) [] ⟨De TM.res (.tup [D6 (Fe u (E6 c v b o)),.int .i64 (E6 c v b o).2])⟩:=by
 obtain⟨X,hv,ht⟩:=h;unfold TM;have M:=iO;have O:=jo c v o ⟨X,hv,by omega⟩;have co:=rM c v o ⟨X,hv,by omega⟩;have ac:=km c v o;have aa:=jo c v (GF c v o) ⟨X,hv,by omega⟩;have U:=R8 DV u;have vx:=R8 (G6 c v (GF c v o)) u
 by_cases J:b=DV
 ·rw[show E6 c v b o=(b,0)from if_pos J,show Fe u (b,0)=(Ie u b,b)from if_pos rfl,J];unfold D6 at U ⊢;simp (disch:=first|omega|decide) only[push_cast,↓reduceIte,CG,CH,D9,IE,Gd,K5,Nc,M,Je,KX,decide_true,U,JH,JF,J1]
 have I:=eq_false J
 by_cases E:G6 c v o=b
 ·have V:=eq_true E
  by_cases N:o.status=0
  ·have e:E6 c v b o=(G6 c v (GF c v o),F1 c o):=by unfold E6; rw[if_neg J,if_neg (by simp[E]),if_neg (by simp[N])]
   rw[e];generalize GF c v o=x at*;generalize G6 c v x=g at*
   by_cases Y:F1 c o=0
   ·rw[Y]at co ⊢;rw[show Fe u (g,0)=(Ie u g,g)from if_pos rfl];unfold D6 at vx ⊢;simp (disch:=first|omega|decide) only[push_cast,↓reduceIte,CG,CH,D9,IE,Gd,K5,Nc,M,Je,KX,I,E,decide_true,decide_false,Fw hv,F7,H3,Lp,Oq,Hv,LH,O,aa,co,eq_true N,Ih,Ig,Xw,vx,JH,JF,J1]
   ·rw[show Fe u (g,F1 c o)=(0,DF)from if_neg Y];have ab:=eq_false Y;generalize F1 c o=e2 at*;unfold D6;simp (disch:=first|omega|decide) only[push_cast,↓reduceIte,CG,CH,D9,IE,Gd,M,Je,KX,I,E,decide_true,decide_false,Fw hv,F7,H3,Lp,Oq,Hv,LH,O,co,eq_true N,Ih,Ig,Xw,ab,XK,JH,JF,J1]
  ·rw[show E6 c v b o=(DV,0) by unfold E6; rw[if_neg J,if_neg (by simp[E]),if_pos N],show Fe u (DV,0)=(Ie u DV,DV)from if_pos rfl];unfold D6 at U ⊢;simp (disch:=first|omega|decide) only[push_cast,↓reduceIte,CG,CH,D9,IE,Gd,K5,Nc,M,Je,KX,I,E,decide_true,decide_false,Fw hv,F7,Lp,Oq,Hv,O,eq_false N,U,JH,JF,J1]
 ·have V:=eq_false E;rw[show E6 c v b o=(DF,390) by unfold E6; rw[if_neg J,if_pos E],show Fe u (DF,390)=(0,DF)from if_neg (by decide)];unfold D6;simp (disch:=first|omega|decide) only[push_cast,↓reduceIte,CG,CH,D9,IE,Gd,M,Je,KX,I,V,decide_false,Fw hv,F7,Lp,Hv,O,XK,JH,JF,J1]
theorem zv:Contract Tryz.prog GG 17 Vd:=
 DH oc (Dy (all_cons mK (all_cons mM (all_cons y8 (all_cons zt all_nil)))) all_nil) (fun a h=>Ymz a.1 a.2.1 a.2.2.1 a.2.2.2.1 a.2.2.2.2 h)
theorem nr(c:List Ins)(N:c.length≤maxLen)(v:Int×List Int)(hv:v.2.length=16)(b:Dig)(E:Dig×Dig)(o:Opn)(O:o.top.length≤maxLen):@wW GG (tb [(12,Sk),(13,RQ),(14,Mx),(15,U7),(16,K1),(17,Vd)] []) Us.code (Db [.slc (nz 3 (c.map C5)) (c.map C5) false,DQ v,C7 b,Fv E,Dv o]) [] ⟨De Us.res (.bool true)⟩:=by
 have u:D5 v:=hv;have cs:=wQ;have I:=uV c o.top;have J:=PK false o.pc o.fuel o.status o.clause (Ed o.top) o.depth o.rest;rw[← Hb,Ge]at J;unfold Us
 by_cases M:c.length≤30∧o.top.length≤66
 ·rw[decide_eq_true M]at I;have f1:=WL c v E ⟨by omega,u⟩;have f2:=q9 c v E ⟨by omega,u⟩;have s1:=O7 c v b E o ⟨by omega,u,by omega⟩;have s2:=rO c v b E o ⟨by omega,u,by omega⟩;unfold D6 at f1 f2 s1 s2;generalize (FZ c v).2=U at*;generalize (E6 c v b o).2=V at*;generalize Fe E (FZ c v)=w1 at*;generalize Fe E (E6 c v b o)=w2 at*;simp (disch:=first|omega|decide) only[push_cast,↓reduceIte,CG,CH,cs,I,D9,IE,Gd,K5,Nc,Yjd,Je,Fw u,F7,H3,Lp,Hv,LH,J,f1,f2,s1,s2,yR,JH,JF,kX,decide_true]
 ·rw[decide_eq_false M]at I;simp (disch:=first|omega|decide) only[push_cast,↓reduceIte,CG,CH,cs,I,D9,IE,Gd,J]
abbrev tyOp9:Ty:=.agg [.int .i64,.int .i64,.int .i64,.int .i64,.slc (.int .i64),.int .i64,tDig]
theorem Ykc{d:D}(h:Has tyOp9 d):∃ o:Opn,d=Dv o∧o.top.length≤maxLen:=by
 cases h with
 |agg _ xs E u=>
  match xs,E with
  |[a,b,c,e,f,g,k],_=>
   obtain⟨I,rfl,_⟩:=Kx (u 0 _ a rfl rfl);obtain⟨J,rfl,_⟩:=Kx (u 1 _ b rfl rfl);obtain⟨M,rfl,_⟩:=Kx (u 2 _ c rfl rfl);obtain⟨N,rfl,_⟩:=Kx (u 3 _ e rfl rfl);obtain⟨l,rfl,hl⟩:=eT (f:=nI) (fun _=>mi) (u 4 _ f rfl rfl);obtain⟨O,rfl,_⟩:=Kx (u 5 _ g rfl rfl);obtain⟨r,rfl⟩:=U1 (u 6 _ k rfl rfl);refine⟨⟨I,J,M,N,l,O,r⟩,?_,hl⟩;simp[Dv,Fm,D.cells,C7,Ed];rfl
theorem law_ArbiterMatches:Contract Tryz.prog GG 3 (N2 [.slc tyIns,tyEv,tDig,tyCl,tyOp9]):=by
 refine ZG pg (T:=tb [(12,Sk),(13,RQ),(14,Mx),(15,U7),(16,K1),(17,Vd)] []) (Dy (all_cons Yea (all_cons Yln (all_cons gm (all_cons zX (all_cons eu (all_cons zv all_nil)))))) all_nil) ?_;intro xs h;obtain⟨x0,xs,rfl,J,h⟩:=Pj h;obtain⟨x1,xs,rfl,M,h⟩:=Pj h;obtain⟨x2,xs,rfl,N,h⟩:=Pj h;obtain⟨x3,xs,rfl,O,h⟩:=Pj h;obtain⟨x4,xs,rfl,U,h⟩:=Pj h;obtain rfl:=uJ h;obtain⟨V,rfl,u⟩:=Yc5 J;obtain⟨X,rfl,E⟩:=Yqd M;obtain⟨Y,rfl⟩:=U1 N;obtain⟨y3,rfl⟩:=Yqe O;obtain⟨y4,rfl,I⟩:=Ykc U;exact nr V u X E Y y3 y4 I
end Go.Proofs.YtijnglngaogdjaaGreatDoor.PI
