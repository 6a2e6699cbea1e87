/-
  derive: derivations, Run.
  Conditions: none; these are lemmas.
-/
import Derived.Test.YtijnglngaogdjaaGreatDoorArE
import Derived.Test.YtijnglngaogdjaaGreatDoorEngHe
open BitVec renaming ofInt→CP
open Int renaming reduceLT→CO,reduceNatCast'→CI,reduceNeg→CN
open List renaming replicate→CM
open Nat renaming reduceAdd→CH,reduceEqDiff→CG,reduceLT→CL,reduceLeDiff→CJ
set_option linter.unusedVariables false
set_option linter.unusedSimpArgs false
namespace Go.Proofs.YtijnglngaogdjaaGreatDoor.PI
open Go
set_option linter.unusedSimpArgs false
set_option maxHeartbeats 8000000
set_option maxRecDepth 20000
set_option linter.unusedVariables false
def GU(op:Int):Int×Int:=if op=1∨op=13∨op=14∨op=15 then(1,9007199254740992)else if op=2 then(1,15)else if op=12 then(2,9007199254740992)else(0,0)
def DM(op:Int):Int×Int:=if op=1∨op=2 then(0,1)else if op=12 then(1,1)else if op=13∨op=15 then(1,0)else if op=14∨op=16 then(0,0)else(2,1)
def EB(x:Ins):Bool:=decide (1≤x.op∧x.op≤16∧((GU x.op).1≤0→x.n=0)∧((GU x.op).1≤1→x.m=0)∧0≤min x.n x.m∧max x.n x.m≤(GU x.op).2)
theorem aW(op:Int):GU op=(1,9007199254740992)∨GU op=(1,15)∨GU op=(2,9007199254740992)∨GU op=(0,0):=by
 unfold GU
 split
 ·exact .inl rfl
 ·split
  ·exact .inr (.inl rfl)
  ·split
   ·exact .inr (.inr (.inl rfl))
   ·exact .inr (.inr (.inr rfl))
theorem kS(op:Int):0≤(DM op).1∧(DM op).1≤2∧0≤(DM op).2∧(DM op).2≤1:=by
 unfold DM
 split
 ·decide
 ·split
  ·decide
  ·split
   ·decide
   ·split <;> decide
noncomputable def YG:List D→Option D:=Dd (α:=Int) (fun a=>[.int .i64 a]) (fun a=>True) (fun a=>.tup [.int .i64 (GU a).1,.int .i64 (GU a).2])
theorem rk(op:Int):YG [.int .i64 op]=some (.tup [.int .i64 (GU op).1,.int .i64 (GU op).2]):=
 DG (fun a b h=>by simp only[Aa,D.int.injEq,true_and,and_true]at h; simp[h]) (op) trivial
theorem Ymq(op:Int):@wW GG (tb [] []) Tt.code (Db [.int .i64 op]) [] ⟨De Tt.res (.tup [.int .i64 (GU op).1,.int .i64 (GU op).2])⟩:=by
 unfold Tt GU
 by_cases u:op=1
 ·subst u; simp (disch:=first|omega|decide) only[push_cast,↓reduceIte,CG,true_or]
 ·by_cases E:op=13
  ·subst E; simp (disch:=first|omega|decide) only[push_cast,↓reduceIte,CG,u,true_or,or_true]
  ·by_cases I:op=14
   ·subst I; simp (disch:=first|omega|decide) only[push_cast,↓reduceIte,CG,u,E,true_or,or_true]
   ·by_cases J:op=15
    ·subst J; simp (disch:=first|omega|decide) only[push_cast,↓reduceIte,CG,u,E,I,or_true]
    ·by_cases M:op=2
     ·subst M; simp (disch:=first|omega|decide) only[push_cast,↓reduceIte,CG,u,E,I,J,or_self]
     ·by_cases N:op=12
      ·subst N; simp (disch:=first|omega|decide) only[push_cast,↓reduceIte,CG,u,E,I,J,M,or_self]
      ·simp (disch:=first|omega|decide) only[push_cast,↓reduceIte,CG,u,E,I,J,M,N,or_self]
theorem zB:Contract Tryz.prog GG 148 YG:=
 DH nJ (Dy all_nil all_nil) (fun a h=>Ymq a)
noncomputable def KW:List D→Option D:=Dd (α:=Int) (fun a=>[.int .i64 a]) (fun a=>True) (fun a=>.tup [.int .i64 (DM a).1,.int .i64 (DM a).2])
theorem rl(op:Int):KW [.int .i64 op]=some (.tup [.int .i64 (DM op).1,.int .i64 (DM op).2]):=
 DG (fun a b h=>by simp only[Aa,D.int.injEq,true_and,and_true]at h; simp[h]) (op) trivial
theorem Ymp(op:Int):@wW GG (tb [] []) Tk.code (Db [.int .i64 op]) [] ⟨De Tk.res (.tup [.int .i64 (DM op).1,.int .i64 (DM op).2])⟩:=by
 unfold Tk DM
 by_cases u:op=1
 ·subst u; simp (disch:=first|omega|decide) only[push_cast,↓reduceIte,CG,true_or]
 ·by_cases E:op=2
  ·subst E; simp (disch:=first|omega|decide) only[push_cast,↓reduceIte,CG,u,or_true]
  ·by_cases I:op=12
   ·subst I; simp (disch:=first|omega|decide) only[push_cast,↓reduceIte,CG,u,E,or_self]
   ·by_cases J:op=13
    ·subst J; simp (disch:=first|omega|decide) only[push_cast,↓reduceIte,CG,u,E,I,or_self,true_or]
    ·by_cases M:op=15
     ·subst M; simp (disch:=first|omega|decide) only[push_cast,↓reduceIte,CG,u,E,I,J,or_self,or_true]
     ·by_cases N:op=14
      ·subst N; simp (disch:=first|omega|decide) only[push_cast,↓reduceIte,CG,u,E,I,J,M,or_self,true_or]
      ·by_cases O:op=16
       ·subst O; simp (disch:=first|omega|decide) only[push_cast,↓reduceIte,CG,u,E,I,J,M,N,or_self,or_true]
       ·simp (disch:=first|omega|decide) only[push_cast,↓reduceIte,CG,u,E,I,J,M,N,O,or_self]
theorem zC:Contract Tryz.prog GG 101 KW:=
 DH ng (Dy all_nil all_nil) (fun a h=>Ymp a)
theorem YM(a b c d:Int):Eh (some ⟨false,1,[.int .i64 a,.int .i64 b,.int .i64 c],false⟩) 1 1 (.int .i64 d)=some ⟨false,1,[.int .i64 a,.int .i64 d,.int .i64 c],false⟩:=(rfl)
theorem Yhn(a b c d:Int):Eh (some ⟨false,1,[.int .i64 a,.int .i64 b,.int .i64 c],false⟩) 1 2 (.int .i64 d)=some ⟨false,1,[.int .i64 a,.int .i64 b,.int .i64 d],false⟩:=(rfl)
theorem Lg(lent:Bool)(a b c:D):DY (some ⟨false,1,[a,b,c],lent⟩) 3 true 0=some (.agg [a,b,c]):=(rfl)
theorem La(a b c:Int):Eh (some ⟨false,1,[.int .i64 0,.int .i64 0,.int .i64 0],false⟩) 3 0 (.agg [.int .i64 a,.int .i64 b,.int .i64 c])=some ⟨false,1,[.int .i64 a,.int .i64 b,.int .i64 c],false⟩:=(rfl)
theorem U0(a:Int):Fi [.int .i64 0,.int .i64 0,.int .i64 0] [(0,1,.int .i64 a)]=some [.int .i64 a,.int .i64 0,.int .i64 0]:=(rfl)
theorem U4(x:Ins):Dz x=[.int .i64 x.op,.int .i64 x.n,.int .i64 x.m]:=(rfl)
theorem UY(a b c u b' c':Int):Iq [0,0,0] false (.agg [.int .i64 a,.int .i64 b,.int .i64 c]) (.agg [.int .i64 u,.int .i64 b',.int .i64 c'])=some (.bool (decide (a=u∧b=b'∧c=c'))):=by
 simp only[Iq,E1,Hc,if_true,Ae,Bool.bne_false]
 congr 2
 by_cases E:a=u <;> by_cases I:b=b' <;> by_cases J:c=c' <;> simp[E,I,J]
noncomputable def YH:List D→Option D:=Dd (α:=Ins) (fun a=>[C5 a]) (fun a=>True) (fun a=>.bool (EB a))
theorem rm(x:Ins):YH [C5 x]=some (.bool (EB x)):=
 DG (fun a b h=>by simp only[Aa,and_true,K0]at h; simp[h]) (x) trivial
theorem Ymo(x:Ins):@wW GG (tb [(148,YG)] []) Tl.code (Db [C5 x]) [] ⟨De Tl.res (.bool (EB x))⟩:=by
 unfold Tl;obtain⟨op,n,m⟩:=x
 by_cases J:op<1
 ·rw[show EB ⟨op,n,m⟩=false from decide_eq_false (by dsimp only; omega)];simp (disch:=first|omega|decide) only[push_cast,↓reduceIte,CG,DX,Eg,J]
 ·by_cases M:17≤op
  ·rw[show EB ⟨op,n,m⟩=false from decide_eq_false (by dsimp only; omega)];simp (disch:=first|omega|decide) only[push_cast,↓reduceIte,CG,DX,Eg,J,M]
  ·have E:=rk op
   have fin:∀ (a b:Int) (N O:Int),GU op=(a,b)→(a≤0→N=n)→(0<a→N=0)→(a≤1→O=m)→(1<a→O=0)→EB ⟨op,n,m⟩=(decide (op=op∧N=0∧O=0) && (decide (0≤min n m) && decide (max n m≤b))):=by
    intro a b N O e Y e2 e3 e4;unfold EB;dsimp only;rw[e];rw[Bool.eq_iff_iff];simp only[Ac,decide_eq_true_eq];refine⟨fun⟨_,_,p1,U,V,X⟩=>⟨⟨trivial,?_,?_⟩,V,X⟩,fun⟨⟨_,p1,U⟩,V,X⟩=>⟨by omega,by omega,?_,?_,V,X⟩⟩
    ·by_cases ha:a≤0
     ·rw[Y ha]; exact p1 ha
     ·exact e2 (by omega)
    ·by_cases ha:a≤1
     ·rw[e3 ha]; exact U ha
     ·exact e4 (by omega)
    ·intro ha; rw[← Y ha]; exact p1
    ·intro ha; rw[← e3 ha]; exact U
   rcases aW op with e | e | e | e
   ·rw[fin 1 _ 0 m e (by omega) (by omega) (by omega) (by omega)];rw[e]at E
    rcases Classical.propComplete (m=0)with I | I <;> rcases Classical.propComplete (0≤min n m)with r1 | r1 <;> rcases Classical.propComplete (max n m≤9007199254740992)with u | u <;>
     simp (disch:=first|omega|decide) only[push_cast,↓reduceIte,CG,CO,DX,I5,J,M,E,La,U4,YM,Lg,U0,UY,I,r1,u,and_self,and_false]
   ·rw[fin 1 _ 0 m e (by omega) (by omega) (by omega) (by omega)];rw[e]at E
    rcases Classical.propComplete (m=0)with I | I <;> rcases Classical.propComplete (0≤min n m)with r1 | r1 <;> rcases Classical.propComplete (max n m≤15)with u | u <;>
     simp (disch:=first|omega|decide) only[push_cast,↓reduceIte,CG,CO,DX,I5,J,M,E,La,U4,YM,Lg,U0,UY,I,r1,u,and_self,and_false]
   ·rw[fin 2 _ 0 0 e (by omega) (by omega) (by omega) (by omega)];rw[e]at E
    rcases Classical.propComplete (0≤min n m)with r1 | r1 <;> rcases Classical.propComplete (max n m≤9007199254740992)with u | u <;>
     simp (disch:=first|omega|decide) only[push_cast,↓reduceIte,CG,CO,DX,I5,J,M,E,La,U4,YM,Yhn,Lg,U0,UY,r1,u,and_self]
   ·rw[fin 0 _ n m e (by omega) (by omega) (by omega) (by omega)];rw[e]at E
    rcases Classical.propComplete (n=0)with I | I <;> rcases Classical.propComplete (m=0)with q1 | q1 <;> rcases Classical.propComplete (0≤min n m)with r1 | r1 <;> rcases Classical.propComplete (max n m≤0)with u | u <;>
     simp (disch:=first|omega|decide) only[push_cast,↓reduceIte,CG,CO,DX,I5,J,M,E,La,U4,Lg,U0,UY,I,q1,r1,u,and_true,and_self,and_false]
theorem zD:Contract Tryz.prog GG 99 YH:=
 DH nh (Dy (all_cons zB all_nil) all_nil) (fun a h=>Ymo a)
noncomputable def Yx:List D→St→Option (D×St):=GX (α:=Ins) (fun x=>([C5 x],[])) (fun _=>True) (fun x=>(.bool (!EB x),[]))
theorem iW(x:Ins):Yx [C5 x] []=some (.bool (!EB x),[]):=
 OJ (fun a b e=>by simp only[Dr,Aa,and_true,K0]at e; rw[e]) x trivial rfl
theorem Yk9:IContract Tryz.prog GG 98 Yx:=by
 refine W0 (T:=tb [(99,YH)] []) nv (Dy (all_cons zD all_nil) all_nil) ?_;intro x _;unfold cI;simp (disch:=first|omega|decide) only[push_cast,↓reduceIte,CG,DX,J3,Lv,rm];rfl
def G1:List Ins→Nat→Int
 |[],_=>-1
 |x::l,i=>if EB x then G1 l (i+1)else i
theorem eA:∀ (l:List Ins) (i:Nat),0≤G1 l i↔l.all EB=false
 |[],i=>by simp[G1]
 |x::l,i=>by
  have:=eA l (i+1);unfold G1;cases h:EB x <;> simp[h];simpa using this
noncomputable def Xs:List D→St→Option (D×St):=GX (α:=List Ins) (fun c=>([.slc (nz 3 (c.map C5)) (c.map C5) false,.clo 98 []],[])) (fun c=>c.length≤9223372036854775807) (fun c=>(.int .i64 (G1 c 0),[]))
theorem Yd7(c:List Ins)(h:c.length≤9223372036854775807):Xs [.slc (nz 3 (c.map C5)) (c.map C5) false,.clo 98 []] []=some (.int .i64 (G1 c 0),[]):=
 OJ (fun a b e=>by simp only[Dr,Aa,D.slc.injEq,and_true,GA]at e; rw[e.2]) c h rfl
variable {i:Nat}{α:Type}
theorem MB[Inhabited α](l:List α)(h:i<l.length):l.drop i=l.getD i default::l.drop (i+1):=by
 rw[Bs h,Aj,Af h]; rfl
theorem zM:IContract Tryz.prog GG 147 Xs:=by
 refine W0 (T:=tb [] [(98,Yx)]) pj (Dy all_nil (all_cons Yk9 all_nil)) ?_;intro c N;unfold dX;simp (disch:=first|omega|decide) only[push_cast,↓reduceIte,CG,CN]
 refine EP (fun i:Nat=>[(0,.slc (nz 3 (c.map C5)) (c.map C5) false),(1,.clo 98 []),(7,.int .i64 (c.length:Int)),(8,.int .i64 (i:Int))])
  (fun i=>[]) (fun i=>i≤c.length∧G1 (c.drop i) i=G1 c 0) (fun i=>c.length - i) 0 (by simp only[push_cast,↓reduceIte,CG,↓CI] <;> rfl) ⟨by omega,rfl⟩ ?_
 rintro i ⟨hi,hb⟩;unfold dZ;simp (disch:=first|omega|decide) only[push_cast,↓reduceIte,CG];refine Fg (fun M=>?_) (fun M=>?_)
 ·have u:i<c.length:=by omega
  have I:=J5 [] c false i u;have E:=MB c u;obtain⟨x,J⟩:∃ x,c.getD i default=x:=⟨_,rfl⟩;rw[J]at I E;rw[E,G1]at hb
  cases hf:EB x with
  |false=>
   rw[hf]at hb;have hv:=iW x;rw[hf]at hv;simp (disch:=first|omega|decide) only[push_cast,↓reduceIte,CG,CN,I,He,hv];simp only[Ak,if_false]at hb;rw[← hb];rfl
  |true=>
   rw[hf]at hb;have hv:=iW x;rw[hf]at hv;simp (disch:=first|omega|decide) only[push_cast,↓reduceIte,CG,I,He,hv,DL];refine El (i+1) ⟨by omega,hb⟩ (by omega) ?_;simp only[push_cast] <;> rfl
 ·obtain rfl:i=c.length:=by omega
  rw[Bm,G1]at hb;simp (disch:=first|omega|decide) only[push_cast,↓reduceIte,CN];rw[← hb];rfl
noncomputable def KJ:List D→St→Option (D×St):=GX (α:=List Ins) (fun c=>([.slc (nz 3 (c.map C5)) (c.map C5) false,.clo 98 []],[])) (fun c=>c.length≤9223372036854775807) (fun c=>(.bool (!c.all EB),[]))
theorem Yd9(c:List Ins)(h:c.length≤9223372036854775807):KJ [.slc (nz 3 (c.map C5)) (c.map C5) false,.clo 98 []] []=some (.bool (!c.all EB),[]):=
 OJ (fun a b e=>by simp only[Dr,Aa,D.slc.injEq,and_true,GA]at e; rw[e.2]) c h rfl
theorem zK:IContract Tryz.prog GG 97 KJ:=by
 refine W0 (T:=tb [] [(147,Xs)]) pk (Dy all_nil (all_cons zM all_nil)) ?_;intro c u;unfold dY;have E:=Yd7 c u
 have hb:decide (0≤G1 c 0)=!c.all EB:=by
  have:=eA c 0
  cases h:c.all EB with
  |true=>rw[h]at this; simp at this ⊢; omega
  |false=>rw[h]at this; simp at this ⊢; exact this
 simp (disch:=first|omega|decide) only[push_cast,↓reduceIte,CG,E,hb];rfl
variable {hints:List (List Nat)}{il:List Nat}{T:Tbl}{G:Dh}{P:Program}
theorem cC{f:Nat}{F:PF}(E:Ds P il f hints=some F)(I:TblOK P G T){enc:α→List D×St}{u:α→Prop}{r:α→D×St}
  (h:∀ a,u a→@wW G T F.code (Db (enc a).1) (enc a).2 ⟨@Gh F.res ⟨fun d st'=>(d,st')=r a⟩⟩) (J:T.y=fun _ _ _=>none:=by rfl):IContract P G f (GX enc u r):=
 Ii E I (fun ds st x M=>by
  obtain⟨a,ha,N,rfl⟩:=hJ M;have:=h a N;rw[ha]at this;exact this) J
noncomputable def Wg:List D→Option D:=Dd (α:=Int×Int) (fun a=>[.int .u64 a.1,.int .u64 a.2]) (fun a=>0≤a.1∧a.1<18446744073709551616∧0≤a.2∧a.2<18446744073709551616) (fun a=>.tup [.int .u64 (a.1*a.2 / 18446744073709551616),.int .u64 (a.1*a.2 % 18446744073709551616)])
theorem wM(x:Int)(y:Int)(h:0≤x∧x<18446744073709551616∧0≤y∧y<18446744073709551616):Wg [.int .u64 x,.int .u64 y]=some (.tup [.int .u64 (x*y / 18446744073709551616),.int .u64 (x*y % 18446744073709551616)]):=
 DG (fun⟨a0,a1⟩ ⟨b0,b1⟩ h=>by simp only[Aa,D.int.injEq,true_and,and_true]at h; simp[h]) (x,y) h
theorem pD(x:Int)(y:Int)(h:0≤x∧x<18446744073709551616∧0≤y∧y<18446744073709551616):@wW GG (tb [(169,Vk)] []) To.code (Db [.int .u64 x,.int .u64 y]) [] ⟨De To.res (.tup [.int .u64 (x*y / 18446744073709551616),.int .u64 (x*y % 18446744073709551616)])⟩:=by
 unfold To;simp (disch:=first|omega|decide) only[push_cast,↓reduceIte,CG,jj x y h]
theorem Yef:Contract Tryz.prog GG 149 Wg:=
 DH nq (Dy (all_cons ma all_nil) all_nil) (fun a h=>pD a.1 a.2 h)
noncomputable def KK:List D→St→Option (D×St):=GX (α:=Nat×Int) (fun a=>([.slc 1 [.int .i64 a.2] true,.int .i64 (a.1:Int)],[])) (fun a=>0<a.1∧a.1≤100000) (fun a=>(.row 0 a.1 0 a.1,[⟨true,1,(CM a.1 a.2).map nI,false⟩]))
theorem Yd3(n:Nat)(a:Int)(h:0<n∧n≤100000):KK [.slc 1 [.int .i64 a] true,.int .i64 (n:Int)] []=some (.row 0 n 0 n,[⟨true,1,(CM n a).map nI,false⟩]):=
 OJ (fun⟨a,b⟩ ⟨u,b'⟩ e=>by
  simp only[Dr,Aa,D.slc.injEq,D.int.injEq,and_true,true_and,Cy]at e;obtain⟨rfl,rfl⟩:=e;rfl) ((n,a):Nat×Int) h rfl
def FP(n j:Nat)(a:Int):List D:=(CM j a++CM (n - j) 0).map nI
variable {a:Int}{j n:Nat}
theorem WU(h:j≤n):(FP n j a).length=n:=by simp[FP]; omega
theorem bA{m:Nat}(h:j+m≤n):F0 (FP n j a) j ((CM m a).map nI)=FP n (j+m) a:=by
 have e:CM (n - j) (0:Int)=CM m 0++CM (n - (j+m)) 0:=by
  rw[B3]; congr 1; omega
 unfold FP;rw[e,A4,A4,WJ (by simp) (by simp),← A4,← A4,← Ar,B3]
theorem Yk4(E:0<j)(u:j<n):Ip [⟨true,1,FP n j a,false⟩] 1 (.row 0 n j (n - j)) (.row 0 n 0 j)=some (.int .i64 (min (n - j) j:Nat),[⟨true,1,FP n (j+min (n - j) j) a,false⟩]):=by
 have hl:=WU (a:=a) (B8 u)
 have he:Gy [⟨true,1,FP n j a,false⟩] 0 n 0 j=some (1,(CM j a).map nI):=by
  simp only[Gy,AB,hl];rw[if_pos (by simp; omega),Bp]
  congr 2
  simp[FP]
 simp only[Ip,Pq,AB,Gc,he,hl,I0];rw[if_pos (by simp; omega)];simp only[A2,BB,Bh]
 congr 3
 rw[← B0,List.take_replicate,show min (min (n - j) j) j=min (n - j) j by omega,bA (by omega)]
theorem Ydx(E:0<n):Ip [⟨true,1,CM n (.int .i64 0),false⟩] 1 (.row 0 n 0 n) (.slc 1 [.int .i64 a] true)=some (.int .i64 1,[⟨true,1,FP n 1 a,false⟩]):=by
 have u:(CM n (D.int .i64 0))=FP n 0 a:=by simp[FP,nI]
 rw[u];have hl:=WU (a:=a) (Ba n);simp only[Ip,Pq,AB,Gc,hl,I0];rw[if_pos (by simp; omega)];have hm:min n [D.int IntKind.i64 a].length=1:=by simp; omega
 simp only[hm,Bh];have:=bA (n:=n) (j:=0) (m:=1) (a:=a) (by omega);rw[Bb]at this;rw[← this];rfl
theorem ZE(h:n≤100000):Ni 1 8 (.int .i64 0) (.int .i64 (n:Int)) (.int .i64 (n:Int))=some (n,⟨true,1,CM n (.int .i64 0),false⟩):=by
 have u:Fj (.int .i64 (n:Int))=some n:=by simp[Fj]
 simp only[Ni,u];rw[if_pos ⟨Az _,by omega,by omega,by decide,rfl,rfl⟩]
theorem zO:IContract Tryz.prog GG 100 KK:=by
 refine cC (T:=tb [(149,Wg)] []) oV (Dy (all_cons Yef all_nil) all_nil) ?_;rintro⟨n,a⟩ ⟨E,I⟩;dsimp only at E I;unfold dv;have hm:=wM 1 (n:Int) ⟨by omega,by omega,by omega,by omega⟩;rw[show(1*(n:Int) / 18446744073709551616)=0 by omega,show(1*(n:Int) % 18446744073709551616)=n by omega]at hm;have O:=Ydx (n:=n) (a:=a) E;have U:¬ ((n:Int)<0):=by omega
 have V:¬ ((9223372036854775807:Int)<(n:Int)):=by omega
 simp (disch:=first|omega|decide) only[push_cast,↓reduceIte,CG,CO,Int.reduceAdd,↓CI,U,UZ,Yk5,hm,V,ZE I,O];refine EP (fun j:Nat=>[(7,.row 0 n 0 n),(8,.int .i64 (j:Int))]) (fun j=>[⟨true,1,FP n j a,false⟩]) (fun j=>0<j∧j≤n) (fun j=>n - j) 1 (by simp only[push_cast,↓reduceIte,CG,CL,CJ,↓CI] <;> rfl) ⟨by omega,by omega⟩ ?_;rintro j ⟨J,u⟩;have hl:=WU (a:=a) u;have M:M3 (some ⟨true,1,FP n j a,false⟩) n=true:=by simp[M3,hl]
 unfold dH;simp (disch:=first|omega|decide) only[push_cast,↓reduceIte,CG,M];refine Fg (fun X=>?_) (fun X=>?_)
 ·have N:=Yk4 (a:=a) J (show j<n by omega)
  have s1:L9 (some ⟨true,1,FP n j a,false⟩) 1 (.row 0 n 0 n) 0 n 0 n j n=some (.row 0 n j (n - j)):=by
   simp[L9,hl,show j≤n from u,show ¬ j=0 by omega,show ¬ j=n by omega]
  have s2:L9 (some ⟨true,1,FP n j a,false⟩) 1 (.row 0 n 0 n) 0 n 0 n 0 j=some (.row 0 n 0 j):=by
   simp[L9,hl,show j≤n from u,show ¬ j=0 by omega,show ¬ j=n by omega,show ¬ 0=j by omega]
  simp (disch:=first|omega|decide) only[push_cast,↓reduceIte,CG,CL,CJ,s1,s2,N,DL];refine El (j+min (n - j) j) ⟨by omega,by omega⟩ (by omega) ?_;simp only[push_cast] <;> rfl
 ·obtain rfl:j=n:=by omega
  simp (disch:=first|omega|decide) only[push_cast,↓reduceIte,CG];simp[FP]
abbrev DP(x:List Int)(i:Nat):Int:=x.getD i default
theorem Xg{x:List Int}(h:i<x.length):DP x i∈x:=by
 grind
theorem PG(A:List Int)(lent:Bool)(tot i:Nat)(u:A.length=tot)(h:i<tot):QG (some ⟨true,1,A.map nI,lent⟩) 1 false tot i 0=some (.int .i64 (DP A i)):=by
 subst u; exact Ycf nI (fun _=>rfl) 1 A lent i h
theorem Ln(A:List Int)(lent:Bool)(key tot:Nat)(j:Int)(u:A.length=tot)(E:0≤j)(I:j<(tot:Int)):KF (some ⟨true,1,A.map nI,lent⟩) 1 key tot 0 tot j=some (.rptr key tot j.toNat 0):=by
 subst u;have:=fg nI 1 A lent key 0 A.length j E I;grind
def Jx(o:Option PI.Obj)(tot i:Nat)(v:Int):Option PI.Obj:=o.bind fun o=>if o.row && !o.lent && o.els.length == tot then(o.els[i]?).bind fun el=>(Pv el 0 [.int .i64 v]).map fun el'=>{o with els:=o.els.set i el'} else none
theorem Mt(st:St)(key tot i:Nat)(v:Int):JZ st 1 (.rptr key tot i 0) (.int .i64 v)=(Jx st[key]? tot i v).map fun o=>st.set key o:=by
 simp only[JZ,Jx,fc,gA,CB,Ch]
 cases st[key]? with
 |none=>rfl
 |some o=>
  simp only[Bl]
  split
  ·cases o.els[i]? with
   |none=>rfl
   |some el=>
    have u:(D.int .i64 v).cells=[.int .i64 v]:=rfl;grind
  ·rfl
theorem OO(A:List Int)(tot i:Nat)(v:Int)(u:A.length=tot)(h:i<tot):Jx (some ⟨true,1,A.map nI,false⟩) tot i v=some ⟨true,1,(A.set i v).map nI,false⟩:=by
 subst u;have E:Pv (nI A[i]) 0 [.int .i64 v]=some (nI v):=rfl;simp[Jx,h,E,List.map_set]
def HD(len i after n:Int)(dep:List Int):Prop:=n≤i∨len≤n∨(0≤DP dep n.toNat∧DP dep n.toNat≠after)
instance (len i after n:Int) (dep:List Int):Decidable (HD len i after n dep):=by unfold HD; infer_instance
def G5(len i after:Int):List Int→List Int→Option (List Int)
 |[],dep=>some dep
 |n::l,dep=>if HD len i after n dep then none else G5 len i after l (dep.set n.toNat after)
def HT(x:Ins)(i:Int):List Int:=(if x.op=13∨x.op=14 then [x.n]else [])++(if x.op≠14∧x.op≠15∧x.op≠16 then [i+1]else [])
def HZ(x:Ins)(d:Int):Prop:=d<(DM x.op).1∨(x.op=15∧d≠1)∨(x.op=16∧d≠0)
instance (x:Ins) (d:Int):Decidable (HZ x d):=by unfold HZ; infer_instance
def EA(x:Ins)(d:Int):Int:=d - (DM x.op).1+(DM x.op).2
def ER(len:Int):List Ins→Nat→List Int→Int→Option Int
 |[],_,_,s=>some s
 |x::r,i,dep,s=>if DP dep i<0 then ER len r (i+1) dep s else if HZ x (DP dep i)then none else
  match G5 len i (EA x (DP dep i)) (HT x i) dep with
  |none=>none
  |some dep'=>ER len r (i+1) dep' (max (max s (DP dep i)) (EA x (DP dep i)))
def Ia:Option Int→Int×Int
 |none=>(0,200)
 |some s=>if 64<s then(0,2)else(s,0)
def E5(n:Nat):List Int:=(CM n (-1)).set 0 0
def Ei(c:List Ins):Int×Int:=if 4096<c.length then(0,2)else if c.length=0∨c.all EB=false then(0,200)else Ia (ER c.length c 0 (E5 c.length) 0)
theorem lh(sz:Nat)(a:D)(l:Bool):M3 (some ⟨true,sz,[a],l⟩) 1=true:=(rfl)
theorem yF(sz:Nat)(a b:D)(l:Bool):M3 (some ⟨true,sz,[a,b],l⟩) 2=true:=(rfl)
variable {st:St}
theorem ar{c:PC}{fr:Frame}{st':St}{Q:QC}(e:st=st')(h:@wW G T c fr st' Q):@wW G T c fr st Q:=by rw[e]; exact h
/- what follows an instruction -/
def Kn(N:Nat)(i:Int)(dp:List Int):Prop:=dp.length=N∧∀ y∈dp,-1≤y∧y≤i
theorem Sc{N:Nat}{i:Int}{E:List Int}(h:Kn N i E)(k:Nat){v:Int}(I:-1≤v)(J:v≤i):Kn N i (E.set k v):=by
 refine⟨by rw[BP]; exact h.1,fun y u=>?_⟩;rcases BD u with u | rfl
 ·exact h.2 y u
 ·omega
set_option maxHeartbeats 4000000 in
set_option maxRecDepth 20000 in
theorem OB(T:Tbl)(c:List Ins)(x:Ins)(i:Nat)(hi:i<c.length)(hc:c.length≤4096)(s after:Int)(af:-1≤after)(ah:after≤(i:Int)+1)(u:List Int)(cd:u.length≤2)(dep:List Int)(a1:Kn c.length ((i:Int)+1) dep)(fr:Frame)(Q:Ex→Frame→St→Prop)
  (f0:fr 0=.slc (nz 3 (c.map C5)) (c.map C5) false) (f2:fr 2=.int .i64 s) (f4:fr 4=.row 0 c.length 0 c.length) (f5:fr 5=.int .i64 (i:Int)) (a9:fr 10=.int .i64 after)
  (ba:fr 30=.slc (nz 3 (c.map C5)) (c.map C5) false) (bb:fr 31=.int .i64 (c.length:Int)) (bc:fr 32=.int .i64 (i:Int)) (a2:fr 110=DC 0 2 (u.map nI)) (a3:fr 111=.int .i64 (u.length:Int)) (a4:fr 112=.int .i64 0)
  (U:G5 c.length i after u dep=none→∀ I st',I 2=.int .i64 0→I 3=.int .i64 200→Q .ret I st')
  (a5:∀ E,G5 c.length i after u dep=some E→Kn c.length ((i:Int)+1) E→∀ I,I 0=.slc (nz 3 (c.map C5)) (c.map C5) false→I 2=.int .i64 s→I 4=.row 0 c.length 0 c.length→I 30=.slc (nz 3 (c.map C5)) (c.map C5) false→I 31=.int .i64 (c.length:Int)→I 32=.int .i64 (i:Int)→
   Q (.exit 2) I (⟨true,1,E.map nI,false⟩::⟨false,1,Dz x,false⟩::Di 1 (u.map nI))) :
  @wW GG T (.loop [0,2,4,5,10,30,31,32,110,111,112] W9) fr (⟨true,1,dep.map nI,false⟩::⟨false,1,Dz x,false⟩::Di 1 (u.map nI)) ⟨Q⟩:=by
 have hB:Eo ((Di 1 (u.map nI)).length+1+1) [] (DC 0 2 (u.map nI))=DC 0 2 (u.map nI):=by
  cases u <;> rfl
 have bd:∀ E:List Int,StOK (⟨true,1,E.map nI,false⟩::⟨false,1,Dz x,false⟩::Di 1 (u.map nI)):=by
  intro E o V hr y hy;simp only[AA]at V;rcases V with rfl | rfl | V
  ·cases hr
  ·simp only[Dz,AA,AQ,or_false]at hy;rcases hy with rfl | rfl | rfl <;> rfl
  ·cases u with
   |nil=>cases V
   |cons a l=>
    rw[show Di 1 ((a::l).map nI)=[⟨true,1,(a::l).map nI,false⟩]from rfl,AP]at V;grind
 have hR:∀ (fr:Frame) (E:List Int),restrict [0,2,4,5,10,30,31,32,110,111,112] ((Di 1 (u.map nI)).length+1+1) ⟨fr,⟨true,1,E.map nI,false⟩::⟨false,1,Dz x,false⟩::Di 1 (u.map nI)⟩=
   ⟨Fu (HV fr ((Di 1 (u.map nI)).length+1+1) [] [0,2,4,5,10,30,31,32,110,111,112]),⟨true,1,E.map nI,false⟩::⟨false,1,Dz x,false⟩::Di 1 (u.map nI)⟩:=fun fr E=>S7 (bd E) rfl
 have X:ED ((Di 1 (u.map nI)).length+1+1) [] 0=some 0:=Mn (by omega)
 refine EP (fun p:Nat×List Int=>[(0,.slc (nz 3 (c.map C5)) (c.map C5) false),(2,.int .i64 s),(4,.row 0 c.length 0 c.length),(5,.int .i64 (i:Int)),(10,.int .i64 after),(30,.slc (nz 3 (c.map C5)) (c.map C5) false),(31,.int .i64 (c.length:Int)),(32,.int .i64 (i:Int)),
   (110,DC 0 2 (u.map nI)),(111,.int .i64 (u.length:Int)),(112,.int .i64 (p.1:Int))])
  (fun p=>⟨true,1,p.2.map nI,false⟩::⟨false,1,Dz x,false⟩::Di 1 (u.map nI)) (fun p=>p.1≤u.length∧Kn c.length ((i:Int)+1) p.2∧G5 c.length i after (u.drop p.1) p.2=G5 c.length i after u dep) (fun p=>u.length - p.1) (0,dep)
  ((hR fr dep).trans (by simp only[push_cast,f0,f2,f4,f5,a9,ba,bb,bc,a2,a3,a4,hB,↓X] <;> rfl)) ⟨Ba _,a1,rfl⟩ ?_
 rintro⟨j,E⟩ ⟨hj,J,M⟩;dsimp only at hj J M;unfold W9;simp (disch:=first|omega|decide) only[push_cast,↓reduceIte,CG];refine Fg (fun h2=>?_) (fun h2=>?_)
 ·have a0:j<u.length:=by omega
  have bf:=MB u a0
  have Y:u.map nI≠[]:=by
   intro e;have:=congrArg List.length e;grind
  obtain⟨n,aa⟩:∃ n,u.getD j default=n:=⟨_,rfl⟩;have bg:KF (some ⟨true,1,u.map nI,false⟩) 1 2 u.length 0 u.length (j:Int)=some (.rptr 2 u.length j 0):=Ln u false 2 u.length j rfl (by omega) (by omega);have bh:QG (some ⟨true,1,u.map nI,false⟩) 1 false u.length j 0=some (.int .i64 n):=by rw[← aa]; exact PG u false u.length j rfl a0
  have O:∀ E:List Int,Fy (⟨true,1,E.map nI,false⟩::⟨false,1,Dz x,false⟩::Di 1 (u.map nI)) 1 (DC 0 2 (u.map nI)) (.int .i64 (j:Int))=some (.rptr 2 u.length j 0):=by
   intro E;rw[J8 _ _ _ Y,JK _ _ Y,A2,gU];exact bg
  have N:∀ E:List Int,EU (⟨true,1,E.map nI,false⟩::⟨false,1,Dz x,false⟩::Di 1 (u.map nI)) 1 false (.rptr 2 u.length j 0)=some (.int .i64 n):=by
   intro E;rw[JK _ _ Y,bJ];exact bh
  rw[bf,aa,G5]at M
  by_cases b1:n≤(i:Int)
  ·rw[if_pos (.inl b1)]at M;simp (disch:=first|omega|decide) only[push_cast,↓reduceIte,CG,O,N,  b1];exact U M.symm _ _ rfl rfl
  ·by_cases b2:(c.length:Int)≤n
   ·rw[if_pos (.inr (.inl b2))]at M;simp (disch:=first|omega|decide) only[push_cast,↓reduceIte,CG,O,N,  b1,b2];exact U M.symm _ _ rfl rfl
   ·have ac:=Ln E false 0 c.length n J.1 (by omega) (by omega);have ad:=PG E false c.length n.toNat J.1 (by omega);have ce:=J.2 _ (Xg (x:=E) (i:=n.toNat) (by rw[J.1]; omega));have hs:=OO E c.length n.toNat after J.1 (by omega)
    by_cases b3:0≤DP E n.toNat
    ·by_cases b4:DP E n.toNat=after
     ·have b6:(DP E n.toNat=after)=True:=eq_true b4;rw[if_neg (by unfold HD; omega)]at M;simp (disch:=first|omega|decide) only[push_cast,↓reduceIte,CG,O,N,  b1,b2,ac,ad,b3,b6,Mt,hs,DL,↓hR,↓X,hB];refine El (j+1,E.set n.toNat after) ⟨by dsimp only; omega,Sc J _ af ah,M⟩ (by dsimp only; omega) ?_;rfl
     ·rw[if_pos (.inr (.inr ⟨b3,b4⟩))]at M;simp (disch:=first|omega|decide) only[push_cast,↓reduceIte,CG,O,N,  b1,b2,ac,ad,b3,b4];exact U M.symm _ _ rfl rfl
    ·rw[if_neg (by unfold HD; omega)]at M;simp (disch:=first|omega|decide) only[push_cast,↓reduceIte,CG,O,N,  b1,b2,ac,ad,b3,Mt,hs,DL,↓hR,↓X,hB];refine El (j+1,E.set n.toNat after) ⟨by dsimp only; omega,Sc J _ af ah,M⟩ (by dsimp only; omega) ?_;rfl
 ·obtain rfl:j=u.length:=by omega
  rw[Bm,G5]at M;simp (disch:=first|omega|decide) only[push_cast];exact a5 E M.symm J _ rfl rfl rfl rfl rfl rfl
noncomputable def Nx:List D→Option D:=Dd (α:=List Ins) (fun a=>[.slc (nz 3 (a.map C5)) (a.map C5) false]) (fun a=>a.length≤9223372036854775807) (fun a=>.tup [.int .i64 (Ei a).1,.int .i64 (Ei a).2])
theorem R9(c:List Ins)(h:c.length≤9223372036854775807):Nx [.slc (nz 3 (c.map C5)) (c.map C5) false]=some (.tup [.int .i64 (Ei c).1,.int .i64 (Ei c).2]):=
 DG (fun a b h=>by simp only[Aa,D.slc.injEq,and_true,GA]at h; simp[h]) (c) h
set_option maxHeartbeats 4000000 in
set_option maxRecDepth 20000 in
theorem Ymn(c:List Ins)(h:c.length≤9223372036854775807):@wW GG (tb [(101,KW)] [(97,KJ),(100,KK)]) Tj.code (Db [.slc (nz 3 (c.map C5)) (c.map C5) false]) [] ⟨De Tj.res (.tup [.int .i64 (Ei c).1,.int .i64 (Ei c).2])⟩:=by
 unfold Tj
 by_cases h1:4096<c.length
 ·rw[show Ei c=(0,2)from if_pos h1];simp (disch:=first|omega|decide) only[push_cast,↓reduceIte,CG,CN,show((4096:Int)<(c.length:Int)) by omega]
 by_cases h2:c.length=0
 ·rw[show Ei c=(0,200) by unfold Ei; rw[if_neg h1,if_pos (.inl h2)]];simp (disch:=first|omega|decide) only[push_cast,↓reduceIte,CG,CO,CN,show ¬ ((4096:Int)<(c.length:Int)) by omega,show((c.length:Int)=0) by omega]
 have be:=Yd9 c h;have h3:¬ ((4096:Int)<(c.length:Int)):=by omega
 have h4:¬ ((c.length:Int)=0):=by omega
 cases a5:c.all EB with
 |false=>
  rw[a5]at be;rw[show Ei c=(0,200) by unfold Ei; rw[if_neg h1,if_pos (.inr a5)]];simp (disch:=first|omega|decide) only[push_cast,↓reduceIte,CG,CN,h3,h4,be]
 |true=>
  rw[a5]at be;rw[show Ei c=Ia (ER c.length c 0 (E5 c.length) 0) by unfold Ei; rw[if_neg h1,if_neg (by rw[a5]; simp[h2])]];have b7:=Yd3 c.length (-1) ⟨by omega,by omega⟩;have b8:KF (some ⟨true,1,(CM c.length (-1)).map nI,false⟩) 1 0 c.length 0 c.length 0=some (.rptr 0 c.length 0 0):=Ln _ false 0 c.length 0 (by simp) (by omega) (by omega);have hs0:Jx (some ⟨true,1,(CM c.length (-1)).map nI,false⟩) c.length 0 0=some ⟨true,1,(E5 c.length).map nI,false⟩:=OO _ c.length 0 0 (by simp) (by omega);simp (disch:=first|omega|decide) only[push_cast,↓reduceIte,CG,CN,h3,h4,be,Ev,b7,b8,Mt,hs0]
  refine EP (fun p:Nat×List Int×Int=>[(0,.slc (nz 3 (c.map C5)) (c.map C5) false),(2,.int .i64 p.2.2),(4,.row 0 c.length 0 c.length),(30,.slc (nz 3 (c.map C5)) (c.map C5) false),(31,.int .i64 (c.length:Int)),(32,.int .i64 (p.1:Int))])
   (fun p=>[⟨true,1,p.2.1.map nI,false⟩]) (fun p=>p.1≤c.length∧Kn c.length p.1 p.2.1∧Ia (ER c.length (c.drop p.1) p.1 p.2.1 p.2.2)=Ia (ER c.length c 0 (E5 c.length) 0)) (fun p=>c.length - p.1) (0,E5 c.length,0)
   (by simp only[push_cast,↓reduceIte,CG,CL,CJ,CN] <;> rfl) ⟨Ba _,?_,rfl⟩ ?_
  ·refine⟨by simp[E5],fun y hy=>?_⟩;rcases BD hy with hy | rfl
   ·grind
   ·omega
  rintro⟨i,dep,s⟩ ⟨hi,ad,hv⟩;dsimp only at hi ad hv;unfold cR;simp (disch:=first|omega|decide) only[push_cast,↓reduceIte,CG];refine Fg (fun h5=>?_) (fun h5=>?_)
  ·have ae:i<c.length:=by omega
   have a9:c.length≤4096:=by omega
   have af:Kn c.length ((i:Int)+1) dep:=⟨ad.1,fun y hy=>⟨(ad.2 y hy).1,by have:=(ad.2 y hy).2; omega⟩⟩;have hx:=fun st=>J5 st c false i ae;have b3:=MB c ae;obtain⟨x,b9⟩:∃ x,c.getD i default=x:=⟨_,rfl⟩;rw[b9]at hx b3;rw[b3,ER]at hv;have J:KF (some ⟨true,1,dep.map nI,false⟩) 1 0 c.length 0 c.length (i:Int)=some (.rptr 0 c.length i 0):=Ln dep false 0 c.length i af.1 (by omega) (by omega);have M:=PG dep false c.length i af.1 ae;have cf:=ad.2 _ (Xg (x:=dep) (i:=i) (by rw[ad.1]; omega));have he:=rl x.op;have cg:=kS x.op
   by_cases h0:DP dep i<0
   ·rw[if_pos h0]at hv;simp (disch:=first|omega|decide) only[push_cast,↓reduceIte,CG,CL,CJ,CH,hx,He,I5,Kt,J,M,h0,DL];refine El (i+1,dep,s) ⟨by dsimp only; omega,af,hv⟩ (by dsimp only; omega) ?_;rfl
   rw[if_neg h0]at hv;have ba:EA x (DP dep i)=DP dep i - (DM x.op).1+(DM x.op).2:=rfl
   by_cases u:DP dep i<(DM x.op).1
   ·rw[if_pos (.inl u)]at hv;simp (disch:=first|omega|decide) only[push_cast,↓reduceIte,CG,hx,He,I5,Kt,J,M,h0,Eg,he,Ez,DL,u];rw[← hv];rfl
   have ca:(DP dep i<(DM x.op).1)=False:=eq_false u
   by_cases a2:x.op=15
   ·have N:(x.op=15)=True:=eq_true a2;have ah:(x.op=14)=False:=eq_false (by omega);have O:(x.op=13)=False:=eq_false (by omega);have cc:DM x.op=(1,0):=by rw[a2]; rfl
    by_cases hd:DP dep i=1
    ·have ed:(DP dep i=1)=True:=eq_true hd;have a0:(x.op=16)=False:=eq_false (by omega);have ch:¬ DP dep i<(DM x.op).1:=u;have U:HT x (i:Int)=[]:=by simp[HT,a2]
     have E:¬ HZ x (DP dep i):=by unfold HZ; omega
     rw[if_neg E,U]at hv;simp (disch:=first|omega|decide) only[push_cast,↓reduceIte,CG,hx,He,I5,Kt,J,M,h0,Eg,he,Ez,DL,u,N,ah,O,a0,ed,ba.symm];have hl:=OB (tb [(101,KW)] [(97,KJ),(100,KK)]) c x i ae a9 (max (max s (DP dep i)) (EA x (DP dep i))) (EA x (DP dep i)) (by omega) (by omega) [] (by simp) dep af;refine hl _ _ rfl rfl rfl rfl rfl rfl rfl rfl rfl rfl rfl (fun I V st' g2 g3=>?_) (fun dp I X V g0 g2 g4 Y aa ab=>?_)
     ·rw[I]at hv;have ac:((0,200):Int×Int)=Ia (ER c.length c 0 (E5 c.length) 0):=hv;simp (disch:=first|omega|decide) only[push_cast,g2,g3];rw[← ac]
     ·rw[I]at hv;simp (disch:=first|omega|decide) only[push_cast,↓reduceIte,CG,ab,DL];refine El (i+1,dp,max (max s (DP dep i)) (EA x (DP dep i))) ⟨by dsimp only; omega,X,hv⟩ (by dsimp only; omega) ?_;simp only[push_cast,↓reduceIte,CL,CJ,g0,g2,g4,Y,aa] <;> rfl
    ·have ed:(DP dep i=1)=False:=eq_false hd;rw[if_pos (.inr (.inl ⟨a2,hd⟩))]at hv;simp (disch:=first|omega|decide) only[push_cast,↓reduceIte,CG,hx,He,I5,Kt,J,M,h0,Eg,he,Ez,DL,u,N,ed];rw[← hv];rfl
   by_cases a4:x.op=16
   ·have a0:(x.op=16)=True:=eq_true a4;have N:(x.op=15)=False:=eq_false a2;have ah:(x.op=14)=False:=eq_false (by omega);have O:(x.op=13)=False:=eq_false (by omega);have cd:DM x.op=(0,0):=by rw[a4]; rfl
    by_cases hd:DP dep i=0
    ·have ed:(DP dep i=0)=True:=eq_true hd;have U:HT x (i:Int)=[]:=by simp[HT,a4]
     have E:¬ HZ x (DP dep i):=by unfold HZ; omega
     rw[if_neg E,U]at hv;simp (disch:=first|omega|decide) only[push_cast,↓reduceIte,CG,hx,He,I5,Kt,J,M,h0,Eg,he,Ez,DL,u,N,ah,O,a0,ed,ba.symm];have hl:=OB (tb [(101,KW)] [(97,KJ),(100,KK)]) c x i ae a9 (max (max s (DP dep i)) (EA x (DP dep i))) (EA x (DP dep i)) (by omega) (by omega) [] (by simp) dep af;refine hl _ _ rfl rfl rfl rfl rfl rfl rfl rfl rfl rfl rfl (fun I V st' g2 g3=>?_) (fun dp I X V g0 g2 g4 Y aa ab=>?_)
     ·rw[I]at hv;have ac:((0,200):Int×Int)=Ia (ER c.length c 0 (E5 c.length) 0):=hv;simp (disch:=first|omega|decide) only[push_cast,g2,g3];rw[← ac]
     ·rw[I]at hv;simp (disch:=first|omega|decide) only[push_cast,↓reduceIte,CG,ab,DL];refine El (i+1,dp,max (max s (DP dep i)) (EA x (DP dep i))) ⟨by dsimp only; omega,X,hv⟩ (by dsimp only; omega) ?_;simp only[push_cast,↓reduceIte,CL,CJ,g0,g2,g4,Y,aa] <;> rfl
    ·have ed:(DP dep i=0)=False:=eq_false hd;rw[if_pos (.inr (.inr ⟨a4,hd⟩))]at hv;simp (disch:=first|omega|decide) only[push_cast,↓reduceIte,CG,hx,He,I5,Kt,J,M,h0,Eg,he,Ez,DL,u,N,a0,ed];rw[← hv];rfl
   have N:(x.op=15)=False:=eq_false a2;have a0:(x.op=16)=False:=eq_false a4
   by_cases bf:x.op=14
   ·have ah:(x.op=14)=True:=eq_true bf;have O:(x.op=13)=False:=eq_false (by omega);have U:HT x (i:Int)=[x.n]:=by simp[HT,bf]
    have E:¬ HZ x (DP dep i):=by unfold HZ; omega
    rw[if_neg E,U]at hv;have bb:DR [⟨true,1,dep.map nI,false⟩,⟨false,1,Dz x,false⟩] 1 8 (.slc 0 [] true) (.slc 1 [.int .i64 x.n] true)=some (.row 2 1 0 1,[⟨true,1,dep.map nI,false⟩,⟨false,1,Dz x,false⟩,⟨true,1,[.int .i64 x.n],false⟩]):=(rfl);simp (disch:=first|omega|decide) only[push_cast,↓reduceIte,CG,↓CI,hx,He,I5,Kt,J,M,h0,Eg,FH,he,Ez,DL,u,Ev,N,ah,O,a0,ba.symm,bb,lh];have hl:=OB (tb [(101,KW)] [(97,KJ),(100,KK)]) c x i ae a9 (max (max s (DP dep i)) (EA x (DP dep i))) (EA x (DP dep i)) (by omega) (by omega) [x.n] (by simp) dep af;refine ar (st':=(⟨true,1,dep.map nI,false⟩::⟨false,1,Dz x,false⟩::Di 1 (([x.n]:List Int).map nI))) rfl ?_;refine hl _ _ rfl rfl rfl rfl rfl rfl rfl rfl rfl rfl rfl (fun I V st' g2 g3=>?_) (fun dp I X V g0 g2 g4 Y aa ab=>?_)
    ·rw[I]at hv;have ac:((0,200):Int×Int)=Ia (ER c.length c 0 (E5 c.length) 0):=hv;simp (disch:=first|omega|decide) only[push_cast,g2,g3];rw[← ac]
    ·rw[I]at hv;simp (disch:=first|omega|decide) only[push_cast,↓reduceIte,CG,ab,DL];refine El (i+1,dp,max (max s (DP dep i)) (EA x (DP dep i))) ⟨by dsimp only; omega,X,hv⟩ (by dsimp only; omega) ?_;simp only[push_cast,↓reduceIte,CL,CJ,g0,g2,g4,Y,aa] <;> rfl
   have ah:(x.op=14)=False:=eq_false bf
   by_cases bg:x.op=13
   ·have O:(x.op=13)=True:=eq_true bg;have U:HT x (i:Int)=[x.n,(i:Int)+1]:=by simp[HT,bg]
    have E:¬ HZ x (DP dep i):=by unfold HZ; omega
    rw[if_neg E,U]at hv;have bb:DR [⟨true,1,dep.map nI,false⟩,⟨false,1,Dz x,false⟩] 1 8 (.slc 0 [] true) (.slc 1 [.int .i64 x.n] true)=some (.row 2 1 0 1,[⟨true,1,dep.map nI,false⟩,⟨false,1,Dz x,false⟩,⟨true,1,[.int .i64 x.n],false⟩]):=(rfl);have cb:DR [⟨true,1,dep.map nI,false⟩,⟨false,1,Dz x,false⟩,⟨true,1,[.int .i64 x.n],false⟩] 1 8 (.row 2 1 0 1) (.slc 1 [.int .i64 ((i:Int)+1)] true)=some (.row 2 2 0 2,[⟨true,1,dep.map nI,false⟩,⟨false,1,Dz x,false⟩,⟨true,1,[.int .i64 x.n,.int .i64 ((i:Int)+1)],false⟩]):=(rfl);simp (disch:=first|omega|decide) only[push_cast,↓reduceIte,CG,↓CI,hx,He,I5,Kt,J,M,h0,Eg,FH,he,Ez,DL,u,Ev,N,ah,O,a0,ba.symm,bb,cb,yF];have hl:=OB (tb [(101,KW)] [(97,KJ),(100,KK)]) c x i ae a9 (max (max s (DP dep i)) (EA x (DP dep i))) (EA x (DP dep i)) (by omega) (by omega) [x.n,(i:Int)+1] (by simp) dep af;refine ar (st':=(⟨true,1,dep.map nI,false⟩::⟨false,1,Dz x,false⟩::Di 1 (([x.n,(i:Int)+1]:List Int).map nI))) rfl ?_;refine hl _ _ rfl rfl rfl rfl rfl rfl rfl rfl rfl rfl rfl (fun I V st' g2 g3=>?_) (fun dp I X V g0 g2 g4 Y aa ab=>?_)
    ·rw[I]at hv;have ac:((0,200):Int×Int)=Ia (ER c.length c 0 (E5 c.length) 0):=hv;simp (disch:=first|omega|decide) only[push_cast,g2,g3];rw[← ac]
    ·rw[I]at hv;simp (disch:=first|omega|decide) only[push_cast,↓reduceIte,CG,ab,DL];refine El (i+1,dp,max (max s (DP dep i)) (EA x (DP dep i))) ⟨by dsimp only; omega,X,hv⟩ (by dsimp only; omega) ?_;simp only[push_cast,↓reduceIte,CL,CJ,g0,g2,g4,Y,aa] <;> rfl
   ·have O:(x.op=13)=False:=eq_false bg;have U:HT x (i:Int)=[(i:Int)+1]:=by simp[HT,bg,bf,a2,a4]
    have E:¬ HZ x (DP dep i):=by unfold HZ; omega
    rw[if_neg E,U]at hv;have bb:DR [⟨true,1,dep.map nI,false⟩,⟨false,1,Dz x,false⟩] 1 8 (.slc 0 [] true) (.slc 1 [.int .i64 ((i:Int)+1)] true)=some (.row 2 1 0 1,[⟨true,1,dep.map nI,false⟩,⟨false,1,Dz x,false⟩,⟨true,1,[.int .i64 ((i:Int)+1)],false⟩]):=(rfl);simp (disch:=first|omega|decide) only[push_cast,↓reduceIte,CG,↓CI,hx,He,I5,Kt,J,M,h0,Eg,he,Ez,DL,u,Ev,N,ah,O,a0,ba.symm,bb,lh];have hl:=OB (tb [(101,KW)] [(97,KJ),(100,KK)]) c x i ae a9 (max (max s (DP dep i)) (EA x (DP dep i))) (EA x (DP dep i)) (by omega) (by omega) [(i:Int)+1] (by simp) dep af;refine ar (st':=(⟨true,1,dep.map nI,false⟩::⟨false,1,Dz x,false⟩::Di 1 (([(i:Int)+1]:List Int).map nI))) rfl ?_;refine hl _ _ rfl rfl rfl rfl rfl rfl rfl rfl rfl rfl rfl (fun I V st' g2 g3=>?_) (fun dp I X V g0 g2 g4 Y aa ab=>?_)
    ·rw[I]at hv;have ac:((0,200):Int×Int)=Ia (ER c.length c 0 (E5 c.length) 0):=hv;simp (disch:=first|omega|decide) only[push_cast,g2,g3];rw[← ac]
    ·rw[I]at hv;simp (disch:=first|omega|decide) only[push_cast,↓reduceIte,CG,ab,DL];refine El (i+1,dp,max (max s (DP dep i)) (EA x (DP dep i))) ⟨by dsimp only; omega,X,hv⟩ (by dsimp only; omega) ?_;simp only[push_cast,↓reduceIte,CL,CJ,g0,g2,g4,Y,aa] <;> rfl
  ·obtain rfl:i=c.length:=by omega
   rw[Bm,ER]at hv;rw[← hv]
   by_cases h6:64<s
   ·rw[show Ia (some s)=(0,2)from if_pos h6];simp (disch:=first|omega|decide) only[push_cast,↓reduceIte,CG,h6]
   ·rw[show Ia (some s)=(s,0)from if_neg h6];simp (disch:=first|omega|decide) only[push_cast,↓reduceIte,CG,h6]
set_option maxRecDepth 20000 in
theorem UF:Contract Tryz.prog GG 47 Nx:=
 DH (T:=tb [(101,KW)] [(97,KJ),(100,KK)]) nf (Dy (all_cons zC all_nil) (all_cons zK (all_cons zO all_nil))) (fun a h=>Ymn a h)
def Es(v:Int×List Int)(p f t c:Int)(S:D)(b:Int):List D:=DS v++[.int .i64 p,.int .i64 f,.int .i64 t,.int .i64 c,S,.int .i64 b]
def D5(v:Int×List Int):Prop:=v.2.length=16
variable {v:Int×List Int}
theorem Hf(hv:D5 v):(DS v).length=17:=by simp[DS,show v.2.length=16 from hv]
section
variable {v:Int×List Int} (hv:D5 v) (lent:Bool) (p f t c:Int) (S:D) (b:Int)
include hv
theorem mr:DY (some ⟨false,1,Es v p f t c S b,lent⟩) 1 false 17=some (.int .i64 p):=IM (A:=DS v) rfl (Hf hv)
theorem HA:DY (some ⟨false,1,Es v p f t c S b,lent⟩) 1 false 21=some S:=IM (A:=DS v++[.int .i64 p,.int .i64 f,.int .i64 t,.int .i64 c]) (by simp[Es]; rfl) (by simp[Hf hv])
theorem Mf:DY (some ⟨false,1,Es v p f t c S b,lent⟩) 1 false 22=some (.int .i64 b):=IM (A:=DS v++[.int .i64 p,.int .i64 f,.int .i64 t,.int .i64 c,S]) (C:=[]) (by simp[Es]) (by simp[Hf hv])
omit hv in
theorem VC:DY (some ⟨false,1,Es v p f t c S b,lent⟩) 1 false 0=some (.int .i64 v.1):=IM (A:=[]) (C:=v.2.map nI++[.int .i64 p,.int .i64 f,.int .i64 t,.int .i64 c,S,.int .i64 b]) (by simp[Es,DS]) rfl
theorem QE(i:Nat)(h:i<16):DY (some ⟨false,1,Es v p f t c S b,lent⟩) 1 false (1+i)=some (.int .i64 (DP v.2 i)):=by
 have hi:i<v.2.length:=by rw[show v.2.length=16 from hv]; exact h
 have e:v.2=v.2.take i++(DP v.2 i::v.2.drop (i+1)):=by
  rw[DP,← MB v.2 hi,A8]
 refine IM (A:=.int .i64 v.1::(v.2.take i).map nI) (C:=(v.2.drop (i+1)).map nI++[.int .i64 p,.int .i64 f,.int .i64 t,.int .i64 c,S,.int .i64 b]) ?_ (by simp; omega);have u:=congrArg (List.map nI) e;rw[A4,Aq]at u;simp only[Es,DS];rw[u];simp[nI]
theorem Z6:DY (some ⟨false,1,Es v p f t c S b,lent⟩) 5 true 17=some (.agg [.int .i64 p,.int .i64 f,.int .i64 t,.int .i64 c,S]):=Ns (A:=DS v) (B:=[.int .i64 p,.int .i64 f,.int .i64 t,.int .i64 c,S]) (C:=[.int .i64 b]) (by simp[Es]) (Hf hv) rfl
theorem UU(p':Int):Eh (some ⟨false,1,Es v p f t c S b,false⟩) 1 17 (.int .i64 p')=some ⟨false,1,Es v p' f t c S b,false⟩:=Lz (A:=DS v) (B:=[.int .i64 p]) (C:=[.int .i64 f,.int .i64 t,.int .i64 c,S,.int .i64 b]) (xs:=[.int .i64 p']) rfl rfl (Hf hv) rfl rfl rfl rfl
theorem Yn9(t':Int):Eh (some ⟨false,1,Es v p f t c S b,false⟩) 1 19 (.int .i64 t')=some ⟨false,1,Es v p f t' c S b,false⟩:=Lz (A:=DS v++[.int .i64 p,.int .i64 f]) (B:=[.int .i64 t]) (C:=[.int .i64 c,S,.int .i64 b]) (xs:=[.int .i64 t']) (by simp[Es]) (by simp[Es]) (by simp[Hf hv]) rfl rfl rfl rfl
theorem Yn8(c':Int):Eh (some ⟨false,1,Es v p f t c S b,false⟩) 1 20 (.int .i64 c')=some ⟨false,1,Es v p f t c' S b,false⟩:=Lz (A:=DS v++[.int .i64 p,.int .i64 f,.int .i64 t]) (B:=[.int .i64 c]) (C:=[S,.int .i64 b]) (xs:=[.int .i64 c']) (by simp[Es]) (by simp[Es]) (by simp[Hf hv]) rfl rfl rfl rfl
theorem Yhk(sz:Nat)(els:List D)(u:Bool):Eh (some ⟨false,1,Es v p f t c S b,false⟩) 1 21 (.slc sz els u)=some ⟨false,1,Es v p f t c (.slc sz els u) b,false⟩:=Lz (A:=DS v++[.int .i64 p,.int .i64 f,.int .i64 t,.int .i64 c]) (B:=[S]) (C:=[.int .i64 b]) (xs:=[.slc sz els u]) (by simp[Es]) (by simp[Es]) (by simp[Hf hv]) rfl rfl rfl rfl
theorem Yhl(k to of u:Nat):Eh (some ⟨false,1,Es v p f t c S b,false⟩) 1 21 (.row k to of u)=some ⟨false,1,Es v p f t c (.row k to of u) b,false⟩:=Lz (A:=DS v++[.int .i64 p,.int .i64 f,.int .i64 t,.int .i64 c]) (B:=[S]) (C:=[.int .i64 b]) (xs:=[.row k to of u]) (by simp[Es]) (by simp[Es]) (by simp[Hf hv]) rfl rfl rfl rfl
end
variable {S:D}{b b' c' f f' p p' t t':Int}{v':Int×List Int}
theorem jD(hv:D5 v)(u:D5 v'){c:Int}{E:D}(h:Es v p f t c S b=Es v' p' f' t' c' E b'):v=v'∧p=p'∧f=f'∧t=t'∧c=c'∧S=E∧b=b':=by
 unfold Es at h;obtain⟨J,I⟩:=List.append_inj h ((Hf hv).trans (Hf u).symm);simp only[Aa,D.int.injEq,true_and,and_true]at I;refine⟨?_,I⟩;have:DQ v=DQ v':=by rw[DQ,DQ,J]
 exact Gz.1 this
def EF(st:St)(key:Nat)(C:List D):St:=st.set key ⟨false,1,C,false⟩
theorem WS(st:St)(key:Nat)(C:List D):(EF st key C).length=st.length:=BP
variable {key:Nat}
theorem gI(h:key<st.length)(C:List D):(EF st key C)[key]?=some ⟨false,1,C,false⟩:=by simp[EF,h]
theorem OI(st:St)(key:Nat)(C:List D):List.set st key (⟨false,1,C,false⟩:PI.Obj)=EF st key C:=(rfl)
theorem j0(st:St)(key:Nat)(C u:List D):EF (EF st key C) key u=EF st key u:=by simp[EF]
theorem OE(h:key<st.length)(m:St)(C:List D):EF (st++m) key C=EF st key C++m:=by
 unfold EF; exact BR _ _ h
theorem GN(h:key<st.length)(m:St):(st++m)[key]?=st[key]?:=Ao h
theorem Y0(h:key<st.length)(C:List D)(m:St):(EF st key C++m)[key]?=some ⟨false,1,C,false⟩:=by
 rw[GN (by rw[WS]; exact h),gI h]
theorem Wn(h:key<st.length)(m:St)(C u:List D):EF (EF st key C++m) key u=EF st key u++m:=by
 rw[OE (by rw[WS]; exact h),j0]
theorem Jp(st:St)(o:PI.Obj):(st++[o]).length=st.length+1:=by simp
def Gq(st:St)(key:Nat)(v:Int×List Int)(p f t c:Int)(S:D)(b:Int):Prop:=st[key]?=some ⟨false,1,Es v p f t c S b,false⟩
theorem JQ{c:Int}(h:Gq st key v p f t c S b):key<st.length:=(Ab.1 h).1
theorem ME{c:Int}(h:Gq st key v p f t c S b)(m:St):Gq (st++m) key v p f t c S b:=by
 unfold Gq; rw[GN (JQ h)]; exact h
theorem WA{c:Int}{E:D}(hv:D5 v)(I:D5 v')(h:Gq st key v p f t c S b)(u:Gq st key v' p' f' t' c' E b'):v=v'∧p=p'∧f=f'∧t=t'∧c=c'∧S=E∧b=b':=by
 unfold Gq at h u;rw[h]at u;simp only[C9,PI.Obj.mk.injEq,true_and,and_true]at u;exact jD hv I u
theorem GH(st:St)(key off:Nat):Z0 st (.ptr key off)=some (.ptr key off):=(rfl)
def EC(l:List Int)(i:Nat):Int:=DP l (l.length - 1 - i)
def Ju(ds:List D)(os:List (Option (Bool×Nat×List D)))(d:D):Prop:=∃ (key:Nat) (v:Int×List Int) (p f t c:Int) (l:List Int) (b:Int) (i:Nat),D5 v∧i<l.length∧l.length≤4294967296∧ds=[.ptr key 0,.int .i64 (i:Int)]∧os=[some (false,1,Es v p f t c (Ed l) b)]∧d=.int .i64 (EC l i)
noncomputable def Jm:List D→List (Option (Bool×Nat×List D))→Option D:=fun ds os=>@dite _ (∃ d,Ju ds os d) (Classical.propDecidable _) (fun h=>some h.choose) (fun _=>none)
variable {d:D}{os:List (Option (Bool×Nat×List D))}{ds:List D}
theorem pV{u:D}(h:Ju ds os d)(M:Ju ds os u):d=u:=by
 obtain⟨key,v,p,f,t,c,l,b,i,hv,_,_,rfl,rfl,rfl⟩:=h;obtain⟨N,v',p',f',t',c',U,b',V,E,_,_,I,J,rfl⟩:=M;simp only[Aa,D.int.injEq,true_and,and_true,Cy,C9,Dr]at I J;obtain⟨_,rfl⟩:=I;obtain⟨_,_,_,_,_,O,_⟩:=jD hv E J;rw[NI.1 O]
theorem tK(h:Ju ds os d):Jm ds os=some d:=by
 have u:∃ d,Ju ds os d:=⟨d,h⟩;unfold Jm;rw[dif_pos u,pV u.choose_spec h]
theorem v7(h:Jm ds os=some d):Ju ds os d:=by
 unfold Jm at h
 split at h
 ·rename_i u;simp only[C9]at h;rw[← h]; exact u.choose_spec
 ·cases h
variable {l:List Int}
theorem Rx{c:Int}(hv:D5 v)(h:Gq st key v p f t c (Ed l) b)(i:Nat)(hi:i<l.length)(hl:l.length≤4294967296):G8 Jm [.ptr key 0,.int .i64 (i:Int)] st=some (.int .i64 (EC l i)):=by
 unfold G8;have e:([D.ptr key 0,.int .i64 (i:Int)]).flatMap hk=[key]:=rfl;unfold Gq at h;rw[e];simp only[AU,CF,Ch,h,BY,if_true,Gg,Ae,PI.Obj.see];exact tK ⟨key,v,p,f,t,c,l,b,i,hv,hi,hl,rfl,rfl,rfl⟩
theorem Yam{r:Bool×Nat×List D}(h:Gg st [key]=[some r]):∃ lent,st[key]?=some ⟨r.1,r.2.1,r.2.2,lent⟩:=by
 simp only[Gg,Aa,and_true]at h
 cases hk:st[key]? with
 |none=>simp[hk]at h
 |some o=>
  rw[hk]at h;simp only[Ae,C9,PI.Obj.see]at h;subst h;exact⟨o.lent,rfl⟩
set_option maxHeartbeats 4000000 in
set_option maxRecDepth 20000 in
theorem Xk:IContract Tryz.prog GG 197 (fun ds st=>(G8 Jm ds st).map (·,st)):=by
 refine Ii (T:=tb [] []) nR (Dy all_nil all_nil) ?_;intro ds st r E;simp only[DA]at E;obtain⟨d,u,rfl⟩:=E;unfold G8 at u
 split at u
 case isFalse=>cases u
 obtain⟨key,v,p,f,t,c,l,b,i,hv,hi,hl,rfl,I,rfl⟩:=v7 u;obtain⟨lent,hk⟩:=Yam I;dsimp only at hk
 have J:Fy st 1 (Ed l) (.int .i64 ((l.length:Int) - 1 - (i:Int)))=some (.eptr (nI (EC l i)) 0):=by
  have:=Nm st l false (l.length - 1 - i) (by omega);rw[show((l.length - 1 - i:Nat):Int)=(l.length:Int) - 1 - (i:Int) by omega]at this;exact this
 have hle:FC st false (Ed l)=some (.int .i64 (l.length:Int)):=by simp[FC,I0,Ed,Fa]
 unfold cU;simp (disch:=first|omega|decide) only[push_cast,↓reduceIte,CG,CH,GH,hk,HA hv,hle,Ez,J,IG]
def Jj:Option Int→D
 |none=>.slc 0 [] true
 |some a=>.slc 1 [.int .i64 a] true
def Ik(n:Nat)(l:List Int)(k:Nat):Option Int→D
 |none=>.slc (nz 1 (l.map nI)) ((l.take (l.length - k)).map nI) true
 |some _=>.row n (l.length - k+1) 0 (l.length - k+1)
def GW(l:List Int)(k:Nat):Option Int→St
 |none=>[]
 |some a=>[⟨true,1,(l.take (l.length - k)++[a]).map nI,false⟩]
def Qu(ds:List D)(st:St)(r:D×St):Prop:=∃ (key:Nat) (v:Int×List Int) (p f t c:Int) (l:List Int) (b:Int) (k:Nat) (push:Option Int),D5 v∧Gq st key v p f t c (Ed l) b∧k≤l.length∧l.length≤100000∧-1000000≤p∧p≤1000000∧
 ds=[.ptr key 0,.int .i64 (k:Int),Jj push]∧r=(.int .i64 0,EF st key (Es v (p+1) f t c (Ik st.length l k push) b)++GW l k push)
noncomputable def Ls:List D→St→Option (D×St):=Gb Qu
theorem tk{a b:Option Int}(h:Jj a=Jj b):a=b:=by
 cases a <;> cases b <;> simp_all [Jj]
theorem Yic:G3 Qu:=by
 rintro ds st r O ⟨key,v,p,f,t,c,l,b,k,push,hv,hm,_,_,_,_,rfl,rfl⟩ ⟨J,v',p',f',t',c',U,b',k',I,u,E,_,_,_,_,h,rfl⟩;simp only[Aa,D.ptr.injEq,D.int.injEq,true_and,and_true,Cy]at h;obtain⟨rfl,rfl,M⟩:=h;obtain rfl:=tk M;obtain⟨rfl,rfl,rfl,rfl,rfl,N,rfl⟩:=WA hv u hm E;rw[NI.1 N]
theorem Yd4{c:Int}(hv:D5 v)(J:Gq st key v p f t c (Ed l) b)(k:Nat)(u:Option Int)(M:k≤l.length)(hl:l.length≤100000)(E:-1000000≤p)(I:p≤1000000) :
  Ls [.ptr key 0,.int .i64 (k:Int),Jj u] st=some (.int .i64 0,EF st key (Es v (p+1) f t c (Ik st.length l k u) b)++GW l k u):=
 J7 Yic ⟨key,v,p,f,t,c,l,b,k,u,hv,J,M,hl,E,I,rfl,rfl⟩
set_option maxHeartbeats 4000000 in
set_option maxRecDepth 20000 in
theorem PB:IContract Tryz.prog GG 195 Ls:=by
 refine Ii (T:=tb [] []) nQ (Dy all_nil all_nil) ?_;intro ds st r M;obtain⟨key,v,p,f,t,c,l,b,k,push,hv,hm,hk,hl,N,O,rfl,rfl⟩:=HF M;have u:=JQ hm;unfold Gq at hm;have hle:FC st false (Ed l)=some (.int .i64 (l.length:Int)):=by simp[FC,I0,Ed,Fa]
 have I:FX st 1 (Ed l) none (some (.int .i64 ((l.length:Int) - (k:Int)))) (some (.int .i64 ((l.length:Int) - (k:Int))))=some (.slc (nz 1 (l.map nI)) ((l.take (l.length - k)).map nI) true):=by
  have:=Yoc st l false (k:=l.length - k) (by omega);rwa [show((l.length - k:Nat):Int)=(l.length:Int) - (k:Int) by omega]at this
 have J:(l.take (l.length - k)).length=l.length - k:=by rw[As]; omega
 unfold cT
 cases push with
 |none=>
  have E:DR st 1 8 (.slc (nz 1 (l.map nI)) ((l.take (l.length - k)).map nI) true) (.slc 0 [] true)=some (.slc (nz 1 (l.map nI)) ((l.take (l.length - k)).map nI) true,st):=Sf st 1 8 _ 0 _ true (by decide);simp (disch:=first|omega|decide) only[push_cast,↓reduceIte,CG,CH,Jj,GH,hm,HA hv,mr hv,hle,Ez,I,E,Yhk hv,UU hv,OI,gI u,j0,DL,Ik,GW]
 |some a=>
  have E:DR st 1 8 (.slc (nz 1 (l.map nI)) ((l.take (l.length - k)).map nI) true) (.slc 1 [.int .i64 a] true)=some (.row st.length (l.length - k+1) 0 (l.length - k+1),st++[⟨true,1,(l.take (l.length - k)++[a]).map nI,false⟩]):=by
   have:=Y2 st 1 8 (nz 1 (l.map nI)) ((l.take (l.length - k)).map nI) (.slc 1 [.int .i64 a] true) [.int .i64 a] 1 rfl (.inl rfl) (by
    cases l with
    |nil=>right; simp
    |cons x r=>left; rfl) (by decide) (by simp) (by simp[J]; omega) (by simp[J]; omega)
   rw[this];simp[nI]
  simp (disch:=first|omega|decide) only[push_cast,↓reduceIte,CG,CH,Jj,GH,hm,HA hv,mr hv,hle,Ez,I,E,GN u,Yhl hv,UU hv,OI,OE u,Y0 u,Wn u,DL,Ik,GW]
def DK(op a b:Int):Int×Int:=
 if op=3 then Fs a b else if op=4 then Fk a b else if op=5 then Fo a b else if op=6 then(min a b,0)else if op=7 then(max a b,0)else
 if op=8 then DT a b 8 else if op=9 then DT a b 9 else if op=10 then DT a b 10 else if op=11 then(if a<b then 1 else 0,0)else(0,0)
noncomputable def R1:List D→Option D:=Dd (α:=Bool) (fun a=>[.bool a]) (fun a=>True) (fun a=>.int .i64 (if a=true then 1 else 0))
theorem kI(x:Bool):R1 [.bool x]=some (.int .i64 (if x=true then 1 else 0)):=
 DG (fun a b h=>by simp only[Aa,D.bool.injEq,and_true]at h; simp[h]) (x) trivial
theorem Ygo(x:Bool):@wW GG (tb [] []) SZ.code (Db [.bool x]) [] ⟨De SZ.res (.int .i64 (if x=true then 1 else 0))⟩:=by
 unfold SZ;cases x <;> simp (disch:=first|omega|decide) only[push_cast,↓reduceIte,CG]
theorem eL:Contract Tryz.prog GG 196 R1:=
 DH ya (Dy all_nil all_nil) (fun a h=>Ygo a)
noncomputable def Vl:List D→Option D:=Dd (α:=Int×Int) (fun a=>[.int .i64 a.1,.int .i64 a.2]) (fun a=>True) (fun a=>.tup [.int .i64 (min a.1 a.2),.int .i64 0])
theorem qG(a:Int)(b:Int):Vl [.int .i64 a,.int .i64 b]=some (.tup [.int .i64 (min a b),.int .i64 0]):=
 DG (fun⟨a0,a1⟩ ⟨b0,b1⟩ h=>by simp only[Aa,D.int.injEq,true_and,and_true]at h; simp[h]) (a,b) trivial
theorem Yny(a:Int)(b:Int):@wW GG (tb [] []) Tp.code (Db [.int .i64 a,.int .i64 b]) [] ⟨De Tp.res (.tup [.int .i64 (min a b),.int .i64 0])⟩:=by
 unfold Tp;simp (disch:=first|omega|decide) only[push_cast,↓reduceIte,CG]
theorem yS:Contract Tryz.prog GG 234 Vl:=
 DH nw (Dy all_nil all_nil) (fun a h=>Yny a.1 a.2)
noncomputable def Vm:List D→Option D:=Dd (α:=Int×Int) (fun a=>[.int .i64 a.1,.int .i64 a.2]) (fun a=>True) (fun a=>.tup [.int .i64 (max a.1 a.2),.int .i64 0])
theorem qH(a:Int)(b:Int):Vm [.int .i64 a,.int .i64 b]=some (.tup [.int .i64 (max a b),.int .i64 0]):=
 DG (fun⟨a0,a1⟩ ⟨b0,b1⟩ h=>by simp only[Aa,D.int.injEq,true_and,and_true]at h; simp[h]) (a,b) trivial
theorem Ynx(a:Int)(b:Int):@wW GG (tb [] []) Tq.code (Db [.int .i64 a,.int .i64 b]) [] ⟨De Tq.res (.tup [.int .i64 (max a b),.int .i64 0])⟩:=by
 unfold Tq;simp (disch:=first|omega|decide) only[push_cast,↓reduceIte,CG]
theorem yT:Contract Tryz.prog GG 235 Vm:=
 DH ny (Dy all_nil all_nil) (fun a h=>Ynx a.1 a.2)
noncomputable def Vn:List D→Option D:=Dd (α:=Int×Int) (fun a=>[.int .i64 a.1,.int .i64 a.2]) (fun a=>True) (fun a=>.tup [.int .i64 (DT a.1 a.2 8).1,.int .i64 (DT a.1 a.2 8).2])
theorem qJ(a:Int)(b:Int):Vn [.int .i64 a,.int .i64 b]=some (.tup [.int .i64 (DT a b 8).1,.int .i64 (DT a b 8).2]):=
 DG (fun⟨a0,a1⟩ ⟨b0,b1⟩ h=>by simp only[Aa,D.int.injEq,true_and,and_true]at h; simp[h]) (a,b) trivial
theorem Ynw(a:Int)(b:Int):@wW GG (tb [(237,ON)] []) Tu.code (Db [.int .i64 a,.int .i64 b]) [] ⟨De Tu.res (.tup [.int .i64 (DT a b 8).1,.int .i64 (DT a b 8).2])⟩:=by
 unfold Tu;simp (disch:=first|omega|decide) only[push_cast,↓reduceIte,CG,Wq a b 8 (.inl rfl)]
theorem yU:Contract Tryz.prog GG 236 Vn:=
 DH nA (Dy (all_cons XG all_nil) all_nil) (fun a h=>Ynw a.1 a.2)
noncomputable def Vo:List D→Option D:=Dd (α:=Int×Int) (fun a=>[.int .i64 a.1,.int .i64 a.2]) (fun a=>True) (fun a=>.tup [.int .i64 (DT a.1 a.2 9).1,.int .i64 (DT a.1 a.2 9).2])
theorem qK(a:Int)(b:Int):Vo [.int .i64 a,.int .i64 b]=some (.tup [.int .i64 (DT a b 9).1,.int .i64 (DT a b 9).2]):=
 DG (fun⟨a0,a1⟩ ⟨b0,b1⟩ h=>by simp only[Aa,D.int.injEq,true_and,and_true]at h; simp[h]) (a,b) trivial
theorem Ynv(a:Int)(b:Int):@wW GG (tb [(237,ON)] []) Tv.code (Db [.int .i64 a,.int .i64 b]) [] ⟨De Tv.res (.tup [.int .i64 (DT a b 9).1,.int .i64 (DT a b 9).2])⟩:=by
 unfold Tv;simp (disch:=first|omega|decide) only[push_cast,↓reduceIte,CG,Wq a b 9 (.inr (.inl rfl))]
theorem yV:Contract Tryz.prog GG 238 Vo:=
 DH nB (Dy (all_cons XG all_nil) all_nil) (fun a h=>Ynv a.1 a.2)
noncomputable def Vp:List D→Option D:=Dd (α:=Int×Int) (fun a=>[.int .i64 a.1,.int .i64 a.2]) (fun a=>True) (fun a=>.tup [.int .i64 (DT a.1 a.2 10).1,.int .i64 (DT a.1 a.2 10).2])
theorem qN(a:Int)(b:Int):Vp [.int .i64 a,.int .i64 b]=some (.tup [.int .i64 (DT a b 10).1,.int .i64 (DT a b 10).2]):=
 DG (fun⟨a0,a1⟩ ⟨b0,b1⟩ h=>by simp only[Aa,D.int.injEq,true_and,and_true]at h; simp[h]) (a,b) trivial
theorem Ynu(a:Int)(b:Int):@wW GG (tb [(237,ON)] []) Tw.code (Db [.int .i64 a,.int .i64 b]) [] ⟨De Tw.res (.tup [.int .i64 (DT a b 10).1,.int .i64 (DT a b 10).2])⟩:=by
 unfold Tw;simp (disch:=first|omega|decide) only[push_cast,↓reduceIte,CG,Wq a b 10 (.inr (.inr rfl))]
theorem yW:Contract Tryz.prog GG 239 Vp:=
 DH nC (Dy (all_cons XG all_nil) all_nil) (fun a h=>Ynu a.1 a.2)
noncomputable def Vq:List D→Option D:=Dd (α:=Int×Int) (fun a=>[.int .i64 a.1,.int .i64 a.2]) (fun a=>True) (fun a=>.tup [.int .i64 (if a.1<a.2 then 1 else 0),.int .i64 0])
theorem qQ(a:Int)(b:Int):Vq [.int .i64 a,.int .i64 b]=some (.tup [.int .i64 (if a<b then 1 else 0),.int .i64 0]):=
 DG (fun⟨a0,a1⟩ ⟨b0,b1⟩ h=>by simp only[Aa,D.int.injEq,true_and,and_true]at h; simp[h]) (a,b) trivial
theorem Ynt(a:Int)(b:Int):@wW GG (tb [(196,R1)] []) Tx.code (Db [.int .i64 a,.int .i64 b]) [] ⟨De Tx.res (.tup [.int .i64 (if a<b then 1 else 0),.int .i64 0])⟩:=by
 unfold Tx;have u:=kI (decide (a<b))
 by_cases h:a<b
 ·rw[decide_eq_true h]at u;simp (disch:=first|omega|decide) only[push_cast,↓reduceIte,CG,h,u]
 ·rw[decide_eq_false h]at u;simp (disch:=first|omega|decide) only[push_cast,↓reduceIte,CG,h,u]
theorem yX:Contract Tryz.prog GG 240 Vq:=
 DH nD (Dy (all_cons eL all_nil) all_nil) (fun a h=>Ynt a.1 a.2)
theorem K3{sp:List D→Option D}{x y:Int}(h:sp [.int .i64 a,.int .i64 b]=some (.tup [.int .i64 x,.int .i64 y]))(st:St):G7 sp [.int .i64 a,.int .i64 b] st=some (.tup [.int .i64 x,.int .i64 y],st):=by
 have u:D2 st [.int .i64 a,.int .i64 b]=some [.int .i64 a,.int .i64 b]:=(rfl);simp only[G7,u,h];rfl
def EZ(op:Int):Int:=if op=12∨op=13∨op=15 then 1 else if 3≤op∧op≤11 then 2 else 0
theorem Yqf(op:Int)(h:3≤op∧op≤11):∃ f,FY op EM=some f:=by
 obtain⟨u,E⟩:=h;have:op=3∨op=4∨op=5∨op=6∨op=7∨op=8∨op=9∨op=10∨op=11:=by omega
 rcases this with rfl | rfl | rfl | rfl | rfl | rfl | rfl | rfl | rfl <;> exact⟨_,rfl⟩
theorem Ykh(op:Int)(h:¬ (3≤op∧op≤11)):FY op EM=none:=by
 simp only[EM,FY];rw[if_neg (by omega),if_neg (by omega),if_neg (by omega),if_neg (by omega),if_neg (by omega),if_neg (by omega),if_neg (by omega),if_neg (by omega),if_neg (by omega)]
theorem YZ(st:St)(op:Int)(ok:Bool)(u:D):Hw st 0 [] ok u (.gmap EM) (.int .i64 op)=some (match FY op EM with
  |some f=>if ok then .tup [.agg [.clo f []],.bool true]else .agg [.clo f []]
  |none=>if ok then .tup [u,.bool false]else u):=(rfl)
theorem l8:D0 (.agg [.nilf])=some [.nilf]:=(rfl)
theorem Qg(f:Nat):Eh (some ⟨false,1,[.nilf],false⟩) 1 0 (.agg [.clo f []])=some ⟨false,1,[.clo f []],false⟩:=(rfl)
theorem Qf:Eh (some ⟨false,1,[.nilf],false⟩) 1 0 (.agg [.nilf])=some ⟨false,1,[.nilf],false⟩:=(rfl)
theorem H7(st:St):EU st 1 false (.eptr (.gmap EM) 0)=some (.gmap EM):=(rfl)
noncomputable def RU:List D→Option D:=Dd (α:=Int) (fun a=>[.int .i64 a]) (fun a=>True) (fun a=>.int .i64 (EZ a))
theorem kz(op:Int):RU [.int .i64 op]=some (.int .i64 (EZ op)):=
 DG (fun a b h=>by simp only[Aa,D.int.injEq,true_and,and_true]at h; simp[h]) (op) trivial
theorem Ygw(op:Int):@wW GG (tb [] []) SX.code (Db [.int .i64 op]) [] ⟨De SX.res (.int .i64 (EZ op))⟩:=by
 unfold SX EZ
 by_cases u:op=12
 ·subst u; simp (disch:=first|omega|decide) only[push_cast,↓reduceIte,CG,true_or]
 ·by_cases I:op=13
  ·subst I; simp (disch:=first|omega|decide) only[push_cast,↓reduceIte,CG,u,true_or,or_true]
  ·by_cases M:op=15
   ·subst M; simp (disch:=first|omega|decide) only[push_cast,↓reduceIte,CG,u,I,or_true]
   ·have N:¬ (op=12∨op=13∨op=15):=by omega
    rw[if_neg N]
    by_cases J:3≤op∧op≤11
    ·obtain⟨f,hf⟩:=Yqf op J;have E:=YZ [] op true (.agg [.nilf]);rw[hf]at E;simp (disch:=first|omega|decide) only[push_cast,↓reduceIte,CG,u,I,M,J,HU _ _ _ _ FW,H7,E,l8,Qg]
    ·have hf:=Ykh op J;have E:=YZ [] op true (.agg [.nilf]);rw[hf]at E;simp (disch:=first|omega|decide) only[push_cast,↓reduceIte,CG,u,I,M,J,HU _ _ _ _ FW,H7,E,l8,Qf]
theorem ew:Contract Tryz.prog GG 109 RU:=
 DH x8 (Dy all_nil all_nil) (fun a h=>Ygw a)
inductive Out where
 |err (e:Int)
 |pop (k:Nat) (push:Option Int) (pc:Option Int)
 |set (p t c:Int)
def Hr(a b:Int):Int:=IntKind.wrap .i64 ((CP 64 a &&& CP 64 b).toNat:Int)
def HQ(n:Int):Int:=IntKind.wrap .i64 (1*2 ^ (min n.toNat 64))
def Dc(s:Sta)(i:Nat):Int:=EC s.stack i
def Dl(v:Int×List Int)(b:Int)(s:Sta)(x:Ins):Out:=
 if x.op=1 then(if 64≤b+s.stack.length then .err 200 else .pop 0 (some x.n) none)
 else if x.op=2 then(if 64≤b+s.stack.length then .err 200 else if Hr v.1 (HQ x.n)=0 then .err 181 else if DP v.2 x.n.toNat < -9007199254740992∨9007199254740992<DP v.2 x.n.toNat then .err 3 else .pop 0 (some (DP v.2 x.n.toNat)) none)
 else if x.op=12 then .pop 1 (some (if x.n≤Dc s 0∧Dc s 0≤x.m then 1 else 0)) none
 else if x.op=13 then .pop 1 none (if Dc s 0=0 then some x.n else none)
 else if x.op=14 then .set x.n s.status s.clause
 else if x.op=15 then .set s.pc 1 x.n
 else if x.op=16 then .err 180
 else if(DK x.op (Dc s 1) (Dc s 0)).2=0 then .pop 2 (some (DK x.op (Dc s 1) (Dc s 0)).1) none else .err (DK x.op (Dc s 1) (Dc s 0)).2
def DW(st:St)(key:Nat)(v:Int×List Int)(b:Int)(s:Sta)(x:Ins):Out→D×St
 |.err e=>(.int .i64 e,st++[⟨false,1,Dz x,false⟩])
 |.pop k push pc=>(.int .i64 0,EF st key (Es v (pc.getD (s.pc+1)) s.fuel s.status s.clause (Ik (st.length+1) s.stack k push) b)++[⟨false,1,Dz x,false⟩]++GW s.stack k push)
 |.set p t c=>(.int .i64 0,EF st key (Es v p s.fuel t c (Ed s.stack) b)++[⟨false,1,Dz x,false⟩])
structure mOK (v:Int×List Int) (b:Int) (s:Sta) (x:Ins):Prop where
 v:D5 v
 b0:0≤b
 b1:b≤64
 l:s.stack.length≤64
 p0:0≤s.pc
 p1:s.pc≤100000
 f:EB x=true
 n:EZ x.op≤s.stack.length
def QA(P:Int→Prop)(ds:List D)(st:St)(r:D×St):Prop:=∃ (key:Nat) (v:Int×List Int) (b:Int) (s:Sta) (x:Ins),mOK v b s x∧P x.op∧Gq st key v s.pc s.fuel s.status s.clause (Ed s.stack) b∧ds=[.ptr key 0,C5 x]∧r=DW st key v b s x (Dl v b s x)
noncomputable def HY(P:Int→Prop):List D→St→Option (D×St):=Gb (QA P)
theorem Yip(P:Int→Prop):G3 (QA P):=by
 rintro ds st r X ⟨key,v,b,s,x,hm,_,hk,rfl,rfl⟩ ⟨U,v',b',s',Y,u,_,E,h,rfl⟩;simp only[Aa,D.ptr.injEq,and_true,K0]at h;obtain⟨rfl,rfl⟩:=h;obtain⟨rfl,I,J,M,N,V,rfl⟩:=WA hm.v u.v hk E;have O:=NI.1 V;obtain⟨a1,a2,a3,a4,a5⟩:=s;obtain⟨b1,b2,b3,b4,b5⟩:=s';dsimp only at I J M N O;subst I; subst J; subst M; subst N; subst O;rfl
variable {x:Ins}{s:Sta}
theorem Yd5{P:Int→Prop}(u:mOK v b s x)(E:P x.op)(I:Gq st key v s.pc s.fuel s.status s.clause (Ed s.stack) b):HY P [.ptr key 0,C5 x] st=some (DW st key v b s x (Dl v b s x)):=
 J7 (Yip P) ⟨key,v,b,s,x,u,E,I,rfl,rfl⟩
theorem gQ(h:EB x=true):0≤x.n∧x.n≤9007199254740992∧(x.op=2→x.n<16):=by
 have:=of_decide_eq_true h;obtain⟨I,J,M,N,O,u⟩:=this;have hm:(GU x.op).2≤9007199254740992:=by rcases aW x.op with e | e | e | e <;> rw[e] <;> decide
 refine⟨by omega,by omega,fun E=>?_⟩;have:GU x.op=(1,15):=by rw[E]; rfl
 rw[this]at u;dsimp only at u;omega
theorem r8(h:EB x=true):1≤x.op∧x.op≤16:=⟨(of_decide_eq_true h).1,(of_decide_eq_true h).2.1⟩
theorem LB(a b:Int):Dj .and (.int .i64 a) (.int .i64 b)=some (.int .i64 (Hr a b)):=(rfl)
theorem VI{n:Int}(h:0≤n):Dj .shl (.int .i64 1) (.int .i64 n)=some (.int .i64 (HQ n)):=by
 simp only[Dj,J2,show ¬ n<0 by omega,if_false,Ae,HQ];rfl
theorem GO(st:St)(l:List Int):FC st false (Ed l)=some (.int .i64 (l.length:Int)):=by simp[FC,I0,Ed,Fa]
theorem O2{c:Int}(hv:D5 v)(E:Gq st key v p f t c (Ed l) b)(x:Ins)(k:Nat)(I:Int)(J:I=(k:Int))(u:Option Int)(M:k≤l.length)(hl:l.length≤64)(N:0≤p)(O:p≤100000) :
  Ls [.ptr key 0,.int .i64 I,Jj u] (st++[⟨false,1,Dz x,false⟩])=some (.int .i64 0,EF st key (Es v (p+1) f t c (Ik (st.length+1) l k u) b)++[⟨false,1,Dz x,false⟩]++GW l k u):=by
 subst J;have:=Yd4 hv (ME E [⟨false,1,Dz x,false⟩]) k u M (by omega) (by omega) (by omega);rwa [OE (JQ E),Jp]at this
theorem Ylb:IContract Tryz.prog GG 177 (HY (·=1)):=by
 refine Ii (T:=tb [] [(195,Ls)]) nN (Dy all_nil (all_cons PB all_nil)) ?_;intro ds st r U;obtain⟨key,v,b,s,x,hm,I,hk,rfl,rfl⟩:=HF U;obtain⟨hv,V,X,hl,N,O,hf,Y⟩:=hm;have J:=JQ hk;have M:=O2 hv hk x 0 0 rfl (some x.n) (Ba _) hl N O;simp only[Jj]at M;have u:=hk;unfold Gq at u;unfold cY
 by_cases E:64≤b+(s.stack.length:Int)
 ·rw[show Dl v b s x=.err 200 by unfold Dl; rw[if_pos I,if_pos E]];simp (disch:=first|omega|decide) only[push_cast,↓reduceIte,CG,CH,DX,GH,GN J,u,Mf hv,HA hv,GO,DL,E,DW]
 ·rw[show Dl v b s x=.pop 0 (some x.n) none by unfold Dl; rw[if_pos I,if_neg E]];simp (disch:=first|omega|decide) only[push_cast,↓reduceIte,CG,CH,DX,GH,GN J,u,Mf hv,HA hv,GO,DL,E,EG,FH,Ev,M,DW,AR]
theorem Yld:IContract Tryz.prog GG 178 (HY (·=2)):=by
 refine Ii (T:=tb [] [(195,Ls)]) nL (Dy all_nil (all_cons PB all_nil)) ?_;intro ds st r hr;obtain⟨key,v,b,s,x,hm,E,hk,rfl,rfl⟩:=HF hr;obtain⟨hv,ae,af,hl,ab,ac,hf,hn⟩:=hm;have J:=JQ hk;have I:=hk;unfold Gq at I;obtain⟨N,_,O⟩:=gQ hf;have O:=O E;have ah:v.2.length=16:=hv;have U:=fun lent=>QE hv lent s.pc s.fuel s.status s.clause (Ed s.stack) b x.n.toNat (by omega);have Y:=O2 hv hk x 0 0 rfl (some (DP v.2 x.n.toNat)) (Ba _) hl ab ac;simp only[Jj]at Y;have V:¬ x.op=1:=by omega
 unfold cW
 by_cases u:64≤b+(s.stack.length:Int)
 ·rw[show Dl v b s x=.err 200 by unfold Dl; rw[if_neg V,if_pos E,if_pos u]];simp (disch:=first|omega|decide) only[push_cast,↓reduceIte,CG,CH,CN,DX,GH,GN J,I,Mf hv,HA hv,GO,DL,DW,u]
 ·by_cases M:Hr v.1 (HQ x.n)=0
  ·rw[show Dl v b s x=.err 181 by unfold Dl; rw[if_neg V,if_pos E,if_neg u,if_pos M]];simp (disch:=first|omega|decide) only[push_cast,↓reduceIte,CG,CH,CN,DX,GH,GN J,I,Mf hv,HA hv,VC,GO,DL,EG,FH,DW,u,VI N,LB,M]
  ·by_cases X:DP v.2 x.n.toNat < -9007199254740992
   ·rw[show Dl v b s x=.err 3 by unfold Dl; rw[if_neg V,if_pos E,if_neg u,if_neg M,if_pos (.inl X)]];simp (disch:=first|omega|decide) only[push_cast,↓reduceIte,CG,CH,CN,DX,GH,GN J,I,Mf hv,HA hv,VC,GO,DL,EG,FH,DW,u,VI N,LB,M,IL,U,X]
   ·by_cases h4:9007199254740992<DP v.2 x.n.toNat
    ·rw[show Dl v b s x=.err 3 by unfold Dl; rw[if_neg V,if_pos E,if_neg u,if_neg M,if_pos (.inr h4)]];simp (disch:=first|omega|decide) only[push_cast,↓reduceIte,CG,CH,CN,DX,GH,GN J,I,Mf hv,HA hv,VC,GO,DL,EG,FH,DW,u,VI N,LB,M,IL,U,X,h4]
    ·rw[show Dl v b s x=.pop 0 (some (DP v.2 x.n.toNat)) none by unfold Dl; rw[if_neg V,if_pos E,if_neg u,if_neg M,if_neg (by omega)]];simp (disch:=first|omega|decide) only[push_cast,↓reduceIte,CG,CH,CN,DX,GH,GN J,I,Mf hv,HA hv,VC,GO,DL,EG,FH,Ev,DW,AR,u,VI N,LB,M,IL,U,X,h4,Y]
theorem u7:IContract Tryz.prog GG 179 (HY (·=12)):=by
 refine Ii (T:=MW [(196,R1)] [(195,Ls)] [(197,Jm)]) nY (XE (all_cons eL all_nil) (all_cons PB all_nil) (all_cons Xk all_nil)) ?_;intro ds st r X;obtain⟨key,v,b,s,x,hm,M,hk,rfl,rfl⟩:=HF X;obtain⟨hv,Y,aa,hl,O,U,hf,hn⟩:=hm;have ab:=JQ hk;have V:=hk;unfold Gq at V;have ac:EZ x.op=1:=by rw[M]; rfl
 have N:G8 Jm [.ptr key 0,.int .i64 0] (st++[⟨false,1,Dz x,false⟩])=some (.int .i64 (Dc s 0)):=Rx hv (ME hk _) 0 (by omega) (by omega);have u:=O2 hv hk x 1 1 rfl (some (if x.n≤Dc s 0∧Dc s 0≤x.m then 1 else 0)) (by omega) hl O U;simp only[Jj]at u;rw[show Dl v b s x=.pop 1 (some (if x.n≤Dc s 0∧Dc s 0≤x.m then 1 else 0)) none by unfold Dl; rw[if_neg (by omega),if_neg (by omega),if_pos M]];have E:=kI (decide (x.n≤Dc s 0∧Dc s 0≤x.m));simp only[decide_eq_true_eq]at E;unfold du
 by_cases I:x.n≤Dc s 0
 ·by_cases J:Dc s 0≤x.m
  ·have hw:(if x.n≤Dc s 0∧Dc s 0≤x.m then(1:Int)else 0)=1:=if_pos ⟨I,J⟩;rw[hw]at u ⊢;rw[decide_eq_true ⟨I,J⟩]at E;simp (disch:=first|omega|decide) only[push_cast,↓reduceIte,CG,DX,EG,FH,JL,Ev,DW,AR,I,J,N,E,u]
  ·have hw:(if x.n≤Dc s 0∧Dc s 0≤x.m then(1:Int)else 0)=0:=if_neg (by omega);rw[hw]at u ⊢;rw[decide_eq_false (by omega)]at E;simp (disch:=first|omega|decide) only[push_cast,↓reduceIte,CG,DX,EG,FH,JL,Ev,DW,AR,I,J,N,E,u]
 ·have hw:(if x.n≤Dc s 0∧Dc s 0≤x.m then(1:Int)else 0)=0:=if_neg (by omega);rw[hw]at u ⊢;rw[decide_eq_false (by omega)]at E;simp (disch:=first|omega|decide) only[push_cast,↓reduceIte,CG,DX,EG,FH,Ev,DW,AR,I,N,E,u]
theorem Yle:IContract Tryz.prog GG 181 (HY (·=14)):=by
 refine Ii (T:=tb [] []) nK (Dy all_nil all_nil) ?_;intro ds st r J;obtain⟨key,v,b,s,x,hm,I,hk,rfl,rfl⟩:=HF J;obtain⟨hv,M,N,hl,O,U,hf,V⟩:=hm;have u:=JQ hk;have E:=hk;unfold Gq at E;rw[show Dl v b s x=.set x.n s.status s.clause by unfold Dl; rw[if_neg (by omega),if_neg (by omega),if_neg (by omega),if_neg (by omega),if_pos I]];unfold cV;simp (disch:=first|omega|decide) only[push_cast,↓reduceIte,CG,DX,GH,GN u,E,EG,FH,DW,UU hv,OI,OE u]
theorem Ylc:IContract Tryz.prog GG 183 (HY (·=16)):=by
 refine Ii (T:=tb [] []) nM (Dy all_nil all_nil) ?_;intro ds st r I;obtain⟨key,v,b,s,x,hm,u,hk,rfl,rfl⟩:=HF I;obtain⟨hv,J,M,hl,N,O,hf,V⟩:=hm;have U:=JQ hk;have E:=hk;unfold Gq at E;rw[show Dl v b s x=.err 180 by unfold Dl; rw[if_neg (by omega),if_neg (by omega),if_neg (by omega),if_neg (by omega),if_neg (by omega),if_neg (by omega),if_pos u]];unfold cX;simp (disch:=first|omega|decide) only[push_cast,↓reduceIte,DX,DW]
theorem Ydb(st:St)(key:Nat)(C:List D)(o:PI.Obj):(EF st key C++[o])[st.length]?=some o:=by
 have:=EG (EF st key C) o;rwa [WS]at this
theorem Yk8:IContract Tryz.prog GG 180 (HY (·=13)):=by
 refine Ii (T:=MW [] [(195,Ls)] [(197,Jm)]) nO (XE all_nil (all_cons PB all_nil) (all_cons Xk all_nil)) ?_;intro ds st r V;obtain⟨key,v,b,s,x,hm,u,hk,rfl,rfl⟩:=HF V;obtain⟨hv,X,Y,hl,M,N,hf,hn⟩:=hm;have J:=JQ hk;have O:=hk;unfold Gq at O;have aa:EZ x.op=1:=by rw[u]; rfl
 have U:G8 Jm [.ptr key 0,.int .i64 0] (st++[⟨false,1,Dz x,false⟩])=some (.int .i64 (Dc s 0)):=Rx hv (ME hk _) 0 (by omega) (by omega);have E:=O2 hv hk x 1 1 rfl none (by omega) hl M N;simp only[Jj,GW,Av]at E;unfold cZ
 by_cases I:Dc s 0=0
 ·rw[show Dl v b s x=.pop 1 none (some x.n) by unfold Dl; rw[if_neg (by omega),if_neg (by omega),if_neg (by omega),if_pos u,if_pos I]];simp (disch:=first|omega|decide) only[push_cast,↓reduceIte,CG,DX,GH,FH,DW,Cc,U,I,E,Ydb,Y0 J,UU hv,OI,Wn J,GW]
 ·rw[show Dl v b s x=.pop 1 none none by unfold Dl; rw[if_neg (by omega),if_neg (by omega),if_neg (by omega),if_pos u,if_neg I]];simp (disch:=first|omega|decide) only[push_cast,↓reduceIte,CG,DX,DW,AR,U,I,E,GW]
theorem zN:IContract Tryz.prog GG 182 (HY (·=15)):=by
 refine Ii (T:=tb [] []) nP (Dy all_nil all_nil) ?_;intro ds st r M;obtain⟨key,v,b,s,x,hm,I,hk,rfl,rfl⟩:=HF M;obtain⟨hv,N,O,hl,U,V,hf,X⟩:=hm;have u:=JQ hk;have E:=hk;unfold Gq at E;rw[show Dl v b s x=.set s.pc 1 x.n by unfold Dl; rw[if_neg (by omega),if_neg (by omega),if_neg (by omega),if_neg (by omega),if_neg (by omega),if_pos I]];have J:(key == st.length)=false:=by rw[beq_eq_false_iff_ne]; omega
 unfold cS;simp (disch:=first|omega|decide) only[push_cast,↓LC,↓reduceIte,CG,CH,DX,GH,GN u,E,EG,FH,DW,Yn9 hv,Yn8 hv,OI,OE u,Y0 u,Wn u,J]
theorem pS:IContract Tryz.prog GG 231 (G7 RR):=Yll.toI Tryz.func231 (by kernel_rfl) (by kernel_rfl)
theorem pU:IContract Tryz.prog GG 232 (G7 RT):=Ylj.toI Tryz.func232 (by kernel_rfl) (by kernel_rfl)
theorem pT:IContract Tryz.prog GG 233 (G7 RS):=Ylk.toI Tryz.func233 (by kernel_rfl) (by kernel_rfl)
theorem Yhi:IContract Tryz.prog GG 234 (G7 Vl):=yS.toI Tryz.func234 (by kernel_rfl) (by kernel_rfl)
theorem Yhh:IContract Tryz.prog GG 235 (G7 Vm):=yT.toI Tryz.func235 (by kernel_rfl) (by kernel_rfl)
theorem Yhg:IContract Tryz.prog GG 236 (G7 Vn):=yU.toI Tryz.func236 (by kernel_rfl) (by kernel_rfl)
theorem Yhf:IContract Tryz.prog GG 238 (G7 Vo):=yV.toI Tryz.func238 (by kernel_rfl) (by kernel_rfl)
theorem Yhe:IContract Tryz.prog GG 239 (G7 Vp):=yW.toI Tryz.func239 (by kernel_rfl) (by kernel_rfl)
theorem Yhd:IContract Tryz.prog GG 240 (G7 Vq):=yX.toI Tryz.func240 (by kernel_rfl) (by kernel_rfl)
theorem u6:IContract Tryz.prog GG 184 (HY (fun o=>3≤o∧o≤11)):=by
 refine Ii (T:=MW [] [(195,Ls),(231,G7 RR),(232,G7 RT),(233,G7 RS),(234,G7 Vl),(235,G7 Vm),(236,G7 Vn),(238,G7 Vo),(239,G7 Vp),(240,G7 Vq)] [(197,Jm)]) nW (XE all_nil (all_cons PB (all_cons pS (all_cons pU (all_cons pT (all_cons Yhi (all_cons Yhh (all_cons Yhg (all_cons Yhf (all_cons Yhe (all_cons Yhd all_nil)))))))))) (all_cons Xk all_nil)) ?_;intro ds st r hr;obtain⟨key,v,b,s,x,hm,V,hk,rfl,rfl⟩:=HF hr;obtain⟨hv,ac,ad,hl,X,Y,hf,hn⟩:=hm;have ae:=JQ hk;have aa:=hk;unfold Gq at aa;have af:EZ x.op=2:=by unfold EZ; rw[if_neg (by omega),if_pos V]
 have J:G8 Jm [.ptr key 0,.int .i64 0] (st++[⟨false,1,Dz x,false⟩])=some (.int .i64 (Dc s 0)):=Rx hv (ME hk _) 0 (by omega) (by omega);have M:G8 Jm [.ptr key 0,.int .i64 1] (st++[⟨false,1,Dz x,false⟩])=some (.int .i64 (Dc s 1)):=Rx hv (ME hk _) 1 (by omega) (by omega);have E:=O2 hv hk x 2 2 rfl (some (DK x.op (Dc s 1) (Dc s 0)).1) (by omega) hl X Y;simp only[Jj]at E;have N:∀ f:Nat,JY 0 1 false (.agg [.clo f []])=some (.clo f []):=fun f=>(rfl)
 have O:Dl v b s x=if(DK x.op (Dc s 1) (Dc s 0)).2=0 then .pop 2 (some (DK x.op (Dc s 1) (Dc s 0)).1) none else .err (DK x.op (Dc s 1) (Dc s 0)).2:=by
  unfold Dl; rw[if_neg (by omega),if_neg (by omega),if_neg (by omega),if_neg (by omega),if_neg (by omega),if_neg (by omega),if_neg (by omega)]
 have I:=YZ (st++[⟨false,1,Dz x,false⟩]) x.op false (.agg [.nilf]);have U:x.op=3∨x.op=4∨x.op=5∨x.op=6∨x.op=7∨x.op=8∨x.op=9∨x.op=10∨x.op=11:=by omega
 unfold dn;rcases U with e | e | e | e | e | e | e | e | e
 ·have hb:=K3 (uW (Dc s 1) (Dc s 0)) (st++[⟨false,1,Dz x,false⟩]);have u:DK x.op (Dc s 1) (Dc s 0)=Fs (Dc s 1) (Dc s 0):=by unfold DK; rw[if_pos e]
  rw[show FY x.op EM=some 231 by rw[e]; rfl]at I
  by_cases he:(DK x.op (Dc s 1) (Dc s 0)).2=0
  ·rw[O,if_pos he];rw[u]at he E;rw[u];simp (disch:=first|omega|decide) only[push_cast,↓reduceIte,CG,DX,EG,Ev,DW,AR,HU _ _ _ _ FW,H7,Eg,I,N,J,M,hb,he,E]
  ·rw[O,if_neg he];rw[u]at he;rw[u];simp (disch:=first|omega|decide) only[push_cast,↓reduceIte,CG,DX,EG,DW,HU _ _ _ _ FW,H7,Eg,I,N,J,M,hb,he]
 ·have hb:=K3 (uY (Dc s 1) (Dc s 0)) (st++[⟨false,1,Dz x,false⟩]);have u:DK x.op (Dc s 1) (Dc s 0)=Fk (Dc s 1) (Dc s 0):=by unfold DK; rw[if_neg (by omega),if_pos e]
  rw[show FY x.op EM=some 232 by rw[e]; rfl]at I
  by_cases he:(DK x.op (Dc s 1) (Dc s 0)).2=0
  ·rw[O,if_pos he];rw[u]at he E;rw[u];simp (disch:=first|omega|decide) only[push_cast,↓reduceIte,CG,DX,EG,Ev,DW,AR,HU _ _ _ _ FW,H7,Eg,I,N,J,M,hb,he,E]
  ·rw[O,if_neg he];rw[u]at he;rw[u];simp (disch:=first|omega|decide) only[push_cast,↓reduceIte,CG,DX,EG,DW,HU _ _ _ _ FW,H7,Eg,I,N,J,M,hb,he]
 ·have hb:=K3 (uX (Dc s 1) (Dc s 0)) (st++[⟨false,1,Dz x,false⟩]);have u:DK x.op (Dc s 1) (Dc s 0)=Fo (Dc s 1) (Dc s 0):=by unfold DK; rw[if_neg (by omega),if_neg (by omega),if_pos e]
  rw[show FY x.op EM=some 233 by rw[e]; rfl]at I
  by_cases he:(DK x.op (Dc s 1) (Dc s 0)).2=0
  ·rw[O,if_pos he];rw[u]at he E;rw[u];simp (disch:=first|omega|decide) only[push_cast,↓reduceIte,CG,DX,EG,Ev,DW,AR,HU _ _ _ _ FW,H7,Eg,I,N,J,M,hb,he,E]
  ·rw[O,if_neg he];rw[u]at he;rw[u];simp (disch:=first|omega|decide) only[push_cast,↓reduceIte,CG,DX,EG,DW,HU _ _ _ _ FW,H7,Eg,I,N,J,M,hb,he]
 ·have hb:=K3 (qG (Dc s 1) (Dc s 0)) (st++[⟨false,1,Dz x,false⟩]);have u:DK x.op (Dc s 1) (Dc s 0)=(min (Dc s 1) (Dc s 0),0):=by unfold DK; rw[if_neg (by omega),if_neg (by omega),if_neg (by omega),if_pos e]
  rw[show FY x.op EM=some 234 by rw[e]; rfl]at I
  by_cases he:(DK x.op (Dc s 1) (Dc s 0)).2=0
  ·rw[O,if_pos he];rw[u]at he E;rw[u];simp (disch:=first|omega|decide) only[push_cast,↓reduceIte,CG,DX,EG,Ev,DW,AR,HU _ _ _ _ FW,H7,Eg,I,N,J,M,hb,E]
  ·rw[u]at he;exact absurd rfl he
 ·have hb:=K3 (qH (Dc s 1) (Dc s 0)) (st++[⟨false,1,Dz x,false⟩]);have u:DK x.op (Dc s 1) (Dc s 0)=(max (Dc s 1) (Dc s 0),0):=by unfold DK; rw[if_neg (by omega),if_neg (by omega),if_neg (by omega),if_neg (by omega),if_pos e]
  rw[show FY x.op EM=some 235 by rw[e]; rfl]at I
  by_cases he:(DK x.op (Dc s 1) (Dc s 0)).2=0
  ·rw[O,if_pos he];rw[u]at he E;rw[u];simp (disch:=first|omega|decide) only[push_cast,↓reduceIte,CG,DX,EG,Ev,DW,AR,HU _ _ _ _ FW,H7,Eg,I,N,J,M,hb,E]
  ·rw[u]at he;exact absurd rfl he
 ·have hb:=K3 (qJ (Dc s 1) (Dc s 0)) (st++[⟨false,1,Dz x,false⟩]);have u:DK x.op (Dc s 1) (Dc s 0)=DT (Dc s 1) (Dc s 0) 8:=by unfold DK; rw[if_neg (by omega),if_neg (by omega),if_neg (by omega),if_neg (by omega),if_neg (by omega),if_pos e]
  rw[show FY x.op EM=some 236 by rw[e]; rfl]at I
  by_cases he:(DK x.op (Dc s 1) (Dc s 0)).2=0
  ·rw[O,if_pos he];rw[u]at he E;rw[u];simp (disch:=first|omega|decide) only[push_cast,↓reduceIte,CG,DX,EG,Ev,DW,AR,HU _ _ _ _ FW,H7,Eg,I,N,J,M,hb,he,E]
  ·rw[O,if_neg he];rw[u]at he;rw[u];simp (disch:=first|omega|decide) only[push_cast,↓reduceIte,CG,DX,EG,DW,HU _ _ _ _ FW,H7,Eg,I,N,J,M,hb,he]
 ·have hb:=K3 (qK (Dc s 1) (Dc s 0)) (st++[⟨false,1,Dz x,false⟩]);have u:DK x.op (Dc s 1) (Dc s 0)=DT (Dc s 1) (Dc s 0) 9:=by unfold DK; rw[if_neg (by omega),if_neg (by omega),if_neg (by omega),if_neg (by omega),if_neg (by omega),if_neg (by omega),if_pos e]
  rw[show FY x.op EM=some 238 by rw[e]; rfl]at I
  by_cases he:(DK x.op (Dc s 1) (Dc s 0)).2=0
  ·rw[O,if_pos he];rw[u]at he E;rw[u];simp (disch:=first|omega|decide) only[push_cast,↓reduceIte,CG,DX,EG,Ev,DW,AR,HU _ _ _ _ FW,H7,Eg,I,N,J,M,hb,he,E]
  ·rw[O,if_neg he];rw[u]at he;rw[u];simp (disch:=first|omega|decide) only[push_cast,↓reduceIte,CG,DX,EG,DW,HU _ _ _ _ FW,H7,Eg,I,N,J,M,hb,he]
 ·have hb:=K3 (qN (Dc s 1) (Dc s 0)) (st++[⟨false,1,Dz x,false⟩]);have u:DK x.op (Dc s 1) (Dc s 0)=DT (Dc s 1) (Dc s 0) 10:=by unfold DK; rw[if_neg (by omega),if_neg (by omega),if_neg (by omega),if_neg (by omega),if_neg (by omega),if_neg (by omega),if_neg (by omega),if_pos e]
  rw[show FY x.op EM=some 239 by rw[e]; rfl]at I
  by_cases he:(DK x.op (Dc s 1) (Dc s 0)).2=0
  ·rw[O,if_pos he];rw[u]at he E;rw[u];simp (disch:=first|omega|decide) only[push_cast,↓reduceIte,CG,DX,EG,Ev,DW,AR,HU _ _ _ _ FW,H7,Eg,I,N,J,M,hb,he,E]
  ·rw[O,if_neg he];rw[u]at he;rw[u];simp (disch:=first|omega|decide) only[push_cast,↓reduceIte,CG,DX,EG,DW,HU _ _ _ _ FW,H7,Eg,I,N,J,M,hb,he]
 ·have hb:=K3 (qQ (Dc s 1) (Dc s 0)) (st++[⟨false,1,Dz x,false⟩]);have u:DK x.op (Dc s 1) (Dc s 0)=(if Dc s 1<Dc s 0 then 1 else 0,0):=by unfold DK; rw[if_neg (by omega),if_neg (by omega),if_neg (by omega),if_neg (by omega),if_neg (by omega),if_neg (by omega),if_neg (by omega),if_neg (by omega),if_pos e]
  rw[show FY x.op EM=some 240 by rw[e]; rfl]at I
  by_cases he:(DK x.op (Dc s 1) (Dc s 0)).2=0
  ·rw[O,if_pos he];rw[u]at he E;rw[u];simp (disch:=first|omega|decide) only[push_cast,↓reduceIte,CG,DX,EG,Ev,DW,AR,HU _ _ _ _ FW,H7,Eg,I,N,J,M,hb,E]
  ·rw[u]at he;exact absurd rfl he
def ZF(o:Option PI.Obj)(sz:Nat)(ks:List Nat)(ok:Bool)(zero k:D):Option D:=match o with
 |some o=>if o.isMap && o.sz == sz && (G4 sz ks k k).isSome then match Jg sz ks k o.els 0 with
   |some (some i)=>match o.els[i]? with
    |some el=>some (if ok then .tup [Gu sz el,.bool true]else Gu sz el)
    |none=>none
   |some none=>some (if ok then .tup [zero,.bool false]else zero)
   |none=>none
  else none
 |none=>none
theorem LM(st:St)(sz:Nat)(ks:List Nat)(ok:Bool)(u k:D)(key:Nat):Hw st sz ks ok u (.mapv key) k=ZF st[key]? sz ks ok u k:=(rfl)
def Le(o:Option PI.Obj)(sz:Nat)(ks:List Nat)(k v:D):Option PI.Obj:=match o with
 |some o=>if o.isMap && o.sz == sz && !o.lent && v.isCell && k.cells.length+1 == sz && k.cells.all D.isCell && G4 sz ks k k == some true then match Jg sz ks k o.els 0 with
   |some (some i)=>some {o with els:=o.els.set i (.agg (k.cells++[v]))}
   |some none=>some {o with els:=o.els++[.agg (k.cells++[v])]}
   |none=>none
  else none
 |none=>none
theorem LI(st:St)(sz:Nat)(ks:List Nat)(k v:D)(key:Nat):Nj st sz ks (.mapv key) k v=(Le st[key]? sz ks k v).map fun o=>st.set key o:=by
 simp only[Nj,Le]
 cases st[key]? with
 |none=>rfl
 |some o=>
  simp only
  split
  ·cases Jg sz ks k o.els 0 with
   |none=>rfl
   |some r=>cases r <;> rfl
  ·rfl
def KG:List (Int×Nat):=[(1,5000177),(2,5000178),(12,5000179),(13,5000180),(14,5000181),(15,5000182),(16,5000183)]
def Q4(k:Nat)(p:Int×Nat):D:=.agg [.int .i64 p.1,.clo p.2 [.ptr k 0]]
def HM(k i:Nat):List D:=(KG.take i).map (Q4 k)
theorem Ix(k:Nat):Le (some ⟨false,2,[],false⟩) 2 [0] (.int .i64 1) (.clo 5000177 [.ptr k 0])=some ⟨false,2,HM k 1,false⟩:=(rfl)
theorem Iw(k:Nat):Le (some ⟨false,2,HM k 1,false⟩) 2 [0] (.int .i64 2) (.clo 5000178 [.ptr k 0])=some ⟨false,2,HM k 2,false⟩:=(rfl)
theorem Iv(k:Nat):Le (some ⟨false,2,HM k 2,false⟩) 2 [0] (.int .i64 12) (.clo 5000179 [.ptr k 0])=some ⟨false,2,HM k 3,false⟩:=(rfl)
theorem Iu(k:Nat):Le (some ⟨false,2,HM k 3,false⟩) 2 [0] (.int .i64 13) (.clo 5000180 [.ptr k 0])=some ⟨false,2,HM k 4,false⟩:=(rfl)
theorem It(k:Nat):Le (some ⟨false,2,HM k 4,false⟩) 2 [0] (.int .i64 14) (.clo 5000181 [.ptr k 0])=some ⟨false,2,HM k 5,false⟩:=(rfl)
theorem Is(k:Nat):Le (some ⟨false,2,HM k 5,false⟩) 2 [0] (.int .i64 15) (.clo 5000182 [.ptr k 0])=some ⟨false,2,HM k 6,false⟩:=(rfl)
theorem Ir(k:Nat):Le (some ⟨false,2,HM k 6,false⟩) 2 [0] (.int .i64 16) (.clo 5000183 [.ptr k 0])=some ⟨false,2,HM k 7,false⟩:=(rfl)
theorem Mg(k:Nat)(op:Int)(f:Nat)(h:FY op KG=some f):ZF (some ⟨false,2,HM k 7,false⟩) 2 [0] true .nilf (.int .i64 op)=some (.tup [.clo f [.ptr k 0],.bool true]):=by
 simp only[KG,FY]at h
 split at h
 ·simp only[C9]at h; subst h; rename_i e; subst e; rfl
 split at h
 ·simp only[C9]at h; subst h; rename_i e; subst e; rfl
 split at h
 ·simp only[C9]at h; subst h; rename_i e; subst e; rfl
 split at h
 ·simp only[C9]at h; subst h; rename_i e; subst e; rfl
 split at h
 ·simp only[C9]at h; subst h; rename_i e; subst e; rfl
 split at h
 ·simp only[C9]at h; subst h; rename_i e; subst e; rfl
 split at h
 ·simp only[C9]at h; subst h; rename_i e; subst e; rfl
 cases h
theorem Yis(k:Nat)(op:Int)(h:3≤op∧op≤11):ZF (some ⟨false,2,HM k 7,false⟩) 2 [0] true .nilf (.int .i64 op)=some (.tup [.nilf,.bool false]):=by
 have:op=3∨op=4∨op=5∨op=6∨op=7∨op=8∨op=9∨op=10∨op=11:=by omega
 rcases this with rfl | rfl | rfl | rfl | rfl | rfl | rfl | rfl | rfl <;> rfl
theorem Lm(st:St)(a b:PI.Obj):(st++[a]++[b])[st.length+1]?=some b:=by
 have:=EG (st++[a]) b;rwa [Jp]at this
theorem Ll(st:St)(a b:PI.Obj):(st++[a]++[b])[st.length]?=some a:=by
 rw[GN (by rw[Jp]; omega),EG]
theorem Lr(st:St)(a b b':PI.Obj):(st++[a]++[b]).set (st.length+1) b'=st++[a]++[b']:=by
 have:=Nw (st++[a]) b b';rwa [Jp]at this
structure eOK (v:Int×List Int) (b:Int) (s:Sta) (x:Ins):Prop where
 v:D5 v
 b0:0≤b
 b1:b≤64
 l:s.stack.length≤64
 p0:0≤s.pc
 p1:s.pc≤100000
 f:EB x=true
def EO(v:Int×List Int)(b:Int)(s:Sta)(x:Ins):Out:=if(s.stack.length:Int)<EZ x.op then .err 200 else Dl v b s x
def Iz(st:St)(key:Nat)(s:Sta)(x:Ins):St:=if(s.stack.length:Int)<EZ x.op then st else st++[⟨false,1,Dz x,false⟩]++[⟨false,2,HM key 7,false⟩]
def Q1(ds:List D)(st:St)(r:D×St):Prop:=∃ (key:Nat) (v:Int×List Int) (b:Int) (s:Sta) (x:Ins),eOK v b s x∧Gq st key v s.pc s.fuel s.status s.clause (Ed s.stack) b∧ds=[.ptr key 0,C5 x]∧r=DW (Iz st key s x) key v b s x (EO v b s x)
noncomputable def UP:List D→St→Option (D×St):=Gb Q1
theorem Ykv:G3 Q1:=by
 rintro ds st r X ⟨key,v,b,s,x,hm,hk,rfl,rfl⟩ ⟨U,v',b',s',Y,u,E,h,rfl⟩;simp only[Aa,D.ptr.injEq,and_true,K0]at h;obtain⟨rfl,rfl⟩:=h;obtain⟨rfl,I,J,M,N,V,rfl⟩:=WA hm.v u.v hk E;have O:=NI.1 V;obtain⟨a1,a2,a3,a4,a5⟩:=s;obtain⟨b1,b2,b3,b4,b5⟩:=s';dsimp only at I J M N O;subst I; subst J; subst M; subst N; subst O;rfl
theorem Yd8(u:eOK v b s x)(E:Gq st key v s.pc s.fuel s.status s.clause (Ed s.stack) b):UP [.ptr key 0,C5 x] st=some (DW (Iz st key s x) key v b s x (EO v b s x)):=
 J7 Ykv ⟨key,v,b,s,x,u,E,rfl,rfl⟩
theorem Lq:Xn 2=some ⟨false,2,[],false⟩:=(rfl)
set_option maxHeartbeats 8000000 in
set_option maxRecDepth 20000 in
theorem zL:IContract Tryz.prog GG 157 UP:=by
 refine Ii (T:=tb [(109,RU)] [(177,HY (·=1)),(178,HY (·=2)),(179,HY (·=12)),(180,HY (·=13)),(181,HY (·=14)),(182,HY (·=15)),(183,HY (·=16)),(184,HY (fun o=>3≤o∧o≤11))])
  nX (Dy (all_cons ew all_nil) (all_cons Ylb (all_cons Yld (all_cons u7 (all_cons Yk8 (all_cons Yle (all_cons zN (all_cons Ylc (all_cons u6 all_nil))))))))) ?_
 intro ds st r hr;obtain⟨key,v,b,s,x,⟨hv,V,X,hl,Y,aa,hf⟩,hk,rfl,rfl⟩:=HF hr;have M:=JQ hk;have u:=hk;unfold Gq at u;have N:=kz x.op;have ad:=r8 hf;unfold dq
 by_cases O:(s.stack.length:Int)<EZ x.op
 ·rw[show EO v b s x=.err 200 from if_pos O,show Iz st key s x=st from if_pos O];simp (disch:=first|omega|decide) only[push_cast,↓reduceIte,CG,CH,DX,GH,GN M,u,HA hv,GO,EG,Eg,N,O,DW]
 ·rw[show EO v b s x=Dl v b s x from if_neg O,show Iz st key s x=_ from if_neg O];have hm:mOK v b s x:=⟨hv,V,X,hl,Y,aa,hf,by omega⟩;have ab:Gq (st++[⟨false,1,Dz x,false⟩]++[⟨false,2,HM key 7,false⟩]) key v s.pc s.fuel s.status s.clause (Ed s.stack) b:=ME (ME hk _) _
  have fin:∀ (P:Int→Prop),P x.op→∃ d st',HY P [.ptr key 0,C5 x] (st++[⟨false,1,Dz x,false⟩]++[⟨false,2,HM key 7,false⟩])=some (d,st')∧DW (st++[⟨false,1,Dz x,false⟩]++[⟨false,2,HM key 7,false⟩]) key v b s x (Dl v b s x)=(d,st'):=
   fun P hP=>⟨_,_,Yd5 hm hP ab,rfl⟩
  have U:x.op=1∨x.op=2∨x.op=12∨x.op=13∨x.op=14∨x.op=15∨x.op=16∨(3≤x.op∧x.op≤11):=by omega
  rcases U with e | e | e | e | e | e | e | e
  ·obtain⟨d,st',E,I⟩:=fin (·=1) e;have J:=Mg key x.op _ (show FY x.op KG=some 5000177 by rw[e]; rfl);rw[I];simp (disch:=first|omega|decide) only[push_cast,↓reduceIte,CG,CH,DX,GH,GN M,u,HA hv,GO,EG,Eg,N,O,Jp,LI,LM,Lm,Lr,Ll,Lq,Ix,Iw,Iv,Iu,It,Is,Ir,J,J3,LP _ 5000177 177 _ rfl (by decide),E]
  ·obtain⟨d,st',E,I⟩:=fin (·=2) e;have J:=Mg key x.op _ (show FY x.op KG=some 5000178 by rw[e]; rfl);rw[I];simp (disch:=first|omega|decide) only[push_cast,↓reduceIte,CG,CH,DX,GH,GN M,u,HA hv,GO,EG,Eg,N,O,Jp,LI,LM,Lm,Lr,Ll,Lq,Ix,Iw,Iv,Iu,It,Is,Ir,J,J3,LP _ 5000178 178 _ rfl (by decide),E]
  ·obtain⟨d,st',E,I⟩:=fin (·=12) e;have J:=Mg key x.op _ (show FY x.op KG=some 5000179 by rw[e]; rfl);rw[I];simp (disch:=first|omega|decide) only[push_cast,↓reduceIte,CG,CH,DX,GH,GN M,u,HA hv,GO,EG,Eg,N,O,Jp,LI,LM,Lm,Lr,Ll,Lq,Ix,Iw,Iv,Iu,It,Is,Ir,J,J3,LP _ 5000179 179 _ rfl (by decide),E]
  ·obtain⟨d,st',E,I⟩:=fin (·=13) e;have J:=Mg key x.op _ (show FY x.op KG=some 5000180 by rw[e]; rfl);rw[I];simp (disch:=first|omega|decide) only[push_cast,↓reduceIte,CG,CH,DX,GH,GN M,u,HA hv,GO,EG,Eg,N,O,Jp,LI,LM,Lm,Lr,Ll,Lq,Ix,Iw,Iv,Iu,It,Is,Ir,J,J3,LP _ 5000180 180 _ rfl (by decide),E]
  ·obtain⟨d,st',E,I⟩:=fin (·=14) e;have J:=Mg key x.op _ (show FY x.op KG=some 5000181 by rw[e]; rfl);rw[I];simp (disch:=first|omega|decide) only[push_cast,↓reduceIte,CG,CH,DX,GH,GN M,u,HA hv,GO,EG,Eg,N,O,Jp,LI,LM,Lm,Lr,Ll,Lq,Ix,Iw,Iv,Iu,It,Is,Ir,J,J3,LP _ 5000181 181 _ rfl (by decide),E]
  ·obtain⟨d,st',E,I⟩:=fin (·=15) e;have J:=Mg key x.op _ (show FY x.op KG=some 5000182 by rw[e]; rfl);rw[I];simp (disch:=first|omega|decide) only[push_cast,↓reduceIte,CG,CH,DX,GH,GN M,u,HA hv,GO,EG,Eg,N,O,Jp,LI,LM,Lm,Lr,Ll,Lq,Ix,Iw,Iv,Iu,It,Is,Ir,J,J3,LP _ 5000182 182 _ rfl (by decide),E]
  ·obtain⟨d,st',E,I⟩:=fin (·=16) e;have J:=Mg key x.op _ (show FY x.op KG=some 5000183 by rw[e]; rfl);rw[I];simp (disch:=first|omega|decide) only[push_cast,↓reduceIte,CG,CH,DX,GH,GN M,u,HA hv,GO,EG,Eg,N,O,Jp,LI,LM,Lm,Lr,Ll,Lq,Ix,Iw,Iv,Iu,It,Is,Ir,J,J3,LP _ 5000183 183 _ rfl (by decide),E]
  ·obtain⟨d,st',E,I⟩:=fin (fun o=>3≤o∧o≤11) e;have J:=Yis key x.op e;rw[I];simp (disch:=first|omega|decide) only[push_cast,↓reduceIte,CG,CH,DX,GH,GN M,u,HA hv,GO,EG,Eg,N,O,Jp,LI,LM,Lm,Lr,Ll,Lq,Ix,Iw,Iv,Iu,It,Is,Ir,J,J3,E]
def EE(s:Sta):Out→Sta
 |.err e=>{s with status:=10+e}
 |.pop k push pc=>{s with pc:=pc.getD (s.pc+1),stack:=s.stack.take (s.stack.length - k)++push.toList}
 |.set p t c=>{s with pc:=p,status:=t,clause:=c}
def Dg(s:Sta):Sta:={s with fuel:=s.fuel - 1}
def Ef(v:Int×List Int)(b:Int)(s:Sta)(x:Ins):Sta:=if s.fuel=0 then {s with status:=220} else EE (Dg s) (EO v b (Dg s) x)
structure aOK (c:List Ins) (v:Int×List Int) (s:Sta) (b:Int):Prop where
 v:D5 v
 b0:0≤b
 b1:b≤64
 l:s.stack.length≤64
 p0:0≤s.pc
 p1:s.pc<c.length
 cl:c.length≤4096
 f:c.all EB=true
 u0:0≤s.fuel
 u1:s.fuel≤32768
theorem Yep(op a b:Int):0≤(DK op a b).2∧(DK op a b).2≤100:=by
 have E:∀ c,0≤(GY c).2∧(GY c).2≤100:=fun c=>by unfold GY; split <;> exact⟨by simp,by simp⟩
 have I:∀ a b m,0≤(DT a b m).2∧(DT a b m).2≤100:=fun a b m=>by
  unfold DT
  split
  ·split <;> exact⟨by simp,by simp⟩
  ·exact⟨by simp,by simp⟩
 have ha:0≤(Fs a b).2∧(Fs a b).2≤100:=by unfold Fs; split <;> first | exact E _ | exact⟨by simp,by simp⟩
 have J:0≤(Fk a b).2∧(Fk a b).2≤100:=by unfold Fk; split <;> first | exact E _ | exact⟨by simp,by simp⟩
 have hm:0≤(Fo a b).2∧(Fo a b).2≤100:=by unfold Fo; split <;> first | exact E _ | exact⟨by simp,by simp⟩
 have u:∀ n:Int,0≤((n,0):Int×Int).2∧((n,0):Int×Int).2≤100:=fun n=>⟨by simp,by simp⟩;unfold DK
 split; · exact ha
 split; · exact J
 split; · exact hm
 split; · exact u _
 split; · exact u _
 split; · exact I _ _ _
 split; · exact I _ _ _
 split; · exact I _ _ _
 split; · exact u _
 exact u _
theorem XJ{e:Int}(h:EO v b s x=.err e):1≤e∧e≤1000:=by
 have u:=Yep x.op (Dc s 1) (Dc s 0);unfold EO Dl at h
 repeat' split at h
 all_goals first | (cases h; done) | (simp only[Out.err.injEq]at h; omega)
variable {k:Nat}
theorem eY{u pc:Option Int}(h:EO v b s x=.pop k u pc):¬ (s.stack.length:Int)<EZ x.op:=by
 intro E;unfold EO at h;rw[if_pos E]at h;cases h
theorem Ykz{c:Int}(h:EO v b s x=.set p t c):¬ (s.stack.length:Int)<EZ x.op:=by
 intro u;unfold EO at h;rw[if_pos u]at h;cases h
theorem sx(v:Int×List Int)(hv:D5 v)(s:Sta)(b:Int):Fi [.int .i64 0,.int .i64 0,.int .i64 0,.int .i64 0,.int .i64 0,.int .i64 0,.int .i64 0,.int .i64 0,.int .i64 0,.int .i64 0,.int .i64 0,.int .i64 0,.int .i64 0,.int .i64 0,.int .i64 0,.int .i64 0,.int .i64 0,.int .i64 0,.int .i64 0,.int .i64 0,.int .i64 0,.slc 0 [] true,.int .i64 0]
  [(0,17,DQ v),(17,5,Dk s),(22,1,.int .i64 b)]=some (Es v s.pc s.fuel s.status s.clause (Ed s.stack) b):=by
 refine(II (cs':=DS v++([.int .i64 0,.int .i64 0,.int .i64 0,.int .i64 0,.slc 0 [] true]++[.int .i64 0])) (A:=[]) (B:=CM 17 (.int .i64 0)) (C:=[.int .i64 0,.int .i64 0,.int .i64 0,.int .i64 0,.slc 0 [] true,.int .i64 0]) (xs:=DS v) rfl rfl rfl rfl rfl (Hf hv) (OU (v.1::v.2))).trans ?_;refine(II (cs':=DS v++(DB s++[.int .i64 0])) (A:=DS v) (B:=[.int .i64 0,.int .i64 0,.int .i64 0,.int .i64 0,.slc 0 [] true]) (C:=[.int .i64 0]) (xs:=DB s) rfl rfl (Hf hv) rfl rfl rfl (pQ s)).trans ?_;refine(II (cs':=Es v s.pc s.fuel s.status s.clause (Ed s.stack) b) (A:=DS v++DB s) (B:=[.int .i64 0]) (C:=[]) (xs:=[.int .i64 b]) (by simp) (by simp[Es,DB]) (by simp[Hf hv,DB]) rfl rfl rfl rfl).trans ?_;rfl
theorem Yei(v:Int×List Int)(p f t c:Int)(sz:Nat)(els:List D)(u:Bool)(b:Int):D0 (.agg (Es v p f t c (.slc sz els u) b))=some (Es v p f t c (.slc sz els u) b):=by
 have h:(Es v p f t c (.slc sz els u) b).all D.isCell=true:=by
  rw[Es,BQ,OD,OU];rfl
 rw[show D0 (.agg (Es v p f t c (.slc sz els u) b))=if(Es v p f t c (.slc sz els u) b).all D.isCell then some (Es v p f t c (.slc sz els u) b)else none from rfl,if_pos h]
theorem R6(v:Int×List Int)(p f t c:Int)(l:List Int)(b:Int):D0 (.agg (Es v p f t c (Ed l) b))=some (Es v p f t c (Ed l) b):=Yei v p f t c _ _ _ b
theorem wT(l:List Int):(Ed l).isCell=true:=(rfl)
theorem so(st:St)(l:List Int):DD st (Ed l)=some (Ed l):=by simp only[Ed,Zc,JX]
theorem Ypz(u o1 o2 E I J M:PI.Obj)(A:List Int)(m:Nat)(h:A.length=m):DD [u,o1,o2,E,I,J,M,⟨true,1,A.map nI,false⟩] (.row 7 m 0 m)=some (Ed A):=by
 have N:Gy [u,o1,o2,E,I,J,M,⟨true,1,A.map nI,false⟩] 7 m 0 m=some (1,A.map nI):=by
  simp only[Gy,Bt,AB];rw[if_pos (by simp[h]),Bp,AI (by simp[h])]
 simp only[DD,N,Ae];rfl
theorem MS(s:Sta)(n:Int):Eh (some ⟨false,1,DB s,false⟩) 1 1 (.int .i64 n)=some ⟨false,1,DB {s with fuel:=n},false⟩:=(rfl)
theorem Px(s:Sta)(n:Int):Eh (some ⟨false,1,DB s,false⟩) 1 2 (.int .i64 n)=some ⟨false,1,DB {s with status:=n},false⟩:=(rfl)
theorem IN(a b c d S:D):Eh (some ⟨false,1,[.int .i64 0,.int .i64 0,.int .i64 0,.int .i64 0,.slc 0 [] true],false⟩) 5 0 (.agg [a,b,c,d,S])=if [a,b,c,d,S].all D.isCell then some ⟨false,1,[a,b,c,d,S],false⟩else none:=by
 simp only[Eh]; rfl
theorem IT(lent:Bool)(a b c d S:D):DY (some ⟨false,1,[a,b,c,d,S],lent⟩) 5 true 0=some (.agg [a,b,c,d,S]):=(rfl)
noncomputable def UQ:List D→Option D:=Dd (α:=List Ins×(Int×List Int)×Sta×Int) (fun a=>[.slc (nz 3 (a.1.map C5)) (a.1.map C5) false,DQ a.2.1,Dk a.2.2.1,.int .i64 a.2.2.2]) (fun a=>aOK a.1 a.2.1 a.2.2.1 a.2.2.2) (fun a=>Dk (Ef a.2.1 a.2.2.2 a.2.2.1 (a.1.getD a.2.2.1.pc.toNat default)))
theorem fI(c:List Ins)(v:Int×List Int)(s:Sta)(b:Int)(h:aOK c v s b):UQ [.slc (nz 3 (c.map C5)) (c.map C5) false,DQ v,Dk s,.int .i64 b]=some (Dk (Ef v b s (c.getD s.pc.toNat default))):=
 DG (fun⟨a0,a1,u,E⟩ ⟨b0,b1,I,J⟩ h=>by simp only[Aa,D.slc.injEq,D.int.injEq,true_and,and_true,GA,JP,Gz]at h; simp[h]) (c,v,s,b) h
set_option maxHeartbeats 4000000 in
set_option maxRecDepth 20000 in
theorem PW(c:List Ins)(v:Int×List Int)(s:Sta)(b:Int)(h:aOK c v s b):@wW GG (tb [] [(157,UP)]) Te.code (Db [.slc (nz 3 (c.map C5)) (c.map C5) false,DQ v,Dk s,.int .i64 b]) [] ⟨De Te.res (Dk (Ef v b s (c.getD s.pc.toNat default)))⟩:=by
 obtain⟨hv,X,Y,hl,aa,a1,hc,hf,a2,a3⟩:=h;have U:s.pc.toNat<c.length:=by omega
 unfold Te
 by_cases J:s.fuel=0
 ·rw[show Ef v b s (c.getD s.pc.toNat default)={s with status:=220} from if_pos J];simp (disch:=first|omega|decide) only[push_cast,↓reduceIte,CG,CH,D9,En,EH,F9,J,Px,E2,FN,FA]
 ·rw[show Ef v b s (c.getD s.pc.toNat default)=EE (Dg s) (EO v b (Dg s) (c.getD s.pc.toNat default))from if_neg J];have I:=fun st=>J5 st c false s.pc.toNat U;rw[show((s.pc.toNat:Nat):Int)=s.pc by omega]at I
  have V:EB (c.getD s.pc.toNat default)=true:=by
   rw[Aj,Af U];exact Ag.1 hf _ (Bj U)
  obtain⟨x,ab⟩:∃ x,c.getD s.pc.toNat default=x:=⟨_,rfl⟩;rw[ab]at I V ⊢;have I:∀ st:St,Fy st 3 (.slc (nz 3 (c.map C5)) (c.map C5) false) (.int .i64 (Dg s).pc)=some (.eptr (C5 x) 0):=I;have he:eOK v b (Dg s) x:=⟨hv,X,Y,hl,aa,by show s.pc≤100000; omega,V⟩;have u:=Yd8 (st:=[⟨false,1,DS v,false⟩,⟨false,1,DB (Dg s),false⟩,⟨false,1,[.int .i64 0,.int .i64 0,.int .i64 0,.int .i64 0,.slc 0 [] true],false⟩,⟨false,1,Es v (Dg s).pc (Dg s).fuel (Dg s).status (Dg s).clause (Ed (Dg s).stack) b,false⟩]) (key:=3) he rfl;have M:=sx v hv (Dg s) b;have N:(⟨s.pc,s.fuel - 1,s.status,s.clause,s.stack⟩:Sta)=Dg s:=rfl
  cases O:EO v b (Dg s) x with
  |err e=>
   have a4:=XJ O;rw[O]at u
   have E:∃ l,Iz [⟨false,1,DS v,false⟩,⟨false,1,DB (Dg s),false⟩,⟨false,1,[.int .i64 0,.int .i64 0,.int .i64 0,.int .i64 0,.slc 0 [] true],false⟩,⟨false,1,Es v (Dg s).pc (Dg s).fuel (Dg s).status (Dg s).clause (Ed (Dg s).stack) b,false⟩] 3 (Dg s) x=⟨false,1,DS v,false⟩::⟨false,1,DB (Dg s),false⟩::⟨false,1,[.int .i64 0,.int .i64 0,.int .i64 0,.int .i64 0,.slc 0 [] true],false⟩::l:=by
    unfold Iz; split <;> exact⟨_,rfl⟩
   obtain⟨l,E⟩:=E;rw[E]at u;simp only[DW,At]at u;have ac:¬ e=0:=by omega
   simp (disch:=first|omega|decide) only[push_cast,↓reduceIte,CG,CH,D9,En,EH,F9,J,Ez,MS,N,Fw hv,E2,M,R6,F2,I,He,u,ac,DL,Px,FN,FA,EE]
  |pop k push pc=>
   rw[O]at u;have E:=eY O;rw[show Iz [⟨false,1,DS v,false⟩,⟨false,1,DB (Dg s),false⟩,⟨false,1,[.int .i64 0,.int .i64 0,.int .i64 0,.int .i64 0,.slc 0 [] true],false⟩,⟨false,1,Es v (Dg s).pc (Dg s).fuel (Dg s).status (Dg s).clause (Ed (Dg s).stack) b,false⟩] 3 (Dg s) x=_ from if_neg E]at u;simp only[DW]at u
   cases push with
   |none=>
    simp only[Ik,GW,EF,At,AH,Av,Ct,Bh]at u;simp (disch:=first|omega|decide) only[push_cast,↓reduceIte,CG,CH,D9,En,EH,F9,J,Ez,MS,N,Fw hv,E2,M,R6,F2,I,He,u,GH,Z6 hv,IN,IT,EE];simp only[Option.toList_none,Av];rfl
   |some a=>
    have hi:=fun o0 o1 o2 o3 o4 o5 o6=>Ypz o0 o1 o2 o3 o4 o5 o6 ((Dg s).stack.take ((Dg s).stack.length - k)++[a]) ((Dg s).stack.length - k+1) (by rw[Ad,As]; simp);simp only[Ik,GW,EF,At,AH,Ct,Bh,Al,Ap]at u;simp (disch:=first|omega|decide) only[push_cast,↓reduceIte,CG,CH,D9,En,EH,F9,J,Ez,MS,N,Fw hv,E2,M,R6,F2,I,He,u,GH,Z6 hv,IN,IT,EE,hi];rfl
  |set p t cl=>
   rw[O]at u;have E:=Ykz O;rw[show Iz [⟨false,1,DS v,false⟩,⟨false,1,DB (Dg s),false⟩,⟨false,1,[.int .i64 0,.int .i64 0,.int .i64 0,.int .i64 0,.slc 0 [] true],false⟩,⟨false,1,Es v (Dg s).pc (Dg s).fuel (Dg s).status (Dg s).clause (Ed (Dg s).stack) b,false⟩] 3 (Dg s) x=_ from if_neg E]at u;simp only[DW,EF,At,AH,Ct,Bh]at u;simp (disch:=first|omega|decide) only[push_cast,↓reduceIte,CG,CH,D9,En,EH,F9,J,Ez,MS,N,Fw hv,E2,M,R6,F2,I,He,u,GH,Z6 hv,IN,IT,wT,so,EE];rfl
theorem lA:Contract Tryz.prog GG 110 UQ:=
 DH (T:=tb [] [(157,UP)]) m0 (Dy all_nil (all_cons zL all_nil)) (fun a h=>PW a.1 a.2.1 a.2.2.1 a.2.2.2 h)
def Eb(c:List Ins)(s:Sta)(b:Int):Prop:=s.pc<0∨(c.length:Int)≤s.pc∨s.fuel<0∨32768<s.fuel∨s.clause≠0∨b<0∨64<b∨64 - b<(s.stack.length:Int)
instance (c:List Ins) (s:Sta) (b:Int):Decidable (Eb c s b):=by unfold Eb; infer_instance
def Fz(c:List Ins)(s:Sta)(b:Int):Int:=if s.status≠0 then 211 else if(Ei c).2≠0 then(Ei c).2 else if Eb c s b then 1 else 0
noncomputable def RX:List D→Option D:=Dd (α:=List Ins×Sta×Int) (fun a=>[.slc (nz 3 (a.1.map C5)) (a.1.map C5) false,Dk a.2.1,.int .i64 a.2.2]) (fun a=>a.1.length≤4294967296) (fun a=>.int .i64 (Fz a.1 a.2.1 a.2.2))
theorem kB(c:List Ins)(s:Sta)(b:Int)(h:c.length≤4294967296):RX [.slc (nz 3 (c.map C5)) (c.map C5) false,Dk s,.int .i64 b]=some (.int .i64 (Fz c s b)):=
 DG (fun⟨a0,a1,u⟩ ⟨b0,b1,E⟩ h=>by simp only[Aa,D.slc.injEq,D.int.injEq,true_and,and_true,GA,JP]at h; simp[h]) (c,s,b) h
theorem Ygt(c:List Ins)(s:Sta)(b:Int)(h:c.length≤4294967296):@wW GG (tb [(47,Nx)] []) SY.code (Db [.slc (nz 3 (c.map C5)) (c.map C5) false,Dk s,.int .i64 b]) [] ⟨De SY.res (.int .i64 (Fz c s b))⟩:=by
 have hv:=R9 c (by omega);unfold SY
 by_cases u:s.status=0
 ·by_cases E:(Ei c).2=0
  ·have e:Fz c s b=if Eb c s b then 1 else 0:=by unfold Fz; rw[if_neg (by simp[u]),if_neg (by simp[E])]
   rw[e]
   by_cases I:s.pc<0
   ·rw[if_pos (.inl I)];simp (disch:=first|omega|decide) only[push_cast,↓reduceIte,CG,En,F2,GI,u,hv,E,I]
   by_cases J:(c.length:Int)≤s.pc
   ·rw[if_pos (.inr (.inl J))];simp (disch:=first|omega|decide) only[push_cast,↓reduceIte,CG,En,F2,GI,u,hv,E,I,J]
   by_cases M:s.fuel<0
   ·rw[if_pos (.inr (.inr (.inl M)))];simp (disch:=first|omega|decide) only[push_cast,↓reduceIte,CG,En,F2,F9,GI,u,hv,E,I,J,M]
   by_cases N:32768<s.fuel
   ·rw[if_pos (.inr (.inr (.inr (.inl N))))];simp (disch:=first|omega|decide) only[push_cast,↓reduceIte,CG,En,F2,F9,GI,u,hv,E,I,J,M,N]
   by_cases O:s.clause=0
   ·by_cases U:b<0
    ·rw[if_pos (.inr (.inr (.inr (.inr (.inr (.inl U))))))];simp (disch:=first|omega|decide) only[push_cast,↓reduceIte,CG,En,F2,F9,GI,HC,u,hv,E,I,J,M,N,O,U]
    by_cases V:64<b
    ·rw[if_pos (.inr (.inr (.inr (.inr (.inr (.inr (.inl V)))))))];simp (disch:=first|omega|decide) only[push_cast,↓reduceIte,CG,En,F2,F9,GI,HC,u,hv,E,I,J,M,N,O,U,V]
    by_cases X:64 - b<(s.stack.length:Int)
    ·rw[if_pos (.inr (.inr (.inr (.inr (.inr (.inr (.inr X)))))))];simp (disch:=first|omega|decide) only[push_cast,↓reduceIte,CG,En,F2,F9,GI,HC,FM,GO,Ez,u,hv,E,I,J,M,N,O,U,V,X]
    ·rw[if_neg (by unfold Eb; omega)];simp (disch:=first|omega|decide) only[push_cast,↓reduceIte,CG,En,F2,F9,GI,HC,FM,GO,Ez,u,hv,E,I,J,M,N,O,U,V,X]
   ·rw[if_pos (.inr (.inr (.inr (.inr (.inl O)))))];simp (disch:=first|omega|decide) only[push_cast,↓reduceIte,CG,En,F2,F9,GI,HC,u,hv,E,I,J,M,N,O]
  ·rw[show Fz c s b=(Ei c).2 by unfold Fz; rw[if_neg (by simp[u]),if_pos E]];simp (disch:=first|omega|decide) only[push_cast,↓reduceIte,CG,En,GI,u,hv,E]
 ·rw[show Fz c s b=211 from if_pos u];simp (disch:=first|omega|decide) only[push_cast,↓reduceIte,CG,En,GI,u]
theorem eH:Contract Tryz.prog GG 108 RX:=
 DH x9 (Dy (all_cons UF all_nil) all_nil) (fun a h=>Ygt a.1 a.2.1 a.2.2 h)
variable {c:List Ins}
theorem K4(h:(Ei c).2=0):c.length≤4096∧0<c.length∧c.all EB=true∧∃ s,ER c.length c 0 (E5 c.length) 0=some s∧s≤64:=by
 unfold Ei at h
 split at h
 ·simp at h
 split at h
 ·simp at h
 rename_i I u;have J:¬ c.length=0:=fun e=>u (.inl e)
 have E:c.all EB=true:=by
  cases hb:c.all EB with
  |true=>rfl
  |false=>exact absurd (.inr hb) u
 cases hv:ER c.length c 0 (E5 c.length) 0 with
 |none=>rw[hv]at h; simp[Ia]at h
 |some s=>
  rw[hv]at h;simp only[Ia]at h
  split at h
  ·simp at h
  ·exact⟨by omega,by omega,E,s,rfl,by omega⟩
theorem Y5(hv:D5 v)(h:Fz c s b=0):aOK c v s b∧s.status=0∧s.clause=0∧(Ei c).2=0:=by
 unfold Fz at h
 split at h
 ·simp at h
 split at h
 ·rename_i E; exact absurd h E
 split at h
 ·simp at h
 rename_i N E J;have I:s.status=0:=by omega
 have u:(Ei c).2=0:=by omega
 obtain⟨a1,O,M,_⟩:=K4 u;unfold Eb at J;exact⟨⟨hv,by omega,by omega,by omega,by omega,by omega,by omega,M,by omega,by omega⟩,I,by omega,u⟩
def EY:Sta:=⟨0,0,0,0,[]⟩
def E8(f:Int):Sta:=if f<0∨32768<f then EY else {EY with fuel:=f}
def Lt(f:Int):Int:=if f<0∨32768<f then 1 else 0
theorem On:Fi [.int .i64 0,.int .i64 0,.int .i64 0,.int .i64 0,.slc 0 [] true] []=some [.int .i64 0,.int .i64 0,.int .i64 0,.int .i64 0,.slc 0 [] true]:=(rfl)
theorem Ykn(f:Int):Fi [.int .i64 0,.int .i64 0,.int .i64 0,.int .i64 0,.slc 0 [] true] [(1,1,.int .i64 f)]=some [.int .i64 0,.int .i64 f,.int .i64 0,.int .i64 0,.slc 0 [] true]:=(rfl)
noncomputable def R0:List D→Option D:=Dd (α:=Int) (fun a=>[.int .i64 a]) (fun a=>True) (fun a=>.tup [Dk (E8 a),.int .i64 (Lt a)])
theorem kE(f:Int):R0 [.int .i64 f]=some (.tup [Dk (E8 f),.int .i64 (Lt f)]):=
 DG (fun a b h=>by simp only[Aa,D.int.injEq,true_and,and_true]at h; simp[h]) (f) trivial
theorem Ygr(f:Int):@wW GG (tb [] []) SV.code (Db [.int .i64 f]) [] ⟨De SV.res (.tup [Dk (E8 f),.int .i64 (Lt f)])⟩:=by
 unfold SV
 by_cases u:f<0
 ·rw[show E8 f=EY from if_pos (.inl u),show Lt f=1 from if_pos (.inl u)];simp (disch:=first|omega|decide) only[push_cast,↓reduceIte,CG,EH,u,On,IN,IT];rfl
 ·by_cases E:32768<f
  ·rw[show E8 f=EY from if_pos (.inr E),show Lt f=1 from if_pos (.inr E)];simp (disch:=first|omega|decide) only[push_cast,↓reduceIte,CG,EH,u,E,On,IN,IT];rfl
  ·rw[show E8 f={EY with fuel:=f} from if_neg (by omega),show Lt f=0 from if_neg (by omega)];simp (disch:=first|omega|decide) only[push_cast,↓reduceIte,CG,EH,u,E,Ykn,IN,IT];rfl
theorem eK:Contract Tryz.prog GG 48 R0:=
 DH x6 (Dy all_nil all_nil) (fun a h=>Ygr a)
def FK(c:List Ins)(s:Sta):Ins:=c.getD s.pc.toNat default
def H8(c:List Ins)(v:Int×List Int)(s:Sta):Sta:=if Fz c s 0=0 then Ef v 0 s (FK c s)else EY
noncomputable def YF:List D→Option D:=Dd (α:=List Ins×(Int×List Int)×Sta) (fun a=>[.slc (nz 3 (a.1.map C5)) (a.1.map C5) false,DQ a.2.1,Dk a.2.2]) (fun a=>a.1.length≤4294967296∧D5 a.2.1) (fun a=>.tup [Dk (H8 a.1 a.2.1 a.2.2),.int .i64 (Fz a.1 a.2.2 0)])
theorem rS(c:List Ins)(v:Int×List Int)(s:Sta)(h:c.length≤4294967296∧D5 v):YF [.slc (nz 3 (c.map C5)) (c.map C5) false,DQ v,Dk s]=some (.tup [Dk (H8 c v s),.int .i64 (Fz c s 0)]):=
 DG (fun⟨a0,a1,u⟩ ⟨b0,b1,E⟩ h=>by simp only[Aa,D.slc.injEq,and_true,GA,JP,Gz]at h; simp[h]) (c,v,s) h
theorem Ymr(c:List Ins)(v:Int×List Int)(s:Sta)(h:c.length≤4294967296∧D5 v):@wW GG (tb [(108,RX),(110,UQ)] []) Ss.code (Db [.slc (nz 3 (c.map C5)) (c.map C5) false,DQ v,Dk s]) [] ⟨De Ss.res (.tup [Dk (H8 c v s),.int .i64 (Fz c s 0)])⟩:=by
 obtain⟨I,hv⟩:=h;have E:=kB c s 0 I;unfold Ss
 by_cases u:Fz c s 0=0
 ·have ha:=fI c v s 0 (Y5 hv u).1;rw[show H8 c v s=Ef v 0 s (FK c s)from if_pos u];rw[u]at E ⊢;simp (disch:=first|omega|decide) only[push_cast,↓reduceIte,CG,CH,D9,En,EH,Fw hv,F7,H3,E2,FA,H4,E,ha,FN];rfl
 ·rw[show H8 c v s=EY from if_neg u];simp (disch:=first|omega|decide) only[push_cast,↓reduceIte,CG,CH,D9,En,EH,E2,FA,E,u,On,IN,IT];rfl
theorem zA:Contract Tryz.prog GG 115 YF:=
 DH xC (Dy (all_cons eH (all_cons lA all_nil)) all_nil) (fun a h=>Ymr a.1 a.2.1 a.2.2 h)
def Ec(o:Opn):Sta:=⟨o.pc,o.fuel,o.status,o.clause,o.top⟩
def H5:Opn:=⟨0,0,0,0,[],0,DF⟩
def Kp(c:List Ins)(o:Opn):Prop:=0<o.fuel∧0<o.depth∧(o.top.length:Int)<EZ (FK c (Ec o)).op
instance (c:List Ins) (o:Opn):Decidable (Kp c o):=by unfold Kp; infer_instance
def HH(s:Sta)(o:Opn):Opn:=⟨s.pc,s.fuel,s.status,s.clause,s.stack,o.depth,o.rest⟩
def F1(c:List Ins)(o:Opn):Int:=if Fz c (Ec o) o.depth=0 then(if Kp c o then 390 else 0)else Fz c (Ec o) o.depth
def GF(c:List Ins)(v:Int×List Int)(o:Opn):Opn:=if F1 c o=0 then HH (Ef v o.depth (Ec o) (FK c (Ec o))) o else H5
theorem KS(cs:List D):Fi cs []=some cs:=(rfl)
theorem Kw(o:Opn):Fi [.int .i64 0,.int .i64 0,.int .i64 0,.int .i64 0,.slc 0 [] true] [(0,1,.int .i64 o.pc),(1,1,.int .i64 o.fuel),(2,1,.int .i64 o.status),(3,1,.int .i64 o.clause),(4,1,Ed o.top)]=some (DB (Ec o)):=(rfl)
theorem Kv(s:Sta):D.agg (DB s)=Dk s:=(rfl)
theorem Jo(x:Ins)(st:St):EK st 0 (.eptr (C5 x) 0)=some (.eptr (C5 x) 0):=(rfl)
theorem Jq(st:St)(x:Ins):EU st 1 false (.eptr (C5 x) 0)=some (.int .i64 x.op):=(rfl)
theorem NB(s:Sta)(o:Opn):Fi (Er 0 0 0 0 (.slc 0 [] true) 0 DF) [(0,1,.int .i64 s.pc),(1,1,.int .i64 s.fuel),(2,1,.int .i64 s.status),(3,1,.int .i64 s.clause),(4,1,Ed s.stack),(5,1,.int .i64 o.depth),(6,32,C7 o.rest)]=some (Fm (HH s o)):=YT ..
theorem Nn(a b c d:Int)(t:D)(k:Int)(r:Dig)(o:Opn):Eh (some ⟨false,1,Er a b c d t k r,false⟩) 38 0 (.agg (Fm o))=some ⟨false,1,Fm o,false⟩:=Ku ..
theorem Nf(lent:Bool)(o:Opn):DY (some ⟨false,1,Fm o,lent⟩) 38 true 0=some (Dv o):=Jf ..
noncomputable def Zh:List D→Option D:=Dd (α:=List Ins×(Int×List Int)×Opn) (fun a=>[.slc (nz 3 (a.1.map C5)) (a.1.map C5) false,DQ a.2.1,Dv a.2.2]) (fun a=>a.1.length≤4294967296∧D5 a.2.1) (fun a=>.tup [Dv (GF a.1 a.2.1 a.2.2),.int .i64 (F1 a.1 a.2.2)])
theorem u4(c:List Ins)(v:Int×List Int)(o:Opn)(h:c.length≤4294967296∧D5 v):Zh [.slc (nz 3 (c.map C5)) (c.map C5) false,DQ v,Dv o]=some (.tup [Dv (GF c v o),.int .i64 (F1 c o)]):=
 DG (fun⟨a0,a1,u⟩ ⟨b0,b1,E⟩ h=>by simp only[Aa,D.slc.injEq,and_true,GA,KB,Gz]at h; simp[h]) (c,v,o) h
theorem Ygp(c:List Ins)(v:Int×List Int)(o:Opn)(h:c.length≤4294967296∧D5 v):@wW GG (tb [(108,RX),(109,RU),(110,UQ)] []) Tm.code (Db [.slc (nz 3 (c.map C5)) (c.map C5) false,DQ v,Dv o]) [] ⟨De Tm.res (.tup [Dv (GF c v o),.int .i64 (F1 c o)])⟩:=by
 obtain⟨hc,hv⟩:=h;have I:=kB c (Ec o) o.depth hc;unfold Tm;have l0:=UG false o.pc o.fuel o.status o.clause (Ed o.top) o.depth o.rest;have l1:=UH false o.pc o.fuel o.status o.clause (Ed o.top) o.depth o.rest;have J:=PJ false o.pc o.fuel o.status o.clause (Ed o.top) o.depth o.rest;have M:=UI false o.pc o.fuel o.status o.clause (Ed o.top) o.depth o.rest;have N:=PK false o.pc o.fuel o.status o.clause (Ed o.top) o.depth o.rest;have O:=Ks false o.pc o.fuel o.status o.clause (Ed o.top) o.depth o.rest;have Y:=UJ false o.pc o.fuel o.status o.clause (Ed o.top) o.depth o.rest;rw[← Hb]at l0 l1 J M N O Y
 by_cases E:Fz c (Ec o) o.depth=0
 ·obtain⟨ha,hs,af,ah⟩:=Y5 hv E;have ac:o.pc.toNat<c.length:=by have:=ha.p0; have:=ha.p1; simp only[Ec]at *; omega
  have V:=fun st=>J5 st c false o.pc.toNat ac;rw[show((o.pc.toNat:Nat):Int)=o.pc by have:=ha.p0; simp only[Ec]at *; omega]at V;have V:∀ st:St,Fy st 3 (.slc (nz 3 (c.map C5)) (c.map C5) false) (.int .i64 o.pc)=some (.eptr (C5 (FK c (Ec o))) 0):=V;have hn:=kz (FK c (Ec o)).op;rw[E]at I
  by_cases h2:Kp c o
  ·have e:F1 c o=390:=by unfold F1; rw[if_pos E,if_pos h2]
   rw[show GF c v o=H5 from if_neg (by rw[e]; decide),e];obtain⟨U,X,q3⟩:=h2;simp (disch:=first|omega|decide) only[push_cast,↓reduceIte,CG,CH,D9,Gd,Ih,Ig,EH,l0,l1,J,M,N,O,Kw,Kv,FN,E2,FA,I,U,X,GO,V,Jo,Jq,hn,q3,KS,Ku,Jf,KL];rfl
  ·have e:F1 c o=0:=by unfold F1; rw[if_pos E,if_neg h2]
   rw[show GF c v o=HH (Ef v o.depth (Ec o) (FK c (Ec o))) o from if_pos e,e];have u:=fI c v (Ec o) o.depth ha;rw[show c.getD (Ec o).pc.toNat default=FK c (Ec o)from rfl]at u;generalize Ef v o.depth (Ec o) (FK c (Ec o))=s at*
   by_cases U:0<o.fuel
   ·by_cases X:0<o.depth
    ·have q3:¬ (o.top.length:Int)<EZ (FK c (Ec o)).op:=fun q=>h2 ⟨U,X,q⟩;simp (disch:=first|omega|decide) only[push_cast,↓reduceIte,CG,CH,D9,Gd,Ih,Ig,EH,l0,l1,J,M,N,O,Y,Kw,Kv,FN,E2,FA,H4,I,U,X,GO,V,Jo,Jq,hn,q3,Fw hv,F7,H3,u,UT,F2,F9,GI,HC,FM,NB,Nn,Nf,Hv]
    ·simp (disch:=first|omega|decide) only[push_cast,↓reduceIte,CG,CH,D9,Gd,Ih,Ig,EH,l0,l1,J,M,N,O,Y,Kw,Kv,FN,E2,FA,H4,I,U,X,Fw hv,F7,H3,u,UT,F2,F9,GI,HC,FM,NB,Nn,Nf,Hv]
   ·simp (disch:=first|omega|decide) only[push_cast,↓reduceIte,CG,CH,D9,Gd,Ih,Ig,EH,l0,l1,J,M,N,O,Y,Kw,Kv,FN,E2,FA,H4,I,U,Fw hv,F7,H3,u,UT,F2,F9,GI,HC,FM,NB,Nn,Nf,Hv]
 ·have e:F1 c o=Fz c (Ec o) o.depth:=if_neg E;rw[show GF c v o=H5 from if_neg (by rw[e]; exact E),e];simp (disch:=first|omega|decide) only[push_cast,↓reduceIte,CG,CH,D9,Gd,Ih,Ig,EH,l0,l1,J,M,N,O,Kw,Kv,FN,E2,FA,I,E,KS,Ku,Jf,KL];rfl
theorem Ylg:Contract Tryz.prog GG 55 Zh:=
 DH ni (Dy (all_cons eH (all_cons ew (all_cons lA all_nil))) all_nil) (fun a h=>Ygp a.1 a.2.1 a.2.2 h)
def D7(s:Sta):Int×Int×Int:=if s.status=1∧0<s.stack.length then(Dc s 0,s.clause,0)else if 10<s.status then(0,0,s.status - 10)else(0,0,1)
noncomputable def Wj:List D→Option D:=Dd (α:=Sta) (fun a=>[Dk a]) (fun a=>a.stack.length≤4294967296∧a.status≤1000000) (fun a=>.tup [.int .i64 (D7 a).1,.int .i64 (D7 a).2.1,.int .i64 (D7 a).2.2])
theorem bj(s:Sta)(h:s.stack.length≤4294967296∧s.status≤1000000):Wj [Dk s]=some (.tup [.int .i64 (D7 s).1,.int .i64 (D7 s).2.1,.int .i64 (D7 s).2.2]):=
 DG (fun a b h=>by simp only[Aa,and_true,JP]at h; simp[h]) (s) h
theorem pG(s:Sta)(h:s.stack.length≤4294967296∧s.status≤1000000):@wW GG (tb [] []) S2.code (Db [Dk s]) [] ⟨De S2.res (.tup [.int .i64 (D7 s).1,.int .i64 (D7 s).2.1,.int .i64 (D7 s).2.2])⟩:=by
 obtain⟨hl,J⟩:=h;unfold S2
 by_cases E:s.status=1
 ·by_cases u:0<s.stack.length
  ·rw[show D7 s=(Dc s 0,s.clause,0)from if_pos ⟨E,u⟩]
   have I:Fy [⟨false,1,DB s,false⟩] 1 (Ed s.stack) (.int .i64 ((s.stack.length:Int) - 1))=some (.eptr (nI (Dc s 0)) 0):=by
    have:=Nm [⟨false,1,DB s,false⟩] s.stack false (s.stack.length - 1) (by omega);rw[show((s.stack.length - 1:Nat):Int)=(s.stack.length:Int) - 1 by omega]at this;exact this
   simp (disch:=first|omega|decide) only[push_cast,↓reduceIte,CG,En,GI,HC,FM,E,GO,show((0:Int)<(s.stack.length:Int)) by omega,Ez,I,IG]
  ·rw[show D7 s=(0,0,1) by unfold D7; rw[if_neg (by omega),if_neg (by omega)]];simp (disch:=first|omega|decide) only[push_cast,↓reduceIte,CG,CO,En,GI,FM,E,GO,show ¬ ((0:Int)<(s.stack.length:Int)) by omega]
 ·by_cases u:10<s.status
  ·rw[show D7 s=(0,0,s.status - 10) by unfold D7; rw[if_neg (by omega),if_pos u]];simp (disch:=first|omega|decide) only[push_cast,↓reduceIte,CG,En,GI,E,u,Ez]
  ·rw[show D7 s=(0,0,1) by unfold D7; rw[if_neg (by omega),if_neg u]];simp (disch:=first|omega|decide) only[push_cast,↓reduceIte,CG,En,GI,E,u]
theorem Yec:Contract Tryz.prog GG 61 Wj:=
 DH yA (Dy all_nil all_nil) (fun a h=>pG a h)
def ET(c:List Ins):D:=.slc (nz 3 (c.map C5)) (c.map C5) false
theorem Om{a b:List Ins}:ET a=ET b↔a=b:=by
 refine⟨fun h=>?_,fun h=>by rw[h]⟩;simp only[ET,D.slc.injEq,and_true]at h;exact(List.map_inj_right (fun x y h=>K0.1 h)).1 h.2
def RunOK(c:List Ins)(v:Int×List Int):List Sta→Prop
 |[]=>False
 |[s]=>s.status≠0
 |s::s'::l=>s.status=0∧Fz c s 0=0∧s'=H8 c v s∧RunOK c v (s'::l)
theorem RunOK.det:∀ {s:Sta} {l E:List Sta},RunOK c v (s::l)→RunOK c v (s::E)→l=E
 |s,[],[],_,_=>rfl
 |s,[],_::_,h,u=>absurd u.1 h
 |s,_::_,[],h,u=>absurd h.1 u
 |s,a::l,b::E,h,u=>by
  obtain⟨_,_,rfl,I⟩:=h;obtain⟨_,_,rfl,J⟩:=u;rw[RunOK.det I J]
def Gn(s:Sta):PI.Obj:=⟨false,1,DB s,false⟩
inductive RunY (y:List D→St→Option (D×St)) (k kc kv:Nat):List Sta→Nat→St→St→Prop
 |stop {s:Sta} {l:List Sta} {i:Nat} {st st1:St} (h:y [.int .i64 (i:Int),Dk s] st=some (.bool false,st1)):RunY y k kc kv (s::l) i st st1
 |last {s:Sta} {i:Nat} {st st1:St} (h:y [.int .i64 (i:Int),Dk s] st=some (.bool true,st1)) (hk:st1[k]?=some (Gn s)):RunY y k kc kv [s] i st st1
 |next {s s':Sta} {l:List Sta} {i:Nat} {st st1 st2:St} (h:y [.int .i64 (i:Int),Dk s] st=some (.bool true,st1)) (hk:st1[k]?=some (Gn s)) (hc:st1[kc]?=st[kc]?) (hv:st1[kv]?=st[kv]?)
   (hl:RunY y k kc kv (s'::l) (i+1) (st1.set k (Gn s')) st2):RunY y k kc kv (s::s'::l) i st st2
variable {y:List D→St→Option (D×St)}
theorem RunY.det{I J:Nat}{l:List Sta}{a b:St}(h:RunY y k I J l i st a):RunY y k I J l i st b→a=b:=by
 induction h with
 |stop h=>
  intro E
  cases E with
  |stop u=>rw[h]at u; simp at u; exact u
  |last u=>rw[h]at u; simp at u
  |next u=>rw[h]at u; simp at u
 |last h hk=>
  intro E
  cases E with
  |stop u=>rw[h]at u; simp at u
  |last u=>rw[h]at u; simp at u; exact u
 |next h hk X hv hl N=>
  intro E
  cases E with
  |stop u=>rw[h]at u; simp at u
  |next u O U V M=>
   rw[h]at u;simp only[C9,Dr,true_and]at u;subst u;exact N M
def StatesR(y:List D→St→Option (D×St))(ds:List D)(st:St)(r:D×St):Prop:=
 ∃ (kc kv:Nat) (c:List Ins) (v:Int×List Int) (l:List Sta) (lc lv:Bool),ds=[.ptr kc 0,.ptr kv 0]∧st[kc]?=some ⟨false,1,[ET c],lc⟩∧st[kv]?=some ⟨false,1,DS v,lv⟩∧c.length≤4096∧D5 v∧l.length≤100000∧
  RunOK c v (E8 (c.length+1)::l)∧r.1=.tup []∧RunY y st.length kc kv (E8 (c.length+1)::l) 0 (st++[Gn (E8 (c.length+1))]) r.2
variable {r:D×St}
theorem StatesR.det{s:D×St}(h:StatesR y ds st r)(N:StatesR y ds st s):r=s:=by
 obtain⟨kc,kv,c,v,l,lc,lv,rfl,O,U,_,_,_,V,X,Y⟩:=h;obtain⟨ab,ac,c',v',l',ad,ae,I,u,E,_,_,_,h9,J,M⟩:=N;simp only[Aa,D.ptr.injEq,and_true]at I;obtain⟨rfl,rfl⟩:=I;rw[O]at u;simp only[C9,Obj.mk.injEq,Aa,and_true,true_and,Om]at u;rw[U]at E;simp only[C9,Obj.mk.injEq,true_and]at E;obtain⟨rfl,rfl⟩:=u;obtain rfl:v=v':=Gz.1 (congrArg D.agg E.1);obtain rfl:=V.det h9;exact Prod.ext (X.trans J.symm) (Y.det M)
noncomputable def Mj(y:List D→St→Option (D×St))(ds:List D)(st:St):Option (D×St):=@dite _ (∃ r,StatesR y ds st r) (Classical.propDecidable _) (fun h=>some h.choose) (fun _=>none)
theorem Yn6(h:Mj y ds st=some r):StatesR y ds st r:=by
 unfold Mj at h
 split at h
 ·rename_i u;simp only[C9]at h;rw[← h];exact u.choose_spec
 ·cases h
theorem YA(h:StatesR y ds st r):Mj y ds st=some r:=by
 have u:∃ r,StatesR y ds st r:=⟨r,h⟩;unfold Mj;rw[dif_pos u,u.choose_spec.det h]
theorem yc{f:Nat}{F:PF}(u:TblOK P G T)(E:Ds P il f hints=some F){sp:(List D→St→Option (D×St))→List D→St→Option (D×St)}
  (h:∀ (l:Nat) y ds st r,sp y ds st=some r→@wW G (L7 T l y) F.code (Db (.clo (10000000+l) []::ds)) st ⟨@Gh F.res ⟨fun d st'=>(d,st')=r⟩⟩):O5 P G f sp:=by
 refine Ydd u E fun l y ds st r I=>?_;obtain⟨fuel,d,st',J,M⟩:=Si (G2 (h l y ds st r I));exact⟨fuel,by rw[J fuel (Az _)]; exact congrArg some M⟩
variable {o:PI.Obj}
theorem aS{k':Nat}(h:k'≠k):(st.set k o)[k']?=st[k']?:=Ay (by omega)
theorem Ykj{o':PI.Obj}(h:st[k]?=some o):(st.set k o')[k]?=some o':=Bn (Ab.1 h).1
set_option maxHeartbeats 8000000 in
set_option maxRecDepth 20000 in
theorem mT:O5 Tryz.prog GG 114 Mj:=by
 refine yc (T:=tb [(48,R0),(115,YF)] []) (Dy (all_cons eK (all_cons zA all_nil)) all_nil) nG ?_;intro lb y ds st r hr;obtain⟨u,I,c,v,l,lc,lv,rfl,h1,h2,hc,hv,bd,h3,Y,h5⟩:=Yn6 hr;obtain⟨rd,aa⟩:=r;dsimp only at Y h5;subst Y;have ah:u<st.length:=(Ab.1 h1).1;have a0:I<st.length:=(Ab.1 h2).1;have cs:=kE ((c.length:Int)+1);have e0:Lt ((c.length:Int)+1)=0:=if_neg (by omega);rw[e0]at cs;have a1:st[u]?=some ⟨false,1,[.slc (nz 3 (c.map C5)) (c.map C5) false],lc⟩:=h1;unfold cM;simp (disch:=first|omega|decide) only[push_cast,↓reduceIte,CG,a1,DL,cs,EH,EG,Nw,FN]
 refine Ye4 (fun i:Nat×List Sta×St=>[(0,.clo (10000000+lb) []),(1,.ptr u 0),(2,.ptr I 0),(4,.ptr st.length 0),(5,.int .i64 0),(6,.int .i64 (i.1:Int))]) (fun i=>i.2.2)
  (fun i=>RunOK c v i.2.1∧RunY y st.length u I i.2.1 i.1 i.2.2 aa∧i.2.2[u]?=some ⟨false,1,[ET c],lc⟩∧i.2.2[I]?=some ⟨false,1,DS v,lv⟩∧i.2.2[st.length]?=(i.2.1.head?).map Gn∧i.1+i.2.1.length≤100001) (fun i=>i.2.1.length)
  (0,E8 (c.length+1)::l,st++[Gn (E8 (c.length+1))]) (by simp only[push_cast,↓reduceIte,CG] <;> rfl) ⟨h3,h5,by rw[GN ah]; exact h1,by rw[GN a0]; exact h2,EG _ _,by simp; omega⟩ ?_
 rintro⟨i,ls,s0⟩ ⟨E,U,q3,q4,V,X⟩;dsimp only at E U q3 q4 V X;unfold dj
 match ls,E,U,V,X with
 |[],E,_,_,_=>exact E.elim
 |s::l,E,U,V,X=>
 have J:s0[st.length]?=some ⟨false,1,DB s,false⟩:=V;have be:s0[u]?=some ⟨false,1,[.slc (nz 3 (c.map C5)) (c.map C5) false],lc⟩:=q3
 cases U with
 |stop h=>
  simp (disch:=first|omega|decide) only[push_cast,↓reduceIte,CG,J,E2,h]
 |last h hk=>
  rename_i s1;have hk:aa[st.length]?=some ⟨false,1,DB s,false⟩:=hk;have M:¬ s.status=0:=E;simp (disch:=first|omega|decide) only[push_cast,↓reduceIte,CG,J,E2,h,hk,GI,M]
 |next h hk a3 a4 hl=>
  rename_i s' l' s1;have a5:s1[st.length]?=some ⟨false,1,DB s,false⟩:=hk;obtain⟨M,a6,rfl,a7⟩:=E;have ab:=rS c v s ⟨by omega,hv⟩;rw[a6]at ab;have N:s1[u]?=some ⟨false,1,[.slc (nz 3 (c.map C5)) (c.map C5) false],lc⟩:=a3.trans q3;have O:s1[I]?=some ⟨false,1,DS v,lv⟩:=a4.trans q4;simp (disch:=first|omega|decide) only[push_cast,↓reduceIte,CG,J,E2,h,a5,GI,M,N,O,Fw hv,F7,H3,FA,H4,ab,UT,DL]
  refine El (i+1,H8 c v s::l',s1.set st.length (Gn (H8 c v s))) (by
   refine⟨a7,hl,?_,?_,?_,?_⟩
   ·dsimp only; rw[aS (by omega)]; exact N
   ·dsimp only; rw[aS (by omega)]; exact O
   ·dsimp only; rw[Ykj hk]; rfl
   ·simp only[Al]at X ⊢; omega) (by simp) ?_
  simp only[push_cast] <;> rfl
noncomputable def Nk:List D→St→Option (D×St):=GX (α:=(List Ins×(Int×List Int))×St) (fun a=>([ET a.1.1,DQ a.1.2],a.2)) (fun a=>D5 a.1.2) (fun a=>(.clo 114 [.ptr a.2.length 0,.ptr (a.2.length+1) 0],a.2++[⟨false,1,[ET a.1.1],false⟩]++[⟨false,1,DS a.1.2,false⟩]))
theorem fK(c:List Ins)(v:Int×List Int)(st:St)(hv:D5 v):Nk [ET c,DQ v] st=some (.clo 114 [.ptr st.length 0,.ptr (st.length+1) 0],st++[⟨false,1,[ET c],false⟩]++[⟨false,1,DS v,false⟩]):=
 OJ (fun a b e=>by
  obtain⟨⟨a1,u⟩,E⟩:=a;obtain⟨⟨b1,I⟩,J⟩:=b;simp only[Dr,Aa,and_true,Om,Gz]at e;obtain⟨⟨rfl,rfl⟩,rfl⟩:=e;rfl) (((c,v),st):(List Ins×(Int×List Int))×St) hv rfl
theorem mR:IContract Tryz.prog GG 60 Nk:=by
 refine cC (T:=tb [] []) nm (Dy all_nil all_nil) ?_;rintro⟨⟨c,v⟩,st⟩ hv;unfold cw;simp (disch:=first|omega|decide) only[push_cast,↓reduceIte,CG,ET,D9];rw[Jp]
def LU(c:List Ins)(out:Int)(i:Nat)(D:Nat→Int):Prop:=
 ∀ j,i≤j→j<c.length→0≤D j→¬ HZ (c.getD j default) (D j)∧D j≤out∧EA (c.getD j default) (D j)≤out∧
  ∀ n∈HT (c.getD j default) j,(j:Int)<n∧n<c.length∧D n.toNat=EA (c.getD j default) (D j)
variable {dep:List Int}
theorem Yst{x:Int}(h:j≠k):DP (dep.set k x) j=DP dep j:=by
 grind
theorem Ylx{x:Int}(h:k<dep.length):DP (dep.set k x) k=x:=by
 grind
theorem gJ{len i after:Int}(E:0≤after)(hi:0≤i):∀ {l:List Int} {dep u:List Int},(dep.length:Int)=len→G5 len i after l dep=some u→
  u.length=dep.length∧(∀ j:Nat,0≤DP dep j∨(j:Int)≤i→DP u j=DP dep j)∧∀ n∈l,i<n∧n<len∧DP u n.toNat=after
 |[],dep,u,hl,h=>by
  simp only[G5,C9]at h;grind
 |n::l,dep,u,hl,h=>by
  simp only[G5]at h
  split at h
  ·cases h
  rename_i hb;unfold HD at hb;have I:i<n∧n<len:=⟨by omega,by omega⟩;have J:n.toNat<dep.length:=by omega
  obtain⟨M,N,O⟩:=gJ E hi (dep:=dep.set n.toNat after) (by rw[BP]; exact hl) h;grind
theorem uy(op:Int):0≤(DM op).2:=by
 unfold DM
 repeat' split
 all_goals simp
theorem YD(c:List Ins):∀ (r:List Ins) (i:Nat) (dep:List Int) (s out:Int),r=c.drop i→i≤c.length→dep.length=c.length→0≤s→ER c.length r i dep s=some out→
  s≤out∧∃ D:Nat→Int,(∀ j:Nat,0≤DP dep j∨j<i→D j=DP dep j)∧LU c out i D
 |[],i,dep,s,out,u,hi,hl,hs,h=>by
  simp only[ER,C9]at h;subst h;have:c.length≤i:=List.drop_eq_nil_iff.1 u.symm;exact⟨Int.le_refl _,DP dep,fun _ _=>rfl,fun j M J=>absurd J (by omega)⟩
 |x::r,i,dep,s,out,u,hi,hl,hs,h=>by
  have E:i<c.length:=by
   grind
  rw[Bs E]at u;obtain⟨hx,u⟩:=List.cons.inj u;have hg:c.getD i default=x:=by rw[hx,Aj,Af E]; rfl
  simp only[ER]at h
  split at h
  ·rename_i N;obtain⟨M,D,J,O⟩:=YD c r (i+1) dep s out u E hl hs h;refine⟨M,D,fun j U=>J j (by omega),fun j U I V=>?_⟩
   by_cases e:j=i
   ·grind
   ·exact O j (by omega) I V
  ·rename_i N
   split at h
   ·cases h
   rename_i X
   split at h
   ·cases h
   rename_i Y hn;have ad:(DM x.op).1≤DP dep i:=by unfold HZ at X; omega
   have ha:0≤EA x (DP dep i):=by have:=uy x.op; unfold EA; omega
   obtain⟨n1,n2,n3⟩:=gJ ha (by omega) (by rw[hl]) hn;obtain⟨M,D,J,O⟩:=YD c r (i+1) Y _ out u E (by rw[n1,hl]) (by omega) h;refine⟨by omega,D,fun j U=>?_,fun j U I V=>?_⟩
   ·grind
   ·by_cases e:j=i
    ·grind
    ·exact O j (by omega) I V
theorem wc(h:(Ei c).2=0):∃ D:Nat→Int,D 0=0∧LU c 64 0 D:=by
 obtain⟨M,N,O,s,E,U⟩:=K4 h;obtain⟨_,D,I,J⟩:=YD c c 0 (E5 c.length) 0 s rfl (by omega) (by simp[E5]) (by decide) E;have u:DP (E5 c.length) 0=0:=Ylx (by simp; omega);refine⟨D,by rw[I 0 (.inl (by rw[u]; decide)),u],fun j a b d=>?_⟩;obtain⟨V,X,Y,q4⟩:=J j a b d;grind
structure Good (c:List Ins) (D:Nat→Int) (s:Sta):Prop where
 st:s.status=0
 cl:s.clause=0
 p0:0≤s.pc
 p1:s.pc<c.length
 d:D s.pc.toNat=s.stack.length
 u0:0≤s.fuel
 u1:s.fuel≤32768
structure Last (s:Sta):Prop where
 st:s.status≠0
 s0:0≤s.status
 s1:s.status≤100000
 l:s.stack.length≤64
theorem Good.len{D:Nat→Int}(u:LU c 64 0 D)(h:Good c D s):s.stack.length≤64:=by
 have E:=h.d;have I:=h.p0;have J:=h.p1;have:=(u s.pc.toNat (by omega) (by omega) (by omega)).2.1;omega
theorem Good.ready{D:Nat→Int}(hv:(Ei c).2=0)(u:LU c 64 0 D)(h:Good c D s):Fz c s 0=0:=by
 unfold Fz;have hl:=h.len u;have E:=h.st;have I:=h.p0;have J:=h.p1;have M:=h.u0;have N:=h.u1;have O:=h.cl;rw[if_neg (by omega),if_neg (by omega),if_neg (by unfold Eb; omega)]
theorem iM(h:c.all EB=true)(u:j<c.length):EB (c.getD j default)=true:=by
 grind
theorem aR(h:EB x=true):1≤x.op∧x.op≤16:=⟨(of_decide_eq_true h).1,(of_decide_eq_true h).2.1⟩
theorem Yby{op:Int}(h:1≤op∧op≤16):EZ op=(DM op).1:=by
 have:op=1∨op=2∨op=3∨op=4∨op=5∨op=6∨op=7∨op=8∨op=9∨op=10∨op=11∨op=12∨op=13∨op=14∨op=15∨op=16:=by omega
 rcases this with rfl | rfl | rfl | rfl | rfl | rfl | rfl | rfl | rfl | rfl | rfl | rfl | rfl | rfl | rfl | rfl <;> rfl
theorem Good.step{D:Nat→Int}(hf:c.all EB=true)(U:LU c 64 0 D)(h:Good c D s) :
  Last (Ef v 0 s (FK c s))∨(Good c D (Ef v 0 s (FK c s))∧s.pc<(Ef v 0 s (FK c s)).pc∧(Ef v 0 s (FK c s)).fuel=s.fuel - 1):=by
 have hl:=h.len U;obtain⟨V,X,h3,h4,h5,h6,h7⟩:=h;have Y:s.pc.toNat<c.length:=by omega
 have aa:EB (FK c s)=true:=iM hf Y;have ab:=aR aa;obtain⟨N,q2,q3,q4⟩:=U s.pc.toNat (by omega) Y (by omega);rw[show c.getD s.pc.toNat default=FK c s from rfl]at N q3 q4;generalize FK c s=x at*;rw[h5]at N q3 q4;have a2:=Yby ab;unfold Ef
 by_cases hu:s.fuel=0
 ·rw[if_pos hu];exact .inl ⟨by simp,by simp,by simp,hl⟩
 rw[if_neg hu]
 have ae:¬ ((Dg s).stack.length:Int)<EZ x.op:=by
  unfold HZ at N
  show ¬ ((s.stack.length:Int)<EZ x.op)
  omega
 have hex:EO v 0 (Dg s) x=Dl v 0 (Dg s) x:=if_neg ae
 have nx:∀ (n:Int),n∈HT x s.pc.toNat→s.pc<n∧n<c.length∧D n.toNat=EA x s.stack.length:=fun n hn=>by
  grind
 have E:x.op≠14→x.op≠15→x.op≠16→s.pc<s.pc+1∧s.pc+1<c.length∧D (s.pc+1).toNat=EA x s.stack.length:=fun a b d=>by
  refine nx (s.pc+1) ?_;unfold HT;grind
 have ah:x.op=13∨x.op=14→s.pc<x.n∧x.n<c.length∧D x.n.toNat=EA x s.stack.length:=fun a=>by
  refine nx x.n ?_;unfold HT;grind
 -- a5 each outcome comes to
 have a6:∀ e,EO v 0 (Dg s) x=.err e→Last (EE (Dg s) (EO v 0 (Dg s) x)):=fun e he=>by
  have:=XJ he;rw[he];exact⟨by simp only[EE]; omega,by simp only[EE]; omega,by simp only[EE]; omega,hl⟩
 have u:∀ k push pc,EO v 0 (Dg s) x=.pop k push pc→k≤s.stack.length→((s.stack.length - k+push.toList.length:Nat):Int)=EA x s.stack.length→(s.pc<pc.getD (s.pc+1)∧pc.getD (s.pc+1)<c.length∧D (pc.getD (s.pc+1)).toNat=EA x s.stack.length)→
   Good c D (EE (Dg s) (EO v 0 (Dg s) x))∧s.pc<(EE (Dg s) (EO v 0 (Dg s) x)).pc∧(EE (Dg s) (EO v 0 (Dg s) x)).fuel=s.fuel - 1:=fun k push pc he hk bc O=>by
  rw[he];refine⟨⟨V,X,?_,O.2.1,?_,?_,?_⟩,O.1,rfl⟩
  ·show 0≤pc.getD (s.pc+1); omega
  ·show D (pc.getD (s.pc+1)).toNat=((s.stack.take (s.stack.length - k)++push.toList).length:Int)
   grind
  ·show 0≤s.fuel - 1; omega
  ·show s.fuel - 1≤32768; omega
 have hd:(DM x.op).1≤s.stack.length:=by unfold HZ at N; omega
 by_cases o1:x.op=1
 ·have he:EO v 0 (Dg s) x=.pop 0 (some x.n) none:=by
   rw[hex]; unfold Dl;rw[if_pos o1,if_neg];have:EA x s.stack.length=s.stack.length+1:=by unfold EA; rw[o1]; simp[DM]
   show ¬ (64:Int)≤0+s.stack.length
   omega
  refine .inr (u _ _ _ he (by omega) ?_ (E (by omega) (by omega) (by omega)));unfold EA; rw[o1]; simp[DM]
 by_cases o2:x.op=2
 ·have a8:¬ (64:Int)≤0+(Dg s).stack.length:=by
   have:EA x s.stack.length=s.stack.length+1:=by unfold EA; rw[o2]; simp[DM]
   show ¬ (64:Int)≤0+s.stack.length
   omega
  by_cases b1:Hr v.1 (HQ x.n)=0
  ·have he:EO v 0 (Dg s) x=.err 181:=by
    rw[hex]; unfold Dl;grind
   grind
  by_cases b2:DP v.2 x.n.toNat < -9007199254740992∨9007199254740992<DP v.2 x.n.toNat
  ·have he:EO v 0 (Dg s) x=.err 3:=by
    rw[hex]; unfold Dl;grind
   grind
  have he:EO v 0 (Dg s) x=.pop 0 (some (DP v.2 x.n.toNat)) none:=by
   rw[hex]; unfold Dl;grind
  refine .inr (u _ _ _ he (by omega) ?_ (E (by omega) (by omega) (by omega)));unfold EA; rw[o2]; simp[DM]
 by_cases I:x.op=12
 ·have he:EO v 0 (Dg s) x=.pop 1 (some (if x.n≤Dc (Dg s) 0∧Dc (Dg s) 0≤x.m then 1 else 0)) none:=by
   rw[hex]; unfold Dl;grind
  have:(DM x.op).1=1:=by rw[I]; rfl
  refine .inr (u _ _ _ he (by omega) ?_ (E (by omega) (by omega) (by omega)));unfold EA; rw[I]; simp[DM]; omega
 by_cases J:x.op=13
 ·have he:EO v 0 (Dg s) x=.pop 1 none (if Dc (Dg s) 0=0 then some x.n else none):=by
   rw[hex]; unfold Dl;grind
  have:(DM x.op).1=1:=by rw[J]; rfl
  refine .inr (u _ _ _ he (by omega) ?_ ?_)
  ·unfold EA; rw[J]; simp[DM]; omega
  ·grind
 by_cases M:x.op=14
 ·have he:EO v 0 (Dg s) x=.set x.n s.status s.clause:=by
   rw[hex]; unfold Dl;rw[if_neg o1,if_neg o2,if_neg I,if_neg J,if_pos M]; rfl
  obtain⟨m1,m2,m3⟩:=ah (.inr M)
  right
  rw[he];refine⟨⟨V,X,?_,m2,?_,?_,?_⟩,m1,rfl⟩
  ·show 0≤x.n; omega
  ·show D x.n.toNat=(s.stack.length:Int)
   rw[m3]; unfold EA; rw[M]; simp[DM]
  ·show 0≤s.fuel - 1; omega
  ·show s.fuel - 1≤32768; omega
 by_cases a0:x.op=15
 ·have he:EO v 0 (Dg s) x=.set s.pc 1 x.n:=by
   rw[hex]; unfold Dl;rw[if_neg o1,if_neg o2,if_neg I,if_neg J,if_neg M,if_pos a0]; rfl
  left
  rw[he];exact⟨by simp[EE],by simp[EE],by simp[EE],hl⟩
 by_cases bd:x.op=16
 ·have he:EO v 0 (Dg s) x=.err 180:=by
   rw[hex]; unfold Dl;grind
  grind
 by_cases b1:(DK x.op (Dc (Dg s) 1) (Dc (Dg s) 0)).2=0
 ·have he:EO v 0 (Dg s) x=.pop 2 (some (DK x.op (Dc (Dg s) 1) (Dc (Dg s) 0)).1) none:=by
   rw[hex]; unfold Dl;grind
  have e2:DM x.op=(2,1):=by
   unfold DM;grind
  rw[e2]at hd;refine .inr (u _ _ _ he (by omega) ?_ (E (by omega) (by omega) (by omega)));unfold EA; rw[e2]; simp; omega
 ·have he:EO v 0 (Dg s) x=.err (DK x.op (Dc (Dg s) 1) (Dc (Dg s) 0)).2:=by
   rw[hex]; unfold Dl;grind
  grind
def IP(c:List Ins)(v:Int×List Int):Nat→Sta→List Sta
 |0,s=>[s]
 |f+1,s=>s::if s.status=0 then IP c v f (H8 c v s)else []
def KN(c:List Ins)(v:Int×List Int):List Sta:=IP c v c.length (E8 (c.length+1))
theorem fo{c:List Ins}{D:Nat→Int}{v:Int×List Int}(hv:(Ei c).2=0)(E:LU c 64 0 D):∀ (f:Nat) (s:Sta),Good c D s→(c.length:Int)≤f+s.pc→
  ∃ l,IP c v f s=s::l∧RunOK c v (s::l)∧l.length≤f∧(∀ x∈s::l,Good c D x∨Last x)
 |0,s,h,hf=>absurd h.p1 (by have:=h.p1; omega)
 |f+1,s,h,hf=>by
  have I:=h.ready hv E;have u:H8 c v s=Ef v 0 s (FK c s):=if_pos I;have J:=(K4 hv).2.2.1;refine⟨IP c v f (H8 c v s),by simp only[IP]; rw[if_pos h.st],?_⟩;rcases h.step (v:=v) J E with hl | ⟨M,N,_⟩
  ·rw[← u]at hl
   have e:IP c v f (H8 c v s)=[H8 c v s]:=by
    cases f with
    |zero=>rfl
    |succ f=>simp only[IP]; rw[if_neg hl.st]
   rw[e];refine⟨⟨h.st,I,rfl,hl.st⟩,by simp,fun x O=>?_⟩;grind
  ·rw[← u]at M N;obtain⟨l,U,V,X,Y⟩:=fo (v:=v) hv E f (H8 c v s) M (by omega);rw[U];refine⟨⟨h.st,I,rfl,V⟩,by simp; omega,fun x O=>?_⟩;grind
theorem ic(hv:(Ei c).2=0):∃ D l,LU c 64 0 D∧KN c v=E8 (c.length+1)::l∧RunOK c v (E8 (c.length+1)::l)∧l.length≤c.length∧(∀ x∈E8 (c.length+1)::l,Good c D x∨Last x):=by
 obtain⟨D,u,E⟩:=wc hv;obtain⟨X,V,_⟩:=K4 hv;have I:E8 ((c.length:Int)+1)={EY with fuel:=(c.length:Int)+1}:=if_neg (by omega)
 have J:Good c D (E8 ((c.length:Int)+1)):=by
  rw[I];exact⟨rfl,rfl,Int.le_refl _,by simp only[EY]; omega,u,by simp only[]; omega,by simp only[]; omega⟩
 obtain⟨l,M,N,O,U⟩:=fo (v:=v) hv E c.length _ J (by rw[I]; simp[EY]);exact⟨D,l,E,M,N,O,U⟩
structure Der where
 code:List Ins
 env:Int×List Int
 am:Int
 er:Int
 lv:List Dig
 deriving Inhabited
def Dq(cs:D)(v:Int×List Int)(a e:Int)(L:D):List D:=cs::(DS v++[.int .i64 a,.int .i64 e,L])
def HI(l:List Dig):D:=.slc (nz 32 (l.map C7)) (l.map C7) false
def E4(d:Der):D:=.agg (Dq (ET d.code) d.env d.am d.er (HI d.lv))
theorem Yiv{a b:List Dig}:HI a=HI b↔a=b:=by
 refine⟨fun h=>?_,fun h=>by rw[h]⟩;simp only[HI,D.slc.injEq,and_true]at h;exact Ydr.1 h.2
theorem Ydu{cs cs':D}{E e I:Int}{L J:D}(h:Dq cs v a e L=Dq cs' v' E I J):cs=cs'∧v=v'∧a=E∧e=I∧L=J:=by
 simp only[Dq,Aa]at h;obtain⟨M,u⟩:=List.append_inj' h.2 rfl;simp only[Aa,D.int.injEq,true_and,and_true]at u;exact⟨h.1,Gz.1 (congrArg D.agg M),u.1,u.2.1,u.2.2⟩
theorem Ydt{a b:Der}:E4 a=E4 b↔a=b:=by
 refine⟨fun h=>?_,fun h=>by rw[h]⟩;obtain⟨a1,N,O,U,V⟩:=a;obtain⟨b1,X,Y,b4,b5⟩:=b;simp only[E4,D.agg.injEq]at h;obtain⟨u,E,I,J,M⟩:=Ydu h;subst E; subst I; subst J;rw[Om.1 u,Yiv.1 M]
def DO:D:=.slc 0 [] true
def Hx:Int×List Int:=(0,CM 16 0)
theorem WN(hv:D5 v)(cs:D)(a e:Int)(L:D):(Dq cs v a e L).length=21:=by simp[Dq,Hf hv]
theorem jb(v:Int×List Int){cs L:D}(u:cs.isCell=true)(E:L.isCell=true)(a e:Int):(Dq cs v a e L).all D.isCell=true:=by
 have:(DS v).all D.isCell=true:=by rw[OD,OU]
 simp only[Dq,AU,BQ,u,E,this,CF,Wx,Ch]
theorem Xe:D0 (.agg [.slc 0 [] true,.int .i64 0,.int .i64 0,.int .i64 0,.int .i64 0,.int .i64 0,.int .i64 0,.int .i64 0,.int .i64 0,.int .i64 0,.int .i64 0,.int .i64 0,.int .i64 0,.int .i64 0,.int .i64 0,.int .i64 0,.int .i64 0,.int .i64 0,.int .i64 0,.int .i64 0,.slc 0 [] true])=some (Dq DO Hx 0 0 DO):=(rfl)
theorem Yks:Fi [.slc 0 [] true,.int .i64 0,.int .i64 0,.int .i64 0,.int .i64 0,.int .i64 0,.int .i64 0,.int .i64 0,.int .i64 0,.int .i64 0,.int .i64 0,.int .i64 0,.int .i64 0,.int .i64 0,.int .i64 0,.int .i64 0,.int .i64 0,.int .i64 0,.int .i64 0,.int .i64 0,.slc 0 [] true] []=some (Dq DO Hx 0 0 DO):=(rfl)
theorem Ykq(hv:D5 v)(sz:Nat)(els:List D)(t:Bool):Fi [.slc 0 [] true,.int .i64 0,.int .i64 0,.int .i64 0,.int .i64 0,.int .i64 0,.int .i64 0,.int .i64 0,.int .i64 0,.int .i64 0,.int .i64 0,.int .i64 0,.int .i64 0,.int .i64 0,.int .i64 0,.int .i64 0,.int .i64 0,.int .i64 0,.int .i64 0,.int .i64 0,.slc 0 [] true] [(0,1,.slc sz els t),(1,17,DQ v)]=some (Dq (.slc sz els t) v 0 0 DO):=by
 refine(II (cs:=Dq DO Hx 0 0 DO) (cs':=Dq (.slc sz els t) Hx 0 0 DO) (A:=[]) (B:=[DO]) (xs:=[.slc sz els t]) rfl rfl rfl rfl rfl rfl rfl).trans ?_;refine(II (cs:=Dq (.slc sz els t) Hx 0 0 DO) (cs':=Dq (.slc sz els t) v 0 0 DO) (A:=[.slc sz els t]) (B:=DS Hx) (xs:=DS v) rfl rfl rfl rfl rfl (Hf hv) ?_).trans ?_
 ·rw[OD,OU]
 ·rfl
theorem Xv(hv:D5 v)(J:D5 v')(cs cs':D)(M:cs'.isCell=true)(a e u E:Int)(L I:D)(N:I.isCell=true):Eh (some ⟨false,1,Dq cs v a e L,false⟩) 21 0 (.agg (Dq cs' v' u E I))=some ⟨false,1,Dq cs' v' u E I,false⟩:=
 Ly 1 _ _ 21 (WN hv ..) (WN J ..) (jb v' M N u E)
theorem Xz:D5 Hx:=(rfl)
section
variable {v:Int×List Int} (hv:D5 v) (lent:Bool) (cs L:D) (a e:Int)
include hv
theorem mn:DY (some ⟨false,1,Dq cs v a e L,lent⟩) 21 true 0=some (.agg (Dq cs v a e L)):=Lw 1 lent _ 21 (WN hv ..)
theorem Yi7:DY (some ⟨false,1,Dq cs v a e L,lent⟩) 17 true 1=some (DQ v):=Ns (A:=[cs]) (B:=DS v) (C:=[.int .i64 a,.int .i64 e,L]) rfl rfl (Hf hv)
theorem YU:DY (some ⟨false,1,Dq cs v a e L,lent⟩) 1 false 20=some L:=IM (A:=cs::(DS v++[.int .i64 a,.int .i64 e])) (C:=[]) (by simp[Dq]) (by simp[Hf hv])
theorem hU(u:Int):Eh (some ⟨false,1,Dq cs v a e L,false⟩) 1 18 (.int .i64 u)=some ⟨false,1,Dq cs v u e L,false⟩:=
 Lz (A:=cs::DS v) (B:=[.int .i64 a]) (C:=[.int .i64 e,L]) (xs:=[.int .i64 u]) (by simp[Dq]) (by simp[Dq]) (by simp[Hf hv]) rfl rfl rfl rfl
theorem hV(u:Int):Eh (some ⟨false,1,Dq cs v a e L,false⟩) 1 19 (.int .i64 u)=some ⟨false,1,Dq cs v a u L,false⟩:=
 Lz (A:=cs::(DS v++[.int .i64 a])) (B:=[.int .i64 e]) (C:=[L]) (xs:=[.int .i64 u]) (by simp[Dq]) (by simp[Dq]) (by simp[Hf hv]) rfl rfl rfl rfl
theorem pP(u:D)(E:u.cells=[u])(I:u.isCell=true):Eh (some ⟨false,1,Dq cs v a e L,false⟩) 1 20 u=some ⟨false,1,Dq cs v a e u,false⟩:=
 Lz (A:=cs::(DS v++[.int .i64 a,.int .i64 e])) (B:=[L]) (C:=[]) (xs:=[u]) (by simp[Dq]) (by simp[Dq]) (by simp[Hf hv]) rfl E rfl (by simp[I])
end
theorem z0:Eh (some ⟨false,1,Dq DO Hx 0 0 DO,false⟩) 21 0 (.agg (Dq DO Hx 0 0 DO))=some ⟨false,1,Dq DO Hx 0 0 DO,false⟩:=(rfl)
theorem QF:DY (some ⟨false,1,Dq DO Hx 0 0 DO,false⟩) 21 true 0=some (.agg (Dq DO Hx 0 0 DO)):=(rfl)
theorem jZ(hv:D5 v)(cs L:D)(a e:Int)(k t o n:Nat):Eh (some ⟨false,1,Dq cs v a e L,false⟩) 1 20 (.row k t o n)=some ⟨false,1,Dq cs v a e (.row k t o n),false⟩:=pP hv cs L a e _ rfl rfl
theorem Yi8(v:Int×List Int)(lent:Bool)(cs L:D)(a e:Int):DY (some ⟨false,1,Dq cs v a e L,lent⟩) 1 false 0=some cs:=IM (A:=[]) rfl rfl
def MZ(o:Option PI.Obj):Option Int:=o.bind fun o=>if !o.row && o.sz == 1000003 then(match o.els with
  |[.int .i64 n]=>some n
  |_=>none)else none
theorem RN(st:St)(k:Nat):recAt st k=MZ st[k]?:=by
 unfold recAt MZ;grind
theorem UO(n:Int):MZ (some (recO n))=some n:=(rfl)
structure okS (s:Sta):Prop where
 l:s.stack.length≤4294967296
 t:s.status≤1000000
def JS(c:List Ins)(v:Int×List Int)(a e:Int)(L:D)(s:Sta)(n:Int)(ex:St):St:=
 ⟨false,1,[ET c],false⟩::⟨false,1,DS v,false⟩::⟨false,1,Dq DO Hx 0 0 DO,false⟩::⟨false,1,Dq (ET c) v a e L,false⟩::⟨false,1,[ET c],false⟩::⟨false,1,DS v,false⟩::recO n::⟨false,1,DB s,false⟩::ex
noncomputable def Ja:Tbl:=Od [(49,Vh),(61,Wj),(47,Nx)] [(60,Nk)] [(114,Mj)]
theorem Yaq(c:List Ins)(v:Int×List Int)(U:c.length≤4096)(hv:D5 v)(s:Sta)(u:okS s)(fr:Frame)(E:fr 2=.ptr 0 0)(I:fr 3=.ptr 1 0)(J:fr 8=.ptr 3 0)(m:Nat) :
  IJ (MN.exec GG Ja m) (MM.exec GG Ja m) fr [26,27] 6 [.int .i64 0,Dk s] (JS c v 0 0 DO s 0 [])=some (.bool true,JS c v (D7 s).1 (D7 s).2.2 (.row 9 1 0 1) s 0 (⟨false,1,DB s,false⟩::⟨true,32,[C6 (DU c v s)].map .agg,false⟩::[])):=by
 refine RO rfl rfl rfl ?_ m;have M:=VU c v s ⟨by omega,hv,u.l⟩;have N:=bj s ⟨u.l,u.t⟩;unfold MN JS;simp (disch:=first|omega|decide) only[push_cast,↓reduceIte,CG,CH,HG,EH,FN];unfold MM;have O:=fun st=>bI C7 st 32 0 32 (DU c v s) true (by decide) (by decide);simp (disch:=first|omega|decide) only[push_cast,↓reduceIte,CG,CH,E,I,J,ET,YU hv,Fw hv,E2,F7,FA,H4,M,N,DO,O,hU hv,hV hv,jZ hv,RN,UO,PN,Ja]
theorem fB(c:List Ins)(v:Int×List Int)(V:c.length≤4096)(hv:D5 v)(s:Sta)(u:okS s)(L:List Dig)(X:L.length≤100000)(a e:Int)(x:PI.Obj)(E:St)(i:Nat)(fr:Frame)(I:fr 2=.ptr 0 0)(J:fr 3=.ptr 1 0)(M:fr 8=.ptr 3 0)(m:Nat) :
  IJ (MN.exec GG Ja m) (MM.exec GG Ja m) fr [26,27] 6 [.int .i64 (i:Int),Dk s] (JS c v a e (.row 9 L.length 0 L.length) s 0 (x::⟨true,32,L.map C7,false⟩::E))=
   some (.bool true,JS c v (D7 s).1 (D7 s).2.2 (.row 9 (L++[DU c v s]).length 0 (L++[DU c v s]).length) s 0 (x::⟨true,32,(L++[DU c v s]).map C7,false⟩::(E++[Gn s]))):=by
 refine RO rfl rfl rfl ?_ m;have N:=VU c v s ⟨by omega,hv,u.l⟩;have O:=bj s ⟨u.l,u.t⟩;unfold MN JS;have U:=fun st=>ez C7 32 32 L (DU c v s) false true st (by decide) (by omega) (by omega);simp (disch:=first|omega|decide) only[push_cast,↓reduceIte,CG,HG,EH,FN,EG,Nw];unfold MM;simp (disch:=first|omega|decide) only[push_cast,↓reduceIte,CG,I,J,M,ET,YU hv,Fw hv,E2,F7,FA,H4,N,O,DO,U,hU hv,hV hv,jZ hv,RN,UO,PN,Ja,EG];rfl
def IB(l:List Sta):Sta:=(l.getLast?).getD EY
theorem vQ(s s':Sta)(l:List Sta):IB (s::s'::l)=IB (s'::l):=(rfl)
theorem fA(c:List Ins)(v:Int×List Int)(E:c.length≤4096)(hv:D5 v)(fr:Frame)(I:fr 2=.ptr 0 0)(J:fr 3=.ptr 1 0)(M:fr 8=.ptr 3 0)(m:Nat)(x:PI.Obj):∀ (l:List Sta) (s:Sta) (L:List Dig) (a e:Int) (ex:St),
  RunOK c v (s::l)→(∀ y∈s::l,okS y)→L.length+l.length≤100000→
  RunY (IJ (MN.exec GG Ja m) (MM.exec GG Ja m) fr [26,27] 6) 7 4 5 (s::l) L.length (JS c v a e (.row 9 L.length 0 L.length) s 0 (x::⟨true,32,L.map C7,false⟩::ex))
   (JS c v (D7 (IB (s::l))).1 (D7 (IB (s::l))).2.2 (.row 9 (L++(s::l).map (DU c v)).length 0 (L++(s::l).map (DU c v)).length) (IB (s::l)) 0 (x::⟨true,32,(L++(s::l).map (DU c v)).map C7,false⟩::(ex++(s::l).map Gn)))
 |[],s,L,a,e,ex,N,u,hl=>.last (fB c v E hv s (u s (by simp)) L (by simpa using hl) a e x ex L.length fr I J M m) rfl
 |s'::l,s,L,a,e,ex,N,u,hl=>by
  have h:=fA c v E hv fr I J M m x l s' (L++[DU c v s]) (D7 s).1 (D7 s).2.2 (ex++[Gn s]) N.2.2.2 (fun y O=>u y (by simp[O])) (by simp at hl ⊢; omega);refine .next (fB c v E hv s (u s (by simp)) L (by simp at hl; omega) a e x ex L.length fr I J M m) rfl rfl rfl ?_
  rw[vQ];have U:L++(s::s'::l).map (DU c v)=(L++[DU c v s])++(s'::l).map (DU c v):=by simp
  have V:(L++[DU c v s]).length=L.length+1:=by simp
  have X:ex++(s::s'::l).map Gn=(ex++[Gn s])++(s'::l).map Gn:=by simp
  rw[U,X,← V];exact h
theorem Yom(c:List Ins)(v:Int×List Int)(u:c.length≤4096)(hv:D5 v)(fr:Frame)(E:fr 2=.ptr 0 0)(I:fr 3=.ptr 1 0)(J:fr 8=.ptr 3 0)(m:Nat)(l:List Sta)(s:Sta)(O:RunOK c v (s::l))(M:∀ y∈s::l,okS y)(hl:l.length≤90000) :
  RunY (IJ (MN.exec GG Ja m) (MM.exec GG Ja m) fr [26,27] 6) 7 4 5 (s::l) 0 (JS c v 0 0 DO s 0 [])
   (JS c v (D7 (IB (s::l))).1 (D7 (IB (s::l))).2.2 (.row 9 ((s::l).map (DU c v)).length 0 ((s::l).map (DU c v)).length) (IB (s::l)) 0 (⟨false,1,DB s,false⟩::⟨true,32,((s::l).map (DU c v)).map C7,false⟩::l.map Gn)):=by
 have N:=Yaq c v u hv s (M s (by simp)) fr E I J m
 cases l with
 |nil=>exact .last N rfl
 |cons s' l=>exact .next N rfl rfl rfl (fA c v u hv fr E I J m ⟨false,1,DB s,false⟩ l s' [DU c v s] (D7 s).1 (D7 s).2.2 [] O.2.2.2 (fun y U=>M y (by simp[U])) (by simp at hl ⊢; omega))
def Md:Der:=⟨[],Hx,0,0,[]⟩
def IQ(c:List Ins)(v:Int×List Int):Der:=if(Ei c).2=0 then⟨c,v,(D7 (IB (KN c v))).1,(D7 (IB (KN c v))).2.2,(KN c v).map (DU c v)⟩else Md
theorem aw(st:St):∀ {A:List D} (B:List D),A.all E7=true→D3 st (A++B)=(D3 st B).map (A++·)
 |[],B,_=>by simp
 |d::A,B,h=>by
  simp only[AU,Ac]at h;rw[At,D3,WE st h.1,aw st B h.2];cases D3 st B <;> rfl
theorem Sd(v:Int×List Int):(DS v).all E7=true:=by
 rw[OD]; exact MD (v.1::v.2)
theorem gr(st:St)(cs cs' L u:D)(v:Int×List Int)(a e:Int)(E:DD st cs=some cs')(I:DD st L=some u):D4 st (.agg (Dq cs v a e L))=some (.agg (Dq cs' v a e u)):=by
 simp only[D4,Dq,D3,E,aw st _ (Sd v),I,Zb,Ae]
theorem Ycw(st:St)(c:List Ins)(v:Int×List Int)(a e:Int)(L:List Dig)(k:Nat)(lent:Bool)(u:st[k]?=some ⟨true,32,L.map C7,lent⟩):D4 st (.agg (Dq (ET c) v a e (.row k L.length 0 L.length)))=some (E4 ⟨c,v,a,e,L⟩):=by
 refine gr st _ _ _ _ v a e (by simp only[ET,DD,JX]) ?_
 have E:Gy st k L.length 0 L.length=some (32,L.map C7):=by
  rw[jV,u]; exact fj C7 32 L lent
 simp only[DD,E,Ae];rfl
theorem Ycx(st:St):D4 st (.agg (Dq DO Hx 0 0 DO))=some (E4 Md):=(rfl)
theorem Yjt(st:St)(d:Der):D4 st (E4 d)=some (E4 d):=gr st _ _ _ _ _ _ _ (by simp only[ET,DD,JX]) (by simp only[HI,DD,JX])
theorem Ykf{D:Nat→Int}(u:LU c 64 0 D){x:Sta}(h:Good c D x∨Last x):okS x:=by
 rcases h with h | h
 ·exact⟨by have:=h.len u; omega,by have:=h.st; omega⟩
 ·exact⟨by have:=h.l; omega,by have:=h.s1; omega⟩
noncomputable def Xu:List D→Option D:=Dd (α:=List Ins×(Int×List Int)) (fun a=>[.slc (nz 3 (a.1.map C5)) (a.1.map C5) false,DQ a.2]) (fun a=>a.1.length≤9223372036854775807∧D5 a.2) (fun a=>.tup [E4 (IQ a.1 a.2),.int .i64 (Ei a.1).2])
theorem Yd2(c:List Ins)(v:Int×List Int)(h:c.length≤9223372036854775807∧D5 v):Xu [.slc (nz 3 (c.map C5)) (c.map C5) false,DQ v]=some (.tup [E4 (IQ c v),.int .i64 (Ei c).2]):=
 DG (fun⟨a0,a1⟩ ⟨b0,b1⟩ h=>by simp only[Aa,D.slc.injEq,and_true,GA,Gz]at h; simp[h]) (c,v) h
theorem PT(c:List Ins)(v:Int×List Int)(h:c.length≤9223372036854775807∧D5 v):@wW GG Ja S9.code (Db [ET c,DQ v]) [] ⟨De S9.res (.tup [E4 (IQ c v),.int .i64 (Ei c).2])⟩:=by
 obtain⟨V,hv⟩:=h;have J:=R9 c V;have cs:=fK c v [⟨false,1,[.slc (nz 3 (c.map C5)) (c.map C5) false],false⟩,⟨false,1,DS v,false⟩,⟨false,1,Dq DO Hx 0 0 DO,false⟩,⟨false,1,Dq (.slc (nz 3 (c.map C5)) (c.map C5) false) v 0 0 DO,false⟩] hv;simp only[ET]at cs;unfold S9
 by_cases E:(Ei c).2=0
 ·obtain⟨Dm,l,X,Y,M,ad,hg⟩:=ic (v:=v) E;obtain⟨I,_⟩:=K4 E;rw[show IQ c v=⟨c,v,(D7 (IB (KN c v))).1,(D7 (IB (KN c v))).2.2,(KN c v).map (DU c v)⟩from if_pos E,Y];have sd:∀ (sz:Nat) (els:List D) (t:Bool),Eh (some ⟨false,1,Dq DO Hx 0 0 DO,false⟩) 21 0 (.agg (Dq (.slc sz els t) v 0 0 DO))=some ⟨false,1,Dq (.slc sz els t) v 0 0 DO,false⟩:=fun sz els t=>Xv Xz hv DO _ rfl 0 0 0 0 DO DO rfl;simp (disch:=first|omega|decide) only[push_cast,↓reduceIte,CG,CH,Ja,ET,D9,Xe,J,E,Fw hv,Ykq hv,sd,cs];refine XP (e:=.next) (st':=JS c v (D7 (IB (E8 ((c.length:Int)+1)::l))).1 (D7 (IB (E8 ((c.length:Int)+1)::l))).2.2 (.row 9 ((E8 ((c.length:Int)+1)::l).map (DU c v)).length 0 ((E8 ((c.length:Int)+1)::l).map (DU c v)).length) (IB (E8 ((c.length:Int)+1)::l)) 0 (⟨false,1,DB (E8 ((c.length:Int)+1)),false⟩::⟨true,32,((E8 ((c.length:Int)+1)::l).map (DU c v)).map C7,false⟩::l.map Gn)) (d:=.tup []) (by simp only[push_cast,↓reduceIte] <;> rfl) (by decide) (by rfl) (fun m=>?_) rfl ?_
  ·refine YA ⟨4,5,c,v,l,false,false,rfl,rfl,rfl,I,hv,by omega,M,rfl,?_⟩;exact Yom c v I hv _ rfl rfl rfl m l _ M (fun y hy=>Ykf X (hg y hy)) (by omega)
  ·unfold JS
   have N:∀ (u:List Dig) (O U:PI.Obj) (ex:St) (a e:Int),D4 (⟨false,1,[ET c],false⟩::⟨false,1,DS v,false⟩::⟨false,1,Dq (ET c) v a e (.row 9 u.length 0 u.length),false⟩::⟨false,1,Dq (ET c) v a e (.row 9 u.length 0 u.length),false⟩::⟨false,1,[ET c],false⟩::⟨false,1,DS v,false⟩::recO 2::O::U::⟨true,32,u.map C7,false⟩::ex) (.agg (Dq (ET c) v a e (.row 9 u.length 0 u.length)))=some (E4 ⟨c,v,a,e,u⟩):=
    fun u O U ex a e=>Ycw _ c v a e u 9 false rfl
   have sr:∀ (k t o n:Nat) (a e:Int),Eh (some ⟨false,1,Dq DO Hx 0 0 DO,false⟩) 21 0 (.agg (Dq (ET c) v a e (.row k t o n)))=some ⟨false,1,Dq (ET c) v a e (.row k t o n),false⟩:=fun k t o n a e=>Xv Xz hv DO _ rfl 0 0 _ _ DO _ rfl;generalize (E8 ((c.length:Int)+1)::l).map (DU c v)=u;generalize D7 (IB (E8 ((c.length:Int)+1)::l))=R;simp (disch:=first|omega|decide) only[push_cast,↓reduceIte,CG,CH,mn hv,sr,N,E]
 ·rw[show IQ c v=Md from if_neg E];simp (disch:=first|omega|decide) only[push_cast,↓reduceIte,CG,CH,Ja,ET,D9,Xe,J,E,Yks,z0,QF,Ycx]
theorem Rc:Contract Tryz.prog GG 19 Xu:=
 DH (T:=Ja) yv (mG (all_cons mP (all_cons Yec (all_cons UF all_nil))) (all_cons mR all_nil) (all_cons mT all_nil)) (fun a h=>PT a.1 a.2 h)
end Go.Proofs.YtijnglngaogdjaaGreatDoor.PI
