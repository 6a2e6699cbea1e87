/-
  Merkle trees over lists of digests, in plain Lean: the laws.
  Conditions: none; these are lemmas.
-/
import Derived.Test.YtijnglngaogdjaaGreatDoorArE
import Derived.Test.YtijnglngaogdjaaGreatDoorEngHe
open BitVec renaming ofInt→CJ
open Int renaming reduceAdd→CR,reduceLT→CM,reduceMul→CY,reduceNatCast'→CE,reduceNeg→CD,reducePow→CS,reduceSub→CT,reduceToNat→CN
open List renaming replicate→CH
open Nat renaming reduceAdd→CC,reduceBEq→CU,reduceEqDiff→CB,reduceLT→CI,reduceLeDiff→CG,reduceMul→CF
open Prod renaming fst→CV,snd→CW
set_option linter.unusedVariables false
set_option linter.unusedSimpArgs false
namespace Go.Proofs.YtijnglngaogdjaaGreatDoor.PI
open Go
set_option linter.unusedSimpArgs false
set_option maxHeartbeats 8000000
set_option maxRecDepth 20000
set_option linter.unusedVariables false
def Jd(op:Int):Int×Int:=if op=1∨op=13∨op=14∨op=15 then(1,9007199254740992)else if op=2 then(1,15)else if op=12 then(2,9007199254740992)else(0,0)
def Ee(op:Int):Int×Int:=if op=1∨op=2 then(0,1)else if op=12 then(1,1)else if op=13∨op=15 then(1,0)else if op=14∨op=16 then(0,0)else(2,1)
def F8(x:Ins):Bool:=decide (1≤x.op∧x.op≤16∧((Jd x.op).1≤0→x.n=0)∧((Jd x.op).1≤1→x.m=0)∧0≤min x.n x.m∧max x.n x.m≤(Jd x.op).2)
theorem qN(op:Int):Jd op=(1,9007199254740992)∨Jd op=(1,15)∨Jd op=(2,9007199254740992)∨Jd op=(0,0):=by
 unfold Jd
 split
 ·exact .inl rfl
 ·split
  ·exact .inr (.inl rfl)
  ·split
   ·exact .inr (.inr (.inl rfl))
   ·exact .inr (.inr (.inr rfl))
theorem zl(op:Int):0≤(Ee op).1∧(Ee op).1≤2∧0≤(Ee op).2∧(Ee op).2≤1:=by
 unfold Ee
 split
 ·decide
 ·split
  ·decide
  ·split
   ·decide
   ·split <;> decide
noncomputable def dH:List D→Option D:=De (α:=Int) (fun a=>[.int .i64 a]) (fun a=>True) (fun a=>.tup [.int .i64 (Jd a).1,.int .i64 (Jd a).2])
theorem Ybx(op:Int):dH [.int .i64 op]=some (.tup [.int .i64 (Jd op).1,.int .i64 (Jd op).2]):=
 DX (fun a b h=>by simp only[Aa,D.int.injEq,true_and,and_true]at h; simp[h]) (op) trivial
theorem Ysa(op:Int):@wW GG (tb [] []) Yo.code (C5 [.int .i64 op]) [] ⟨Dg Yo.res (.tup [.int .i64 (Jd op).1,.int .i64 (Jd op).2])⟩:=by
 unfold Yo Jd
 by_cases E:op=1
 ·subst E; simp (disch:=first|omega|decide) only[push_cast,↓reduceIte,CB,true_or]
 ·by_cases I:op=13
  ·subst I; simp (disch:=first|omega|decide) only[push_cast,↓reduceIte,CB,E,true_or,or_true]
  ·by_cases J:op=14
   ·subst J; simp (disch:=first|omega|decide) only[push_cast,↓reduceIte,CB,E,I,true_or,or_true]
   ·by_cases M:op=15
    ·subst M; simp (disch:=first|omega|decide) only[push_cast,↓reduceIte,CB,E,I,J,or_true]
    ·by_cases N:op=2
     ·subst N; simp (disch:=first|omega|decide) only[push_cast,↓reduceIte,CB,E,I,J,M,or_self]
     ·by_cases O:op=12
      ·subst O; simp (disch:=first|omega|decide) only[push_cast,↓reduceIte,CB,E,I,J,M,N,or_self]
      ·simp (disch:=first|omega|decide) only[push_cast,↓reduceIte,CB,E,I,J,M,N,O,or_self]
theorem Ywt:Contract Tryz.prog GG 148 dH:=
 Eb vg (DC all_nil all_nil) (fun a h=>Ysa a)
noncomputable def M1:List D→Option D:=De (α:=Int) (fun a=>[.int .i64 a]) (fun a=>True) (fun a=>.tup [.int .i64 (Ee a).1,.int .i64 (Ee a).2])
theorem Ybw(op:Int):M1 [.int .i64 op]=some (.tup [.int .i64 (Ee op).1,.int .i64 (Ee op).2]):=
 DX (fun a b h=>by simp only[Aa,D.int.injEq,true_and,and_true]at h; simp[h]) (op) trivial
theorem Yr9(op:Int):@wW GG (tb [] []) X2.code (C5 [.int .i64 op]) [] ⟨Dg X2.res (.tup [.int .i64 (Ee op).1,.int .i64 (Ee op).2])⟩:=by
 unfold X2 Ee
 by_cases E:op=1
 ·subst E; simp (disch:=first|omega|decide) only[push_cast,↓reduceIte,CB,true_or]
 ·by_cases I:op=2
  ·subst I; simp (disch:=first|omega|decide) only[push_cast,↓reduceIte,CB,E,or_true]
  ·by_cases J:op=12
   ·subst J; simp (disch:=first|omega|decide) only[push_cast,↓reduceIte,CB,E,I,or_self]
   ·by_cases M:op=13
    ·subst M; simp (disch:=first|omega|decide) only[push_cast,↓reduceIte,CB,E,I,J,or_self,true_or]
    ·by_cases N:op=15
     ·subst N; simp (disch:=first|omega|decide) only[push_cast,↓reduceIte,CB,E,I,J,M,or_self,or_true]
     ·by_cases O:op=14
      ·subst O; simp (disch:=first|omega|decide) only[push_cast,↓reduceIte,CB,E,I,J,M,N,or_self,true_or]
      ·by_cases U:op=16
       ·subst U; simp (disch:=first|omega|decide) only[push_cast,↓reduceIte,CB,E,I,J,M,N,O,or_self,or_true]
       ·simp (disch:=first|omega|decide) only[push_cast,↓reduceIte,CB,E,I,J,M,N,O,U,or_self]
theorem Yws:Contract Tryz.prog GG 101 M1:=
 Eb uG (DC all_nil all_nil) (fun a h=>Yr9 a)
theorem dN(a b c d:Int):DZ (some ⟨false,1,[.int .i64 a,.int .i64 b,.int .i64 c],false⟩) 1 1 (.int .i64 d)=some ⟨false,1,[.int .i64 a,.int .i64 d,.int .i64 c],false⟩:=(rfl)
theorem Ymi(a b c d:Int):DZ (some ⟨false,1,[.int .i64 a,.int .i64 b,.int .i64 c],false⟩) 1 2 (.int .i64 d)=some ⟨false,1,[.int .i64 a,.int .i64 b,.int .i64 d],false⟩:=(rfl)
theorem NF(lent:Bool)(a b c:D):Dr (some ⟨false,1,[a,b,c],lent⟩) 3 true 0=some (.agg [a,b,c]):=(rfl)
theorem Nx(a b c:Int):DZ (some ⟨false,1,[.int .i64 0,.int .i64 0,.int .i64 0],false⟩) 3 0 (.agg [.int .i64 a,.int .i64 b,.int .i64 c])=some ⟨false,1,[.int .i64 a,.int .i64 b,.int .i64 c],false⟩:=(rfl)
theorem Y9(a:Int):DG [.int .i64 0,.int .i64 0,.int .i64 0] [(0,1,.int .i64 a)]=some [.int .i64 a,.int .i64 0,.int .i64 0]:=(rfl)
theorem Zc(x:Ins):DA x=[.int .i64 x.op,.int .i64 x.n,.int .i64 x.m]:=(rfl)
theorem Y7(a b c E b' c':Int):FE [0,0,0] false (.agg [.int .i64 a,.int .i64 b,.int .i64 c]) (.agg [.int .i64 E,.int .i64 b',.int .i64 c'])=some (.bool (decide (a=E∧b=b'∧c=c'))):=by
 simp only[FE,EC,Ig,if_true,Ag,Bool.bne_false]
 congr 2
 by_cases I:a=E <;> by_cases J:b=b' <;> by_cases M:c=c' <;> simp[I,J,M]
noncomputable def dI:List D→Option D:=De (α:=Ins) (fun a=>[C0 a]) (fun a=>True) (fun a=>.bool (F8 a))
theorem Ybv(x:Ins):dI [C0 x]=some (.bool (F8 x)):=
 DX (fun a b h=>by simp only[Aa,and_true,QG]at h; simp[h]) (x) trivial
theorem Yr8(x:Ins):@wW GG (tb [(148,dH)] []) X3.code (C5 [C0 x]) [] ⟨Dg X3.res (.bool (F8 x))⟩:=by
 unfold X3;obtain⟨op,n,m⟩:=x
 by_cases J:op<1
 ·rw[show F8 ⟨op,n,m⟩=false from decide_eq_false (by dsimp only; omega)];simp (disch:=first|omega|decide) only[push_cast,↓reduceIte,CB,EZ,FP,J]
 ·by_cases M:17≤op
  ·rw[show F8 ⟨op,n,m⟩=false from decide_eq_false (by dsimp only; omega)];simp (disch:=first|omega|decide) only[push_cast,↓reduceIte,CB,EZ,FP,J,M]
  ·have hc:=Ybx op
   have fin:∀ (a b:Int) (N O:Int),Jd op=(a,b)→(a≤0→N=n)→(0<a→N=0)→(a≤1→O=m)→(1<a→O=0)→F8 ⟨op,n,m⟩=(decide (op=op∧N=0∧O=0) && (decide (0≤min n m) && decide (max n m≤b))):=by
    intro a b N O e e1 e2 e3 e4;unfold F8;dsimp only;rw[e];rw[B1];simp only[Af,decide_eq_true_eq];refine⟨fun⟨_,_,p1,U,V,Y⟩=>⟨⟨trivial,?_,?_⟩,V,Y⟩,fun⟨⟨_,p1,U⟩,V,Y⟩=>⟨by omega,by omega,?_,?_,V,Y⟩⟩
    ·by_cases ha:a≤0
     ·rw[e1 ha]; exact p1 ha
     ·exact e2 (by omega)
    ·by_cases ha:a≤1
     ·rw[e3 ha]; exact U ha
     ·exact e4 (by omega)
    ·intro ha; rw[← e1 ha]; exact p1
    ·intro ha; rw[← e3 ha]; exact U
   rcases qN op with e | e | e | e
   ·rw[fin 1 _ 0 m e (by omega) (by omega) (by omega) (by omega)];rw[e]at hc
    rcases Classical.propComplete (m=0)with I | I <;> rcases Classical.propComplete (0≤min n m)with r1 | r1 <;> rcases Classical.propComplete (max n m≤9007199254740992)with E | E <;>
     simp (disch:=first|omega|decide) only[push_cast,↓reduceIte,CB,CM,EZ,Ku,J,M,hc,Nx,Zc,dN,NF,Y9,Y7,I,r1,E,and_self,and_false]
   ·rw[fin 1 _ 0 m e (by omega) (by omega) (by omega) (by omega)];rw[e]at hc
    rcases Classical.propComplete (m=0)with I | I <;> rcases Classical.propComplete (0≤min n m)with r1 | r1 <;> rcases Classical.propComplete (max n m≤15)with E | E <;>
     simp (disch:=first|omega|decide) only[push_cast,↓reduceIte,CB,CM,EZ,Ku,J,M,hc,Nx,Zc,dN,NF,Y9,Y7,I,r1,E,and_self,and_false]
   ·rw[fin 2 _ 0 0 e (by omega) (by omega) (by omega) (by omega)];rw[e]at hc
    rcases Classical.propComplete (0≤min n m)with r1 | r1 <;> rcases Classical.propComplete (max n m≤9007199254740992)with E | E <;>
     simp (disch:=first|omega|decide) only[push_cast,↓reduceIte,CB,CM,EZ,Ku,J,M,hc,Nx,Zc,dN,Ymi,NF,Y9,Y7,r1,E,and_self]
   ·rw[fin 0 _ n m e (by omega) (by omega) (by omega) (by omega)];rw[e]at hc
    rcases Classical.propComplete (n=0)with I | I <;> rcases Classical.propComplete (m=0)with q1 | q1 <;> rcases Classical.propComplete (0≤min n m)with r1 | r1 <;> rcases Classical.propComplete (max n m≤0)with E | E <;>
     simp (disch:=first|omega|decide) only[push_cast,↓reduceIte,CB,CM,EZ,Ku,J,M,hc,Nx,Zc,NF,Y9,Y7,I,q1,r1,E,and_true,and_self,and_false]
theorem Ywr:Contract Tryz.prog GG 99 dI:=
 Eb uH (DC (all_cons Ywt all_nil) all_nil) (fun a h=>Yr8 a)
noncomputable def dR:List D→St→Option (D×St):=HN (α:=Ins) (fun x=>([C0 x],[])) (fun _=>True) (fun x=>(.bool (!F8 x),[]))
theorem nW(x:Ins):dR [C0 x] []=some (.bool (!F8 x),[]):=
 RZ (fun a b e=>by simp only[Dl,Aa,and_true,QG]at e; rw[e]) x trivial rfl
theorem Yqd:IContract Tryz.prog GG 98 dR:=by
 refine bJ (T:=tb [(99,dI)] []) uT (DC (all_cons Ywr all_nil) all_nil) ?_;intro x _;unfold jO;simp (disch:=first|omega|decide) only[push_cast,↓reduceIte,CB,EZ,MN,Yox,Ybv];rfl
def H4:List Ins→Nat→Int
 |[],_=>-1
 |x::l,i=>if F8 x then H4 l (i+1)else i
theorem tW:∀ (l:List Ins) (i:Nat),0≤H4 l i↔l.all F8=false
 |[],i=>by simp[H4]
 |x::l,i=>by
  have:=tW l (i+1);unfold H4;cases h:F8 x <;> simp[h];simpa using this
noncomputable def cE:List D→St→Option (D×St):=HN (α:=List Ins) (fun c=>([.slc (nz 3 (c.map C0)) (c.map C0) false,.clo 98 []],[])) (fun c=>c.length≤9223372036854775807) (fun c=>(.int .i64 (H4 c 0),[]))
theorem Yit(c:List Ins)(h:c.length≤9223372036854775807):cE [.slc (nz 3 (c.map C0)) (c.map C0) false,.clo 98 []] []=some (.int .i64 (H4 c 0),[]):=
 RZ (fun a b e=>by simp only[Dl,Aa,D.slc.injEq,and_true,J5]at e; rw[e.2]) c h rfl
variable {α:Type}
theorem WN[Inhabited α](l:List α){i:Nat}(h:i<l.length):l.drop i=l.getD i default::l.drop (i+1):=by
 rw[Bf h,Ao,An h]; rfl
theorem Ywk:IContract Tryz.prog GG 147 cE:=by
 refine bJ (T:=tb [] [(98,dR)]) wa (DC all_nil (all_cons Yqd all_nil)) ?_;intro c hc;unfold kR;simp (disch:=first|omega|decide) only[push_cast,↓reduceIte,CB,CD]
 refine Gr (fun i:Nat=>[(0,.slc (nz 3 (c.map C0)) (c.map C0) false),(1,.clo 98 []),(7,.int .i64 (c.length:Int)),(8,.int .i64 (i:Int))])
  (fun i=>[]) (fun i=>i≤c.length∧H4 (c.drop i) i=H4 c 0) (fun i=>c.length - i) 0 (by simp only[push_cast,↓reduceIte,CB,↓CE] <;> rfl) ⟨by omega,rfl⟩ ?_
 rintro i ⟨hi,hb⟩;unfold kQ;simp (disch:=first|omega|decide) only[push_cast,↓reduceIte,CB];refine E4 (fun N=>?_) (fun N=>?_)
 ·have E:i<c.length:=by omega
  have J:=TI [] c false i E;have I:=WN c E;obtain⟨x,M⟩:∃ x,c.getD i default=x:=⟨_,rfl⟩;rw[M]at J I;rw[I,H4]at hb
  cases hf:F8 x with
  |false=>
   rw[hf]at hb;have hv:=nW x;rw[hf]at hv;simp (disch:=first|omega|decide) only[push_cast,↓reduceIte,CB,CD,J,JU,hv];simp only[Al,if_false]at hb;rw[← hb];rfl
  |true=>
   rw[hf]at hb;have hv:=nW x;rw[hf]at hv;simp (disch:=first|omega|decide) only[push_cast,↓reduceIte,CB,J,JU,hv,DI];refine E0 (i+1) ⟨by omega,hb⟩ (by omega) ?_;simp only[push_cast] <;> rfl
 ·obtain rfl:i=c.length:=by omega
  rw[Ba,H4]at hb;simp (disch:=first|omega|decide) only[push_cast,↓reduceIte,CD];rw[← hb];rfl
noncomputable def MQ:List D→St→Option (D×St):=HN (α:=List Ins) (fun c=>([.slc (nz 3 (c.map C0)) (c.map C0) false,.clo 98 []],[])) (fun c=>c.length≤9223372036854775807) (fun c=>(.bool (!c.all F8),[]))
theorem Yiw(c:List Ins)(h:c.length≤9223372036854775807):MQ [.slc (nz 3 (c.map C0)) (c.map C0) false,.clo 98 []] []=some (.bool (!c.all F8),[]):=
 RZ (fun a b e=>by simp only[Dl,Aa,D.slc.injEq,and_true,J5]at e; rw[e.2]) c h rfl
theorem Ywm:IContract Tryz.prog GG 97 MQ:=by
 refine bJ (T:=tb [] [(147,cE)]) wb (DC all_nil (all_cons Ywk all_nil)) ?_;intro c hc;unfold kP;have E:=Yit c hc
 have hb:decide (0≤H4 c 0)=!c.all F8:=by
  have:=tW c 0
  cases h:c.all F8 with
  |true=>rw[h]at this; simp at this ⊢; omega
  |false=>rw[h]at this; simp at this ⊢; exact this
 simp (disch:=first|omega|decide) only[push_cast,↓reduceIte,CB,E,hb];rfl
variable {G:Dc}
theorem yAo{P:Program}{T:Tbl}{il:List Nat}{f:Nat}{hints:List (List Nat)}{F:PF}(E:Dt P il f hints=some F)(I:TblOK P G T){enc:α→List D×St}{pre:α→Prop}{r:α→D×St}
  (h:∀ a,pre a→@wW G T F.code (C5 (enc a).1) (enc a).2 ⟨@Gt F.res ⟨fun d st'=>(d,st')=r a⟩⟩) (J:T.y=fun _ _ _=>none:=by rfl):IContract P G f (HN enc pre r):=
 IS E I (fun ds st x M=>by
  obtain⟨a,ha,N,rfl⟩:=fb M;have:=h a N;rw[ha]at this;exact this) J
noncomputable def ar:List D→Option D:=De (α:=Int×Int) (fun a=>[.int .u64 a.1,.int .u64 a.2]) (fun a=>0≤a.1∧a.1<18446744073709551616∧0≤a.2∧a.2<18446744073709551616) (fun a=>.tup [.int .u64 (a.1*a.2 / 18446744073709551616),.int .u64 (a.1*a.2 % 18446744073709551616)])
theorem yNz(x:Int)(y:Int)(h:0≤x∧x<18446744073709551616∧0≤y∧y<18446744073709551616):ar [.int .u64 x,.int .u64 y]=some (.tup [.int .u64 (x*y / 18446744073709551616),.int .u64 (x*y % 18446744073709551616)]):=
 DX (fun⟨a0,a1⟩ ⟨b0,b1⟩ h=>by simp only[Aa,D.int.injEq,true_and,and_true]at h; simp[h]) (x,y) h
theorem Ydn(x:Int)(y:Int)(h:0≤x∧x<18446744073709551616∧0≤y∧y<18446744073709551616):@wW GG (tb [(169,Zv)] []) Yc.code (C5 [.int .u64 x,.int .u64 y]) [] ⟨Dg Yc.res (.tup [.int .u64 (x*y / 18446744073709551616),.int .u64 (x*y % 18446744073709551616)])⟩:=by
 unfold Yc;simp (disch:=first|omega|decide) only[push_cast,↓reduceIte,CB,nN x y h]
theorem Yi0:Contract Tryz.prog GG 149 ar:=
 Eb uQ (DC (all_cons sG all_nil) all_nil) (fun a h=>Ydn a.1 a.2 h)
noncomputable def MU:List D→St→Option (D×St):=HN (α:=Nat×Int) (fun a=>([.slc 1 [.int .i64 a.2] true,.int .i64 (a.1:Int)],[])) (fun a=>0<a.1∧a.1≤100000) (fun a=>(.row 0 a.1 0 a.1,[⟨true,1,(CH a.1 a.2).map nI,false⟩]))
theorem Yim(n:Nat)(a:Int)(h:0<n∧n≤100000):MU [.slc 1 [.int .i64 a] true,.int .i64 (n:Int)] []=some (.row 0 n 0 n,[⟨true,1,(CH n a).map nI,false⟩]):=
 RZ (fun⟨a,b⟩ ⟨E,b'⟩ e=>by
  simp only[Dl,Aa,D.slc.injEq,D.int.injEq,and_true,true_and,Int.ofNat_inj]at e;obtain⟨rfl,rfl⟩:=e;rfl) ((n,a):Nat×Int) h rfl
def FU(n j:Nat)(a:Int):List D:=(CH j a++CH (n - j) 0).map nI
variable {a:Int}{j n:Nat}
theorem bp(h:j≤n):(FU n j a).length=n:=by simp[FU]; omega
theorem iV{m:Nat}(h:j+m≤n):E8 (FU n j a) j ((CH m a).map nI)=FU n (j+m) a:=by
 have e:CH (n - j) (0:Int)=CH m 0++CH (n - (j+m)) 0:=by
  rw[B8]; congr 1; omega
 unfold FU;rw[e,Bv,Bv,aS (by simp) (by simp),← Bv,← Bv,← Ah,B8]
theorem Yp6(I:0<j)(E:j<n):JB [⟨true,1,FU n j a,false⟩] 1 (.row 0 n j (n - j)) (.row 0 n 0 j)=some (.int .i64 (min (n - j) j:Nat),[⟨true,1,FU n (j+min (n - j) j) a,false⟩]):=by
 have hl:=bp (a:=a) (Co E)
 have he:Hg [⟨true,1,FU n j a,false⟩] 0 n 0 j=some (1,(CH j a).map nI):=by
  simp only[Hg,AH,hl];rw[if_pos (by simp; omega),Bt]
  congr 2
  simp[FU]
 simp only[JB,S6,AH,Gy,he,hl,HG];rw[if_pos (by simp; omega)];simp only[Be,BM,Bn]
 congr 3
 rw[← B2,List.take_replicate,show min (min (n - j) j) j=min (n - j) j by omega,iV (by omega)]
theorem Yid(I:0<n):JB [⟨true,1,CH n (.int .i64 0),false⟩] 1 (.row 0 n 0 n) (.slc 1 [.int .i64 a] true)=some (.int .i64 1,[⟨true,1,FU n 1 a,false⟩]):=by
 have E:(CH n (D.int .i64 0))=FU n 0 a:=by simp[FU,nI]
 rw[E];have hl:=bp (a:=a) (Bd n);simp only[JB,S6,AH,Gy,hl,HG];rw[if_pos (by simp; omega)];have hm:min n [D.int IntKind.i64 a].length=1:=by simp; omega
 simp only[hm,Bn];have:=iV (n:=n) (j:=0) (m:=1) (a:=a) (by omega);rw[Am]at this;rw[← this];rfl
theorem gD(h:n≤100000):OJ 1 8 (.int .i64 0) (.int .i64 (n:Int)) (.int .i64 (n:Int))=some (n,⟨true,1,CH n (.int .i64 0),false⟩):=by
 have E:Fm (.int .i64 (n:Int))=some n:=by simp[Fm]
 simp only[OJ,E];rw[if_pos ⟨AE _,by omega,by omega,by decide,rfl,rfl⟩]
theorem Ywi:IContract Tryz.prog GG 100 MU:=by
 refine yAo (T:=tb [(149,ar)] []) vU (DC (all_cons Yi0 all_nil) all_nil) ?_;rintro⟨n,a⟩ ⟨I,J⟩;dsimp only at I J;unfold kH;have hm:=yNz 1 (n:Int) ⟨by omega,by omega,by omega,by omega⟩;rw[show(1*(n:Int) / 18446744073709551616)=0 by omega,show(1*(n:Int) % 18446744073709551616)=n by omega]at hm;have hc:=Yid (n:=n) (a:=a) I;have U:¬ ((n:Int)<0):=by omega
 have V:¬ ((9223372036854775807:Int)<(n:Int)):=by omega
 simp (disch:=first|omega|decide) only[push_cast,↓reduceIte,CB,CM,CR,↓CE,U,Y8,uo,hm,V,gD J,hc];refine Gr (fun j:Nat=>[(7,.row 0 n 0 n),(8,.int .i64 (j:Int))]) (fun j=>[⟨true,1,FU n j a,false⟩]) (fun j=>0<j∧j≤n) (fun j=>n - j) 1 (by simp only[push_cast,↓reduceIte,CB,CI,CG,↓CE] <;> rfl) ⟨by omega,by omega⟩ ?_;rintro j ⟨M,E⟩;have hl:=bp (a:=a) E;have N:PZ (some ⟨true,1,FU n j a,false⟩) n=true:=by simp[PZ,hl]
 unfold kJ;simp (disch:=first|omega|decide) only[push_cast,↓reduceIte,CB,N];refine E4 (fun Y=>?_) (fun Y=>?_)
 ·have O:=Yp6 (a:=a) M (show j<n by omega)
  have s1:OB (some ⟨true,1,FU n j a,false⟩) 1 (.row 0 n 0 n) 0 n 0 n j n=some (.row 0 n j (n - j)):=by
   simp[OB,hl,show j≤n from E,show ¬ j=0 by omega,show ¬ j=n by omega]
  have s2:OB (some ⟨true,1,FU n j a,false⟩) 1 (.row 0 n 0 n) 0 n 0 n 0 j=some (.row 0 n 0 j):=by
   simp[OB,hl,show j≤n from E,show ¬ j=0 by omega,show ¬ j=n by omega,show ¬ 0=j by omega]
  simp (disch:=first|omega|decide) only[push_cast,↓reduceIte,CB,CI,CG,s1,s2,O,DI];refine E0 (j+min (n - j) j) ⟨by omega,by omega⟩ (by omega) ?_;simp only[push_cast] <;> rfl
 ·obtain rfl:j=n:=by omega
  simp (disch:=first|omega|decide) only[push_cast,↓reduceIte,CB];simp[FU]
abbrev Ei(x:List Int)(i:Nat):Int:=x.getD i default
theorem tj{x:List Int}{i:Nat}(h:i<x.length):Ei x i∈x:=by
 grind
theorem ck(A:List Int)(lent:Bool)(tot i:Nat)(E:A.length=tot)(h:i<tot):UT (some ⟨true,1,A.map nI,lent⟩) 1 false tot i 0=some (.int .i64 (Ei A i)):=by
 subst E; exact Ygu nI (fun _=>rfl) 1 A lent i h
theorem YV(A:List Int)(lent:Bool)(key tot:Nat)(j:Int)(E:A.length=tot)(I:0≤j)(J:j<(tot:Int)):OC (some ⟨true,1,A.map nI,lent⟩) 1 key tot 0 tot j=some (.rptr key tot j.toNat 0):=by
 subst E;have:=kY nI 1 A lent key 0 A.length j I J;grind
def L2(o:Option PI.Obj)(tot i:Nat)(v:Int):Option PI.Obj:=o.bind fun o=>if o.row && !o.lent && o.els.length == tot then(o.els[i]?).bind fun el=>(Ta el 0 [.int .i64 v]).map fun el'=>{o with els:=o.els.set i el'} else none
theorem eU(st:St)(key tot i:Nat)(v:Int):Lh st 1 (.rptr key tot i 0) (.int .i64 v)=(L2 st[key]? tot i v).map fun o=>st.set key o:=by
 simp only[Lh,L2,kT,ni,List.isEmpty_nil,BY]
 cases st[key]? with
 |none=>rfl
 |some o=>
  simp only[Bl]
  split
  ·cases o.els[i]? with
   |none=>rfl
   |some el=>
    have hc:(D.int .i64 v).cells=[.int .i64 v]:=rfl;grind
  ·rfl
theorem nq(A:List Int)(tot i:Nat)(v:Int)(E:A.length=tot)(h:i<tot):L2 (some ⟨true,1,A.map nI,false⟩) tot i v=some ⟨true,1,(A.set i v).map nI,false⟩:=by
 subst E;have I:Ta (nI A[i]) 0 [.int .i64 v]=some (nI v):=rfl;simp[L2,h,I,List.map_set]
def RE(len i after n:Int)(dep:List Int):Prop:=n≤i∨len≤n∨(0≤Ei dep n.toNat∧Ei dep n.toNat≠after)
instance (len i after n:Int) (dep:List Int):Decidable (RE len i after n dep):=by unfold RE; infer_instance
def Ow(len i after:Int):List Int→List Int→Option (List Int)
 |[],dep=>some dep
 |n::l,dep=>if RE len i after n dep then none else Ow len i after l (dep.set n.toNat after)
def JZ(x:Ins)(i:Int):List Int:=(if x.op=13∨x.op=14 then [x.n]else [])++(if x.op≠14∧x.op≠15∧x.op≠16 then [i+1]else [])
def JS(x:Ins)(d:Int):Prop:=d<(Ee x.op).1∨(x.op=15∧d≠1)∨(x.op=16∧d≠0)
instance (x:Ins) (d:Int):Decidable (JS x d):=by unfold JS; infer_instance
def FN(x:Ins)(d:Int):Int:=d - (Ee x.op).1+(Ee x.op).2
def Gs(len:Int):List Ins→Nat→List Int→Int→Option Int
 |[],_,_,s=>some s
 |x::r,i,dep,s=>if Ei dep i<0 then Gs len r (i+1) dep s else if JS x (Ei dep i)then none else
  match Ow len i (FN x (Ei dep i)) (JZ x i) dep with
  |none=>none
  |some dep'=>Gs len r (i+1) dep' (max (max s (Ei dep i)) (FN x (Ei dep i)))
def KI:Option Int→Int×Int
 |none=>(0,200)
 |some s=>if 64<s then(0,2)else(s,0)
def G6(n:Nat):List Int:=(CH n (-1)).set 0 0
def G9(c:List Ins):Int×Int:=if 4096<c.length then(0,2)else if c.length=0∨c.all F8=false then(0,200)else KI (Gs c.length c 0 (G6 c.length) 0)
theorem rF(sz:Nat)(a:D)(l:Bool):PZ (some ⟨true,sz,[a],l⟩) 1=true:=(rfl)
theorem li2(sz:Nat)(a b:D)(l:Bool):PZ (some ⟨true,sz,[a,b],l⟩) 2=true:=(rfl)
variable {st:St}
theorem iA{T:Tbl}{c:PC}{fr:Frame}{st':St}{Q:QC}(e:st=st')(h:@wW G T c fr st' Q):@wW G T c fr st Q:=by rw[e]; exact h
/- what follows an instruction -/
def Pu(N:Nat)(i:Int)(dp:List Int):Prop:=dp.length=N∧∀ y∈dp,-1≤y∧y≤i
theorem n7{N:Nat}{i:Int}{I:List Int}(h:Pu N i I)(k:Nat){v:Int}(J:-1≤v)(M:v≤i):Pu N i (I.set k v):=by
 refine⟨by rw[B7]; exact h.1,fun y E=>?_⟩;rcases BQ E with E | rfl
 ·exact h.2 y E
 ·omega
set_option maxHeartbeats 4000000 in
set_option maxRecDepth 20000 in
theorem RK(T:Tbl)(c:List Ins)(x:Ins)(i:Nat)(hi:i<c.length)(hc:c.length≤4096)(s after:Int)(a0:-1≤after)(a1:after≤(i:Int)+1)(E:List Int)(ce:E.length≤2)(N:List Int)(a3:Pu c.length ((i:Int)+1) N)(fr:Frame)(Q:Ex→Frame→St→Prop)
  (f0:fr 0=.slc (nz 3 (c.map C0)) (c.map C0) false) (f2:fr 2=.int .i64 s) (f4:fr 4=.row 0 c.length 0 c.length) (f5:fr 5=.int .i64 (i:Int)) (bb:fr 10=.int .i64 after)
  (bc:fr 30=.slc (nz 3 (c.map C0)) (c.map C0) false) (bd:fr 31=.int .i64 (c.length:Int)) (be:fr 32=.int .i64 (i:Int)) (a4:fr 110=DW 0 2 (E.map nI)) (a5:fr 111=.int .i64 (E.length:Int)) (a6:fr 112=.int .i64 0)
  (V:Ow c.length i after E N=none→∀ J st',J 2=.int .i64 0→J 3=.int .i64 200→Q .ret J st')
  (a7:∀ I,Ow c.length i after E N=some I→Pu c.length ((i:Int)+1) I→∀ J,J 0=.slc (nz 3 (c.map C0)) (c.map C0) false→J 2=.int .i64 s→J 4=.row 0 c.length 0 c.length→J 30=.slc (nz 3 (c.map C0)) (c.map C0) false→J 31=.int .i64 (c.length:Int)→J 32=.int .i64 (i:Int)→
   Q (.exit 2) J (⟨true,1,I.map nI,false⟩::⟨false,1,DA x,false⟩::Ds 1 (E.map nI))) :
  @wW GG T (.loop [0,2,4,5,10,30,31,32,110,111,112] bT) fr (⟨true,1,N.map nI,false⟩::⟨false,1,DA x,false⟩::Ds 1 (E.map nI)) ⟨Q⟩:=by
 have hB:Ef ((Ds 1 (E.map nI)).length+1+1) [] (DW 0 2 (E.map nI))=DW 0 2 (E.map nI):=by
  cases E <;> rfl
 have bf:∀ I:List Int,StOK (⟨true,1,I.map nI,false⟩::⟨false,1,DA x,false⟩::Ds 1 (E.map nI)):=by
  intro I o Y hr y hy;simp only[Aw]at Y;rcases Y with rfl | rfl | Y
  ·cases hr
  ·simp only[DA,Aw,AB,or_false]at hy;rcases hy with rfl | rfl | rfl <;> rfl
  ·cases E with
   |nil=>cases Y
   |cons a l=>
    rw[show Ds 1 ((a::l).map nI)=[⟨true,1,(a::l).map nI,false⟩]from rfl,AM]at Y;grind
 have hR:∀ (fr:Frame) (I:List Int),restrict [0,2,4,5,10,30,31,32,110,111,112] ((Ds 1 (E.map nI)).length+1+1) ⟨fr,⟨true,1,I.map nI,false⟩::⟨false,1,DA x,false⟩::Ds 1 (E.map nI)⟩=
   ⟨GH (Jf fr ((Ds 1 (E.map nI)).length+1+1) [] [0,2,4,5,10,30,31,32,110,111,112]),⟨true,1,I.map nI,false⟩::⟨false,1,DA x,false⟩::Ds 1 (E.map nI)⟩:=fun fr I=>XM (bf I) rfl
 have aa:EA ((Ds 1 (E.map nI)).length+1+1) [] 0=some 0:=OT (by omega)
 refine Gr (fun p:Nat×List Int=>[(0,.slc (nz 3 (c.map C0)) (c.map C0) false),(2,.int .i64 s),(4,.row 0 c.length 0 c.length),(5,.int .i64 (i:Int)),(10,.int .i64 after),(30,.slc (nz 3 (c.map C0)) (c.map C0) false),(31,.int .i64 (c.length:Int)),(32,.int .i64 (i:Int)),
   (110,DW 0 2 (E.map nI)),(111,.int .i64 (E.length:Int)),(112,.int .i64 (p.1:Int))])
  (fun p=>⟨true,1,p.2.map nI,false⟩::⟨false,1,DA x,false⟩::Ds 1 (E.map nI)) (fun p=>p.1≤E.length∧Pu c.length ((i:Int)+1) p.2∧Ow c.length i after (E.drop p.1) p.2=Ow c.length i after E N) (fun p=>E.length - p.1) (0,N)
  ((hR fr N).trans (by simp only[push_cast,f0,f2,f4,f5,bb,bc,bd,be,a4,a5,a6,hB,↓aa] <;> rfl)) ⟨Bd _,a3,rfl⟩ ?_
 rintro⟨j,I⟩ ⟨hj,M,hn⟩;dsimp only at hj M hn;unfold bT;simp (disch:=first|omega|decide) only[push_cast,↓reduceIte,CB];refine E4 (fun h2=>?_) (fun h2=>?_)
 ·have a2:j<E.length:=by omega
  have bh:=WN E a2
  have ab:E.map nI≠[]:=by
   intro e;have:=congrArg List.length e;grind
  obtain⟨n,ac⟩:∃ n,E.getD j default=n:=⟨_,rfl⟩;have b5:OC (some ⟨true,1,E.map nI,false⟩) 1 2 E.length 0 E.length (j:Int)=some (.rptr 2 E.length j 0):=YV E false 2 E.length j rfl (by omega) (by omega);have b6:UT (some ⟨true,1,E.map nI,false⟩) 1 false E.length j 0=some (.int .i64 n):=by rw[← ac]; exact ck E false E.length j rfl a2
  have U:∀ I:List Int,F2 (⟨true,1,I.map nI,false⟩::⟨false,1,DA x,false⟩::Ds 1 (E.map nI)) 1 (DW 0 2 (E.map nI)) (.int .i64 (j:Int))=some (.rptr 2 E.length j 0):=by
   intro I;rw[Qk _ _ _ ab,OU _ _ ab,Be,mE];exact b5
  have O:∀ I:List Int,EO (⟨true,1,I.map nI,false⟩::⟨false,1,DA x,false⟩::Ds 1 (E.map nI)) 1 false (.rptr 2 E.length j 0)=some (.int .i64 n):=by
   intro I;rw[OU _ _ ab,iU];exact b6
  rw[bh,ac,Ow]at hn
  by_cases b1:n≤(i:Int)
  ·rw[if_pos (.inl b1)]at hn;simp (disch:=first|omega|decide) only[push_cast,↓reduceIte,CB,U,O,  b1];exact V hn.symm _ _ rfl rfl
  ·by_cases b2:(c.length:Int)≤n
   ·rw[if_pos (.inr (.inl b2))]at hn;simp (disch:=first|omega|decide) only[push_cast,↓reduceIte,CB,U,O,  b1,b2];exact V hn.symm _ _ rfl rfl
   ·have ae:=YV I false 0 c.length n M.1 (by omega) (by omega);have af:=ck I false c.length n.toNat M.1 (by omega);have cf:=M.2 _ (tj (x:=I) (i:=n.toNat) (by rw[M.1]; omega));have hs:=nq I c.length n.toNat after M.1 (by omega)
    by_cases b3:0≤Ei I n.toNat
    ·by_cases b4:Ei I n.toNat=after
     ·have b8:(Ei I n.toNat=after)=True:=eq_true b4;rw[if_neg (by unfold RE; omega)]at hn;simp (disch:=first|omega|decide) only[push_cast,↓reduceIte,CB,U,O,  b1,b2,ae,af,b3,b8,eU,hs,DI,↓hR,↓aa,hB];refine E0 (j+1,I.set n.toNat after) ⟨by dsimp only; omega,n7 M _ a0 a1,hn⟩ (by dsimp only; omega) ?_;rfl
     ·rw[if_pos (.inr (.inr ⟨b3,b4⟩))]at hn;simp (disch:=first|omega|decide) only[push_cast,↓reduceIte,CB,U,O,  b1,b2,ae,af,b3,b4];exact V hn.symm _ _ rfl rfl
    ·rw[if_neg (by unfold RE; omega)]at hn;simp (disch:=first|omega|decide) only[push_cast,↓reduceIte,CB,U,O,  b1,b2,ae,af,b3,eU,hs,DI,↓hR,↓aa,hB];refine E0 (j+1,I.set n.toNat after) ⟨by dsimp only; omega,n7 M _ a0 a1,hn⟩ (by dsimp only; omega) ?_;rfl
 ·obtain rfl:j=E.length:=by omega
  rw[Ba,Ow]at hn;simp (disch:=first|omega|decide) only[push_cast];exact a7 I hn.symm M _ rfl rfl rfl rfl rfl rfl
noncomputable def Zs:List D→Option D:=De (α:=List Ins) (fun a=>[.slc (nz 3 (a.map C0)) (a.map C0) false]) (fun a=>a.length≤9223372036854775807) (fun a=>.tup [.int .i64 (G9 a).1,.int .i64 (G9 a).2])
theorem nU(c:List Ins)(h:c.length≤9223372036854775807):Zs [.slc (nz 3 (c.map C0)) (c.map C0) false]=some (.tup [.int .i64 (G9 c).1,.int .i64 (G9 c).2]):=
 DX (fun a b h=>by simp only[Aa,D.slc.injEq,and_true,J5]at h; simp[h]) (c) h
set_option maxHeartbeats 4000000 in
set_option maxRecDepth 20000 in
theorem Yr7(c:List Ins)(h:c.length≤9223372036854775807):@wW GG (tb [(101,M1)] [(97,MQ),(100,MU)]) X1.code (C5 [.slc (nz 3 (c.map C0)) (c.map C0) false]) [] ⟨Dg X1.res (.tup [.int .i64 (G9 c).1,.int .i64 (G9 c).2])⟩:=by
 unfold X1
 by_cases h1:4096<c.length
 ·rw[show G9 c=(0,2)from if_pos h1];simp (disch:=first|omega|decide) only[push_cast,↓reduceIte,CB,CD,show((4096:Int)<(c.length:Int)) by omega]
 by_cases h2:c.length=0
 ·rw[show G9 c=(0,200) by unfold G9; rw[if_neg h1,if_pos (.inl h2)]];simp (disch:=first|omega|decide) only[push_cast,↓reduceIte,CB,CM,CD,show ¬ ((4096:Int)<(c.length:Int)) by omega,show((c.length:Int)=0) by omega]
 have bf:=Yiw c h;have h3:¬ ((4096:Int)<(c.length:Int)):=by omega
 have h4:¬ ((c.length:Int)=0):=by omega
 cases a6:c.all F8 with
 |false=>
  rw[a6]at bf;rw[show G9 c=(0,200) by unfold G9; rw[if_neg h1,if_pos (.inr a6)]];simp (disch:=first|omega|decide) only[push_cast,↓reduceIte,CB,CD,h3,h4,bf]
 |true=>
  rw[a6]at bf;rw[show G9 c=KI (Gs c.length c 0 (G6 c.length) 0) by unfold G9; rw[if_neg h1,if_neg (by rw[a6]; simp[h2])]];have b8:=Yim c.length (-1) ⟨by omega,by omega⟩;have b9:OC (some ⟨true,1,(CH c.length (-1)).map nI,false⟩) 1 0 c.length 0 c.length 0=some (.rptr 0 c.length 0 0):=YV _ false 0 c.length 0 (by simp) (by omega) (by omega);have hs0:L2 (some ⟨true,1,(CH c.length (-1)).map nI,false⟩) c.length 0 0=some ⟨true,1,(G6 c.length).map nI,false⟩:=nq _ c.length 0 0 (by simp) (by omega);simp (disch:=first|omega|decide) only[push_cast,↓reduceIte,CB,CD,h3,h4,bf,Fu,b8,b9,eU,hs0]
  refine Gr (fun p:Nat×List Int×Int=>[(0,.slc (nz 3 (c.map C0)) (c.map C0) false),(2,.int .i64 p.2.2),(4,.row 0 c.length 0 c.length),(30,.slc (nz 3 (c.map C0)) (c.map C0) false),(31,.int .i64 (c.length:Int)),(32,.int .i64 (p.1:Int))])
   (fun p=>[⟨true,1,p.2.1.map nI,false⟩]) (fun p=>p.1≤c.length∧Pu c.length p.1 p.2.1∧KI (Gs c.length (c.drop p.1) p.1 p.2.1 p.2.2)=KI (Gs c.length c 0 (G6 c.length) 0)) (fun p=>c.length - p.1) (0,G6 c.length,0)
   (by simp only[push_cast,↓reduceIte,CB,CI,CG,CD] <;> rfl) ⟨Bd _,?_,rfl⟩ ?_
  ·refine⟨by simp[G6],fun y hy=>?_⟩;rcases BQ hy with hy | rfl
   ·grind
   ·omega
  rintro⟨i,dep,s⟩ ⟨hi,ae,hv⟩;dsimp only at hi ae hv;unfold jY;simp (disch:=first|omega|decide) only[push_cast,↓reduceIte,CB];refine E4 (fun h5=>?_) (fun h5=>?_)
  ·have af:i<c.length:=by omega
   have ba:c.length≤4096:=by omega
   have ah:Pu c.length ((i:Int)+1) dep:=⟨ae.1,fun y hy=>⟨(ae.2 y hy).1,by have:=(ae.2 y hy).2; omega⟩⟩;have hx:=fun st=>TI st c false i af;have b4:=WN c af;obtain⟨x,ca⟩:∃ x,c.getD i default=x:=⟨_,rfl⟩;rw[ca]at hx b4;rw[b4,Gs]at hv;have J:OC (some ⟨true,1,dep.map nI,false⟩) 1 0 c.length 0 c.length (i:Int)=some (.rptr 0 c.length i 0):=YV dep false 0 c.length i ah.1 (by omega) (by omega);have M:=ck dep false c.length i ah.1 af;have cg:=ae.2 _ (tj (x:=dep) (i:=i) (by rw[ae.1]; omega));have he:=Ybw x.op;have ch:=zl x.op
   by_cases h0:Ei dep i<0
   ·rw[if_pos h0]at hv;simp (disch:=first|omega|decide) only[push_cast,↓reduceIte,CB,CI,CG,CC,hx,JU,Ku,Mn,J,M,h0,DI];refine E0 (i+1,dep,s) ⟨by dsimp only; omega,ah,hv⟩ (by dsimp only; omega) ?_;rfl
   rw[if_neg h0]at hv;have bb:FN x (Ei dep i)=Ei dep i - (Ee x.op).1+(Ee x.op).2:=rfl
   by_cases E:Ei dep i<(Ee x.op).1
   ·rw[if_pos (.inl E)]at hv;simp (disch:=first|omega|decide) only[push_cast,↓reduceIte,CB,hx,JU,Ku,Mn,J,M,h0,FP,he,Fc,DI,E];rw[← hv];rfl
   have cb:(Ei dep i<(Ee x.op).1)=False:=eq_false E
   by_cases a3:x.op=15
   ·have N:(x.op=15)=True:=eq_true a3;have a0:(x.op=14)=False:=eq_false (by omega);have O:(x.op=13)=False:=eq_false (by omega);have cd:Ee x.op=(1,0):=by rw[a3]; rfl
    by_cases hd:Ei dep i=1
    ·have ed:(Ei dep i=1)=True:=eq_true hd;have a1:(x.op=16)=False:=eq_false (by omega);have c0:¬ Ei dep i<(Ee x.op).1:=E;have U:JZ x (i:Int)=[]:=by simp[JZ,a3]
     have I:¬ JS x (Ei dep i):=by unfold JS; omega
     rw[if_neg I,U]at hv;simp (disch:=first|omega|decide) only[push_cast,↓reduceIte,CB,hx,JU,Ku,Mn,J,M,h0,FP,he,Fc,DI,E,N,a0,O,a1,ed,bb.symm];have hl:=RK (tb [(101,M1)] [(97,MQ),(100,MU)]) c x i af ba (max (max s (Ei dep i)) (FN x (Ei dep i))) (FN x (Ei dep i)) (by omega) (by omega) [] (by simp) dep ah;refine hl _ _ rfl rfl rfl rfl rfl rfl rfl rfl rfl rfl rfl (fun hn V st' g2 g3=>?_) (fun dp hn Y V g0 g2 g4 aa ab ac=>?_)
     ·rw[hn]at hv;have ad:((0,200):Int×Int)=KI (Gs c.length c 0 (G6 c.length) 0):=hv;simp (disch:=first|omega|decide) only[push_cast,g2,g3];rw[← ad]
     ·rw[hn]at hv;simp (disch:=first|omega|decide) only[push_cast,↓reduceIte,CB,ac,DI];refine E0 (i+1,dp,max (max s (Ei dep i)) (FN x (Ei dep i))) ⟨by dsimp only; omega,Y,hv⟩ (by dsimp only; omega) ?_;simp only[push_cast,↓reduceIte,CI,CG,g0,g2,g4,aa,ab] <;> rfl
    ·have ed:(Ei dep i=1)=False:=eq_false hd;rw[if_pos (.inr (.inl ⟨a3,hd⟩))]at hv;simp (disch:=first|omega|decide) only[push_cast,↓reduceIte,CB,hx,JU,Ku,Mn,J,M,h0,FP,he,Fc,DI,E,N,ed];rw[← hv];rfl
   by_cases a5:x.op=16
   ·have a1:(x.op=16)=True:=eq_true a5;have N:(x.op=15)=False:=eq_false a3;have a0:(x.op=14)=False:=eq_false (by omega);have O:(x.op=13)=False:=eq_false (by omega);have ce:Ee x.op=(0,0):=by rw[a5]; rfl
    by_cases hd:Ei dep i=0
    ·have ed:(Ei dep i=0)=True:=eq_true hd;have U:JZ x (i:Int)=[]:=by simp[JZ,a5]
     have I:¬ JS x (Ei dep i):=by unfold JS; omega
     rw[if_neg I,U]at hv;simp (disch:=first|omega|decide) only[push_cast,↓reduceIte,CB,hx,JU,Ku,Mn,J,M,h0,FP,he,Fc,DI,E,N,a0,O,a1,ed,bb.symm];have hl:=RK (tb [(101,M1)] [(97,MQ),(100,MU)]) c x i af ba (max (max s (Ei dep i)) (FN x (Ei dep i))) (FN x (Ei dep i)) (by omega) (by omega) [] (by simp) dep ah;refine hl _ _ rfl rfl rfl rfl rfl rfl rfl rfl rfl rfl rfl (fun hn V st' g2 g3=>?_) (fun dp hn Y V g0 g2 g4 aa ab ac=>?_)
     ·rw[hn]at hv;have ad:((0,200):Int×Int)=KI (Gs c.length c 0 (G6 c.length) 0):=hv;simp (disch:=first|omega|decide) only[push_cast,g2,g3];rw[← ad]
     ·rw[hn]at hv;simp (disch:=first|omega|decide) only[push_cast,↓reduceIte,CB,ac,DI];refine E0 (i+1,dp,max (max s (Ei dep i)) (FN x (Ei dep i))) ⟨by dsimp only; omega,Y,hv⟩ (by dsimp only; omega) ?_;simp only[push_cast,↓reduceIte,CI,CG,g0,g2,g4,aa,ab] <;> rfl
    ·have ed:(Ei dep i=0)=False:=eq_false hd;rw[if_pos (.inr (.inr ⟨a5,hd⟩))]at hv;simp (disch:=first|omega|decide) only[push_cast,↓reduceIte,CB,hx,JU,Ku,Mn,J,M,h0,FP,he,Fc,DI,E,N,a1,ed];rw[← hv];rfl
   have N:(x.op=15)=False:=eq_false a3;have a1:(x.op=16)=False:=eq_false a5
   by_cases bg:x.op=14
   ·have a0:(x.op=14)=True:=eq_true bg;have O:(x.op=13)=False:=eq_false (by omega);have U:JZ x (i:Int)=[x.n]:=by simp[JZ,bg]
    have I:¬ JS x (Ei dep i):=by unfold JS; omega
    rw[if_neg I,U]at hv;have bc:Ea [⟨true,1,dep.map nI,false⟩,⟨false,1,DA x,false⟩] 1 8 (.slc 0 [] true) (.slc 1 [.int .i64 x.n] true)=some (.row 2 1 0 1,[⟨true,1,dep.map nI,false⟩,⟨false,1,DA x,false⟩,⟨true,1,[.int .i64 x.n],false⟩]):=(rfl);simp (disch:=first|omega|decide) only[push_cast,↓reduceIte,CB,↓CE,hx,JU,Ku,Mn,J,M,h0,FP,Kt,he,Fc,DI,E,Fu,N,a0,O,a1,bb.symm,bc,rF];have hl:=RK (tb [(101,M1)] [(97,MQ),(100,MU)]) c x i af ba (max (max s (Ei dep i)) (FN x (Ei dep i))) (FN x (Ei dep i)) (by omega) (by omega) [x.n] (by simp) dep ah;refine iA (st':=(⟨true,1,dep.map nI,false⟩::⟨false,1,DA x,false⟩::Ds 1 (([x.n]:List Int).map nI))) rfl ?_;refine hl _ _ rfl rfl rfl rfl rfl rfl rfl rfl rfl rfl rfl (fun hn V st' g2 g3=>?_) (fun dp hn Y V g0 g2 g4 aa ab ac=>?_)
    ·rw[hn]at hv;have ad:((0,200):Int×Int)=KI (Gs c.length c 0 (G6 c.length) 0):=hv;simp (disch:=first|omega|decide) only[push_cast,g2,g3];rw[← ad]
    ·rw[hn]at hv;simp (disch:=first|omega|decide) only[push_cast,↓reduceIte,CB,ac,DI];refine E0 (i+1,dp,max (max s (Ei dep i)) (FN x (Ei dep i))) ⟨by dsimp only; omega,Y,hv⟩ (by dsimp only; omega) ?_;simp only[push_cast,↓reduceIte,CI,CG,g0,g2,g4,aa,ab] <;> rfl
   have a0:(x.op=14)=False:=eq_false bg
   by_cases bh:x.op=13
   ·have O:(x.op=13)=True:=eq_true bh;have U:JZ x (i:Int)=[x.n,(i:Int)+1]:=by simp[JZ,bh]
    have I:¬ JS x (Ei dep i):=by unfold JS; omega
    rw[if_neg I,U]at hv;have bc:Ea [⟨true,1,dep.map nI,false⟩,⟨false,1,DA x,false⟩] 1 8 (.slc 0 [] true) (.slc 1 [.int .i64 x.n] true)=some (.row 2 1 0 1,[⟨true,1,dep.map nI,false⟩,⟨false,1,DA x,false⟩,⟨true,1,[.int .i64 x.n],false⟩]):=(rfl);have cc:Ea [⟨true,1,dep.map nI,false⟩,⟨false,1,DA x,false⟩,⟨true,1,[.int .i64 x.n],false⟩] 1 8 (.row 2 1 0 1) (.slc 1 [.int .i64 ((i:Int)+1)] true)=some (.row 2 2 0 2,[⟨true,1,dep.map nI,false⟩,⟨false,1,DA x,false⟩,⟨true,1,[.int .i64 x.n,.int .i64 ((i:Int)+1)],false⟩]):=(rfl);simp (disch:=first|omega|decide) only[push_cast,↓reduceIte,CB,↓CE,hx,JU,Ku,Mn,J,M,h0,FP,Kt,he,Fc,DI,E,Fu,N,a0,O,a1,bb.symm,bc,cc,li2];have hl:=RK (tb [(101,M1)] [(97,MQ),(100,MU)]) c x i af ba (max (max s (Ei dep i)) (FN x (Ei dep i))) (FN x (Ei dep i)) (by omega) (by omega) [x.n,(i:Int)+1] (by simp) dep ah;refine iA (st':=(⟨true,1,dep.map nI,false⟩::⟨false,1,DA x,false⟩::Ds 1 (([x.n,(i:Int)+1]:List Int).map nI))) rfl ?_;refine hl _ _ rfl rfl rfl rfl rfl rfl rfl rfl rfl rfl rfl (fun hn V st' g2 g3=>?_) (fun dp hn Y V g0 g2 g4 aa ab ac=>?_)
    ·rw[hn]at hv;have ad:((0,200):Int×Int)=KI (Gs c.length c 0 (G6 c.length) 0):=hv;simp (disch:=first|omega|decide) only[push_cast,g2,g3];rw[← ad]
    ·rw[hn]at hv;simp (disch:=first|omega|decide) only[push_cast,↓reduceIte,CB,ac,DI];refine E0 (i+1,dp,max (max s (Ei dep i)) (FN x (Ei dep i))) ⟨by dsimp only; omega,Y,hv⟩ (by dsimp only; omega) ?_;simp only[push_cast,↓reduceIte,CI,CG,g0,g2,g4,aa,ab] <;> rfl
   ·have O:(x.op=13)=False:=eq_false bh;have U:JZ x (i:Int)=[(i:Int)+1]:=by simp[JZ,bh,bg,a3,a5]
    have I:¬ JS x (Ei dep i):=by unfold JS; omega
    rw[if_neg I,U]at hv;have bc:Ea [⟨true,1,dep.map nI,false⟩,⟨false,1,DA x,false⟩] 1 8 (.slc 0 [] true) (.slc 1 [.int .i64 ((i:Int)+1)] true)=some (.row 2 1 0 1,[⟨true,1,dep.map nI,false⟩,⟨false,1,DA x,false⟩,⟨true,1,[.int .i64 ((i:Int)+1)],false⟩]):=(rfl);simp (disch:=first|omega|decide) only[push_cast,↓reduceIte,CB,↓CE,hx,JU,Ku,Mn,J,M,h0,FP,he,Fc,DI,E,Fu,N,a0,O,a1,bb.symm,bc,rF];have hl:=RK (tb [(101,M1)] [(97,MQ),(100,MU)]) c x i af ba (max (max s (Ei dep i)) (FN x (Ei dep i))) (FN x (Ei dep i)) (by omega) (by omega) [(i:Int)+1] (by simp) dep ah;refine iA (st':=(⟨true,1,dep.map nI,false⟩::⟨false,1,DA x,false⟩::Ds 1 (([(i:Int)+1]:List Int).map nI))) rfl ?_;refine hl _ _ rfl rfl rfl rfl rfl rfl rfl rfl rfl rfl rfl (fun hn V st' g2 g3=>?_) (fun dp hn Y V g0 g2 g4 aa ab ac=>?_)
    ·rw[hn]at hv;have ad:((0,200):Int×Int)=KI (Gs c.length c 0 (G6 c.length) 0):=hv;simp (disch:=first|omega|decide) only[push_cast,g2,g3];rw[← ad]
    ·rw[hn]at hv;simp (disch:=first|omega|decide) only[push_cast,↓reduceIte,CB,ac,DI];refine E0 (i+1,dp,max (max s (Ei dep i)) (FN x (Ei dep i))) ⟨by dsimp only; omega,Y,hv⟩ (by dsimp only; omega) ?_;simp only[push_cast,↓reduceIte,CI,CG,g0,g2,g4,aa,ab] <;> rfl
  ·obtain rfl:i=c.length:=by omega
   rw[Ba,Gs]at hv;rw[← hv]
   by_cases h6:64<s
   ·rw[show KI (some s)=(0,2)from if_pos h6];simp (disch:=first|omega|decide) only[push_cast,↓reduceIte,CB,h6]
   ·rw[show KI (some s)=(s,0)from if_neg h6];simp (disch:=first|omega|decide) only[push_cast,↓reduceIte,CB,h6]
set_option maxRecDepth 20000 in
theorem sI:Contract Tryz.prog GG 47 Zs:=
 Eb (T:=tb [(101,M1)] [(97,MQ),(100,MU)]) uF (DC (all_cons Yws all_nil) (all_cons Ywm (all_cons Ywi all_nil))) (fun a h=>Yr7 a h)
def EB(v:Int×List Int)(p f t c:Int)(S:D)(b:Int):List D:=Ed v++[.int .i64 p,.int .i64 f,.int .i64 t,.int .i64 c,S,.int .i64 b]
def Fa(v:Int×List Int):Prop:=v.2.length=16
variable {v:Int×List Int}
theorem Jq(hv:Fa v):(Ed v).length=17:=by simp[Ed,show v.2.length=16 from hv]
section
variable {v:Int×List Int} (hv:Fa v) (lent:Bool) (p f t c:Int) (S:D) (b:Int)
include hv
theorem th:Dr (some ⟨false,1,EB v p f t c S b,lent⟩) 1 false 17=some (.int .i64 p):=I1 (A:=Ed v) rfl (Jq hv)
theorem IX:Dr (some ⟨false,1,EB v p f t c S b,lent⟩) 1 false 21=some S:=I1 (A:=Ed v++[.int .i64 p,.int .i64 f,.int .i64 t,.int .i64 c]) (by simp[EB]; rfl) (by simp[Jq hv])
theorem PM:Dr (some ⟨false,1,EB v p f t c S b,lent⟩) 1 false 22=some (.int .i64 b):=I1 (A:=Ed v++[.int .i64 p,.int .i64 f,.int .i64 t,.int .i64 c,S]) (C:=[]) (by simp[EB]) (by simp[Jq hv])
omit hv in
theorem ZR:Dr (some ⟨false,1,EB v p f t c S b,lent⟩) 1 false 0=some (.int .i64 v.1):=I1 (A:=[]) (C:=v.2.map nI++[.int .i64 p,.int .i64 f,.int .i64 t,.int .i64 c,S,.int .i64 b]) (by simp[EB,Ed]) rfl
theorem US(i:Nat)(h:i<16):Dr (some ⟨false,1,EB v p f t c S b,lent⟩) 1 false (1+i)=some (.int .i64 (Ei v.2 i)):=by
 have hi:i<v.2.length:=by rw[show v.2.length=16 from hv]; exact h
 have e:v.2=v.2.take i++(Ei v.2 i::v.2.drop (i+1)):=by
  rw[Ei,← WN v.2 hi,BA]
 refine I1 (A:=.int .i64 v.1::(v.2.take i).map nI) (C:=(v.2.drop (i+1)).map nI++[.int .i64 p,.int .i64 f,.int .i64 t,.int .i64 c,S,.int .i64 b]) ?_ (by simp; omega);have E:=congrArg (List.map nI) e;rw[Bv,Ax]at E;simp only[EB,Ed];rw[E];simp[nI]
theorem ir:Dr (some ⟨false,1,EB v p f t c S b,lent⟩) 5 true 17=some (.agg [.int .i64 p,.int .i64 f,.int .i64 t,.int .i64 c,S]):=LI (A:=Ed v) (B:=[.int .i64 p,.int .i64 f,.int .i64 t,.int .i64 c,S]) (C:=[.int .i64 b]) (by simp[EB]) (Jq hv) rfl
theorem Y3(p':Int):DZ (some ⟨false,1,EB v p f t c S b,false⟩) 1 17 (.int .i64 p')=some ⟨false,1,EB v p' f t c S b,false⟩:=Ks (A:=Ed v) (B:=[.int .i64 p]) (C:=[.int .i64 f,.int .i64 t,.int .i64 c,S,.int .i64 b]) (xs:=[.int .i64 p']) rfl rfl (Jq hv) rfl rfl rfl rfl
theorem Ys3(t':Int):DZ (some ⟨false,1,EB v p f t c S b,false⟩) 1 19 (.int .i64 t')=some ⟨false,1,EB v p f t' c S b,false⟩:=Ks (A:=Ed v++[.int .i64 p,.int .i64 f]) (B:=[.int .i64 t]) (C:=[.int .i64 c,S,.int .i64 b]) (xs:=[.int .i64 t']) (by simp[EB]) (by simp[EB]) (by simp[Jq hv]) rfl rfl rfl rfl
theorem Ys2(c':Int):DZ (some ⟨false,1,EB v p f t c S b,false⟩) 1 20 (.int .i64 c')=some ⟨false,1,EB v p f t c' S b,false⟩:=Ks (A:=Ed v++[.int .i64 p,.int .i64 f,.int .i64 t]) (B:=[.int .i64 c]) (C:=[S,.int .i64 b]) (xs:=[.int .i64 c']) (by simp[EB]) (by simp[EB]) (by simp[Jq hv]) rfl rfl rfl rfl
theorem Ymg(sz:Nat)(els:List D)(E:Bool):DZ (some ⟨false,1,EB v p f t c S b,false⟩) 1 21 (.slc sz els E)=some ⟨false,1,EB v p f t c (.slc sz els E) b,false⟩:=Ks (A:=Ed v++[.int .i64 p,.int .i64 f,.int .i64 t,.int .i64 c]) (B:=[S]) (C:=[.int .i64 b]) (xs:=[.slc sz els E]) (by simp[EB]) (by simp[EB]) (by simp[Jq hv]) rfl rfl rfl rfl
theorem Ymh(k to of E:Nat):DZ (some ⟨false,1,EB v p f t c S b,false⟩) 1 21 (.row k to of E)=some ⟨false,1,EB v p f t c (.row k to of E) b,false⟩:=Ks (A:=Ed v++[.int .i64 p,.int .i64 f,.int .i64 t,.int .i64 c]) (B:=[S]) (C:=[.int .i64 b]) (xs:=[.row k to of E]) (by simp[EB]) (by simp[EB]) (by simp[Jq hv]) rfl rfl rfl rfl
end
variable {S:D}{b b' c' f f' p p' t t':Int}{v':Int×List Int}
theorem oW(hv:Fa v)(E:Fa v'){c:Int}{I:D}(h:EB v p f t c S b=EB v' p' f' t' c' I b'):v=v'∧p=p'∧f=f'∧t=t'∧c=c'∧S=I∧b=b':=by
 unfold EB at h;obtain⟨M,J⟩:=A2 h ((Jq hv).trans (Jq E).symm);simp only[Aa,D.int.injEq,true_and,and_true]at J;refine⟨?_,J⟩;have:Ew v=Ew v':=by rw[Ew,Ew,M]
 exact KO.1 this
def Dv(st:St)(key:Nat)(C:List D):St:=st.set key ⟨false,1,C,false⟩
theorem bl(st:St)(key:Nat)(C:List D):(Dv st key C).length=st.length:=B7
variable {key:Nat}
theorem LK(h:key<st.length)(C:List D):(Dv st key C)[key]?=some ⟨false,1,C,false⟩:=by simp[Dv,h]
theorem Ij(st:St)(key:Nat)(C:List D):List.set st key (⟨false,1,C,false⟩:PI.Obj)=Dv st key C:=(rfl)
theorem KU(st:St)(key:Nat)(C E:List D):Dv (Dv st key C) key E=Dv st key E:=by simp[Dv]
theorem HA(h:key<st.length)(m:St)(C:List D):Dv (st++m) key C=Dv st key C++m:=by
 unfold Dv; exact BO _ _ h
theorem HK(h:key<st.length)(m:St):(st++m)[key]?=st[key]?:=Au h
theorem OY(h:key<st.length)(C:List D)(m:St):(Dv st key C++m)[key]?=some ⟨false,1,C,false⟩:=by
 rw[HK (by rw[bl]; exact h),LK h]
theorem Mx(h:key<st.length)(m:St)(C E:List D):Dv (Dv st key C++m) key E=Dv st key E++m:=by
 rw[HA (by rw[bl]; exact h),KU]
theorem Ls(st:St)(o:PI.Obj):(st++[o]).length=st.length+1:=by simp
def GY(st:St)(key:Nat)(v:Int×List Int)(p f t c:Int)(S:D)(b:Int):Prop:=st[key]?=some ⟨false,1,EB v p f t c S b,false⟩
theorem Lw{c:Int}(h:GY st key v p f t c S b):key<st.length:=(Ac.1 h).1
theorem Pe{c:Int}(h:GY st key v p f t c S b)(m:St):GY (st++m) key v p f t c S b:=by
 unfold GY; rw[HK (Lw h)]; exact h
theorem aW{c:Int}{I:D}(hv:Fa v)(J:Fa v')(h:GY st key v p f t c S b)(E:GY st key v' p' f' t' c' I b'):v=v'∧p=p'∧f=f'∧t=t'∧c=c'∧S=I∧b=b':=by
 unfold GY at h E;rw[h]at E;simp only[C4,PI.Obj.mk.injEq,true_and,and_true]at E;exact oW hv J E
theorem Dz(st:St)(key off:Nat):hU st (.ptr key off)=some (.ptr key off):=(rfl)
def Ns(l:List Int)(i:Nat):Int:=Ei l (l.length - 1 - i)
def KX(ds:List D)(os:List (Option (Bool×Nat×List D)))(d:D):Prop:=∃ (key:Nat) (v:Int×List Int) (p f t c:Int) (l:List Int) (b:Int) (i:Nat),Fa v∧i<l.length∧l.length≤4294967296∧ds=[.ptr key 0,.int .i64 (i:Int)]∧os=[some (false,1,EB v p f t c (Eo l) b)]∧d=.int .i64 (Ns l i)
noncomputable def KH:List D→List (Option (Bool×Nat×List D))→Option D:=fun ds os=>@dite _ (∃ d,KX ds os d) (Classical.propDecidable _) (fun h=>some h.choose) (fun _=>none)
variable {d:D}{os:List (Option (Bool×Nat×List D))}{ds:List D}
theorem Yd3{E:D}(h:KX ds os d)(N:KX ds os E):d=E:=by
 obtain⟨key,v,p,f,t,c,l,b,i,hv,_,_,rfl,rfl,rfl⟩:=h;obtain⟨O,v',p',f',t',c',V,b',Y,I,_,_,J,M,rfl⟩:=N;simp only[Aa,D.int.injEq,true_and,and_true,Int.ofNat_inj,C4,Dl]at J M;obtain⟨_,rfl⟩:=J;obtain⟨_,_,_,_,_,U,_⟩:=oW hv I M;rw[QM.1 U]
theorem yK(h:KX ds os d):KH ds os=some d:=by
 have E:∃ d,KX ds os d:=⟨d,h⟩;unfold KH;rw[dif_pos E,Yd3 E.choose_spec h]
theorem yRw(h:KH ds os=some d):KX ds os d:=by
 unfold KH at h
 split at h
 ·rename_i E;simp only[C4]at h;rw[← h]; exact E.choose_spec
 ·cases h
variable {l:List Int}
theorem V7{c:Int}(hv:Fa v)(h:GY st key v p f t c (Eo l) b)(i:Nat)(hi:i<l.length)(hl:l.length≤4294967296):Ie KH [.ptr key 0,.int .i64 (i:Int)] st=some (.int .i64 (Ns l i)):=by
 unfold Ie;have e:([D.ptr key 0,.int .i64 (i:Int)]).flatMap hk=[key]:=rfl;unfold GY at h;rw[e];simp only[A3,CA,BY,h,B0,if_true,GK,Ag,PI.Obj.see];exact yK ⟨key,v,p,f,t,c,l,b,i,hv,hi,hl,rfl,rfl,rfl⟩
theorem Yes{r:Bool×Nat×List D}(h:GK st [key]=[some r]):∃ lent,st[key]?=some ⟨r.1,r.2.1,r.2.2,lent⟩:=by
 simp only[GK,Aa,and_true]at h
 cases hk:st[key]? with
 |none=>simp[hk]at h
 |some o=>
  rw[hk]at h;simp only[Ag,C4,PI.Obj.see]at h;subst h;exact⟨o.lent,rfl⟩
set_option maxHeartbeats 4000000 in
set_option maxRecDepth 20000 in
theorem iL:IContract Tryz.prog GG 197 (fun ds st=>(Ie KH ds st).map (·,st)):=by
 refine IS (T:=tb [] []) vo (DC all_nil all_nil) ?_;intro ds st r I;simp only[Dw]at I;obtain⟨d,E,rfl⟩:=I;unfold Ie at E
 split at E
 case isFalse=>cases E
 obtain⟨key,v,p,f,t,c,l,b,i,hv,hi,hl,rfl,J,rfl⟩:=yRw E;obtain⟨lent,hk⟩:=Yes J;dsimp only at hk
 have M:F2 st 1 (Eo l) (.int .i64 ((l.length:Int) - 1 - (i:Int)))=some (.eptr (nI (Ns l i)) 0):=by
  have:=YJ st l false (l.length - 1 - i) (by omega);rw[show((l.length - 1 - i:Nat):Int)=(l.length:Int) - 1 - (i:Int) by omega]at this;exact this
 have hle:Ec st false (Eo l)=some (.int .i64 (l.length:Int)):=by simp[Ec,HG,Eo,Ev]
 unfold j1;simp (disch:=first|omega|decide) only[push_cast,↓reduceIte,CB,CC,Dz,hk,IX hv,hle,Fc,M,YT]
def KG:Option Int→D
 |none=>.slc 0 [] true
 |some a=>.slc 1 [.int .i64 a] true
def Jz(n:Nat)(l:List Int)(k:Nat):Option Int→D
 |none=>.slc (nz 1 (l.map nI)) ((l.take (l.length - k)).map nI) true
 |some _=>.row n (l.length - k+1) 0 (l.length - k+1)
def HM(l:List Int)(k:Nat):Option Int→St
 |none=>[]
 |some a=>[⟨true,1,(l.take (l.length - k)++[a]).map nI,false⟩]
def UA(ds:List D)(st:St)(r:D×St):Prop:=∃ (key:Nat) (v:Int×List Int) (p f t c:Int) (l:List Int) (b:Int) (k:Nat) (push:Option Int),Fa v∧GY st key v p f t c (Eo l) b∧k≤l.length∧l.length≤100000∧-1000000≤p∧p≤1000000∧
 ds=[.ptr key 0,.int .i64 (k:Int),KG push]∧r=(.int .i64 0,Dv st key (EB v (p+1) f t c (Jz st.length l k push) b)++HM l k push)
noncomputable def NT:List D→St→Option (D×St):=E1 UA
theorem xE{a b:Option Int}(h:KG a=KG b):a=b:=by
 cases a <;> cases b <;> simp_all [KG]
theorem Ynb:Hv UA:=by
 rintro ds st r U ⟨key,v,p,f,t,c,l,b,k,push,hv,hm,_,_,_,_,rfl,rfl⟩ ⟨M,v',p',f',t',c',V,b',k',J,E,I,_,_,_,_,h,rfl⟩;simp only[Aa,D.ptr.injEq,D.int.injEq,true_and,and_true,Int.ofNat_inj]at h;obtain⟨rfl,rfl,N⟩:=h;obtain rfl:=xE N;obtain⟨rfl,rfl,rfl,rfl,rfl,O,rfl⟩:=aW hv E hm I;rw[QM.1 O]
theorem Yin{c:Int}(hv:Fa v)(hm:GY st key v p f t c (Eo l) b)(k:Nat)(E:Option Int)(hk:k≤l.length)(hl:l.length≤100000)(I:-1000000≤p)(J:p≤1000000) :
  NT [.ptr key 0,.int .i64 (k:Int),KG E] st=some (.int .i64 0,Dv st key (EB v (p+1) f t c (Jz st.length l k E) b)++HM l k E):=
 KK Ynb ⟨key,v,p,f,t,c,l,b,k,E,hv,hm,hk,hl,I,J,rfl,rfl⟩
set_option maxHeartbeats 4000000 in
set_option maxRecDepth 20000 in
theorem Th:IContract Tryz.prog GG 195 NT:=by
 refine IS (T:=tb [] []) vn (DC all_nil all_nil) ?_;intro ds st r N;obtain⟨key,v,p,f,t,c,l,b,k,push,hv,hm,hk,hl,O,U,rfl,rfl⟩:=Iw N;have E:=Lw hm;unfold GY at hm;have hle:Ec st false (Eo l)=some (.int .i64 (l.length:Int)):=by simp[Ec,HG,Eo,Ev]
 have J:Gp st 1 (Eo l) none (some (.int .i64 ((l.length:Int) - (k:Int)))) (some (.int .i64 ((l.length:Int) - (k:Int))))=some (.slc (nz 1 (l.map nI)) ((l.take (l.length - k)).map nI) true):=by
  have:=Ytf st l false (k:=l.length - k) (by omega);rwa [show((l.length - k:Nat):Int)=(l.length:Int) - (k:Int) by omega]at this
 have M:(l.take (l.length - k)).length=l.length - k:=by rw[AQ]; omega
 unfold j0
 cases push with
 |none=>
  have I:Ea st 1 8 (.slc (nz 1 (l.map nI)) ((l.take (l.length - k)).map nI) true) (.slc 0 [] true)=some (.slc (nz 1 (l.map nI)) ((l.take (l.length - k)).map nI) true,st):=oK st 1 8 _ 0 _ true (by decide);simp (disch:=first|omega|decide) only[push_cast,↓reduceIte,CB,CC,KG,Dz,hm,IX hv,th hv,hle,Fc,J,I,Ymg hv,Y3 hv,Ij,LK E,KU,DI,Jz,HM]
 |some a=>
  have I:Ea st 1 8 (.slc (nz 1 (l.map nI)) ((l.take (l.length - k)).map nI) true) (.slc 1 [.int .i64 a] true)=some (.row st.length (l.length - k+1) 0 (l.length - k+1),st++[⟨true,1,(l.take (l.length - k)++[a]).map nI,false⟩]):=by
   have:=mX st 1 8 (nz 1 (l.map nI)) ((l.take (l.length - k)).map nI) (.slc 1 [.int .i64 a] true) [.int .i64 a] 1 rfl (.inl rfl) (by
    cases l with
    |nil=>right; simp
    |cons x r=>left; rfl) (by decide) (by simp) (by simp[M]; omega) (by simp[M]; omega)
   rw[this];simp[nI]
  simp (disch:=first|omega|decide) only[push_cast,↓reduceIte,CB,CC,KG,Dz,hm,IX hv,th hv,hle,Fc,J,I,HK E,Ymh hv,Y3 hv,Ij,HA E,OY E,Mx E,DI,Jz,HM]
def DS(op a b:Int):Int×Int:=
 if op=3 then Hs a b else if op=4 then Hj a b else if op=5 then Hm a b else if op=6 then(min a b,0)else if op=7 then(max a b,0)else
 if op=8 then Eh a b 8 else if op=9 then Eh a b 9 else if op=10 then Eh a b 10 else if op=11 then(if a<b then 1 else 0,0)else(0,0)
noncomputable def Wj:List D→Option D:=De (α:=Bool) (fun a=>[.bool a]) (fun a=>True) (fun a=>.int .i64 (if a=true then 1 else 0))
theorem pG(x:Bool):Wj [.bool x]=some (.int .i64 (if x=true then 1 else 0)):=
 DX (fun a b h=>by simp only[Aa,D.bool.injEq,and_true]at h; simp[h]) (x) trivial
theorem Yla(x:Bool):@wW GG (tb [] []) Xp.code (C5 [.bool x]) [] ⟨Dg Xp.res (.int .i64 (if x=true then 1 else 0))⟩:=by
 unfold Xp;cases x <;> simp (disch:=first|omega|decide) only[push_cast,↓reduceIte,CB]
theorem tU:Contract Tryz.prog GG 196 Wj:=
 Eb yHm (DC all_nil all_nil) (fun a h=>Yla a)
noncomputable def Zw:List D→Option D:=De (α:=Int×Int) (fun a=>[.int .i64 a.1,.int .i64 a.2]) (fun a=>True) (fun a=>.tup [.int .i64 (min a.1 a.2),.int .i64 0])
theorem Yb6(a:Int)(b:Int):Zw [.int .i64 a,.int .i64 b]=some (.tup [.int .i64 (min a b),.int .i64 0]):=
 DX (fun⟨a0,a1⟩ ⟨b0,b1⟩ h=>by simp only[Aa,D.int.injEq,true_and,and_true]at h; simp[h]) (a,b) trivial
theorem Ysl(a:Int)(b:Int):@wW GG (tb [] []) Ye.code (C5 [.int .i64 a,.int .i64 b]) [] ⟨Dg Ye.res (.tup [.int .i64 (min a b),.int .i64 0])⟩:=by
 unfold Ye;simp (disch:=first|omega|decide) only[push_cast,↓reduceIte,CB]
theorem Yw1:Contract Tryz.prog GG 234 Zw:=
 Eb uU (DC all_nil all_nil) (fun a h=>Ysl a.1 a.2)
noncomputable def Zx:List D→Option D:=De (α:=Int×Int) (fun a=>[.int .i64 a.1,.int .i64 a.2]) (fun a=>True) (fun a=>.tup [.int .i64 (max a.1 a.2),.int .i64 0])
theorem Yb5(a:Int)(b:Int):Zx [.int .i64 a,.int .i64 b]=some (.tup [.int .i64 (max a b),.int .i64 0]):=
 DX (fun⟨a0,a1⟩ ⟨b0,b1⟩ h=>by simp only[Aa,D.int.injEq,true_and,and_true]at h; simp[h]) (a,b) trivial
theorem Ysk(a:Int)(b:Int):@wW GG (tb [] []) Yf.code (C5 [.int .i64 a,.int .i64 b]) [] ⟨Dg Yf.res (.tup [.int .i64 (max a b),.int .i64 0])⟩:=by
 unfold Yf;simp (disch:=first|omega|decide) only[push_cast,↓reduceIte,CB]
theorem Yw0:Contract Tryz.prog GG 235 Zx:=
 Eb uV (DC all_nil all_nil) (fun a h=>Ysk a.1 a.2)
noncomputable def Zy:List D→Option D:=De (α:=Int×Int) (fun a=>[.int .i64 a.1,.int .i64 a.2]) (fun a=>True) (fun a=>.tup [.int .i64 (Eh a.1 a.2 8).1,.int .i64 (Eh a.1 a.2 8).2])
theorem Yb4(a:Int)(b:Int):Zy [.int .i64 a,.int .i64 b]=some (.tup [.int .i64 (Eh a b 8).1,.int .i64 (Eh a b 8).2]):=
 DX (fun⟨a0,a1⟩ ⟨b0,b1⟩ h=>by simp only[Aa,D.int.injEq,true_and,and_true]at h; simp[h]) (a,b) trivial
theorem Ysj(a:Int)(b:Int):@wW GG (tb [(237,R4)] []) Yg.code (C5 [.int .i64 a,.int .i64 b]) [] ⟨Dg Yg.res (.tup [.int .i64 (Eh a b 8).1,.int .i64 (Eh a b 8).2])⟩:=by
 unfold Yg;simp (disch:=first|omega|decide) only[push_cast,↓reduceIte,CB,aI a b 8 (.inl rfl)]
theorem Ywz:Contract Tryz.prog GG 236 Zy:=
 Eb uW (DC (all_cons dk all_nil) all_nil) (fun a h=>Ysj a.1 a.2)
noncomputable def Zz:List D→Option D:=De (α:=Int×Int) (fun a=>[.int .i64 a.1,.int .i64 a.2]) (fun a=>True) (fun a=>.tup [.int .i64 (Eh a.1 a.2 9).1,.int .i64 (Eh a.1 a.2 9).2])
theorem Yb3(a:Int)(b:Int):Zz [.int .i64 a,.int .i64 b]=some (.tup [.int .i64 (Eh a b 9).1,.int .i64 (Eh a b 9).2]):=
 DX (fun⟨a0,a1⟩ ⟨b0,b1⟩ h=>by simp only[Aa,D.int.injEq,true_and,and_true]at h; simp[h]) (a,b) trivial
theorem Ysi(a:Int)(b:Int):@wW GG (tb [(237,R4)] []) Yh.code (C5 [.int .i64 a,.int .i64 b]) [] ⟨Dg Yh.res (.tup [.int .i64 (Eh a b 9).1,.int .i64 (Eh a b 9).2])⟩:=by
 unfold Yh;simp (disch:=first|omega|decide) only[push_cast,↓reduceIte,CB,aI a b 9 (.inr (.inl rfl))]
theorem Ywy:Contract Tryz.prog GG 238 Zz:=
 Eb uX (DC (all_cons dk all_nil) all_nil) (fun a h=>Ysi a.1 a.2)
noncomputable def ZA:List D→Option D:=De (α:=Int×Int) (fun a=>[.int .i64 a.1,.int .i64 a.2]) (fun a=>True) (fun a=>.tup [.int .i64 (Eh a.1 a.2 10).1,.int .i64 (Eh a.1 a.2 10).2])
theorem Yb2(a:Int)(b:Int):ZA [.int .i64 a,.int .i64 b]=some (.tup [.int .i64 (Eh a b 10).1,.int .i64 (Eh a b 10).2]):=
 DX (fun⟨a0,a1⟩ ⟨b0,b1⟩ h=>by simp only[Aa,D.int.injEq,true_and,and_true]at h; simp[h]) (a,b) trivial
theorem Ysh(a:Int)(b:Int):@wW GG (tb [(237,R4)] []) Yi.code (C5 [.int .i64 a,.int .i64 b]) [] ⟨Dg Yi.res (.tup [.int .i64 (Eh a b 10).1,.int .i64 (Eh a b 10).2])⟩:=by
 unfold Yi;simp (disch:=first|omega|decide) only[push_cast,↓reduceIte,CB,aI a b 10 (.inr (.inr rfl))]
theorem Ywx:Contract Tryz.prog GG 239 ZA:=
 Eb uY (DC (all_cons dk all_nil) all_nil) (fun a h=>Ysh a.1 a.2)
noncomputable def ZB:List D→Option D:=De (α:=Int×Int) (fun a=>[.int .i64 a.1,.int .i64 a.2]) (fun a=>True) (fun a=>.tup [.int .i64 (if a.1<a.2 then 1 else 0),.int .i64 0])
theorem Yb1(a:Int)(b:Int):ZB [.int .i64 a,.int .i64 b]=some (.tup [.int .i64 (if a<b then 1 else 0),.int .i64 0]):=
 DX (fun⟨a0,a1⟩ ⟨b0,b1⟩ h=>by simp only[Aa,D.int.injEq,true_and,and_true]at h; simp[h]) (a,b) trivial
theorem Ysg(a:Int)(b:Int):@wW GG (tb [(196,Wj)] []) Yj.code (C5 [.int .i64 a,.int .i64 b]) [] ⟨Dg Yj.res (.tup [.int .i64 (if a<b then 1 else 0),.int .i64 0])⟩:=by
 unfold Yj;have hc:=pG (decide (a<b))
 by_cases h:a<b
 ·rw[decide_eq_true h]at hc;simp (disch:=first|omega|decide) only[push_cast,↓reduceIte,CB,h,hc]
 ·rw[decide_eq_false h]at hc;simp (disch:=first|omega|decide) only[push_cast,↓reduceIte,CB,h,hc]
theorem Yww:Contract Tryz.prog GG 240 ZB:=
 Eb uZ (DC (all_cons tU all_nil) all_nil) (fun a h=>Ysg a.1 a.2)
theorem Ng{sp:List D→Option D}{x y:Int}(h:sp [.int .i64 a,.int .i64 b]=some (.tup [.int .i64 x,.int .i64 y]))(st:St):Ic sp [.int .i64 a,.int .i64 b] st=some (.tup [.int .i64 x,.int .i64 y],st):=by
 have E:D1 st [.int .i64 a,.int .i64 b]=some [.int .i64 a,.int .i64 b]:=(rfl);simp only[Ic,E,h];rfl
def IV(op:Int):Int:=if op=12∨op=13∨op=15 then 1 else if 3≤op∧op≤11 then 2 else 0
theorem Yvz(op:Int)(h:3≤op∧op≤11):∃ f,Fy op EW=some f:=by
 obtain⟨E,I⟩:=h;have:op=3∨op=4∨op=5∨op=6∨op=7∨op=8∨op=9∨op=10∨op=11:=by omega
 rcases this with rfl | rfl | rfl | rfl | rfl | rfl | rfl | rfl | rfl <;> exact⟨_,rfl⟩
theorem Ypn(op:Int)(h:¬ (3≤op∧op≤11)):Fy op EW=none:=by
 simp only[EW,Fy];rw[if_neg (by omega),if_neg (by omega),if_neg (by omega),if_neg (by omega),if_neg (by omega),if_neg (by omega),if_neg (by omega),if_neg (by omega),if_neg (by omega)]
theorem eO(st:St)(op:Int)(ok:Bool)(E:D):IM st 0 [] ok E (.gmap EW) (.int .i64 op)=some (match Fy op EW with
  |some f=>if ok then .tup [.agg [.clo f []],.bool true]else .agg [.clo f []]
  |none=>if ok then .tup [E,.bool false]else E):=(rfl)
theorem tl:Dy (.agg [.nilf])=some [.nilf]:=(rfl)
theorem Uj(f:Nat):DZ (some ⟨false,1,[.nilf],false⟩) 1 0 (.agg [.clo f []])=some ⟨false,1,[.clo f []],false⟩:=(rfl)
theorem Ui:DZ (some ⟨false,1,[.nilf],false⟩) 1 0 (.agg [.nilf])=some ⟨false,1,[.nilf],false⟩:=(rfl)
theorem Js(st:St):EO st 1 false (.eptr (.gmap EW) 0)=some (.gmap EW):=(rfl)
noncomputable def Wh:List D→Option D:=De (α:=Int) (fun a=>[.int .i64 a]) (fun a=>True) (fun a=>.int .i64 (IV a))
theorem pE(op:Int):Wh [.int .i64 op]=some (.int .i64 (IV op)):=
 DX (fun a b h=>by simp only[Aa,D.int.injEq,true_and,and_true]at h; simp[h]) (op) trivial
theorem Yle(op:Int):@wW GG (tb [] []) Xn.code (C5 [.int .i64 op]) [] ⟨Dg Xn.res (.int .i64 (IV op))⟩:=by
 unfold Xn IV
 by_cases E:op=12
 ·subst E; simp (disch:=first|omega|decide) only[push_cast,↓reduceIte,CB,true_or]
 ·by_cases J:op=13
  ·subst J; simp (disch:=first|omega|decide) only[push_cast,↓reduceIte,CB,E,true_or,or_true]
  ·by_cases N:op=15
   ·subst N; simp (disch:=first|omega|decide) only[push_cast,↓reduceIte,CB,E,J,or_true]
   ·have hn:¬ (op=12∨op=13∨op=15):=by omega
    rw[if_neg hn]
    by_cases M:3≤op∧op≤11
    ·obtain⟨f,hf⟩:=Yvz op M;have I:=eO [] op true (.agg [.nilf]);rw[hf]at I;simp (disch:=first|omega|decide) only[push_cast,↓reduceIte,CB,E,J,N,M,Jh _ _ _ _ F0,Js,I,tl,Uj]
    ·have hf:=Ypn op M;have I:=eO [] op true (.agg [.nilf]);rw[hf]at I;simp (disch:=first|omega|decide) only[push_cast,↓reduceIte,CB,E,J,N,M,Jh _ _ _ _ F0,Js,I,tl,Ui]
theorem tR:Contract Tryz.prog GG 109 Wh:=
 Eb yHo (DC all_nil all_nil) (fun a h=>Yle a)
inductive Out where
 |err (e:Int)
 |pop (k:Nat) (push:Option Int) (pc:Option Int)
 |set (p t c:Int)
def NM(a b:Int):Int:=IntKind.wrap .i64 ((CJ 64 a &&& CJ 64 b).toNat:Int)
def La(n:Int):Int:=IntKind.wrap .i64 (1*2 ^ (min n.toNat 64))
def C8(s:Sta)(i:Nat):Int:=Ns s.stack i
def DH(v:Int×List Int)(b:Int)(s:Sta)(x:Ins):Out:=
 if x.op=1 then(if 64≤b+s.stack.length then .err 200 else .pop 0 (some x.n) none)
 else if x.op=2 then(if 64≤b+s.stack.length then .err 200 else if NM v.1 (La x.n)=0 then .err 181 else if Ei v.2 x.n.toNat < -9007199254740992∨9007199254740992<Ei v.2 x.n.toNat then .err 3 else .pop 0 (some (Ei v.2 x.n.toNat)) none)
 else if x.op=12 then .pop 1 (some (if x.n≤C8 s 0∧C8 s 0≤x.m then 1 else 0)) none
 else if x.op=13 then .pop 1 none (if C8 s 0=0 then some x.n else none)
 else if x.op=14 then .set x.n s.status s.clause
 else if x.op=15 then .set s.pc 1 x.n
 else if x.op=16 then .err 180
 else if(DS x.op (C8 s 1) (C8 s 0)).2=0 then .pop 2 (some (DS x.op (C8 s 1) (C8 s 0)).1) none else .err (DS x.op (C8 s 1) (C8 s 0)).2
def DT(st:St)(key:Nat)(v:Int×List Int)(b:Int)(s:Sta)(x:Ins):Out→D×St
 |.err e=>(.int .i64 e,st++[⟨false,1,DA x,false⟩])
 |.pop k push pc=>(.int .i64 0,Dv st key (EB v (pc.getD (s.pc+1)) s.fuel s.status s.clause (Jz (st.length+1) s.stack k push) b)++[⟨false,1,DA x,false⟩]++HM s.stack k push)
 |.set p t c=>(.int .i64 0,Dv st key (EB v p s.fuel t c (Eo s.stack) b)++[⟨false,1,DA x,false⟩])
structure mOK (v:Int×List Int) (b:Int) (s:Sta) (x:Ins):Prop where
 v:Fa v
 b0:0≤b
 b1:b≤64
 l:s.stack.length≤64
 p0:0≤s.pc
 p1:s.pc≤100000
 f:F8 x=true
 n:IV x.op≤s.stack.length
def UM(P:Int→Prop)(ds:List D)(st:St)(r:D×St):Prop:=∃ (key:Nat) (v:Int×List Int) (b:Int) (s:Sta) (x:Ins),mOK v b s x∧P x.op∧GY st key v s.pc s.fuel s.status s.clause (Eo s.stack) b∧ds=[.ptr key 0,C0 x]∧r=DT st key v b s x (DH v b s x)
noncomputable def Jk(P:Int→Prop):List D→St→Option (D×St):=E1 (UM P)
theorem Ynr(P:Int→Prop):Hv (UM P):=by
 rintro ds st r r' ⟨key,v,b,s,x,hm,_,hk,rfl,rfl⟩ ⟨V,v',b',s',x',E,_,I,h,rfl⟩;simp only[Aa,D.ptr.injEq,and_true,QG]at h;obtain⟨rfl,rfl⟩:=h;obtain⟨rfl,J,M,N,O,Y,rfl⟩:=aW hm.v E.v hk I;have U:=QM.1 Y;obtain⟨a1,a2,a3,a4,a5⟩:=s;obtain⟨b1,b2,b3,b4,b5⟩:=s';dsimp only at J M N O U;subst J; subst M; subst N; subst O; subst U;rfl
variable {x:Ins}{s:Sta}
theorem Yio{P:Int→Prop}(hm:mOK v b s x)(E:P x.op)(hk:GY st key v s.pc s.fuel s.status s.clause (Eo s.stack) b):Jk P [.ptr key 0,C0 x] st=some (DT st key v b s x (DH v b s x)):=
 KK (Ynr P) ⟨key,v,b,s,x,hm,E,hk,rfl,rfl⟩
theorem Yhv(h:F8 x=true):0≤x.n∧x.n≤9007199254740992∧(x.op=2→x.n<16):=by
 have:=of_decide_eq_true h;obtain⟨J,M,N,O,U,E⟩:=this;have hm:(Jd x.op).2≤9007199254740992:=by rcases qN x.op with e | e | e | e <;> rw[e] <;> decide
 refine⟨by omega,by omega,fun I=>?_⟩;have:Jd x.op=(1,15):=by rw[I]; rfl
 rw[this]at E;dsimp only at E;omega
theorem Yag(h:F8 x=true):1≤x.op∧x.op≤16:=⟨(of_decide_eq_true h).1,(of_decide_eq_true h).2.1⟩
theorem Zh(a b:Int):Df .and (.int .i64 a) (.int .i64 b)=some (.int .i64 (NM a b)):=(rfl)
theorem Tb{n:Int}(h:0≤n):Df .shl (.int .i64 1) (.int .i64 n)=some (.int .i64 (La n)):=by
 simp only[Df,Ll,show ¬ n<0 by omega,if_false,Ag,La];rfl
theorem Hz(st:St)(l:List Int):Ec st false (Eo l)=some (.int .i64 (l.length:Int)):=by simp[Ec,HG,Eo,Ev]
theorem Sk{c:Int}(hv:Fa v)(hm:GY st key v p f t c (Eo l) b)(x:Ins)(k:Nat)(I:Int)(J:I=(k:Int))(E:Option Int)(hk:k≤l.length)(hl:l.length≤64)(M:0≤p)(N:p≤100000) :
  NT [.ptr key 0,.int .i64 I,KG E] (st++[⟨false,1,DA x,false⟩])=some (.int .i64 0,Dv st key (EB v (p+1) f t c (Jz (st.length+1) l k E) b)++[⟨false,1,DA x,false⟩]++HM l k E):=by
 subst J;have:=Yin hv (Pe hm [⟨false,1,DA x,false⟩]) k E hk (by omega) (by omega) (by omega);rwa [HA (Lw hm),Ls]at this
theorem Yqf:IContract Tryz.prog GG 177 (Jk (·=1)):=by
 refine IS (T:=tb [] [(195,NT)]) vE (DC all_nil (all_cons Th all_nil)) ?_;intro ds st r V;obtain⟨key,v,b,s,x,hm,J,hk,rfl,rfl⟩:=Iw V;obtain⟨hv,Y,aa,hl,O,U,hf,hn⟩:=hm;have M:=Lw hk;have N:=Sk hv hk x 0 0 rfl (some x.n) (Bd _) hl O U;simp only[KG]at N;have E:=hk;unfold GY at E;unfold j9
 by_cases I:64≤b+(s.stack.length:Int)
 ·rw[show DH v b s x=.err 200 by unfold DH; rw[if_pos J,if_pos I]];simp (disch:=first|omega|decide) only[push_cast,↓reduceIte,CB,CC,EZ,Dz,HK M,E,PM hv,IX hv,Hz,DI,I,DT]
 ·rw[show DH v b s x=.pop 0 (some x.n) none by unfold DH; rw[if_pos J,if_neg I]];simp (disch:=first|omega|decide) only[push_cast,↓reduceIte,CB,CC,EZ,Dz,HK M,E,PM hv,IX hv,Hz,DI,I,E5,Kt,Fu,N,DT,AU]
theorem Yqh:IContract Tryz.prog GG 178 (Jk (·=2)):=by
 refine IS (T:=tb [] [(195,NT)]) vu (DC all_nil (all_cons Th all_nil)) ?_;intro ds st r hr;obtain⟨key,v,b,s,x,hm,I,hk,rfl,rfl⟩:=Iw hr;obtain⟨hv,ah,a0,hl,ad,ae,hf,hn⟩:=hm;have M:=Lw hk;have J:=hk;unfold GY at J;obtain⟨O,_,U⟩:=Yhv hf;have U:=U I;have a1:v.2.length=16:=hv;have V:=fun lent=>US hv lent s.pc s.fuel s.status s.clause (Eo s.stack) b x.n.toNat (by omega);have ab:=Sk hv hk x 0 0 rfl (some (Ei v.2 x.n.toNat)) (Bd _) hl ad ae;simp only[KG]at ab;have Y:¬ x.op=1:=by omega
 unfold j7
 by_cases E:64≤b+(s.stack.length:Int)
 ·rw[show DH v b s x=.err 200 by unfold DH; rw[if_neg Y,if_pos I,if_pos E]];simp (disch:=first|omega|decide) only[push_cast,↓reduceIte,CB,CC,CD,EZ,Dz,HK M,J,PM hv,IX hv,Hz,DI,DT,E]
 ·by_cases N:NM v.1 (La x.n)=0
  ·rw[show DH v b s x=.err 181 by unfold DH; rw[if_neg Y,if_pos I,if_neg E,if_pos N]];simp (disch:=first|omega|decide) only[push_cast,↓reduceIte,CB,CC,CD,EZ,Dz,HK M,J,PM hv,IX hv,ZR,Hz,DI,E5,Kt,DT,E,Tb O,Zh,N]
  ·by_cases h3:Ei v.2 x.n.toNat < -9007199254740992
   ·rw[show DH v b s x=.err 3 by unfold DH; rw[if_neg Y,if_pos I,if_neg E,if_neg N,if_pos (.inl h3)]];simp (disch:=first|omega|decide) only[push_cast,↓reduceIte,CB,CC,CD,EZ,Dz,HK M,J,PM hv,IX hv,ZR,Hz,DI,E5,Kt,DT,E,Tb O,Zh,N,N5,V,h3]
   ·by_cases h4:9007199254740992<Ei v.2 x.n.toNat
    ·rw[show DH v b s x=.err 3 by unfold DH; rw[if_neg Y,if_pos I,if_neg E,if_neg N,if_pos (.inr h4)]];simp (disch:=first|omega|decide) only[push_cast,↓reduceIte,CB,CC,CD,EZ,Dz,HK M,J,PM hv,IX hv,ZR,Hz,DI,E5,Kt,DT,E,Tb O,Zh,N,N5,V,h3,h4]
    ·rw[show DH v b s x=.pop 0 (some (Ei v.2 x.n.toNat)) none by unfold DH; rw[if_neg Y,if_pos I,if_neg E,if_neg N,if_neg (by omega)]];simp (disch:=first|omega|decide) only[push_cast,↓reduceIte,CB,CC,CD,EZ,Dz,HK M,J,PM hv,IX hv,ZR,Hz,DI,E5,Kt,Fu,DT,AU,E,Tb O,Zh,N,N5,V,h3,h4,ab]
theorem za:IContract Tryz.prog GG 179 (Jk (·=12)):=by
 refine IS (T:=PQ [(196,Wj)] [(195,NT)] [(197,KH)]) vO (cI (all_cons tU all_nil) (all_cons Th all_nil) (all_cons iL all_nil)) ?_;intro ds st r Y;obtain⟨key,v,b,s,x,hm,M,hk,rfl,rfl⟩:=Iw Y;obtain⟨hv,aa,ab,hl,O,U,hf,hn⟩:=hm;have ac:=Lw hk;have V:=hk;unfold GY at V;have ad:IV x.op=1:=by rw[M]; rfl
 have N:Ie KH [.ptr key 0,.int .i64 0] (st++[⟨false,1,DA x,false⟩])=some (.int .i64 (C8 s 0)):=V7 hv (Pe hk _) 0 (by omega) (by omega);have E:=Sk hv hk x 1 1 rfl (some (if x.n≤C8 s 0∧C8 s 0≤x.m then 1 else 0)) (by omega) hl O U;simp only[KG]at E;rw[show DH v b s x=.pop 1 (some (if x.n≤C8 s 0∧C8 s 0≤x.m then 1 else 0)) none by unfold DH; rw[if_neg (by omega),if_neg (by omega),if_pos M]];have hc:=pG (decide (x.n≤C8 s 0∧C8 s 0≤x.m));simp only[decide_eq_true_eq]at hc;unfold kB
 by_cases I:x.n≤C8 s 0
 ·by_cases J:C8 s 0≤x.m
  ·have hw:(if x.n≤C8 s 0∧C8 s 0≤x.m then(1:Int)else 0)=1:=if_pos ⟨I,J⟩;rw[hw]at E ⊢;rw[decide_eq_true ⟨I,J⟩]at hc;simp (disch:=first|omega|decide) only[push_cast,↓reduceIte,CB,EZ,E5,Kt,cX,Fu,DT,AU,I,J,N,hc,E]
  ·have hw:(if x.n≤C8 s 0∧C8 s 0≤x.m then(1:Int)else 0)=0:=if_neg (by omega);rw[hw]at E ⊢;rw[decide_eq_false (by omega)]at hc;simp (disch:=first|omega|decide) only[push_cast,↓reduceIte,CB,EZ,E5,Kt,cX,Fu,DT,AU,I,J,N,hc,E]
 ·have hw:(if x.n≤C8 s 0∧C8 s 0≤x.m then(1:Int)else 0)=0:=if_neg (by omega);rw[hw]at E ⊢;rw[decide_eq_false (by omega)]at hc;simp (disch:=first|omega|decide) only[push_cast,↓reduceIte,CB,EZ,E5,Kt,Fu,DT,AU,I,N,hc,E]
theorem Yqi:IContract Tryz.prog GG 181 (Jk (·=14)):=by
 refine IS (T:=tb [] []) vt (DC all_nil all_nil) ?_;intro ds st r M;obtain⟨key,v,b,s,x,hm,J,hk,rfl,rfl⟩:=Iw M;obtain⟨hv,N,O,hl,U,V,hf,hn⟩:=hm;have E:=Lw hk;have I:=hk;unfold GY at I;rw[show DH v b s x=.set x.n s.status s.clause by unfold DH; rw[if_neg (by omega),if_neg (by omega),if_neg (by omega),if_neg (by omega),if_pos J]];unfold j6;simp (disch:=first|omega|decide) only[push_cast,↓reduceIte,CB,EZ,Dz,HK E,I,E5,Kt,DT,Y3 hv,Ij,HA E]
theorem Yqg:IContract Tryz.prog GG 183 (Jk (·=16)):=by
 refine IS (T:=tb [] []) vB (DC all_nil all_nil) ?_;intro ds st r J;obtain⟨key,v,b,s,x,hm,E,hk,rfl,rfl⟩:=Iw J;obtain⟨hv,M,N,hl,O,U,hf,hn⟩:=hm;have V:=Lw hk;have I:=hk;unfold GY at I;rw[show DH v b s x=.err 180 by unfold DH; rw[if_neg (by omega),if_neg (by omega),if_neg (by omega),if_neg (by omega),if_neg (by omega),if_neg (by omega),if_pos E]];unfold j8;simp (disch:=first|omega|decide) only[push_cast,↓reduceIte,EZ,DT]
theorem Yhs(st:St)(key:Nat)(C:List D)(o:PI.Obj):(Dv st key C++[o])[st.length]?=some o:=by
 have:=E5 (Dv st key C) o;rwa [bl]at this
theorem Yqc:IContract Tryz.prog GG 180 (Jk (·=13)):=by
 refine IS (T:=PQ [] [(195,NT)] [(197,KH)]) vF (cI all_nil (all_cons Th all_nil) (all_cons iL all_nil)) ?_;intro ds st r Y;obtain⟨key,v,b,s,x,hm,E,hk,rfl,rfl⟩:=Iw Y;obtain⟨hv,aa,ab,hl,N,O,hf,hn⟩:=hm;have M:=Lw hk;have U:=hk;unfold GY at U;have ac:IV x.op=1:=by rw[E]; rfl
 have V:Ie KH [.ptr key 0,.int .i64 0] (st++[⟨false,1,DA x,false⟩])=some (.int .i64 (C8 s 0)):=V7 hv (Pe hk _) 0 (by omega) (by omega);have I:=Sk hv hk x 1 1 rfl none (by omega) hl N O;simp only[KG,HM,Ad]at I;unfold ka
 by_cases J:C8 s 0=0
 ·rw[show DH v b s x=.pop 1 none (some x.n) by unfold DH; rw[if_neg (by omega),if_neg (by omega),if_neg (by omega),if_pos E,if_pos J]];simp (disch:=first|omega|decide) only[push_cast,↓reduceIte,CB,EZ,Dz,Kt,DT,Cf,V,J,I,Yhs,OY M,Y3 hv,Ij,Mx M,HM]
 ·rw[show DH v b s x=.pop 1 none none by unfold DH; rw[if_neg (by omega),if_neg (by omega),if_neg (by omega),if_pos E,if_neg J]];simp (disch:=first|omega|decide) only[push_cast,↓reduceIte,CB,EZ,DT,AU,V,J,I,HM]
theorem Ywj:IContract Tryz.prog GG 182 (Jk (·=15)):=by
 refine IS (T:=tb [] []) vj (DC all_nil all_nil) ?_;intro ds st r N;obtain⟨key,v,b,s,x,hm,J,hk,rfl,rfl⟩:=Iw N;obtain⟨hv,O,U,hl,V,Y,hf,hn⟩:=hm;have E:=Lw hk;have I:=hk;unfold GY at I;rw[show DH v b s x=.set s.pc 1 x.n by unfold DH; rw[if_neg (by omega),if_neg (by omega),if_neg (by omega),if_neg (by omega),if_neg (by omega),if_pos J]];have M:(key == st.length)=false:=by rw[beq_eq_false_iff_ne]; omega
 unfold jZ;simp (disch:=first|omega|decide) only[push_cast,↓EE,↓reduceIte,CB,CC,EZ,Dz,HK E,I,E5,Kt,DT,Ys3 hv,Ys2 hv,Ij,HA E,OY E,Mx E,M]
theorem Yd7:IContract Tryz.prog GG 231 (Ic We):=Yqq.toI Tryz.func231 (by kernel_rfl) (by kernel_rfl)
theorem Yd5:IContract Tryz.prog GG 232 (Ic Wg):=Yqo.toI Tryz.func232 (by kernel_rfl) (by kernel_rfl)
theorem Yd6:IContract Tryz.prog GG 233 (Ic Wf):=Yqp.toI Tryz.func233 (by kernel_rfl) (by kernel_rfl)
theorem Ymd:IContract Tryz.prog GG 234 (Ic Zw):=Yw1.toI Tryz.func234 (by kernel_rfl) (by kernel_rfl)
theorem Ymc:IContract Tryz.prog GG 235 (Ic Zx):=Yw0.toI Tryz.func235 (by kernel_rfl) (by kernel_rfl)
theorem Ymb:IContract Tryz.prog GG 236 (Ic Zy):=Ywz.toI Tryz.func236 (by kernel_rfl) (by kernel_rfl)
theorem Yma:IContract Tryz.prog GG 238 (Ic Zz):=Ywy.toI Tryz.func238 (by kernel_rfl) (by kernel_rfl)
theorem Yl9:IContract Tryz.prog GG 239 (Ic ZA):=Ywx.toI Tryz.func239 (by kernel_rfl) (by kernel_rfl)
theorem Yl8:IContract Tryz.prog GG 240 (Ic ZB):=Yww.toI Tryz.func240 (by kernel_rfl) (by kernel_rfl)
theorem yZ:IContract Tryz.prog GG 184 (Jk (fun o=>3≤o∧o≤11)):=by
 refine IS (T:=PQ [] [(195,NT),(231,Ic We),(232,Ic Wg),(233,Ic Wf),(234,Ic Zw),(235,Ic Zx),(236,Ic Zy),(238,Ic Zz),(239,Ic ZA),(240,Ic ZB)] [(197,KH)]) vM (cI all_nil (all_cons Th (all_cons Yd7 (all_cons Yd5 (all_cons Yd6 (all_cons Ymd (all_cons Ymc (all_cons Ymb (all_cons Yma (all_cons Yl9 (all_cons Yl8 all_nil)))))))))) (all_cons iL all_nil)) ?_;intro ds st r hr;obtain⟨key,v,b,s,x,hm,Y,hk,rfl,rfl⟩:=Iw hr;obtain⟨hv,ae,af,hl,aa,ab,hf,hn⟩:=hm;have ah:=Lw hk;have ac:=hk;unfold GY at ac;have a0:IV x.op=2:=by unfold IV; rw[if_neg (by omega),if_pos Y]
 have M:Ie KH [.ptr key 0,.int .i64 0] (st++[⟨false,1,DA x,false⟩])=some (.int .i64 (C8 s 0)):=V7 hv (Pe hk _) 0 (by omega) (by omega);have N:Ie KH [.ptr key 0,.int .i64 1] (st++[⟨false,1,DA x,false⟩])=some (.int .i64 (C8 s 1)):=V7 hv (Pe hk _) 1 (by omega) (by omega);have I:=Sk hv hk x 2 2 rfl (some (DS x.op (C8 s 1) (C8 s 0)).1) (by omega) hl aa ab;simp only[KG]at I;have O:∀ f:Nat,LC 0 1 false (.agg [.clo f []])=some (.clo f []):=fun f=>(rfl)
 have U:DH v b s x=if(DS x.op (C8 s 1) (C8 s 0)).2=0 then .pop 2 (some (DS x.op (C8 s 1) (C8 s 0)).1) none else .err (DS x.op (C8 s 1) (C8 s 0)).2:=by
  unfold DH; rw[if_neg (by omega),if_neg (by omega),if_neg (by omega),if_neg (by omega),if_neg (by omega),if_neg (by omega),if_neg (by omega)]
 have J:=eO (st++[⟨false,1,DA x,false⟩]) x.op false (.agg [.nilf]);have V:x.op=3∨x.op=4∨x.op=5∨x.op=6∨x.op=7∨x.op=8∨x.op=9∨x.op=10∨x.op=11:=by omega
 unfold kz;rcases V with e | e | e | e | e | e | e | e | e
 ·have hb:=Ng (yQ (C8 s 1) (C8 s 0)) (st++[⟨false,1,DA x,false⟩]);have E:DS x.op (C8 s 1) (C8 s 0)=Hs (C8 s 1) (C8 s 0):=by unfold DS; rw[if_pos e]
  rw[show Fy x.op EW=some 231 by rw[e]; rfl]at J
  by_cases he:(DS x.op (C8 s 1) (C8 s 0)).2=0
  ·rw[U,if_pos he];rw[E]at he I;rw[E];simp (disch:=first|omega|decide) only[push_cast,↓reduceIte,CB,EZ,E5,Fu,DT,AU,Jh _ _ _ _ F0,Js,FP,J,O,M,N,hb,he,I]
  ·rw[U,if_neg he];rw[E]at he;rw[E];simp (disch:=first|omega|decide) only[push_cast,↓reduceIte,CB,EZ,E5,DT,Jh _ _ _ _ F0,Js,FP,J,O,M,N,hb,he]
 ·have hb:=Ng (yS (C8 s 1) (C8 s 0)) (st++[⟨false,1,DA x,false⟩]);have E:DS x.op (C8 s 1) (C8 s 0)=Hj (C8 s 1) (C8 s 0):=by unfold DS; rw[if_neg (by omega),if_pos e]
  rw[show Fy x.op EW=some 232 by rw[e]; rfl]at J
  by_cases he:(DS x.op (C8 s 1) (C8 s 0)).2=0
  ·rw[U,if_pos he];rw[E]at he I;rw[E];simp (disch:=first|omega|decide) only[push_cast,↓reduceIte,CB,EZ,E5,Fu,DT,AU,Jh _ _ _ _ F0,Js,FP,J,O,M,N,hb,he,I]
  ·rw[U,if_neg he];rw[E]at he;rw[E];simp (disch:=first|omega|decide) only[push_cast,↓reduceIte,CB,EZ,E5,DT,Jh _ _ _ _ F0,Js,FP,J,O,M,N,hb,he]
 ·have hb:=Ng (yR (C8 s 1) (C8 s 0)) (st++[⟨false,1,DA x,false⟩]);have E:DS x.op (C8 s 1) (C8 s 0)=Hm (C8 s 1) (C8 s 0):=by unfold DS; rw[if_neg (by omega),if_neg (by omega),if_pos e]
  rw[show Fy x.op EW=some 233 by rw[e]; rfl]at J
  by_cases he:(DS x.op (C8 s 1) (C8 s 0)).2=0
  ·rw[U,if_pos he];rw[E]at he I;rw[E];simp (disch:=first|omega|decide) only[push_cast,↓reduceIte,CB,EZ,E5,Fu,DT,AU,Jh _ _ _ _ F0,Js,FP,J,O,M,N,hb,he,I]
  ·rw[U,if_neg he];rw[E]at he;rw[E];simp (disch:=first|omega|decide) only[push_cast,↓reduceIte,CB,EZ,E5,DT,Jh _ _ _ _ F0,Js,FP,J,O,M,N,hb,he]
 ·have hb:=Ng (Yb6 (C8 s 1) (C8 s 0)) (st++[⟨false,1,DA x,false⟩]);have E:DS x.op (C8 s 1) (C8 s 0)=(min (C8 s 1) (C8 s 0),0):=by unfold DS; rw[if_neg (by omega),if_neg (by omega),if_neg (by omega),if_pos e]
  rw[show Fy x.op EW=some 234 by rw[e]; rfl]at J
  by_cases he:(DS x.op (C8 s 1) (C8 s 0)).2=0
  ·rw[U,if_pos he];rw[E]at he I;rw[E];simp (disch:=first|omega|decide) only[push_cast,↓reduceIte,CB,EZ,E5,Fu,DT,AU,Jh _ _ _ _ F0,Js,FP,J,O,M,N,hb,I]
  ·rw[E]at he;exact absurd rfl he
 ·have hb:=Ng (Yb5 (C8 s 1) (C8 s 0)) (st++[⟨false,1,DA x,false⟩]);have E:DS x.op (C8 s 1) (C8 s 0)=(max (C8 s 1) (C8 s 0),0):=by unfold DS; rw[if_neg (by omega),if_neg (by omega),if_neg (by omega),if_neg (by omega),if_pos e]
  rw[show Fy x.op EW=some 235 by rw[e]; rfl]at J
  by_cases he:(DS x.op (C8 s 1) (C8 s 0)).2=0
  ·rw[U,if_pos he];rw[E]at he I;rw[E];simp (disch:=first|omega|decide) only[push_cast,↓reduceIte,CB,EZ,E5,Fu,DT,AU,Jh _ _ _ _ F0,Js,FP,J,O,M,N,hb,I]
  ·rw[E]at he;exact absurd rfl he
 ·have hb:=Ng (Yb4 (C8 s 1) (C8 s 0)) (st++[⟨false,1,DA x,false⟩]);have E:DS x.op (C8 s 1) (C8 s 0)=Eh (C8 s 1) (C8 s 0) 8:=by unfold DS; rw[if_neg (by omega),if_neg (by omega),if_neg (by omega),if_neg (by omega),if_neg (by omega),if_pos e]
  rw[show Fy x.op EW=some 236 by rw[e]; rfl]at J
  by_cases he:(DS x.op (C8 s 1) (C8 s 0)).2=0
  ·rw[U,if_pos he];rw[E]at he I;rw[E];simp (disch:=first|omega|decide) only[push_cast,↓reduceIte,CB,EZ,E5,Fu,DT,AU,Jh _ _ _ _ F0,Js,FP,J,O,M,N,hb,he,I]
  ·rw[U,if_neg he];rw[E]at he;rw[E];simp (disch:=first|omega|decide) only[push_cast,↓reduceIte,CB,EZ,E5,DT,Jh _ _ _ _ F0,Js,FP,J,O,M,N,hb,he]
 ·have hb:=Ng (Yb3 (C8 s 1) (C8 s 0)) (st++[⟨false,1,DA x,false⟩]);have E:DS x.op (C8 s 1) (C8 s 0)=Eh (C8 s 1) (C8 s 0) 9:=by unfold DS; rw[if_neg (by omega),if_neg (by omega),if_neg (by omega),if_neg (by omega),if_neg (by omega),if_neg (by omega),if_pos e]
  rw[show Fy x.op EW=some 238 by rw[e]; rfl]at J
  by_cases he:(DS x.op (C8 s 1) (C8 s 0)).2=0
  ·rw[U,if_pos he];rw[E]at he I;rw[E];simp (disch:=first|omega|decide) only[push_cast,↓reduceIte,CB,EZ,E5,Fu,DT,AU,Jh _ _ _ _ F0,Js,FP,J,O,M,N,hb,he,I]
  ·rw[U,if_neg he];rw[E]at he;rw[E];simp (disch:=first|omega|decide) only[push_cast,↓reduceIte,CB,EZ,E5,DT,Jh _ _ _ _ F0,Js,FP,J,O,M,N,hb,he]
 ·have hb:=Ng (Yb2 (C8 s 1) (C8 s 0)) (st++[⟨false,1,DA x,false⟩]);have E:DS x.op (C8 s 1) (C8 s 0)=Eh (C8 s 1) (C8 s 0) 10:=by unfold DS; rw[if_neg (by omega),if_neg (by omega),if_neg (by omega),if_neg (by omega),if_neg (by omega),if_neg (by omega),if_neg (by omega),if_pos e]
  rw[show Fy x.op EW=some 239 by rw[e]; rfl]at J
  by_cases he:(DS x.op (C8 s 1) (C8 s 0)).2=0
  ·rw[U,if_pos he];rw[E]at he I;rw[E];simp (disch:=first|omega|decide) only[push_cast,↓reduceIte,CB,EZ,E5,Fu,DT,AU,Jh _ _ _ _ F0,Js,FP,J,O,M,N,hb,he,I]
  ·rw[U,if_neg he];rw[E]at he;rw[E];simp (disch:=first|omega|decide) only[push_cast,↓reduceIte,CB,EZ,E5,DT,Jh _ _ _ _ F0,Js,FP,J,O,M,N,hb,he]
 ·have hb:=Ng (Yb1 (C8 s 1) (C8 s 0)) (st++[⟨false,1,DA x,false⟩]);have E:DS x.op (C8 s 1) (C8 s 0)=(if C8 s 1<C8 s 0 then 1 else 0,0):=by unfold DS; rw[if_neg (by omega),if_neg (by omega),if_neg (by omega),if_neg (by omega),if_neg (by omega),if_neg (by omega),if_neg (by omega),if_neg (by omega),if_pos e]
  rw[show Fy x.op EW=some 240 by rw[e]; rfl]at J
  by_cases he:(DS x.op (C8 s 1) (C8 s 0)).2=0
  ·rw[U,if_pos he];rw[E]at he I;rw[E];simp (disch:=first|omega|decide) only[push_cast,↓reduceIte,CB,EZ,E5,Fu,DT,AU,Jh _ _ _ _ F0,Js,FP,J,O,M,N,hb,I]
  ·rw[E]at he;exact absurd rfl he
def K6(o:Option PI.Obj)(sz:Nat)(ks:List Nat)(ok:Bool)(zero k:D):Option D:=match o with
 |some o=>if o.isMap && o.sz == sz && (HI sz ks k k).isSome then match Kl sz ks k o.els 0 with
   |some (some i)=>match o.els[i]? with
    |some el=>some (if ok then .tup [G4 sz el,.bool true]else G4 sz el)
    |none=>none
   |some none=>some (if ok then .tup [zero,.bool false]else zero)
   |none=>none
  else none
 |none=>none
theorem Jp(st:St)(sz:Nat)(ks:List Nat)(ok:Bool)(E k:D)(key:Nat):IM st sz ks ok E (.mapv key) k=K6 st[key]? sz ks ok E k:=(rfl)
def JX(o:Option PI.Obj)(sz:Nat)(ks:List Nat)(k v:D):Option PI.Obj:=match o with
 |some o=>if o.isMap && o.sz == sz && !o.lent && v.isCell && k.cells.length+1 == sz && k.cells.all D.isCell && HI sz ks k k == some true then match Kl sz ks k o.els 0 with
   |some (some i)=>some {o with els:=o.els.set i (.agg (k.cells++[v]))}
   |some none=>some {o with els:=o.els++[.agg (k.cells++[v])]}
   |none=>none
  else none
 |none=>none
theorem I2(st:St)(sz:Nat)(ks:List Nat)(k v:D)(key:Nat):Rj st sz ks (.mapv key) k v=(JX st[key]? sz ks k v).map fun o=>st.set key o:=by
 simp only[Rj,JX]
 cases st[key]? with
 |none=>rfl
 |some o=>
  simp only
  split
  ·cases Kl sz ks k o.els 0 with
   |none=>rfl
   |some r=>cases r <;> rfl
  ·rfl
def MH:List (Int×Nat):=[(1,5000177),(2,5000178),(12,5000179),(13,5000180),(14,5000181),(15,5000182),(16,5000183)]
def Vw(k:Nat)(p:Int×Nat):D:=.agg [.int .i64 p.1,.clo p.2 [.ptr k 0]]
def I9(k i:Nat):List D:=(MH.take i).map (Vw k)
theorem JI(k:Nat):JX (some ⟨false,2,[],false⟩) 2 [0] (.int .i64 1) (.clo 5000177 [.ptr k 0])=some ⟨false,2,I9 k 1,false⟩:=(rfl)
theorem JH(k:Nat):JX (some ⟨false,2,I9 k 1,false⟩) 2 [0] (.int .i64 2) (.clo 5000178 [.ptr k 0])=some ⟨false,2,I9 k 2,false⟩:=(rfl)
theorem JG(k:Nat):JX (some ⟨false,2,I9 k 2,false⟩) 2 [0] (.int .i64 12) (.clo 5000179 [.ptr k 0])=some ⟨false,2,I9 k 3,false⟩:=(rfl)
theorem JF(k:Nat):JX (some ⟨false,2,I9 k 3,false⟩) 2 [0] (.int .i64 13) (.clo 5000180 [.ptr k 0])=some ⟨false,2,I9 k 4,false⟩:=(rfl)
theorem JE(k:Nat):JX (some ⟨false,2,I9 k 4,false⟩) 2 [0] (.int .i64 14) (.clo 5000181 [.ptr k 0])=some ⟨false,2,I9 k 5,false⟩:=(rfl)
theorem JD(k:Nat):JX (some ⟨false,2,I9 k 5,false⟩) 2 [0] (.int .i64 15) (.clo 5000182 [.ptr k 0])=some ⟨false,2,I9 k 6,false⟩:=(rfl)
theorem JC(k:Nat):JX (some ⟨false,2,I9 k 6,false⟩) 2 [0] (.int .i64 16) (.clo 5000183 [.ptr k 0])=some ⟨false,2,I9 k 7,false⟩:=(rfl)
theorem OI(k:Nat)(op:Int)(f:Nat)(h:Fy op MH=some f):K6 (some ⟨false,2,I9 k 7,false⟩) 2 [0] true .nilf (.int .i64 op)=some (.tup [.clo f [.ptr k 0],.bool true]):=by
 simp only[MH,Fy]at h
 split at h
 ·simp only[C4]at h; subst h; rename_i e; subst e; rfl
 split at h
 ·simp only[C4]at h; subst h; rename_i e; subst e; rfl
 split at h
 ·simp only[C4]at h; subst h; rename_i e; subst e; rfl
 split at h
 ·simp only[C4]at h; subst h; rename_i e; subst e; rfl
 split at h
 ·simp only[C4]at h; subst h; rename_i e; subst e; rfl
 split at h
 ·simp only[C4]at h; subst h; rename_i e; subst e; rfl
 split at h
 ·simp only[C4]at h; subst h; rename_i e; subst e; rfl
 cases h
theorem Ynu(k:Nat)(op:Int)(h:3≤op∧op≤11):K6 (some ⟨false,2,I9 k 7,false⟩) 2 [0] true .nilf (.int .i64 op)=some (.tup [.nilf,.bool false]):=by
 have:op=3∨op=4∨op=5∨op=6∨op=7∨op=8∨op=9∨op=10∨op=11:=by omega
 rcases this with rfl | rfl | rfl | rfl | rfl | rfl | rfl | rfl | rfl <;> rfl
theorem NR(st:St)(a b:PI.Obj):(st++[a]++[b])[st.length+1]?=some b:=by
 have:=E5 (st++[a]) b;rwa [Ls]at this
theorem NQ(st:St)(a b:PI.Obj):(st++[a]++[b])[st.length]?=some a:=by
 rw[HK (by rw[Ls]; omega),E5]
theorem NS(st:St)(a b b':PI.Obj):(st++[a]++[b]).set (st.length+1) b'=st++[a]++[b']:=by
 have:=lJ (st++[a]) b b';rwa [Ls]at this
structure eOK (v:Int×List Int) (b:Int) (s:Sta) (x:Ins):Prop where
 v:Fa v
 b0:0≤b
 b1:b≤64
 l:s.stack.length≤64
 p0:0≤s.pc
 p1:s.pc≤100000
 f:F8 x=true
def Gu(v:Int×List Int)(b:Int)(s:Sta)(x:Ins):Out:=if(s.stack.length:Int)<IV x.op then .err 200 else DH v b s x
def JK(st:St)(key:Nat)(s:Sta)(x:Ins):St:=if(s.stack.length:Int)<IV x.op then st else st++[⟨false,1,DA x,false⟩]++[⟨false,2,I9 key 7,false⟩]
def Vv(ds:List D)(st:St)(r:D×St):Prop:=∃ (key:Nat) (v:Int×List Int) (b:Int) (s:Sta) (x:Ins),eOK v b s x∧GY st key v s.pc s.fuel s.status s.clause (Eo s.stack) b∧ds=[.ptr key 0,C0 x]∧r=DT (JK st key s x) key v b s x (Gu v b s x)
noncomputable def YZ:List D→St→Option (D×St):=E1 Vv
theorem Ypz:Hv Vv:=by
 rintro ds st r r' ⟨key,v,b,s,x,hm,hk,rfl,rfl⟩ ⟨V,v',b',s',x',E,I,h,rfl⟩;simp only[Aa,D.ptr.injEq,and_true,QG]at h;obtain⟨rfl,rfl⟩:=h;obtain⟨rfl,J,M,N,O,Y,rfl⟩:=aW hm.v E.v hk I;have U:=QM.1 Y;obtain⟨a1,a2,a3,a4,a5⟩:=s;obtain⟨b1,b2,b3,b4,b5⟩:=s';dsimp only at J M N O U;subst J; subst M; subst N; subst O; subst U;rfl
theorem Yiu(hm:eOK v b s x)(hk:GY st key v s.pc s.fuel s.status s.clause (Eo s.stack) b):YZ [.ptr key 0,C0 x] st=some (DT (JK st key s x) key v b s x (Gu v b s x)):=
 KK Ypz ⟨key,v,b,s,x,hm,hk,rfl,rfl⟩
theorem IY:cu 2=some ⟨false,2,[],false⟩:=(rfl)
set_option maxHeartbeats 8000000 in
set_option maxRecDepth 20000 in
theorem Ywl:IContract Tryz.prog GG 157 YZ:=by
 refine IS (T:=tb [(109,Wh)] [(177,Jk (·=1)),(178,Jk (·=2)),(179,Jk (·=12)),(180,Jk (·=13)),(181,Jk (·=14)),(182,Jk (·=15)),(183,Jk (·=16)),(184,Jk (fun o=>3≤o∧o≤11))])
  vN (DC (all_cons tR all_nil) (all_cons Yqf (all_cons Yqh (all_cons za (all_cons Yqc (all_cons Yqi (all_cons Ywj (all_cons Yqg (all_cons yZ all_nil))))))))) ?_
 intro ds st r hr;obtain⟨key,v,b,s,x,⟨hv,Y,aa,hl,ab,ac,hf⟩,hk,rfl,rfl⟩:=Iw hr;have N:=Lw hk;have E:=hk;unfold GY at E;have O:=pE x.op;have af:=Yag hf;unfold kA
 by_cases U:(s.stack.length:Int)<IV x.op
 ·rw[show Gu v b s x=.err 200 from if_pos U,show JK st key s x=st from if_pos U];simp (disch:=first|omega|decide) only[push_cast,↓reduceIte,CB,CC,EZ,Dz,HK N,E,IX hv,Hz,E5,FP,O,U,DT]
 ·rw[show Gu v b s x=DH v b s x from if_neg U,show JK st key s x=_ from if_neg U];have hm:mOK v b s x:=⟨hv,Y,aa,hl,ab,ac,hf,by omega⟩;have ad:GY (st++[⟨false,1,DA x,false⟩]++[⟨false,2,I9 key 7,false⟩]) key v s.pc s.fuel s.status s.clause (Eo s.stack) b:=Pe (Pe hk _) _
  have fin:∀ (P:Int→Prop),P x.op→∃ d st',Jk P [.ptr key 0,C0 x] (st++[⟨false,1,DA x,false⟩]++[⟨false,2,I9 key 7,false⟩])=some (d,st')∧DT (st++[⟨false,1,DA x,false⟩]++[⟨false,2,I9 key 7,false⟩]) key v b s x (DH v b s x)=(d,st'):=
   fun P hP=>⟨_,_,Yio hm hP ad,rfl⟩
  have V:x.op=1∨x.op=2∨x.op=12∨x.op=13∨x.op=14∨x.op=15∨x.op=16∨(3≤x.op∧x.op≤11):=by omega
  rcases V with e | e | e | e | e | e | e | e
  ·obtain⟨d,st',I,J⟩:=fin (·=1) e;have M:=OI key x.op _ (show Fy x.op MH=some 5000177 by rw[e]; rfl);rw[J];simp (disch:=first|omega|decide) only[push_cast,↓reduceIte,CB,CC,EZ,Dz,HK N,E,IX hv,Hz,E5,FP,O,U,Ls,I2,Jp,NR,NS,NQ,IY,JI,JH,JG,JF,JE,JD,JC,M,MN,Oc _ 5000177 177 _ rfl (by decide),I]
  ·obtain⟨d,st',I,J⟩:=fin (·=2) e;have M:=OI key x.op _ (show Fy x.op MH=some 5000178 by rw[e]; rfl);rw[J];simp (disch:=first|omega|decide) only[push_cast,↓reduceIte,CB,CC,EZ,Dz,HK N,E,IX hv,Hz,E5,FP,O,U,Ls,I2,Jp,NR,NS,NQ,IY,JI,JH,JG,JF,JE,JD,JC,M,MN,Oc _ 5000178 178 _ rfl (by decide),I]
  ·obtain⟨d,st',I,J⟩:=fin (·=12) e;have M:=OI key x.op _ (show Fy x.op MH=some 5000179 by rw[e]; rfl);rw[J];simp (disch:=first|omega|decide) only[push_cast,↓reduceIte,CB,CC,EZ,Dz,HK N,E,IX hv,Hz,E5,FP,O,U,Ls,I2,Jp,NR,NS,NQ,IY,JI,JH,JG,JF,JE,JD,JC,M,MN,Oc _ 5000179 179 _ rfl (by decide),I]
  ·obtain⟨d,st',I,J⟩:=fin (·=13) e;have M:=OI key x.op _ (show Fy x.op MH=some 5000180 by rw[e]; rfl);rw[J];simp (disch:=first|omega|decide) only[push_cast,↓reduceIte,CB,CC,EZ,Dz,HK N,E,IX hv,Hz,E5,FP,O,U,Ls,I2,Jp,NR,NS,NQ,IY,JI,JH,JG,JF,JE,JD,JC,M,MN,Oc _ 5000180 180 _ rfl (by decide),I]
  ·obtain⟨d,st',I,J⟩:=fin (·=14) e;have M:=OI key x.op _ (show Fy x.op MH=some 5000181 by rw[e]; rfl);rw[J];simp (disch:=first|omega|decide) only[push_cast,↓reduceIte,CB,CC,EZ,Dz,HK N,E,IX hv,Hz,E5,FP,O,U,Ls,I2,Jp,NR,NS,NQ,IY,JI,JH,JG,JF,JE,JD,JC,M,MN,Oc _ 5000181 181 _ rfl (by decide),I]
  ·obtain⟨d,st',I,J⟩:=fin (·=15) e;have M:=OI key x.op _ (show Fy x.op MH=some 5000182 by rw[e]; rfl);rw[J];simp (disch:=first|omega|decide) only[push_cast,↓reduceIte,CB,CC,EZ,Dz,HK N,E,IX hv,Hz,E5,FP,O,U,Ls,I2,Jp,NR,NS,NQ,IY,JI,JH,JG,JF,JE,JD,JC,M,MN,Oc _ 5000182 182 _ rfl (by decide),I]
  ·obtain⟨d,st',I,J⟩:=fin (·=16) e;have M:=OI key x.op _ (show Fy x.op MH=some 5000183 by rw[e]; rfl);rw[J];simp (disch:=first|omega|decide) only[push_cast,↓reduceIte,CB,CC,EZ,Dz,HK N,E,IX hv,Hz,E5,FP,O,U,Ls,I2,Jp,NR,NS,NQ,IY,JI,JH,JG,JF,JE,JD,JC,M,MN,Oc _ 5000183 183 _ rfl (by decide),I]
  ·obtain⟨d,st',I,J⟩:=fin (fun o=>3≤o∧o≤11) e;have M:=Ynu key x.op e;rw[J];simp (disch:=first|omega|decide) only[push_cast,↓reduceIte,CB,CC,EZ,Dz,HK N,E,IX hv,Hz,E5,FP,O,U,Ls,I2,Jp,NR,NS,NQ,IY,JI,JH,JG,JF,JE,JD,JC,M,MN,I]
def FV(s:Sta):Out→Sta
 |.err e=>{s with status:=10+e}
 |.pop k push pc=>{s with pc:=pc.getD (s.pc+1),stack:=s.stack.take (s.stack.length - k)++push.toList}
 |.set p t c=>{s with pc:=p,status:=t,clause:=c}
def Dk(s:Sta):Sta:={s with fuel:=s.fuel - 1}
def Gx(v:Int×List Int)(b:Int)(s:Sta)(x:Ins):Sta:=if s.fuel=0 then {s with status:=220} else FV (Dk s) (Gu v b (Dk s) x)
structure aOK (c:List Ins) (v:Int×List Int) (s:Sta) (b:Int):Prop where
 v:Fa v
 b0:0≤b
 b1:b≤64
 l:s.stack.length≤64
 p0:0≤s.pc
 p1:s.pc<c.length
 cl:c.length≤4096
 f:c.all F8=true
 u0:0≤s.fuel
 u1:s.fuel≤32768
theorem Yjd(op a b:Int):0≤(DS op a b).2∧(DS op a b).2≤100:=by
 have I:∀ c,0≤(Kz c).2∧(Kz c).2≤100:=fun c=>by unfold Kz; split <;> exact⟨by simp,by simp⟩
 have J:∀ a b m,0≤(Eh a b m).2∧(Eh a b m).2≤100:=fun a b m=>by
  unfold Eh
  split
  ·split <;> exact⟨by simp,by simp⟩
  ·exact⟨by simp,by simp⟩
 have ha:0≤(Hs a b).2∧(Hs a b).2≤100:=by unfold Hs; split <;> first | exact I _ | exact⟨by simp,by simp⟩
 have M:0≤(Hj a b).2∧(Hj a b).2≤100:=by unfold Hj; split <;> first | exact I _ | exact⟨by simp,by simp⟩
 have hm:0≤(Hm a b).2∧(Hm a b).2≤100:=by unfold Hm; split <;> first | exact I _ | exact⟨by simp,by simp⟩
 have E:∀ n:Int,0≤((n,0):Int×Int).2∧((n,0):Int×Int).2≤100:=fun n=>⟨by simp,by simp⟩;unfold DS
 split; · exact ha
 split; · exact M
 split; · exact hm
 split; · exact E _
 split; · exact E _
 split; · exact J _ _ _
 split; · exact J _ _ _
 split; · exact J _ _ _
 split; · exact E _
 exact E _
theorem uv{e:Int}(h:Gu v b s x=.err e):1≤e∧e≤1000:=by
 have E:=Yjd x.op (C8 s 1) (C8 s 0);unfold Gu DH at h
 repeat' split at h
 all_goals first | (cases h; done) | (simp only[Out.err.injEq]at h; omega)
theorem Yp1{k:Nat}{E pc:Option Int}(h:Gu v b s x=.pop k E pc):¬ (s.stack.length:Int)<IV x.op:=by
 intro I;unfold Gu at h;rw[if_pos I]at h;cases h
theorem Yp0{c:Int}(h:Gu v b s x=.set p t c):¬ (s.stack.length:Int)<IV x.op:=by
 intro E;unfold Gu at h;rw[if_pos E]at h;cases h
theorem Yau(v:Int×List Int)(hv:Fa v)(s:Sta)(b:Int):DG [.int .i64 0,.int .i64 0,.int .i64 0,.int .i64 0,.int .i64 0,.int .i64 0,.int .i64 0,.int .i64 0,.int .i64 0,.int .i64 0,.int .i64 0,.int .i64 0,.int .i64 0,.int .i64 0,.int .i64 0,.int .i64 0,.int .i64 0,.int .i64 0,.int .i64 0,.int .i64 0,.int .i64 0,.slc 0 [] true,.int .i64 0]
  [(0,17,Ew v),(17,5,Eg s),(22,1,.int .i64 b)]=some (EB v s.pc s.fuel s.status s.clause (Eo s.stack) b):=by
 refine(IN (cs':=Ed v++([.int .i64 0,.int .i64 0,.int .i64 0,.int .i64 0,.slc 0 [] true]++[.int .i64 0])) (A:=[]) (B:=CH 17 (.int .i64 0)) (C:=[.int .i64 0,.int .i64 0,.int .i64 0,.int .i64 0,.slc 0 [] true,.int .i64 0]) (xs:=Ed v) rfl rfl rfl rfl rfl (Jq hv) (fQ (v.1::v.2))).trans ?_;refine(IN (cs':=Ed v++(Er s++[.int .i64 0])) (A:=Ed v) (B:=[.int .i64 0,.int .i64 0,.int .i64 0,.int .i64 0,.slc 0 [] true]) (C:=[.int .i64 0]) (xs:=Er s) rfl rfl (Jq hv) rfl rfl rfl (Yec s)).trans ?_;refine(IN (cs':=EB v s.pc s.fuel s.status s.clause (Eo s.stack) b) (A:=Ed v++Er s) (B:=[.int .i64 0]) (C:=[]) (xs:=[.int .i64 b]) (by simp) (by simp[EB,Er]) (by simp[Jq hv,Er]) rfl rfl rfl rfl).trans ?_;rfl
theorem Yi6(v:Int×List Int)(p f t c:Int)(sz:Nat)(els:List D)(E:Bool)(b:Int):Dy (.agg (EB v p f t c (.slc sz els E) b))=some (EB v p f t c (.slc sz els E) b):=by
 have h:(EB v p f t c (.slc sz els E) b).all D.isCell=true:=by
  rw[EB,Bw,eg,fQ];rfl
 rw[show Dy (.agg (EB v p f t c (.slc sz els E) b))=if(EB v p f t c (.slc sz els E) b).all D.isCell then some (EB v p f t c (.slc sz els E) b)else none from rfl,if_pos h]
theorem Wz(v:Int×List Int)(p f t c:Int)(l:List Int)(b:Int):Dy (.agg (EB v p f t c (Eo l) b))=some (EB v p f t c (Eo l) b):=Yi6 v p f t c _ _ _ b
theorem yNl(l:List Int):(Eo l).isCell=true:=(rfl)
theorem wE(st:St)(l:List Int):Dx st (Eo l)=some (Eo l):=by simp only[Eo,ew,Km]
theorem Yvd(E o1 o2 I J M N:PI.Obj)(A:List Int)(m:Nat)(h:A.length=m):Dx [E,o1,o2,I,J,M,N,⟨true,1,A.map nI,false⟩] (.row 7 m 0 m)=some (Eo A):=by
 have O:Hg [E,o1,o2,I,J,M,N,⟨true,1,A.map nI,false⟩] 7 m 0 m=some (1,A.map nI):=by
  simp only[Hg,Bo,AH];rw[if_pos (by simp[h]),Bt,AS (by simp[h])]
 simp only[Dx,O,Ag];rfl
theorem ZZ(s:Sta)(n:Int):DZ (some ⟨false,1,Er s,false⟩) 1 1 (.int .i64 n)=some ⟨false,1,Er {s with fuel:=n},false⟩:=(rfl)
theorem sE(s:Sta)(n:Int):DZ (some ⟨false,1,Er s,false⟩) 1 2 (.int .i64 n)=some ⟨false,1,Er {s with status:=n},false⟩:=(rfl)
theorem KY(a b c d S:D):DZ (some ⟨false,1,[.int .i64 0,.int .i64 0,.int .i64 0,.int .i64 0,.slc 0 [] true],false⟩) 5 0 (.agg [a,b,c,d,S])=if [a,b,c,d,S].all D.isCell then some ⟨false,1,[a,b,c,d,S],false⟩else none:=by
 simp only[DZ]; rfl
theorem K7(lent:Bool)(a b c d S:D):Dr (some ⟨false,1,[a,b,c,d,S],lent⟩) 5 true 0=some (.agg [a,b,c,d,S]):=(rfl)
noncomputable def cF:List D→Option D:=De (α:=List Ins×(Int×List Int)×Sta×Int) (fun a=>[.slc (nz 3 (a.1.map C0)) (a.1.map C0) false,Ew a.2.1,Eg a.2.2.1,.int .i64 a.2.2.2]) (fun a=>aOK a.1 a.2.1 a.2.2.1 a.2.2.2) (fun a=>Eg (Gx a.2.1 a.2.2.2 a.2.2.1 (a.1.getD a.2.2.1.pc.toNat default)))
theorem Yiy(c:List Ins)(v:Int×List Int)(s:Sta)(b:Int)(h:aOK c v s b):cF [.slc (nz 3 (c.map C0)) (c.map C0) false,Ew v,Eg s,.int .i64 b]=some (Eg (Gx v b s (c.getD s.pc.toNat default))):=
 DX (fun⟨a0,a1,E,I⟩ ⟨b0,b1,J,M⟩ h=>by simp only[Aa,D.slc.injEq,D.int.injEq,true_and,and_true,J5,Wl,KO]at h; simp[h]) (c,v,s,b) h
set_option maxHeartbeats 4000000 in
set_option maxRecDepth 20000 in
theorem TS(c:List Ins)(v:Int×List Int)(s:Sta)(b:Int)(h:aOK c v s b):@wW GG (tb [] [(157,YZ)]) XR.code (C5 [.slc (nz 3 (c.map C0)) (c.map C0) false,Ew v,Eg s,.int .i64 b]) [] ⟨Dg XR.res (Eg (Gx v b s (c.getD s.pc.toNat default)))⟩:=by
 obtain⟨hv,aa,ab,hl,ac,a3,hc,hf,a4,a5⟩:=h;have V:s.pc.toNat<c.length:=by omega
 unfold XR
 by_cases M:s.fuel=0
 ·rw[show Gx v b s (c.getD s.pc.toNat default)={s with status:=220} from if_pos M];simp (disch:=first|omega|decide) only[push_cast,↓reduceIte,CB,CC,F4,Jl,Kv,JT,M,sE,Lm,NZ,M4]
 ·rw[show Gx v b s (c.getD s.pc.toNat default)=FV (Dk s) (Gu v b (Dk s) (c.getD s.pc.toNat default))from if_neg M];have J:=fun st=>TI st c false s.pc.toNat V;rw[show((s.pc.toNat:Nat):Int)=s.pc by omega]at J
  have Y:F8 (c.getD s.pc.toNat default)=true:=by
   rw[Ao,An V];exact Aj.1 hf _ (By V)
  obtain⟨x,ad⟩:∃ x,c.getD s.pc.toNat default=x:=⟨_,rfl⟩;rw[ad]at J Y ⊢;have J:∀ st:St,F2 st 3 (.slc (nz 3 (c.map C0)) (c.map C0) false) (.int .i64 (Dk s).pc)=some (.eptr (C0 x) 0):=J;have he:eOK v b (Dk s) x:=⟨hv,aa,ab,hl,ac,by show s.pc≤100000; omega,Y⟩;have E:=Yiu (st:=[⟨false,1,Ed v,false⟩,⟨false,1,Er (Dk s),false⟩,⟨false,1,[.int .i64 0,.int .i64 0,.int .i64 0,.int .i64 0,.slc 0 [] true],false⟩,⟨false,1,EB v (Dk s).pc (Dk s).fuel (Dk s).status (Dk s).clause (Eo (Dk s).stack) b,false⟩]) (key:=3) he rfl;have N:=Yau v hv (Dk s) b;have O:(⟨s.pc,s.fuel - 1,s.status,s.clause,s.stack⟩:Sta)=Dk s:=rfl
  cases U:Gu v b (Dk s) x with
  |err e=>
   have a6:=uv U;rw[U]at E
   have I:∃ l,JK [⟨false,1,Ed v,false⟩,⟨false,1,Er (Dk s),false⟩,⟨false,1,[.int .i64 0,.int .i64 0,.int .i64 0,.int .i64 0,.slc 0 [] true],false⟩,⟨false,1,EB v (Dk s).pc (Dk s).fuel (Dk s).status (Dk s).clause (Eo (Dk s).stack) b,false⟩] 3 (Dk s) x=⟨false,1,Ed v,false⟩::⟨false,1,Er (Dk s),false⟩::⟨false,1,[.int .i64 0,.int .i64 0,.int .i64 0,.int .i64 0,.slc 0 [] true],false⟩::l:=by
    unfold JK; split <;> exact⟨_,rfl⟩
   obtain⟨l,I⟩:=I;rw[I]at E;simp only[DT,Ae]at E;have ae:¬ e=0:=by omega
   simp (disch:=first|omega|decide) only[push_cast,↓reduceIte,CB,CC,F4,Jl,Kv,JT,M,Fc,ZZ,O,H9 hv,Lm,N,Wz,Jw,J,JU,E,ae,DI,sE,NZ,M4,FV]
  |pop k push pc=>
   rw[U]at E;have I:=Yp1 U;rw[show JK [⟨false,1,Ed v,false⟩,⟨false,1,Er (Dk s),false⟩,⟨false,1,[.int .i64 0,.int .i64 0,.int .i64 0,.int .i64 0,.slc 0 [] true],false⟩,⟨false,1,EB v (Dk s).pc (Dk s).fuel (Dk s).status (Dk s).clause (Eo (Dk s).stack) b,false⟩] 3 (Dk s) x=_ from if_neg I]at E;simp only[DT]at E
   cases push with
   |none=>
    simp only[Jz,HM,Dv,Ae,Ai,Ad,Cp,Bn]at E;simp (disch:=first|omega|decide) only[push_cast,↓reduceIte,CB,CC,F4,Jl,Kv,JT,M,Fc,ZZ,O,H9 hv,Lm,N,Wz,Jw,J,JU,E,Dz,ir hv,KY,K7,FV];simp only[Option.toList_none,Ad];rfl
   |some a=>
    have hi:=fun o0 o1 o2 o3 o4 o5 o6=>Yvd o0 o1 o2 o3 o4 o5 o6 ((Dk s).stack.take ((Dk s).stack.length - k)++[a]) ((Dk s).stack.length - k+1) (by rw[Ab,AQ]; simp);simp only[Jz,HM,Dv,Ae,Ai,Cp,Bn,Ak,Ap]at E;simp (disch:=first|omega|decide) only[push_cast,↓reduceIte,CB,CC,F4,Jl,Kv,JT,M,Fc,ZZ,O,H9 hv,Lm,N,Wz,Jw,J,JU,E,Dz,ir hv,KY,K7,FV,hi];rfl
  |set p t cl=>
   rw[U]at E;have I:=Yp0 U;rw[show JK [⟨false,1,Ed v,false⟩,⟨false,1,Er (Dk s),false⟩,⟨false,1,[.int .i64 0,.int .i64 0,.int .i64 0,.int .i64 0,.slc 0 [] true],false⟩,⟨false,1,EB v (Dk s).pc (Dk s).fuel (Dk s).status (Dk s).clause (Eo (Dk s).stack) b,false⟩] 3 (Dk s) x=_ from if_neg I]at E;simp only[DT,Dv,Ae,Ai,Cp,Bn]at E;simp (disch:=first|omega|decide) only[push_cast,↓reduceIte,CB,CC,F4,Jl,Kv,JT,M,Fc,ZZ,O,H9 hv,Lm,N,Wz,Jw,J,JU,E,Dz,ir hv,KY,K7,yNl,wE,FV];rfl
theorem VK:Contract Tryz.prog GG 110 cF:=
 Eb (T:=tb [] [(157,YZ)]) yB1 (DC all_nil (all_cons Ywl all_nil)) (fun a h=>TS a.1 a.2.1 a.2.2.1 a.2.2.2 h)
def Kg(c:List Ins)(s:Sta)(b:Int):Prop:=s.pc<0∨(c.length:Int)≤s.pc∨s.fuel<0∨32768<s.fuel∨s.clause≠0∨b<0∨64<b∨64 - b<(s.stack.length:Int)
instance (c:List Ins) (s:Sta) (b:Int):Decidable (Kg c s b):=by unfold Kg; infer_instance
def JR(c:List Ins)(s:Sta)(b:Int):Int:=if s.status≠0 then 211 else if(G9 c).2≠0 then(G9 c).2 else if Kg c s b then 1 else 0
noncomputable def fl:List D→Option D:=De (α:=List Ins×Sta×Int) (fun a=>[.slc (nz 3 (a.1.map C0)) (a.1.map C0) false,Eg a.2.1,.int .i64 a.2.2]) (fun a=>a.1.length≤4294967296) (fun a=>.int .i64 (JR a.1 a.2.1 a.2.2))
theorem yT(c:List Ins)(s:Sta)(b:Int)(h:c.length≤4294967296):fl [.slc (nz 3 (c.map C0)) (c.map C0) false,Eg s,.int .i64 b]=some (.int .i64 (JR c s b)):=
 DX (fun⟨a0,a1,E⟩ ⟨b0,b1,I⟩ h=>by simp only[Aa,D.slc.injEq,D.int.injEq,true_and,and_true,J5,Wl]at h; simp[h]) (c,s,b) h
theorem Yld(c:List Ins)(s:Sta)(b:Int)(h:c.length≤4294967296):@wW GG (tb [(47,Zs)] []) Xo.code (C5 [.slc (nz 3 (c.map C0)) (c.map C0) false,Eg s,.int .i64 b]) [] ⟨Dg Xo.res (.int .i64 (JR c s b))⟩:=by
 have hv:=nU c (by omega);unfold Xo
 by_cases E:s.status=0
 ·by_cases I:(G9 c).2=0
  ·have e:JR c s b=if Kg c s b then 1 else 0:=by unfold JR; rw[if_neg (by simp[E]),if_neg (by simp[I])]
   rw[e]
   by_cases J:s.pc<0
   ·rw[if_pos (.inl J)];simp (disch:=first|omega|decide) only[push_cast,↓reduceIte,CB,Jl,Jw,J4,E,hv,I,J]
   by_cases M:(c.length:Int)≤s.pc
   ·rw[if_pos (.inr (.inl M))];simp (disch:=first|omega|decide) only[push_cast,↓reduceIte,CB,Jl,Jw,J4,E,hv,I,J,M]
   by_cases N:s.fuel<0
   ·rw[if_pos (.inr (.inr (.inl N)))];simp (disch:=first|omega|decide) only[push_cast,↓reduceIte,CB,Jl,Jw,JT,J4,E,hv,I,J,M,N]
   by_cases O:32768<s.fuel
   ·rw[if_pos (.inr (.inr (.inr (.inl O))))];simp (disch:=first|omega|decide) only[push_cast,↓reduceIte,CB,Jl,Jw,JT,J4,E,hv,I,J,M,N,O]
   by_cases U:s.clause=0
   ·by_cases V:b<0
    ·rw[if_pos (.inr (.inr (.inr (.inr (.inr (.inl V))))))];simp (disch:=first|omega|decide) only[push_cast,↓reduceIte,CB,Jl,Jw,JT,J4,M5,E,hv,I,J,M,N,O,U,V]
    by_cases Y:64<b
    ·rw[if_pos (.inr (.inr (.inr (.inr (.inr (.inr (.inl Y)))))))];simp (disch:=first|omega|decide) only[push_cast,↓reduceIte,CB,Jl,Jw,JT,J4,M5,E,hv,I,J,M,N,O,U,V,Y]
    by_cases q8:64 - b<(s.stack.length:Int)
    ·rw[if_pos (.inr (.inr (.inr (.inr (.inr (.inr (.inr q8)))))))];simp (disch:=first|omega|decide) only[push_cast,↓reduceIte,CB,Jl,Jw,JT,J4,M5,OP,Hz,Fc,E,hv,I,J,M,N,O,U,V,Y,q8]
    ·rw[if_neg (by unfold Kg; omega)];simp (disch:=first|omega|decide) only[push_cast,↓reduceIte,CB,Jl,Jw,JT,J4,M5,OP,Hz,Fc,E,hv,I,J,M,N,O,U,V,Y,q8]
   ·rw[if_pos (.inr (.inr (.inr (.inr (.inl U)))))];simp (disch:=first|omega|decide) only[push_cast,↓reduceIte,CB,Jl,Jw,JT,J4,M5,E,hv,I,J,M,N,O,U]
  ·rw[show JR c s b=(G9 c).2 by unfold JR; rw[if_neg (by simp[E]),if_pos I]];simp (disch:=first|omega|decide) only[push_cast,↓reduceIte,CB,Jl,J4,E,hv,I]
 ·rw[show JR c s b=211 from if_pos E];simp (disch:=first|omega|decide) only[push_cast,↓reduceIte,CB,Jl,J4,E]
theorem Yqn:Contract Tryz.prog GG 108 fl:=
 Eb yHn (DC (all_cons sI all_nil) all_nil) (fun a h=>Yld a.1 a.2.1 a.2.2 h)
variable {c:List Ins}
theorem pg(h:(G9 c).2=0):c.length≤4096∧0<c.length∧c.all F8=true∧∃ s,Gs c.length c 0 (G6 c.length) 0=some s∧s≤64:=by
 unfold G9 at h
 split at h
 ·simp at h
 split at h
 ·simp at h
 rename_i J E;have M:¬ c.length=0:=fun e=>E (.inl e)
 have I:c.all F8=true:=by
  cases hb:c.all F8 with
  |true=>rfl
  |false=>exact absurd (.inr hb) E
 cases hv:Gs c.length c 0 (G6 c.length) 0 with
 |none=>rw[hv]at h; simp[KI]at h
 |some s=>
  rw[hv]at h;simp only[KI]at h
  split at h
  ·simp at h
  ·exact⟨by omega,by omega,I,s,rfl,by omega⟩
theorem Yfg(hv:Fa v)(h:JR c s b=0):aOK c v s b∧s.status=0∧s.clause=0∧(G9 c).2=0:=by
 unfold JR at h
 split at h
 ·simp at h
 split at h
 ·rename_i I; exact absurd h I
 split at h
 ·simp at h
 rename_i O I M;have J:s.status=0:=by omega
 have E:(G9 c).2=0:=by omega
 obtain⟨a1,U,N,_⟩:=pg E;unfold Kg at M;exact⟨⟨hv,by omega,by omega,by omega,by omega,by omega,by omega,N,by omega,by omega⟩,J,by omega,E⟩
def KB:Sta:=⟨0,0,0,0,[]⟩
def Mo(f:Int):Sta:=if f<0∨32768<f then KB else {KB with fuel:=f}
def OK(f:Int):Int:=if f<0∨32768<f then 1 else 0
theorem ui:DG [.int .i64 0,.int .i64 0,.int .i64 0,.int .i64 0,.slc 0 [] true] []=some [.int .i64 0,.int .i64 0,.int .i64 0,.int .i64 0,.slc 0 [] true]:=(rfl)
theorem Ypt(f:Int):DG [.int .i64 0,.int .i64 0,.int .i64 0,.int .i64 0,.slc 0 [] true] [(1,1,.int .i64 f)]=some [.int .i64 0,.int .i64 f,.int .i64 0,.int .i64 0,.slc 0 [] true]:=(rfl)
noncomputable def fm:List D→Option D:=De (α:=Int) (fun a=>[.int .i64 a]) (fun a=>True) (fun a=>.tup [Eg (Mo a),.int .i64 (OK a)])
theorem yV(f:Int):fm [.int .i64 f]=some (.tup [Eg (Mo f),.int .i64 (OK f)]):=
 DX (fun a b h=>by simp only[Aa,D.int.injEq,true_and,and_true]at h; simp[h]) (f) trivial
theorem Ylc(f:Int):@wW GG (tb [] []) Xl.code (C5 [.int .i64 f]) [] ⟨Dg Xl.res (.tup [Eg (Mo f),.int .i64 (OK f)])⟩:=by
 unfold Xl
 by_cases E:f<0
 ·rw[show Mo f=KB from if_pos (.inl E),show OK f=1 from if_pos (.inl E)];simp (disch:=first|omega|decide) only[push_cast,↓reduceIte,CB,Kv,E,ui,KY,K7];rfl
 ·by_cases I:32768<f
  ·rw[show Mo f=KB from if_pos (.inr I),show OK f=1 from if_pos (.inr I)];simp (disch:=first|omega|decide) only[push_cast,↓reduceIte,CB,Kv,E,I,ui,KY,K7];rfl
  ·rw[show Mo f={KB with fuel:=f} from if_neg (by omega),show OK f=0 from if_neg (by omega)];simp (disch:=first|omega|decide) only[push_cast,↓reduceIte,CB,Kv,E,I,Ypt,KY,K7];rfl
theorem Yqm:Contract Tryz.prog GG 48 fm:=
 Eb yHq (DC all_nil all_nil) (fun a h=>Ylc a)
def JY(c:List Ins)(s:Sta):Ins:=c.getD s.pc.toNat default
def Ik(o:Opn):Sta:=⟨o.pc,o.fuel,o.status,o.clause,o.top⟩
def MJ:Opn:=⟨0,0,0,0,[],0,Dp⟩
def ZN(c:List Ins)(o:Opn):Prop:=0<o.fuel∧0<o.depth∧(o.top.length:Int)<IV (JY c (Ik o)).op
instance (c:List Ins) (o:Opn):Decidable (ZN c o):=by unfold ZN; infer_instance
def PU(s:Sta)(o:Opn):Opn:=⟨s.pc,s.fuel,s.status,s.clause,s.stack,o.depth,o.rest⟩
def LG(c:List Ins)(o:Opn):Int:=if JR c (Ik o) o.depth=0 then(if ZN c o then 390 else 0)else JR c (Ik o) o.depth
def LH(c:List Ins)(v:Int×List Int)(o:Opn):Opn:=if LG c o=0 then PU (Gx v o.depth (Ik o) (JY c (Ik o))) o else MJ
theorem TL(cs:List D):DG cs []=some cs:=(rfl)
theorem TM(o:Opn):DG [.int .i64 0,.int .i64 0,.int .i64 0,.int .i64 0,.slc 0 [] true] [(0,1,.int .i64 o.pc),(1,1,.int .i64 o.fuel),(2,1,.int .i64 o.status),(3,1,.int .i64 o.clause),(4,1,Eo o.top)]=some (Er (Ik o)):=(rfl)
theorem TD(s:Sta):D.agg (Er s)=Eg s:=(rfl)
theorem uk(x:Ins)(st:St):ET st 0 (.eptr (C0 x) 0)=some (.eptr (C0 x) 0):=(rfl)
theorem m8(st:St)(x:Ins):EO st 1 false (.eptr (C0 x) 0)=some (.int .i64 x.op):=(rfl)
theorem eh(s:Sta)(o:Opn):DG (Ez 0 0 0 0 (.slc 0 [] true) 0 Dp) [(0,1,.int .i64 s.pc),(1,1,.int .i64 s.fuel),(2,1,.int .i64 s.status),(3,1,.int .i64 s.clause),(4,1,Eo s.stack),(5,1,.int .i64 o.depth),(6,32,C3 o.rest)]=some (EF (PU s o)):=my ..
theorem cL(a b c d:Int)(t:D)(k:Int)(r:Dig)(o:Opn):DZ (some ⟨false,1,Ez a b c d t k r,false⟩) 38 0 (.agg (EF o))=some ⟨false,1,EF o,false⟩:=Tz ..
theorem cB(lent:Bool)(o:Opn):Dr (some ⟨false,1,EF o,lent⟩) 38 true 0=some (DO o):=Q4 ..
noncomputable def fo:List D→Option D:=De (α:=List Ins×(Int×List Int)×Opn) (fun a=>[.slc (nz 3 (a.1.map C0)) (a.1.map C0) false,Ew a.2.1,DO a.2.2]) (fun a=>a.1.length≤4294967296∧Fa a.2.1) (fun a=>.tup [DO (LH a.1 a.2.1 a.2.2),.int .i64 (LG a.1 a.2.2)])
theorem yW(c:List Ins)(v:Int×List Int)(o:Opn)(h:c.length≤4294967296∧Fa v):fo [.slc (nz 3 (c.map C0)) (c.map C0) false,Ew v,DO o]=some (.tup [DO (LH c v o),.int .i64 (LG c o)]):=
 DX (fun⟨a0,a1,E⟩ ⟨b0,b1,I⟩ h=>by simp only[Aa,D.slc.injEq,and_true,J5,QI,KO]at h; simp[h]) (c,v,o) h
theorem Ylb(c:List Ins)(v:Int×List Int)(o:Opn)(h:c.length≤4294967296∧Fa v):@wW GG (tb [(108,fl),(109,Wh),(110,cF)] []) X4.code (C5 [.slc (nz 3 (c.map C0)) (c.map C0) false,Ew v,DO o]) [] ⟨Dg X4.res (.tup [DO (LH c v o),.int .i64 (LG c o)])⟩:=by
 obtain⟨hc,hv⟩:=h;have J:=yT c (Ik o) o.depth hc;unfold X4;have l0:=sW false o.pc o.fuel o.status o.clause (Eo o.top) o.depth o.rest;have l1:=sX false o.pc o.fuel o.status o.clause (Eo o.top) o.depth o.rest;have M:=cw false o.pc o.fuel o.status o.clause (Eo o.top) o.depth o.rest;have N:=sY false o.pc o.fuel o.status o.clause (Eo o.top) o.depth o.rest;have O:=cA false o.pc o.fuel o.status o.clause (Eo o.top) o.depth o.rest;have U:=To false o.pc o.fuel o.status o.clause (Eo o.top) o.depth o.rest;have l6:=sZ false o.pc o.fuel o.status o.clause (Eo o.top) o.depth o.rest;rw[← J3]at l0 l1 M N O U l6
 by_cases I:JR c (Ik o) o.depth=0
 ·obtain⟨ha,hs,af,ah⟩:=Yfg hv I;have ae:o.pc.toNat<c.length:=by have:=ha.p0; have:=ha.p1; simp only[Ik]at *; omega
  have Y:=fun st=>TI st c false o.pc.toNat ae;rw[show((o.pc.toNat:Nat):Int)=o.pc by have:=ha.p0; simp only[Ik]at *; omega]at Y;have Y:∀ st:St,F2 st 3 (.slc (nz 3 (c.map C0)) (c.map C0) false) (.int .i64 o.pc)=some (.eptr (C0 (JY c (Ik o))) 0):=Y;have hn:=pE (JY c (Ik o)).op;rw[I]at J
  by_cases h2:ZN c o
  ·have e:LG c o=390:=by unfold LG; rw[if_pos I,if_pos h2]
   rw[show LH c v o=MJ from if_neg (by rw[e]; decide),e];obtain⟨V,q2,q3⟩:=h2;simp (disch:=first|omega|decide) only[push_cast,↓reduceIte,CB,CC,F4,Mr,OR,FD,Kv,l0,l1,M,N,O,U,TM,TD,NZ,Lm,M4,J,V,q2,Hz,Y,uk,m8,hn,q3,TL,Tz,Q4,YU];rfl
  ·have e:LG c o=0:=by unfold LG; rw[if_pos I,if_neg h2]
   rw[show LH c v o=PU (Gx v o.depth (Ik o) (JY c (Ik o))) o from if_pos e,e];have E:=Yiy c v (Ik o) o.depth ha;rw[show c.getD (Ik o).pc.toNat default=JY c (Ik o)from rfl]at E;generalize Gx v o.depth (Ik o) (JY c (Ik o))=s at*
   by_cases V:0<o.fuel
   ·by_cases q2:0<o.depth
    ·have q3:¬ (o.top.length:Int)<IV (JY c (Ik o)).op:=fun q=>h2 ⟨V,q2,q⟩;simp (disch:=first|omega|decide) only[push_cast,↓reduceIte,CB,CC,F4,Mr,OR,FD,Kv,l0,l1,M,N,O,U,l6,TM,TD,NZ,Lm,M4,Wq,J,V,q2,Hz,Y,uk,m8,hn,q3,H9 hv,EP,GJ,E,cM,Jw,JT,J4,M5,OP,eh,cL,cB,Fx]
    ·simp (disch:=first|omega|decide) only[push_cast,↓reduceIte,CB,CC,F4,Mr,OR,FD,Kv,l0,l1,M,N,O,U,l6,TM,TD,NZ,Lm,M4,Wq,J,V,q2,H9 hv,EP,GJ,E,cM,Jw,JT,J4,M5,OP,eh,cL,cB,Fx]
   ·simp (disch:=first|omega|decide) only[push_cast,↓reduceIte,CB,CC,F4,Mr,OR,FD,Kv,l0,l1,M,N,O,U,l6,TM,TD,NZ,Lm,M4,Wq,J,V,H9 hv,EP,GJ,E,cM,Jw,JT,J4,M5,OP,eh,cL,cB,Fx]
 ·have e:LG c o=JR c (Ik o) o.depth:=if_neg I;rw[show LH c v o=MJ from if_neg (by rw[e]; exact I),e];simp (disch:=first|omega|decide) only[push_cast,↓reduceIte,CB,CC,F4,Mr,OR,FD,Kv,l0,l1,M,N,O,U,TM,TD,NZ,Lm,M4,J,I,TL,Tz,Q4,YU];rfl
theorem Yql:Contract Tryz.prog GG 55 fo:=
 Eb uI (DC (all_cons Yqn (all_cons tR (all_cons VK all_nil))) all_nil) (fun a h=>Ylb a.1 a.2.1 a.2.2 h)
def Gw(c:List Ins):D:=.slc (nz 3 (c.map C0)) (c.map C0) false
theorem uc{a b:List Ins}:Gw a=Gw b↔a=b:=by
 refine⟨fun h=>?_,fun h=>by rw[h]⟩;simp only[Gw,D.slc.injEq,and_true]at h;exact(List.map_inj_right (fun x y h=>QG.1 h)).1 h.2
def gn(s:Sta):PI.Obj:=⟨false,1,Er s,false⟩
inductive RunY (y:List D→St→Option (D×St)) (k kc kv:Nat):List Sta→Nat→St→St→Prop
 |stop {s:Sta} {l:List Sta} {i:Nat} {st st1:St} (h:y [.int .i64 (i:Int),Eg s] st=some (.bool false,st1)):RunY y k kc kv (s::l) i st st1
 |last {s:Sta} {i:Nat} {st st1:St} (h:y [.int .i64 (i:Int),Eg s] st=some (.bool true,st1)) (hk:st1[k]?=some (gn s)):RunY y k kc kv [s] i st st1
 |next {s s':Sta} {l:List Sta} {i:Nat} {st st1 st2:St} (h:y [.int .i64 (i:Int),Eg s] st=some (.bool true,st1)) (hk:st1[k]?=some (gn s)) (hc:st1[kc]?=st[kc]?) (hv:st1[kv]?=st[kv]?)
   (hl:RunY y k kc kv (s'::l) (i+1) (st1.set k (gn s')) st2):RunY y k kc kv (s::s'::l) i st st2
def gR(c:List Ins)(out:Int)(i:Nat)(D:Nat→Int):Prop:=
 ∀ j,i≤j→j<c.length→0≤D j→¬ JS (c.getD j default) (D j)∧D j≤out∧FN (c.getD j default) (D j)≤out∧
  ∀ n∈JZ (c.getD j default) j,(j:Int)<n∧n<c.length∧D n.toNat=FN (c.getD j default) (D j)
structure Good (c:List Ins) (D:Nat→Int) (s:Sta):Prop where
 st:s.status=0
 cl:s.clause=0
 p0:0≤s.pc
 p1:s.pc<c.length
 d:D s.pc.toNat=s.stack.length
 u0:0≤s.fuel
 u1:s.fuel≤32768
structure Last (s:Sta):Prop where
 st:s.status≠0
 s0:0≤s.status
 s1:s.status≤100000
 l:s.stack.length≤64
theorem Good.len{D:Nat→Int}(E:gR c 64 0 D)(h:Good c D s):s.stack.length≤64:=by
 have I:=h.d;have J:=h.p0;have M:=h.p1;have:=(E s.pc.toNat (by omega) (by omega) (by omega)).2.1;omega
theorem Good.ready{D:Nat→Int}(hv:(G9 c).2=0)(E:gR c 64 0 D)(h:Good c D s):JR c s 0=0:=by
 unfold JR;have hl:=h.len E;have I:=h.st;have J:=h.p0;have M:=h.p1;have N:=h.u0;have O:=h.u1;have U:=h.cl;rw[if_neg (by omega),if_neg (by omega),if_neg (by unfold Kg; omega)]
theorem Yc6(h:c.all F8=true)(hj:j<c.length):F8 (c.getD j default)=true:=by
 grind
theorem z7(h:F8 x=true):1≤x.op∧x.op≤16:=⟨(of_decide_eq_true h).1,(of_decide_eq_true h).2.1⟩
theorem Yf9{op:Int}(h:1≤op∧op≤16):IV op=(Ee op).1:=by
 have:op=1∨op=2∨op=3∨op=4∨op=5∨op=6∨op=7∨op=8∨op=9∨op=10∨op=11∨op=12∨op=13∨op=14∨op=15∨op=16:=by omega
 rcases this with rfl | rfl | rfl | rfl | rfl | rfl | rfl | rfl | rfl | rfl | rfl | rfl | rfl | rfl | rfl | rfl <;> rfl
theorem Good.step{D:Nat→Int}(hf:c.all F8=true)(V:gR c 64 0 D)(h:Good c D s) :
  Last (Gx v 0 s (JY c s))∨(Good c D (Gx v 0 s (JY c s))∧s.pc<(Gx v 0 s (JY c s)).pc∧(Gx v 0 s (JY c s)).fuel=s.fuel - 1):=by
 have hl:=h.len V;obtain⟨Y,h2,h3,h4,h5,h6,h7⟩:=h;have hj:s.pc.toNat<c.length:=by omega
 have ab:F8 (JY c s)=true:=Yc6 hf hj;have ac:=z7 ab;obtain⟨O,q2,q3,q4⟩:=V s.pc.toNat (by omega) hj (by omega);rw[show c.getD s.pc.toNat default=JY c s from rfl]at O q3 q4;generalize JY c s=x at*;rw[h5]at O q3 q4;have a3:=Yf9 ac;unfold Gx
 by_cases hu:s.fuel=0
 ·rw[if_pos hu];exact .inl ⟨by simp,by simp,by simp,hl⟩
 rw[if_neg hu]
 have af:¬ ((Dk s).stack.length:Int)<IV x.op:=by
  unfold JS at O
  show ¬ ((s.stack.length:Int)<IV x.op)
  omega
 have hex:Gu v 0 (Dk s) x=DH v 0 (Dk s) x:=if_neg af
 have nx:∀ (n:Int),n∈JZ x s.pc.toNat→s.pc<n∧n<c.length∧D n.toNat=FN x s.stack.length:=fun n hn=>by
  grind
 have I:x.op≠14→x.op≠15→x.op≠16→s.pc<s.pc+1∧s.pc+1<c.length∧D (s.pc+1).toNat=FN x s.stack.length:=fun a b d=>by
  refine nx (s.pc+1) ?_;unfold JZ;grind
 have a0:x.op=13∨x.op=14→s.pc<x.n∧x.n<c.length∧D x.n.toNat=FN x s.stack.length:=fun a=>by
  refine nx x.n ?_;unfold JZ;grind
 -- a6 each outcome comes to
 have a7:∀ e,Gu v 0 (Dk s) x=.err e→Last (FV (Dk s) (Gu v 0 (Dk s) x)):=fun e he=>by
  have:=uv he;rw[he];exact⟨by simp only[FV]; omega,by simp only[FV]; omega,by simp only[FV]; omega,hl⟩
 have E:∀ k push pc,Gu v 0 (Dk s) x=.pop k push pc→k≤s.stack.length→((s.stack.length - k+push.toList.length:Nat):Int)=FN x s.stack.length→(s.pc<pc.getD (s.pc+1)∧pc.getD (s.pc+1)<c.length∧D (pc.getD (s.pc+1)).toNat=FN x s.stack.length)→
   Good c D (FV (Dk s) (Gu v 0 (Dk s) x))∧s.pc<(FV (Dk s) (Gu v 0 (Dk s) x)).pc∧(FV (Dk s) (Gu v 0 (Dk s) x)).fuel=s.fuel - 1:=fun k push pc he hk bd U=>by
  rw[he];refine⟨⟨Y,h2,?_,U.2.1,?_,?_,?_⟩,U.1,rfl⟩
  ·show 0≤pc.getD (s.pc+1); omega
  ·show D (pc.getD (s.pc+1)).toNat=((s.stack.take (s.stack.length - k)++push.toList).length:Int)
   grind
  ·show 0≤s.fuel - 1; omega
  ·show s.fuel - 1≤32768; omega
 have hd:(Ee x.op).1≤s.stack.length:=by unfold JS at O; omega
 by_cases o1:x.op=1
 ·have he:Gu v 0 (Dk s) x=.pop 0 (some x.n) none:=by
   rw[hex]; unfold DH;rw[if_pos o1,if_neg];have:FN x s.stack.length=s.stack.length+1:=by unfold FN; rw[o1]; simp[Ee]
   show ¬ (64:Int)≤0+s.stack.length
   omega
  refine .inr (E _ _ _ he (by omega) ?_ (I (by omega) (by omega) (by omega)));unfold FN; rw[o1]; simp[Ee]
 by_cases o2:x.op=2
 ·have a9:¬ (64:Int)≤0+(Dk s).stack.length:=by
   have:FN x s.stack.length=s.stack.length+1:=by unfold FN; rw[o2]; simp[Ee]
   show ¬ (64:Int)≤0+s.stack.length
   omega
  by_cases b1:NM v.1 (La x.n)=0
  ·have he:Gu v 0 (Dk s) x=.err 181:=by
    rw[hex]; unfold DH;grind
   grind
  by_cases b2:Ei v.2 x.n.toNat < -9007199254740992∨9007199254740992<Ei v.2 x.n.toNat
  ·have he:Gu v 0 (Dk s) x=.err 3:=by
    rw[hex]; unfold DH;grind
   grind
  have he:Gu v 0 (Dk s) x=.pop 0 (some (Ei v.2 x.n.toNat)) none:=by
   rw[hex]; unfold DH;grind
  refine .inr (E _ _ _ he (by omega) ?_ (I (by omega) (by omega) (by omega)));unfold FN; rw[o2]; simp[Ee]
 by_cases J:x.op=12
 ·have he:Gu v 0 (Dk s) x=.pop 1 (some (if x.n≤C8 (Dk s) 0∧C8 (Dk s) 0≤x.m then 1 else 0)) none:=by
   rw[hex]; unfold DH;grind
  have:(Ee x.op).1=1:=by rw[J]; rfl
  refine .inr (E _ _ _ he (by omega) ?_ (I (by omega) (by omega) (by omega)));unfold FN; rw[J]; simp[Ee]; omega
 by_cases M:x.op=13
 ·have he:Gu v 0 (Dk s) x=.pop 1 none (if C8 (Dk s) 0=0 then some x.n else none):=by
   rw[hex]; unfold DH;grind
  have:(Ee x.op).1=1:=by rw[M]; rfl
  refine .inr (E _ _ _ he (by omega) ?_ ?_)
  ·unfold FN; rw[M]; simp[Ee]; omega
  ·grind
 by_cases N:x.op=14
 ·have he:Gu v 0 (Dk s) x=.set x.n s.status s.clause:=by
   rw[hex]; unfold DH;rw[if_neg o1,if_neg o2,if_neg J,if_neg M,if_pos N]; rfl
  obtain⟨m1,m2,m3⟩:=a0 (.inr N)
  right
  rw[he];refine⟨⟨Y,h2,?_,m2,?_,?_,?_⟩,m1,rfl⟩
  ·show 0≤x.n; omega
  ·show D x.n.toNat=(s.stack.length:Int)
   rw[m3]; unfold FN; rw[N]; simp[Ee]
  ·show 0≤s.fuel - 1; omega
  ·show s.fuel - 1≤32768; omega
 by_cases a1:x.op=15
 ·have he:Gu v 0 (Dk s) x=.set s.pc 1 x.n:=by
   rw[hex]; unfold DH;rw[if_neg o1,if_neg o2,if_neg J,if_neg M,if_neg N,if_pos a1]; rfl
  left
  rw[he];exact⟨by simp[FV],by simp[FV],by simp[FV],hl⟩
 by_cases be:x.op=16
 ·have he:Gu v 0 (Dk s) x=.err 180:=by
   rw[hex]; unfold DH;grind
  grind
 by_cases b1:(DS x.op (C8 (Dk s) 1) (C8 (Dk s) 0)).2=0
 ·have he:Gu v 0 (Dk s) x=.pop 2 (some (DS x.op (C8 (Dk s) 1) (C8 (Dk s) 0)).1) none:=by
   rw[hex]; unfold DH;grind
  have e2:Ee x.op=(2,1):=by
   unfold Ee;grind
  rw[e2]at hd;refine .inr (E _ _ _ he (by omega) ?_ (I (by omega) (by omega) (by omega)));unfold FN; rw[e2]; simp; omega
 ·have he:Gu v 0 (Dk s) x=.err (DS x.op (C8 (Dk s) 1) (C8 (Dk s) 0)).2:=by
   rw[hex]; unfold DH;grind
  grind
structure Der where
 code:List Ins
 env:Int×List Int
 am:Int
 er:Int
 lv:List Dig
 deriving Inhabited
section
variable {v:Int×List Int} (hv:Fa v) (lent:Bool) (cs L:D) (a e:Int)
include hv
end
structure okS (s:Sta):Prop where
 l:s.stack.length≤4294967296
 t:s.status≤1000000
theorem SC(st:St):∀ {A:List D} (B:List D),A.all Em=true→DR st (A++B)=(DR st B).map (A++·)
 |[],B,_=>by simp
 |d::A,B,h=>by
  simp only[A3,Af]at h;rw[Ae,DR,aP st h.1,SC st B h.2];cases DR st B <;> rfl
theorem QL(v:Int×List Int):(Ed v).all Em=true:=by
 rw[eg]; exact Pd (v.1::v.2)
theorem DM(S l:St)(k:Nat):(S++l)[S.length+k]?=l[k]?:=by
 rw[AI (by omega)]; congr 1; omega
theorem EI(S l:St):(S++l)[S.length]?=l[0]?:=DM S l 0
theorem DN(S l:St)(k:Nat)(x:PI.Obj):(S++l).set (S.length+k) x=S++l.set k x:=by
 rw[Cc _ _ (by omega)]; congr 2; omega
theorem EK(S l:St)(x:PI.Obj):(S++l).set S.length x=S++l.set 0 x:=DN S l 0 x
theorem LQ(fr:Frame)(st:St)(t n:Nat)(ag:Bool)(l:List PRes):DL ⟨fr,st⟩ (.cell t n ag::l)=(EO st n ag (fr t)).bind fun d=>(DL ⟨fr,st⟩ l).map (d::·):=by
 simp only[DL];cases EO st n ag (fr t) <;> cases DL ⟨fr,st⟩ l <;> rfl
def HE(p:Dig×Dig):D:=.agg (CZ p.1++CZ p.2)
theorem cQ{a b:Dig×Dig}:HE a=HE b↔a=b:=by
 refine⟨fun h=>?_,fun h=>by rw[h]⟩;obtain⟨a1,J⟩:=a;obtain⟨b1,M⟩:=b;simp only[HE,D.agg.injEq]at h;obtain⟨E,I⟩:=A2 h (by rw[DK,DK]);rw[N1.1 E,N1.1 I]
theorem Yqa(p:Dig×Dig):(CZ p.1++CZ p.2).all D.isCell=true:=by
 rw[Bw,Kw (fun _=>rfl),Kw (fun _=>rfl)]; rfl
theorem Ybd(p:Dig×Dig):(CZ p.1++CZ p.2).length=64:=by simp[DK]
theorem iJ(p:Dig×Dig):Dy (HE p)=some (CZ p.1++CZ p.2):=by
 rw[show Dy (HE p)=if(CZ p.1++CZ p.2).all D.isCell then some (CZ p.1++CZ p.2)else none from rfl,if_pos (Yqa p)]
theorem ij(lent:Bool)(p:Dig×Dig):Dr (some ⟨false,1,CZ p.1++CZ p.2,lent⟩) 64 true 0=some (HE p):=KJ 1 lent _ 64 (Ybd p)
theorem gJ(p:Dig×Dig):Ou 2 32 true (HE p) (.int .i64 0)=some (C3 p.1):=
 mz (A:=[]) (B:=CZ p.1) (C:=CZ p.2) rfl rfl (DK _)
theorem gI(p:Dig×Dig):Ou 2 32 true (HE p) (.int .i64 1)=some (C3 p.2):=
 mz (A:=CZ p.1) (B:=CZ p.2) (C:=[]) (by rw[Ad]) (DK _) (DK _)
theorem mh(p:Dig×Dig):IH (HE p)=true:=by
 simp only[HE,IH,Bw];rw[show(CZ p.1).all Em=true from Pn _,show(CZ p.2).all Em=true from Pn _]; rfl
theorem gY(p:Dig×Dig):hk (HE p)=[]:=Sa (mh p)
theorem cH(n:Nat)(σ:List Nat)(p:Dig×Dig):Ef n σ (HE p)=HE p:=Pc n σ (mh p)
def D2(p:Int×Dig):D:=.agg (.int .i64 p.1::CZ p.2)
def PK(cl:Dig×Dig)(d:Dig):Int:=if cl.1=d then 0 else if cl.2=d then 1 else -1
def G8(cl:Dig×Dig)(r:Dig×Int):Int×Dig:=if r.2=0 then(PK cl r.1,r.1)else(0,Dp)
def E3(cl:Dig×Dig):PI.Obj:=⟨false,1,CZ cl.1++CZ cl.2,false⟩
def EV(p:Int×Dig):PI.Obj:=⟨false,1,.int .i64 p.1::CZ p.2,false⟩
def sU(f:Nat)(sp:List D→St→Option (D×St))(ds:List D)(st:St)(r:D×St):Prop:=∃ (cl:Dig×Dig) (caps:List D) (d:Dig) (e:Int),StOK st∧ds=[HE cl,.clo f caps]∧
 sp caps (st++[E3 cl,EV (0,Dp)])=some (.tup [C3 d,.int .i64 e],st++[E3 cl,EV (0,Dp)])∧r=(.tup [D2 (G8 cl (d,e)),.int .i64 e],st)
theorem ot(f:Nat)(sp:List D→St→Option (D×St)):Hv (sU f sp):=by
 rintro ds st r O ⟨cl,J,d,e,_,rfl,M,rfl⟩ ⟨N,I,U,V,_,h,E,rfl⟩;simp only[Aa,D.clo.injEq,and_true,true_and,cQ]at h;obtain⟨rfl,rfl⟩:=h;rw[M]at E;simp only[C4,Dl,D.tup.injEq,Aa,Mt,D.int.injEq,true_and,and_true]at E;obtain⟨rfl,rfl⟩:=E;rfl
noncomputable def Qz(f:Nat)(sp:List D→St→Option (D×St)):List D→St→Option (D×St):=E1 (sU f sp)
theorem Sr{S:St}(h:StOK S)(l:St)(hl:∀ o∈l,o.els.all Em=true):StOK (S++l):=
 h.app _ fun o E _ x I=>Pc _ _ (XO (Aj.1 (hl o E) x I))
theorem KW(d:Dig):(CZ d).all Em=true:=Pn d
theorem QU(E:Dig×Dig):(E3 E).els.all Em=true:=by
 simp only[E3,Bw,KW]; rfl
theorem SJ(p:Int×Dig):(EV p).els.all Em=true:=by
 simp only[EV,A3,KW]; rfl
theorem LW{S l:St}(h:StOK S):cut S.length (S++l)=S:=sM h rfl
theorem Yge(n:Nat)(a:Int)(d:Dig)(e:Int):Hn n (.tup [.agg (.int .i64 a::CZ d),.int .i64 e])=.tup [.agg (.int .i64 a::CZ d),.int .i64 e]:=by
 have h:G2 n (.agg (.int .i64 a::CZ d))=.agg (.int .i64 a::CZ d):=by
  rw[← dA]; exact Pc n [] (d:=.agg (.int .i64 a::CZ d)) (by simp only[IH,A3,KW]; rfl)
 simp only[Hn,Ax,Bk,h];rfl
theorem Rl(p:Int×Dig)(a:Int)(d:Dig):DZ (some (EV p)) 33 0 (.agg (.int .i64 a::CZ d))=some (EV (a,d)):=
 Lp 1 _ _ 33 (by simp[DK]) (by simp[DK]) (by rw[A3,Kw (fun _=>rfl)]; rfl)
theorem Rr(p:Int×Dig):Dr (some (EV p)) 33 true 0=some (D2 p):=KJ 1 false _ 33 (by simp[DK])
theorem Yup(E:Dig×Dig):Dr (some (E3 E)) 64 true 0=some (HE E):=ij false E
theorem en(a:Int)(d:Dig):DG (.int .i64 0::CZ Dp) [(0,1,.int .i64 a),(1,32,C3 d)]=some (.int .i64 a::CZ d):=by
 refine(IN (cs:=.int .i64 0::CZ Dp) (cs':=.int .i64 a::CZ Dp) (A:=[]) (B:=[.int .i64 0]) (xs:=[.int .i64 a]) rfl rfl rfl rfl rfl rfl rfl).trans ?_;refine(IN (cs:=.int .i64 a::CZ Dp) (cs':=.int .i64 a::CZ d) (A:=[.int .i64 a]) (B:=CZ Dp) (C:=[]) (xs:=CZ d) (by simp) (by simp) rfl (DK _) rfl (DK _) (Kw (fun _=>rfl) d)).trans ?_;rfl
theorem ZC(n:Nat)(p:Int×Dig)(e:Int):Hn n (.tup [D2 p,.int .i64 e])=.tup [D2 p,.int .i64 e]:=Yge n p.1 p.2 e
set_option maxHeartbeats 4000000 in
set_option maxRecDepth 20000 in
theorem mN(f:Nat)(hf:f<5000000)(sp:List D→St→Option (D×St))(hc:IContract Tryz.prog GG f sp):IContract Tryz.prog GG 45 (Qz f sp):=by
 refine XL (T:=tb [] [(f,sp)]) uK (DC all_nil (all_cons hc all_nil)) ?_;intro ds st r hr;obtain⟨cl,I,d,e,E,rfl,h2,rfl⟩:=Iw hr;unfold jE;have hT:(tb [] [(f,sp)]).i f=some sp:=by rw[Ue,oV,if_pos rfl]
 have Y:Kf (tb [] [(f,sp)]) (.clo f I)=some (sp,[],I):=by rw[ue _ _ _ hf,hT]; rfl
 have hz:(.int .i64 0::CZ Dp:List D)=(.int .i64 0::CZ Dp:List D):=rfl;simp (disch:=first|omega|decide) only[push_cast,↓reduceIte,CB,CD,iJ,Y,Ah,Ae,Ai];rw[show st++[⟨false,1,CZ cl.1++CZ cl.2,false⟩,⟨false,1,.int .i64 0::CZ Dp,false⟩]=st++[E3 cl,EV (0,Dp)]from rfl,h2];simp (disch:=first|omega|decide) only[push_cast,↓reduceIte,CB,CC,CD,Ah,Ae,Ai,Ab,Ak,Ap,Am,CC,DM,DN]
 by_cases he:e=0
 ·subst he
  have aa:StOK (st++[E3 cl,EV (0,Dp),⟨false,1,CZ d,false⟩]):=Sr E _ (fun o ho=>by
   simp only[Aw,AB,or_false]at ho;rcases ho with rfl | rfl | rfl
   ·exact QU cl
   ·exact SJ _
   ·exact KW d)
  have J:(st++[E3 cl,EV (0,Dp),⟨false,1,CZ d,false⟩]).length=st.length+3:=by simp
  have O:st.length+1<st.length+3:=by omega
  have U:st.length+2<st.length+3:=by omega
  have hR:∀ (fr:Frame) (l:St),(LZ fr [4,6,19,20]).all (fun k=>decide (k<st.length+3))=true→restrict [4,6,19,20] (st++[E3 cl,EV (0,Dp),⟨false,1,CZ d,false⟩]).length ⟨fr,st++E3 cl::EV (0,Dp)::⟨false,1,CZ d,false⟩::l⟩=⟨GH (Jf fr (st.length+3) [] [4,6,19,20]),st++[E3 cl,EV (0,Dp),⟨false,1,CZ d,false⟩]⟩:=fun fr l h=>by
   have:=jB (keep:=[4,6,19,20]) (fr:=fr) (l:=l) aa J.symm (fun k hk=>of_decide_eq_true (Aj.1 h k hk));rw[Ah]at this;rw[J];exact this
  have M:=hR;simp only[J]at M;simp (disch:=first|omega|decide) only[push_cast,↓reduceIte,CB,CD,EI,Yup]
  refine Gr (fun i:Nat=>[(4,.ptr (st.length+1) 0),(6,.ptr (st.length+2) 0),(19,HE cl),(20,.int .i64 (i:Int))]) (fun _=>st++[E3 cl,EV (0,Dp),⟨false,1,CZ d,false⟩])
   (fun i=>i≤2∧(0<i→¬ cl.1=d)∧(1<i→¬ cl.2=d)) (fun i=>2 - i) 0 ?_ ⟨by omega,fun h=>absurd h (by omega),fun h=>absurd h (by omega)⟩ ?_
  ·simp (disch:=first | omega | decide | (simp only[push_cast,↓EE,↓reduceIte,CB,CI,CG,CC,Nat.reduceSub,CF,CU,CM,Int.reduceLE,CN,CD,CS,CR,CY,CT,↓CE,gY,O,U,decide_true]; done)) only[push_cast,↓reduceIte,CB,↓CE,↓hR,cH,OT]
  rintro i ⟨hi,N,V⟩;unfold j3
  match i,hi,N,V with
  |0,_,_,_=>
   have c0:=gJ cl
   by_cases q:cl.1=d
   ·rw[show G8 cl (d,0)=(0,d) by unfold G8 PK; rw[if_pos rfl,if_pos q]];simp (disch:=first|omega|decide) only[push_cast,↓reduceIte,CB,CC,CM,CD,↓CE,Ah,Ae,Ai,Ab,Ak,Ap,Am,CC,DM,DN,c0,q,en,Rl,Rr,ZC,LQ,LW E]
   ·simp (disch:=first | omega | decide | (simp only[push_cast,↓EE,↓reduceIte,CB,CI,CG,CC,Nat.reduceSub,CF,CU,CM,Int.reduceLE,CN,CD,CS,CR,CY,CT,↓CE,gY,O,U,decide_true]; done)) only[push_cast,↓reduceIte,CB,CC,CM,CR,↓CE,↓M,cH,OT,Ah,Ae,Ai,Ab,Ak,Ap,Am,CC,DM,DN,c0,q,DI];refine E0 1 (by exact⟨by omega,fun _=>q,fun h=>absurd h (by omega)⟩) (by omega) ?_;simp (disch:=first|omega|decide) only[push_cast,↓CE] <;> rfl
  |1,_,N,_=>
   have c1:=gI cl;have q0:=N (by omega)
   by_cases q:cl.2=d
   ·rw[show G8 cl (d,0)=(1,d) by unfold G8 PK; rw[if_pos rfl,if_neg q0,if_pos q]];simp (disch:=first|omega|decide) only[push_cast,↓reduceIte,CB,CC,CM,CD,↓CE,Ah,Ae,Ai,Ab,Ak,Ap,Am,CC,DM,DN,c1,q,en,Rl,Rr,ZC,LQ,LW E]
   ·simp (disch:=first | omega | decide | (simp only[push_cast,↓EE,↓reduceIte,CB,CI,CG,CC,Nat.reduceSub,CF,CU,CM,Int.reduceLE,CN,CD,CS,CR,CY,CT,↓CE,gY,O,U,decide_true]; done)) only[push_cast,↓reduceIte,CB,CC,CM,CR,↓CE,↓M,cH,OT,Ah,Ae,Ai,Ab,Ak,Ap,Am,CC,DM,DN,c1,q,DI];refine E0 2 (by exact⟨by omega,fun _=>q0,fun _=>q⟩) (by omega) ?_;simp (disch:=first|omega|decide) only[push_cast,↓CE] <;> rfl
  |2,_,N,V=>
   rw[show G8 cl (d,0)=(-1,d) by unfold G8 PK; rw[if_pos rfl,if_neg (N (by omega)),if_neg (V (by omega))]];simp (disch:=first|omega|decide) only[push_cast,↓reduceIte,CB,CC,CM,CD,↓CE,Ab,Ak,Ap,Am,CC,DM,DN,en,Rl,Rr,ZC,LQ,LW E]
 ·have hv:G8 cl (d,e)=(0,Dp):=if_neg he;rw[hv];simp (disch:=first|omega|decide) only[push_cast,↓reduceIte,CB,CD,he,DM,DN,LW E,Rl,Rr,ZC,TL,LQ]
theorem mM(c:List Ins):([.slc (nz 3 (c.map C0)) (c.map C0) false]:List D).all Em=true:=by
 simp[Em,Km]
def Hf(c:List Ins)(v:Int×List Int):Dig×Int:=if c.length=0 then(EL,0)else if(G9 c).2≠0 then(Dp,(G9 c).2)else(Mf c v (Mo (c.length+1)),0)
def rO(ds:List D)(st:St)(r:D×St):Prop:=∃ (kc kv:Nat) (c:List Ins) (v:Int×List Int) (lc lv:Bool),StOK st∧ds=[.ptr kc 0,.ptr kv 0]∧st[kc]?=some ⟨false,1,[Gw c],lc⟩∧st[kv]?=some ⟨false,1,Ed v,lv⟩∧c.length≤9223372036854775807∧Fa v∧
 r=(.tup [C3 (Hf c v).1,.int .i64 (Hf c v).2],st)
theorem Yv7:Hv rO:=by
 rintro ds st r Y ⟨kc,kv,c,v,lc,lv,_,rfl,J,M,_,_,rfl⟩ ⟨N,O,c',v',U,V,_,h,E,I,_,_,rfl⟩;simp only[Aa,D.ptr.injEq,and_true]at h;obtain⟨rfl,rfl⟩:=h;rw[J]at E;rw[M]at I;simp only[C4,Obj.mk.injEq,Aa,and_true,true_and,uc]at E I;obtain⟨rfl,_⟩:=E;obtain rfl:v=v':=KO.1 (congrArg D.agg I.1);rfl
noncomputable def ZX:List D→St→Option (D×St):=E1 rO
theorem OX(n:Nat)(d:Dig)(e:Int):Hn n (.tup [C3 d,.int .i64 e])=.tup [C3 d,.int .i64 e]:=by
 have h:G2 n (C3 d)=C3 d:=by rw[← dA]; exact nD n [] d
 simp only[Hn,Ax,Bk,h];rfl
theorem PB(a d:Dig):DZ (some ⟨false,1,CZ a,false⟩) 32 0 (C3 d)=some ⟨false,1,CZ d,false⟩:=Lp 1 _ _ 32 (DK _) (DK _) (Kw (fun _=>rfl) d)
set_option maxHeartbeats 4000000 in
set_option maxRecDepth 20000 in
theorem VD:IContract Tryz.prog GG 46 ZX:=by
 refine XL (T:=tb [(20,Qp),(47,Zs),(48,fm),(49,dJ)] []) u4 (DC (all_cons YK (all_cons sI (all_cons Yqm (all_cons Ywq all_nil)))) all_nil) ?_;intro ds st r Y;obtain⟨kc,kv,c,v,lc,lv,I,rfl,N,O,hc,hv,rfl⟩:=Iw Y
 have Dq:∀ l:St,(st++l)[kc]?=some ⟨false,1,[.slc (nz 3 (c.map C0)) (c.map C0) false],lc⟩:=fun l=>by
  rw[Au (Ac.1 N).1]; exact N
 have U:∀ l:St,(st++l)[kv]?=some ⟨false,1,Ed v,lv⟩:=fun l=>by
  rw[Au (Ac.1 O).1]; exact O
 have V:=nU c hc;have cp:=Sj;unfold jQ
 by_cases M:c.length=0
 ·rw[show Hf c v=(EL,0)from if_pos M];have E:(c.length:Int)=0:=by omega
  simp (disch:=first|omega|decide) only[push_cast,↓reduceIte,CB,Dq,E,cp,EI,EK,OX,LW I,LQ,PB]
 by_cases J:(G9 c).2=0
 ·rw[show Hf c v=(Mf c v (Mo (c.length+1)),0) by unfold Hf; rw[if_neg M,if_neg (by simp[J])]];have E:¬ (c.length:Int)=0:=by omega
  obtain⟨ae,_⟩:=pg J;have cs:=yV ((c.length:Int)+1);rw[show OK ((c.length:Int)+1)=0 from if_neg (by omega)]at cs
  have cd:=Ybu c v (Mo ((c.length:Int)+1)) ⟨by omega,hv,by
   rw[show Mo ((c.length:Int)+1)={KB with fuel:=(c.length:Int)+1} from if_neg (by omega)]; exact Bd _⟩
  simp (disch:=first|omega|decide) only[push_cast,↓reduceIte,CB,Dq,U,E,J,V,cs,cd,DI,Kv,NZ,Lm,H9 hv,EP,M4,Ah,Ae,Ai,Ab,Ak,Ap,Am,DM,DN,EI,EK,OX,LW I,LQ,PB]
 ·rw[show Hf c v=(Dp,(G9 c).2) by unfold Hf; rw[if_neg M,if_pos J]];have E:¬ (c.length:Int)=0:=by omega
  simp (disch:=first|omega|decide) only[push_cast,↓reduceIte,CB,Dq,E,J,V,Ai,EI,EK,OX,LW I,LQ,PB,TL]
noncomputable def WT:List D→Option D:=De (α:=List Ins×(Int×List Int)×(Dig×Dig)) (fun a=>[.slc (nz 3 (a.1.map C0)) (a.1.map C0) false,Ew a.2.1,HE a.2.2]) (fun a=>a.1.length≤9223372036854775807∧Fa a.2.1) (fun a=>.tup [D2 (G8 a.2.2 (Hf a.1 a.2.1)),.int .i64 (Hf a.1 a.2.1).2])
theorem yN1(c:List Ins)(v:Int×List Int)(E:Dig×Dig)(h:c.length≤9223372036854775807∧Fa v):WT [.slc (nz 3 (c.map C0)) (c.map C0) false,Ew v,HE E]=some (.tup [D2 (G8 E (Hf c v)),.int .i64 (Hf c v).2]):=
 DX (fun⟨a0,a1,I⟩ ⟨b0,b1,J⟩ h=>by simp only[Aa,D.slc.injEq,and_true,J5,KO,cQ]at h; simp[h]) (c,v,E) h
set_option maxHeartbeats 4000000 in
set_option maxRecDepth 20000 in
theorem Ydt(c:List Ins)(v:Int×List Int)(E:Dig×Dig)(h:c.length≤9223372036854775807∧Fa v):@wW GG (tb [] [(45,Qz 46 ZX)]) X6.code (C5 [.slc (nz 3 (c.map C0)) (c.map C0) false,Ew v,HE E]) [] ⟨Dg X6.res (.tup [D2 (G8 E (Hf c v)),.int .i64 (Hf c v).2])⟩:=by
 obtain⟨hc,hv⟩:=h;unfold X6;have O:(CZ E.1++CZ E.2).all Em=true:=QU E
 have J:StOK [⟨false,1,[.slc (nz 3 (c.map C0)) (c.map C0) false],false⟩,⟨false,1,Ed v,false⟩,E3 E,EV (0,Dp)]:=by
  refine Sr (S:=[]) (fun o I=>by cases I) _ (fun o I=>?_);simp only[Aw,AB,or_false]at I;rcases I with rfl | rfl | rfl | rfl
  ·exact mM c
  ·exact QL v
  ·exact QU E
  ·exact SJ _
 have M:=Sr J [E3 E,EV (0,Dp)] (fun o I=>by
  simp only[Aw,AB,or_false]at I;rcases I with rfl | rfl
  ·exact QU E
  ·exact SJ _)
 have hj:Qz 46 ZX [HE E,.clo 46 [.ptr 0 0,.ptr 1 0]] [⟨false,1,[.slc (nz 3 (c.map C0)) (c.map C0) false],false⟩,⟨false,1,Ed v,false⟩,E3 E,EV (0,Dp)]=some (.tup [D2 (G8 E (Hf c v)),.int .i64 (Hf c v).2],[⟨false,1,[.slc (nz 3 (c.map C0)) (c.map C0) false],false⟩,⟨false,1,Ed v,false⟩,E3 E,EV (0,Dp)]):=
  KK (ot _ _) ⟨E,[.ptr 0 0,.ptr 1 0],(Hf c v).1,(Hf c v).2,J,rfl,KK Yv7 ⟨0,1,c,v,false,false,M,rfl,rfl,rfl,hc,hv,rfl⟩,rfl⟩
 have N:=Rl (0,Dp);have lv:=Rr;simp only[E3,EV,D2]at hj N lv;simp (disch:=first|omega|decide) only[push_cast,↓reduceIte,CB,CC,F4,iJ,ij,hj,D2,N,lv]
theorem Yi2:Contract Tryz.prog GG 14 WT:=
 Eb (T:=tb [] [(45,Qz 46 ZX)]) uJ (DC all_nil (all_cons (mN _ (by decide) _ VD) all_nil)) (fun a h=>Ydt a.1 a.2.1 a.2.2 h)
theorem Yrk(v:Int×List Int)(b:Int)(s:Sta)(x:Ins):(Gx v b s x).stack.length≤s.stack.length+1:=by
 have h:∀ o:Out,(FV (Dk s) o).stack.length≤s.stack.length+1:=by
  intro o
  cases o with
  |err e=>exact Nat.le_succ _
  |set p t c=>exact Nat.le_succ _
  |pop k push pc=>
   show(s.stack.take (s.stack.length - k)++push.toList).length≤_
   rw[Ab,AQ];have:push.toList.length≤1:=by cases push <;> simp
   omega
 unfold Gx
 split
 ·exact Nat.le_succ _
 ·exact h _
theorem yL(c:List Ins)(v:Int×List Int)(o:Opn):(LH c v o).top.length≤o.top.length+1:=by
 unfold LH
 split
 ·exact Yrk v o.depth (Ik o) _
 ·simp[MJ]
def FB(c:List Ins)(v:Int×List Int)(b:Dig)(o:Opn):Dig×Int:=if b=EL then(b,0)else if F5 c v o≠b then(Dp,390)else if o.status≠0 then(EL,0)else(F5 c v (LH c v o),LG c o)
def rv(ds:List D)(st:St)(r:D×St):Prop:=∃ (kb kc kv ko:Nat) (b:Dig) (c:List Ins) (v:Int×List Int) (o:Opn) (lb lc lv lo:Bool),StOK st∧ds=[.ptr kb 0,.ptr kc 0,.ptr kv 0,.ptr ko 0]∧st[kb]?=some ⟨false,1,CZ b,lb⟩∧st[kc]?=some ⟨false,1,[Gw c],lc⟩∧st[kv]?=some ⟨false,1,Ed v,lv⟩∧st[ko]?=some ⟨false,1,EF o,lo⟩∧c.length≤4294967296∧Fa v∧o.top.length≤4294967295∧
 r=(.tup [C3 (FB c v b o).1,.int .i64 (FB c v b o).2],st)
theorem Ytp:Hv rv:=by
 rintro ds st r r' ⟨kb,kc,kv,ko,b,c,v,o,lb,lc,lv,lo,_,rfl,N,O,U,V,_,_,_,rfl⟩ ⟨Y,aa,ab,ac,b',c',v',o',ad,ae,af,ah,_,h,E,I,J,M,_,_,_,rfl⟩;simp only[Aa,D.ptr.injEq,and_true]at h;obtain⟨rfl,rfl,rfl,rfl⟩:=h;rw[N]at E;rw[O]at I;rw[U]at J;rw[V]at M;simp only[C4,Obj.mk.injEq,Aa,and_true,true_and,uc,N1]at E I J M;obtain⟨rfl,_⟩:=E;obtain⟨rfl,_⟩:=I;obtain rfl:v=v':=KO.1 (congrArg D.agg J.1);obtain rfl:o=o':=QI.1 (congrArg D.agg M.1);rfl
noncomputable def iw:List D→St→Option (D×St):=E1 rv
theorem ZO(lent:Bool)(d:Dig):Dr (some ⟨false,1,CZ d,lent⟩) 32 true 0=some (C3 d):=KJ 1 lent _ 32 (DK d)
theorem F6(lent:Bool)(o:Opn):Dr (some ⟨false,1,EF o,lent⟩) 38 true 0=some (DO o):=by rw[DO,J3]; exact Q4 ..
theorem Mu(lent:Bool)(o:Opn):Dr (some ⟨false,1,EF o,lent⟩) 1 false 2=some (.int .i64 o.status):=by rw[J3]; exact cw ..
theorem Gq(o:Opn):DZ (some ⟨false,1,Ez 0 0 0 0 (.slc 0 [] true) 0 Dp,false⟩) 38 0 (DO o)=some ⟨false,1,EF o,false⟩:=by rw[DO,J3]; exact Tz ..
set_option maxHeartbeats 8000000 in
set_option maxRecDepth 20000 in
theorem VC:IContract Tryz.prog GG 54 iw:=by
 refine XL (T:=tb [(20,Qp),(40,RN),(55,fo)] []) uS (DC (all_cons YK (all_cons sJ (all_cons Yql all_nil))) all_nil) ?_;intro ds st r hr;obtain⟨kb,kc,kv,ko,b,c,v,o,lb,lc,lv,lo,I,rfl,Y,h1,h2,h3,hc,hv,a3,rfl⟩:=Iw hr
 have FX:∀ l:St,(st++l)[kb]?=some ⟨false,1,CZ b,lb⟩:=fun l=>by
  rw[Au (Ac.1 Y).1]; exact Y
 have Dq:∀ l:St,(st++l)[kc]?=some ⟨false,1,[.slc (nz 3 (c.map C0)) (c.map C0) false],lc⟩:=fun l=>by
  rw[Au (Ac.1 h1).1]; exact h1
 have M:∀ l:St,(st++l)[kv]?=some ⟨false,1,Ed v,lv⟩:=fun l=>by
  rw[Au (Ac.1 h2).1]; exact h2
 have N:∀ l:St,(st++l)[ko]?=some ⟨false,1,EF o,lo⟩:=fun l=>by
  rw[Au (Ac.1 h3).1]; exact h3
 have O:=Sj;have V:=fG c v o ⟨hc,hv,by omega⟩;have co:=yW c v o ⟨hc,hv⟩;have a4:=yL c v o;have ad:=fG c v (LH c v o) ⟨hc,hv,by omega⟩;unfold jM
 by_cases E:b=EL
 ·rw[show FB c v b o=(b,0)from if_pos E];simp (disch:=first|omega|decide) only[push_cast,↓reduceIte,CB,FX,ZO,E,O,EI,EK,OX,LW I,LQ,PB]
 by_cases J:F5 c v o=b
 ·by_cases U:o.status=0
  ·rw[show FB c v b o=(F5 c v (LH c v o),LG c o) by unfold FB; rw[if_neg E,if_neg (by simp[J]),if_neg (by simp[U])]];simp (disch:=first|omega|decide) only[push_cast,↓reduceIte,CB,FX,Dq,M,N,ZO,E,J,U,O,V,ad,co,H9 hv,EP,GJ,Fx,Jo,F6,Mu,Gq,OR,FD,Ah,Ae,Ai,Ab,Ak,Ap,Am,DM,DN,EI,EK,OX,LW I,LQ,PB]
  ·rw[show FB c v b o=(EL,0) by unfold FB; rw[if_neg E,if_neg (by simp[J]),if_pos U]];simp (disch:=first|omega|decide) only[push_cast,↓reduceIte,CB,FX,Dq,M,N,ZO,E,J,U,O,V,H9 hv,EP,Fx,F6,Mu,Am,EI,EK,OX,LW I,LQ,PB]
 ·rw[show FB c v b o=(Dp,390) by unfold FB; rw[if_neg E,if_pos J]];simp (disch:=first|omega|decide) only[push_cast,↓reduceIte,CB,FX,Dq,M,N,ZO,E,J,O,V,H9 hv,EP,Fx,F6,EI,EK,OX,LW I,LQ,PB,TL]
noncomputable def Sb:List D→Option D:=De (α:=List Ins×(Int×List Int)×Dig×(Dig×Dig)×Opn) (fun a=>[.slc (nz 3 (a.1.map C0)) (a.1.map C0) false,Ew a.2.1,C3 a.2.2.1,HE a.2.2.2.1,DO a.2.2.2.2]) (fun a=>a.1.length≤4294967296∧Fa a.2.1∧a.2.2.2.2.top.length≤4294967295) (fun a=>.tup [D2 (G8 a.2.2.2.1 (FB a.1 a.2.1 a.2.2.1 a.2.2.2.2)),.int .i64 (FB a.1 a.2.1 a.2.2.1 a.2.2.2.2).2])
theorem pw(c:List Ins)(v:Int×List Int)(b:Dig)(E:Dig×Dig)(o:Opn)(h:c.length≤4294967296∧Fa v∧o.top.length≤4294967295):Sb [.slc (nz 3 (c.map C0)) (c.map C0) false,Ew v,C3 b,HE E,DO o]=some (.tup [D2 (G8 E (FB c v b o)),.int .i64 (FB c v b o).2]):=
 DX (fun⟨a0,a1,I,J,M⟩ ⟨b0,b1,N,O,U⟩ h=>by simp only[Aa,D.slc.injEq,Mt,and_true,J5,QI,KO,cQ]at h; simp[h]) (c,v,b,E,o) h
noncomputable def PT:Tbl:=tb [] [(45,Qz 54 iw)]
set_option maxHeartbeats 8000000 in
set_option maxRecDepth 20000 in
theorem Ylv(c:List Ins)(v:Int×List Int)(b:Dig)(E:Dig×Dig)(o:Opn)(h:c.length≤4294967296∧Fa v∧o.top.length≤4294967295):@wW GG PT XS.code (C5 [.slc (nz 3 (c.map C0)) (c.map C0) false,Ew v,C3 b,HE E,DO o]) [] ⟨Dg XS.res (.tup [D2 (G8 E (FB c v b o)),.int .i64 (FB c v b o).2])⟩:=by
 obtain⟨hc,hv,N⟩:=h;unfold XS
 have O:(EF o).all Em=true:=by
  rw[J3];simp only[Ez,A3,KW];simp[Em,Eo,Km]
 have J:StOK [⟨false,1,[.slc (nz 3 (c.map C0)) (c.map C0) false],false⟩,⟨false,1,Ed v,false⟩,⟨false,1,CZ b,false⟩,E3 E,⟨false,1,EF o,false⟩,EV (0,Dp)]:=by
  refine Sr (S:=[]) (fun o I=>by cases I) _ (fun x I=>?_);simp only[Aw,AB,or_false]at I;rcases I with rfl | rfl | rfl | rfl | rfl | rfl
  ·exact mM c
  ·exact QL v
  ·exact KW b
  ·exact QU E
  ·exact O
  ·exact SJ _
 have M:=Sr J [E3 E,EV (0,Dp)] (fun o I=>by
  simp only[Aw,AB,or_false]at I;rcases I with rfl | rfl
  ·exact QU E
  ·exact SJ _)
 have hj:Qz 54 iw [HE E,.clo 54 [.ptr 2 0,.ptr 0 0,.ptr 1 0,.ptr 4 0]] [⟨false,1,[.slc (nz 3 (c.map C0)) (c.map C0) false],false⟩,⟨false,1,Ed v,false⟩,⟨false,1,CZ b,false⟩,E3 E,⟨false,1,EF o,false⟩,EV (0,Dp)]=some (.tup [D2 (G8 E (FB c v b o)),.int .i64 (FB c v b o).2],[⟨false,1,[.slc (nz 3 (c.map C0)) (c.map C0) false],false⟩,⟨false,1,Ed v,false⟩,⟨false,1,CZ b,false⟩,E3 E,⟨false,1,EF o,false⟩,EV (0,Dp)]):=
  KK (ot _ _) ⟨E,[.ptr 2 0,.ptr 0 0,.ptr 1 0,.ptr 4 0],(FB c v b o).1,(FB c v b o).2,J,rfl,KK Ytp ⟨2,0,1,4,b,c,v,o,false,false,false,false,M,rfl,rfl,rfl,rfl,rfl,hc,hv,N,rfl⟩,rfl⟩
 have U:=Rl (0,Dp);have lv:=Rr;simp only[E3,EV,D2]at hj U lv;simp (disch:=first|omega|decide) only[push_cast,↓reduceIte,CB,CC,PT,F4,iJ,Mr,ij,hj,D2,U,lv]
theorem Yqx:Contract Tryz.prog GG 16 Sb:=
 Eb (T:=PT) ux (DC all_nil (all_cons (mN _ (by decide) _ VC) all_nil)) (fun a h=>Ylv a.1 a.2.1 a.2.2.1 a.2.2.2.1 a.2.2.2.2 h)
noncomputable def Yek:List D→Option D:=De (α:=Int×Dig×List Dig) (fun a=>[.int .i64 a.1,C3 a.2.1,.slc (nz 32 (a.2.2.map C3)) (a.2.2.map C3) false]) (fun a=>0≤a.1∧a.1<4611686018427387904∧a.2.2.length≤4294967296) (fun a=>C3 (MR a.1.toNat a.2.1 a.2.2))
theorem Yru(i:Int)(x:Dig)(p:List Dig)(h:0≤i∧i<4611686018427387904∧p.length≤4294967296):Yek [.int .i64 i,C3 x,.slc (nz 32 (p.map C3)) (p.map C3) false]=some (C3 (MR i.toNat x p)):=
 DX (fun⟨a0,a1,E⟩ ⟨b0,b1,I⟩ h=>by simp only[Aa,D.slc.injEq,D.int.injEq,dY,Mt,true_and,and_true]at h; simp[h]) (i,x,p) h
noncomputable def Ps:List D→Option D:=De (α:=(Int×Dig)×Int×Dig×List Dig) (fun a=>[.agg (.int .i64 (CV a.1)::CZ (CW a.1)),.int .i64 a.2.1,C3 a.2.2.1,.slc (nz 32 (a.2.2.2.map C3)) (a.2.2.2.map C3) false]) (fun a=>-9223372036854775808≤a.2.1∧a.2.1<9223372036854775808) (fun a=>.bool (Hc a.1 a.2.1 a.2.2.1 a.2.2.2))
theorem X5(c:Int×Dig)(i:Int)(x:Dig)(p:List Dig)(h:-9223372036854775808≤i∧i<9223372036854775808):Ps [.agg (.int .i64 (CV c)::CZ (CW c)),.int .i64 i,C3 x,.slc (nz 32 (p.map C3)) (p.map C3) false]=some (.bool (Hc c i x p)):=
 DX (fun⟨a0,a1,E,I⟩ ⟨b0,b1,J,M⟩ h=>by simp only[Aa,D.slc.injEq,D.int.injEq,D.agg.injEq,dY,Mt,N1,true_and,and_true]at h; simp[h,Cq]) (c,i,x,p) h
set_option maxHeartbeats 4000000 in
set_option maxRecDepth 20000 in
theorem yLe(c:Int×Dig)(i:Int)(x:Dig)(p:List Dig)(h:-9223372036854775808≤i∧i<9223372036854775808):@wW GG (tb [(25,QR),(95,SI)] []) Yn.code (C5 [.agg (.int .i64 (CV c)::CZ (CW c)),.int .i64 i,C3 x,.slc (nz 32 (p.map C3)) (p.map C3) false]) [] ⟨Dg Yn.res (.bool (Hc c i x p))⟩:=by
 obtain⟨n,r⟩:=c;unfold Yn;simp (disch:=omega) only[push_cast,↓reduceIte,CB,Oe];refine E4 (fun J=>?_) (fun J=>?_)
 ·have e:Hc (n,r) i x p=false:=by unfold Hc; simp; omega
  simp (disch:=omega) only[push_cast,↓reduceIte,CB,J,e]
 ·have U:0≤n∧n≤65536:=by
   by_cases hb:n<0∨65536<n
   ·rw[Sy hb]at J; omega
   ·omega
  obtain⟨e1,Y,e3⟩:=fK U.1 U.2;simp (disch:=omega) only[push_cast,↓reduceIte,CB,J];refine E4 (fun M=>?_) (fun M=>?_)
  ·have e:Hc (n,r) i x p=false:=by unfold Hc; simp; omega
   simp (disch:=omega) only[push_cast,↓reduceIte,CB,M,e]
  ·simp (disch:=omega) only[push_cast,↓reduceIte,CB,M,Ymu];refine E4 (fun N=>?_) (fun N=>?_)
   ·have e:Hc (n,r) i x p=false:=by unfold Hc; simp; omega
    simp (disch:=omega) only[push_cast,↓reduceIte,CB,N,e]
   ·simp (disch:=omega) only[push_cast,↓reduceIte,CB,N];refine E4 (fun I=>?_) (fun I=>?_)
    ·have e:Hc (n,r) i x p=decide (MR i.toNat x p=r):=by
      unfold Hc;simp only[show 0≤El n from Y,show 0≤i by omega,show i<2 ^ (El n).toNat by omega,I,true_and]
     rw[e];simp (disch:=omega) only[push_cast,↓reduceIte,CB,I];have hp:p.length≤16:=by omega
     have ab:(2:Int) ^ (El n).toNat≤2 ^ 16:=eT (by omega)
     refine Gr (fun q:Nat×Dig=>[(1,.int .i64 i),(3,.slc (nz 32 (p.map C3)) (p.map C3) false),(4,.ptr 0 0),(6,.ptr 1 0),(33,.int .i64 (p.length:Int)),(34,.int .i64 (q.1:Int))])
      (fun q=>[⟨false,1,.int .i64 n::CZ r,false⟩,⟨false,1,CZ q.2,false⟩])
      (fun q=>q.1≤p.length∧MR i.toNat x p=MR (i.toNat / 2 ^ q.1) q.2 (p.drop q.1)) (fun q=>p.length - q.1) (0,x) (by simp only[push_cast,↓reduceIte,CB,CI,CG,CC,I] <;> rfl) ⟨Bd _,by simp⟩ ?_
     rintro⟨j,y⟩ ⟨O,E⟩;simp only at O E;unfold kD;simp only[push_cast,↓reduceIte,CB];refine E4 (fun h7=>?_) (fun h7=>?_)
     ·rw[oy p j (by omega),MR,Nat.div_div_eq_div_mul,← Nat.pow_succ]at E;have h8:=Yfl j;have h9:0≤i / 2 ^ j:=Cl (by omega) (by omega);have ac:i / 2 ^ j≤i:=Cg _ (by omega)
      have ad:(i / 2 ^ j) % 2=((i.toNat / 2 ^ j % 2:Nat):Int):=by
       have:i=(i.toNat:Int):=by omega
       rw[this]; simp
      simp (disch:=omega) only[push_cast,↓reduceIte,CB,iv,Yrg];refine E4 (fun V=>?_) (fun V=>?_)
      ·rw[if_pos (show i.toNat / 2 ^ j % 2=0 by omega)]at E;simp (disch:=omega) only[push_cast,↓reduceIte,CB,CI,CG,CC,KP,Lx,DI];refine E0 (j+1,Ii y (p.getD j default)) ⟨by show j+1≤_; omega,E⟩ (by show p.length - (j+1)<p.length - j; omega) ?_;rfl
      ·rw[if_neg (show ¬ i.toNat / 2 ^ j % 2=0 by omega)]at E;simp (disch:=omega) only[push_cast,↓reduceIte,CB,CI,CG,CC,KP,Lx,DI];refine E0 (j+1,Ii (p.getD j default) y) ⟨by show j+1≤_; omega,E⟩ (by show p.length - (j+1)<p.length - j; omega) ?_;rfl
     ·rw[List.drop_of_length_le (by omega)]at E;have E:MR i.toNat x p=y:=E;simp (disch:=omega) only[push_cast,↓reduceIte,CB,CC,E]
    ·have e:Hc (n,r) i x p=false:=by
      unfold Hc;simp;intro _ _ _ O;exact absurd O I
     simp (disch:=omega) only[push_cast,↓reduceIte,I,e]
theorem yN4:Contract Tryz.prog GG 124 Ps:=
 Eb vf (DC (all_cons V5 (all_cons fE all_nil)) all_nil) (fun a h=>yLe a.1 a.2.1 a.2.2.1 a.2.2.2 h)
end Go.Proofs.YtijnglngaogdjaaGreatDoor.PI
