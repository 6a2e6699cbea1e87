/-
  derive: derivations, Run.
  Conditions: none; these are lemmas.
-/
import Derived.Test.YtijnglngaogdjaaGreatDoorArE
import Derived.Test.YtijnglngaogdjaaGreatDoorEngHe
open BitVec renaming ofInt→CR
open Int renaming reduceLT→CT,reduceNatCast'→CM,reduceNeg→CL
open List renaming replicate→CQ
open Nat renaming reduceAdd→CJ,reduceEqDiff→CI,reduceLT→CP,reduceLeDiff→CN
set_option linter.unusedVariables false
set_option linter.unusedSimpArgs false
namespace Go.Proofs.YtijnglngaogdjaaGreatDoor.PI
open Go
set_option linter.unusedSimpArgs false
set_option maxHeartbeats 8000000
set_option maxRecDepth 20000
set_option linter.unusedVariables false
def J0(op:Int):Int×Int:=if op=1∨op=13∨op=14∨op=15 then(1,9007199254740992)else if op=2 then(1,15)else if op=12 then(2,9007199254740992)else(0,0)
def El(op:Int):Int×Int:=if op=1∨op=2 then(0,1)else if op=12 then(1,1)else if op=13∨op=15 then(1,0)else if op=14∨op=16 then(0,0)else(2,1)
def Gl(x:Ins):Bool:=decide (1≤x.op∧x.op≤16∧((J0 x.op).1≤0→x.n=0)∧((J0 x.op).1≤1→x.m=0)∧0≤min x.n x.m∧max x.n x.m≤(J0 x.op).2)
theorem tC(op:Int):J0 op=(1,9007199254740992)∨J0 op=(1,15)∨J0 op=(2,9007199254740992)∨J0 op=(0,0):=by
 unfold J0
 split
 ·exact .inl rfl
 ·split
  ·exact .inr (.inl rfl)
  ·split
   ·exact .inr (.inr (.inl rfl))
   ·exact .inr (.inr (.inr rfl))
theorem yYf(op:Int):0≤(El op).1∧(El op).1≤2∧0≤(El op).2∧(El op).2≤1:=by
 unfold El
 split
 ·decide
 ·split
  ·decide
  ·split
   ·decide
   ·split <;> decide
noncomputable def gz:List D→Option D:=Dk (α:=Int) (fun a=>[.int .i64 a]) (fun a=>True) (fun a=>.tup [.int .i64 (J0 a).1,.int .i64 (J0 a).2])
theorem Ygd(op:Int):gz [.int .i64 op]=some (.tup [.int .i64 (J0 op).1,.int .i64 (J0 op).2]):=
 D7 (fun a b h=>by simp only[Aa,D.int.injEq,true_and,and_true]at h; simp[h]) (op) trivial
theorem Yxv(op:Int):@wW GG (tb [] []) ZW.code (Dc [.int .i64 op]) [] ⟨Dn ZW.res (.tup [.int .i64 (J0 op).1,.int .i64 (J0 op).2])⟩:=by
 unfold ZW J0
 by_cases E:op=1
 ·subst E; simp (disch:=first|omega|decide) only[push_cast,↓reduceIte,CI,true_or]
 ·by_cases I:op=13
  ·subst I; simp (disch:=first|omega|decide) only[push_cast,↓reduceIte,CI,E,true_or,or_true]
  ·by_cases J:op=14
   ·subst J; simp (disch:=first|omega|decide) only[push_cast,↓reduceIte,CI,E,I,true_or,or_true]
   ·by_cases M:op=15
    ·subst M; simp (disch:=first|omega|decide) only[push_cast,↓reduceIte,CI,E,I,J,or_true]
    ·by_cases N:op=2
     ·subst N; simp (disch:=first|omega|decide) only[push_cast,↓reduceIte,CI,E,I,J,M,or_self]
     ·by_cases O:op=12
      ·subst O; simp (disch:=first|omega|decide) only[push_cast,↓reduceIte,CI,E,I,J,M,N,or_self]
      ·simp (disch:=first|omega|decide) only[push_cast,↓reduceIte,CI,E,I,J,M,N,O,or_self]
theorem YCb:Contract Tryz.prog GG 148 gz:=
 Ed zg (DI all_nil all_nil) (fun a h=>Yxv a)
noncomputable def Ot:List D→Option D:=Dk (α:=Int) (fun a=>[.int .i64 a]) (fun a=>True) (fun a=>.tup [.int .i64 (El a).1,.int .i64 (El a).2])
theorem Ygc(op:Int):Ot [.int .i64 op]=some (.tup [.int .i64 (El op).1,.int .i64 (El op).2]):=
 D7 (fun a b h=>by simp only[Aa,D.int.injEq,true_and,and_true]at h; simp[h]) (op) trivial
theorem Yxu(op:Int):@wW GG (tb [] []) ZA.code (Dc [.int .i64 op]) [] ⟨Dn ZA.res (.tup [.int .i64 (El op).1,.int .i64 (El op).2])⟩:=by
 unfold ZA El
 by_cases E:op=1
 ·subst E; simp (disch:=first|omega|decide) only[push_cast,↓reduceIte,CI,true_or]
 ·by_cases I:op=2
  ·subst I; simp (disch:=first|omega|decide) only[push_cast,↓reduceIte,CI,E,or_true]
  ·by_cases J:op=12
   ·subst J; simp (disch:=first|omega|decide) only[push_cast,↓reduceIte,CI,E,I,or_self]
   ·by_cases M:op=13
    ·subst M; simp (disch:=first|omega|decide) only[push_cast,↓reduceIte,CI,E,I,J,or_self,true_or]
    ·by_cases N:op=15
     ·subst N; simp (disch:=first|omega|decide) only[push_cast,↓reduceIte,CI,E,I,J,M,or_self,or_true]
     ·by_cases O:op=14
      ·subst O; simp (disch:=first|omega|decide) only[push_cast,↓reduceIte,CI,E,I,J,M,N,or_self,true_or]
      ·by_cases U:op=16
       ·subst U; simp (disch:=first|omega|decide) only[push_cast,↓reduceIte,CI,E,I,J,M,N,O,or_self,or_true]
       ·simp (disch:=first|omega|decide) only[push_cast,↓reduceIte,CI,E,I,J,M,N,O,U,or_self]
theorem YCa:Contract Tryz.prog GG 101 Ot:=
 Ed yBn (DI all_nil all_nil) (fun a h=>Yxu a)
theorem gm(a b c d:Int):DY (some ⟨false,1,[.int .i64 a,.int .i64 b,.int .i64 c],false⟩) 1 1 (.int .i64 d)=some ⟨false,1,[.int .i64 a,.int .i64 d,.int .i64 c],false⟩:=(rfl)
theorem Yrv(a b c d:Int):DY (some ⟨false,1,[.int .i64 a,.int .i64 b,.int .i64 c],false⟩) 1 2 (.int .i64 d)=some ⟨false,1,[.int .i64 a,.int .i64 b,.int .i64 d],false⟩:=(rfl)
theorem O9(lent:Bool)(a b c:D):Dy (some ⟨false,1,[a,b,c],lent⟩) 3 true 0=some (.agg [a,b,c]):=(rfl)
theorem O4(a b c:Int):DY (some ⟨false,1,[.int .i64 0,.int .i64 0,.int .i64 0],false⟩) 3 0 (.agg [.int .i64 a,.int .i64 b,.int .i64 c])=some ⟨false,1,[.int .i64 a,.int .i64 b,.int .i64 c],false⟩:=(rfl)
theorem bk(a:Int):DO [.int .i64 0,.int .i64 0,.int .i64 0] [(0,1,.int .i64 a)]=some [.int .i64 a,.int .i64 0,.int .i64 0]:=(rfl)
theorem bl(x:Ins):DL x=[.int .i64 x.op,.int .i64 x.n,.int .i64 x.m]:=(rfl)
theorem aZ(a b c E b' c':Int):GM [0,0,0] false (.agg [.int .i64 a,.int .i64 b,.int .i64 c]) (.agg [.int .i64 E,.int .i64 b',.int .i64 c'])=some (.bool (decide (a=E∧b=b'∧c=c'))):=by
 simp only[GM,EY,I0,if_true,Ag,Bool.bne_false]
 congr 2
 by_cases I:a=E <;> by_cases J:b=b' <;> by_cases M:c=c' <;> simp[I,J,M]
noncomputable def gA:List D→Option D:=Dk (α:=Ins) (fun a=>[Da a]) (fun a=>True) (fun a=>.bool (Gl a))
theorem Ygb(x:Ins):gA [Da x]=some (.bool (Gl x)):=
 D7 (fun a b h=>by simp only[Aa,and_true,Sc]at h; simp[h]) (x) trivial
theorem Yxt(x:Ins):@wW GG (tb [(148,gz)] []) ZB.code (Dc [Da x]) [] ⟨Dn ZB.res (.bool (Gl x))⟩:=by
 unfold ZB;obtain⟨op,n,m⟩:=x
 by_cases J:op<1
 ·rw[show Gl ⟨op,n,m⟩=false from decide_eq_false (by dsimp only; omega)];simp (disch:=first|omega|decide) only[push_cast,↓reduceIte,CI,Fq,Gm,J]
 ·by_cases M:17≤op
  ·rw[show Gl ⟨op,n,m⟩=false from decide_eq_false (by dsimp only; omega)];simp (disch:=first|omega|decide) only[push_cast,↓reduceIte,CI,Fq,Gm,J,M]
  ·have hc:=Ygd op
   have fin:∀ (a b:Int) (N O:Int),J0 op=(a,b)→(a≤0→N=n)→(0<a→N=0)→(a≤1→O=m)→(1<a→O=0)→Gl ⟨op,n,m⟩=(decide (op=op∧N=0∧O=0) && (decide (0≤min n m) && decide (max n m≤b))):=by
    intro a b N O e e1 e2 e3 e4;unfold Gl;dsimp only;rw[e];rw[B5];simp only[Af,decide_eq_true_eq];refine⟨fun⟨_,_,p1,U,V,Y⟩=>⟨⟨trivial,?_,?_⟩,V,Y⟩,fun⟨⟨_,p1,U⟩,V,Y⟩=>⟨by omega,by omega,?_,?_,V,Y⟩⟩
    ·by_cases ha:a≤0
     ·rw[e1 ha]; exact p1 ha
     ·exact e2 (by omega)
    ·by_cases ha:a≤1
     ·rw[e3 ha]; exact U ha
     ·exact e4 (by omega)
    ·intro ha; rw[← e1 ha]; exact p1
    ·intro ha; rw[← e3 ha]; exact U
   rcases tC op with e | e | e | e
   ·rw[fin 1 _ 0 m e (by omega) (by omega) (by omega) (by omega)];rw[e]at hc
    rcases Classical.propComplete (m=0)with I | I <;> rcases Classical.propComplete (0≤min n m)with r1 | r1 <;> rcases Classical.propComplete (max n m≤9007199254740992)with E | E <;>
     simp (disch:=first|omega|decide) only[push_cast,↓reduceIte,CI,CT,Fq,LH,J,M,hc,O4,bl,gm,O9,bk,aZ,I,r1,E,and_self,and_false]
   ·rw[fin 1 _ 0 m e (by omega) (by omega) (by omega) (by omega)];rw[e]at hc
    rcases Classical.propComplete (m=0)with I | I <;> rcases Classical.propComplete (0≤min n m)with r1 | r1 <;> rcases Classical.propComplete (max n m≤15)with E | E <;>
     simp (disch:=first|omega|decide) only[push_cast,↓reduceIte,CI,CT,Fq,LH,J,M,hc,O4,bl,gm,O9,bk,aZ,I,r1,E,and_self,and_false]
   ·rw[fin 2 _ 0 0 e (by omega) (by omega) (by omega) (by omega)];rw[e]at hc
    rcases Classical.propComplete (0≤min n m)with r1 | r1 <;> rcases Classical.propComplete (max n m≤9007199254740992)with E | E <;>
     simp (disch:=first|omega|decide) only[push_cast,↓reduceIte,CI,CT,Fq,LH,J,M,hc,O4,bl,gm,Yrv,O9,bk,aZ,r1,E,and_self]
   ·rw[fin 0 _ n m e (by omega) (by omega) (by omega) (by omega)];rw[e]at hc
    rcases Classical.propComplete (n=0)with I | I <;> rcases Classical.propComplete (m=0)with q1 | q1 <;> rcases Classical.propComplete (0≤min n m)with r1 | r1 <;> rcases Classical.propComplete (max n m≤0)with E | E <;>
     simp (disch:=first|omega|decide) only[push_cast,↓reduceIte,CI,CT,Fq,LH,J,M,hc,O4,bl,O9,bk,aZ,I,q1,r1,E,and_true,and_self,and_false]
theorem YB9:Contract Tryz.prog GG 99 gA:=
 Ed yBm (DI (all_cons YCb all_nil) all_nil) (fun a h=>Yxt a)
noncomputable def gb:List D→St→Option (D×St):=GI (α:=Ins) (fun x=>([Da x],[])) (fun _=>True) (fun x=>(.bool (!Gl x),[]))
theorem qw(x:Ins):gb [Da x] []=some (.bool (!Gl x),[]):=
 MG (fun a b e=>by simp only[Dv,Aa,and_true,Sc]at e; rw[e]) x trivial rfl
theorem Yvy:IContract Tryz.prog GG 98 gb:=by
 refine QV (T:=tb [(99,gA)] []) yP (DI (all_cons YB9 all_nil) all_nil) ?_;intro x _;unfold mG;simp (disch:=first|omega|decide) only[push_cast,↓reduceIte,CI,Fq,Oa,Yub,Ygb];rfl
def IN:List Ins→Nat→Int
 |[],_=>-1
 |x::l,i=>if Gl x then IN l (i+1)else i
theorem wi:∀ (l:List Ins) (i:Nat),0≤IN l i↔l.all Gl=false
 |[],i=>by simp[IN]
 |x::l,i=>by
  have:=wi l (i+1);unfold IN;cases h:Gl x <;> simp[h];simpa using this
noncomputable def lB:List D→St→Option (D×St):=GI (α:=List Ins) (fun c=>([.slc (nz 3 (c.map Da)) (c.map Da) false,.clo 98 []],[])) (fun c=>c.length≤9223372036854775807) (fun c=>(.int .i64 (IN c 0),[]))
theorem Ynv(c:List Ins)(h:c.length≤9223372036854775807):lB [.slc (nz 3 (c.map Da)) (c.map Da) false,.clo 98 []] []=some (.int .i64 (IN c 0),[]):=
 MG (fun a b e=>by simp only[Dv,Aa,D.slc.injEq,and_true,Kw]at e; rw[e.2]) c h rfl
variable {i:Nat}{α:Type}
theorem Yi[Inhabited α](l:List α)(h:i<l.length):l.drop i=l.getD i default::l.drop (i+1):=by
 rw[A9 h,Al,Am h]; rfl
theorem YB2:IContract Tryz.prog GG 147 lB:=by
 refine QV (T:=tb [] [(98,gb)]) zX (DI all_nil (all_cons Yvy all_nil)) ?_;intro c hc;unfold nG;simp (disch:=first|omega|decide) only[push_cast,↓reduceIte,CI,CL]
 refine F9 (fun i:Nat=>[(0,.slc (nz 3 (c.map Da)) (c.map Da) false),(1,.clo 98 []),(7,.int .i64 (c.length:Int)),(8,.int .i64 (i:Int))])
  (fun i=>[]) (fun i=>i≤c.length∧IN (c.drop i) i=IN c 0) (fun i=>c.length - i) 0 (by simp only[push_cast,↓reduceIte,CI,↓CM] <;> rfl) ⟨by omega,rfl⟩ ?_
 rintro i ⟨hi,hb⟩;unfold nJ;simp (disch:=first|omega|decide) only[push_cast,↓reduceIte,CI];refine EU (fun N=>?_) (fun N=>?_)
 ·have E:i<c.length:=by omega
  have J:=Vb [] c false i E;have I:=Yi c E;obtain⟨x,M⟩:∃ x,c.getD i default=x:=⟨_,rfl⟩;rw[M]at J I;rw[I,IN]at hb
  cases hf:Gl x with
  |false=>
   rw[hf]at hb;have hv:=qw x;rw[hf]at hv;simp (disch:=first|omega|decide) only[push_cast,↓reduceIte,CI,CL,J,K2,hv];simp only[Ao,if_false]at hb;rw[← hb];rfl
  |true=>
   rw[hf]at hb;have hv:=qw x;rw[hf]at hv;simp (disch:=first|omega|decide) only[push_cast,↓reduceIte,CI,J,K2,hv,DN];refine E2 (i+1) ⟨by omega,hb⟩ (by omega) ?_;simp only[push_cast] <;> rfl
 ·obtain rfl:i=c.length:=by omega
  rw[Bd,IN]at hb;simp (disch:=first|omega|decide) only[push_cast,↓reduceIte,CL];rw[← hb];rfl
noncomputable def Od:List D→St→Option (D×St):=GI (α:=List Ins) (fun c=>([.slc (nz 3 (c.map Da)) (c.map Da) false,.clo 98 []],[])) (fun c=>c.length≤9223372036854775807) (fun c=>(.bool (!c.all Gl),[]))
theorem Yny(c:List Ins)(h:c.length≤9223372036854775807):Od [.slc (nz 3 (c.map Da)) (c.map Da) false,.clo 98 []] []=some (.bool (!c.all Gl),[]):=
 MG (fun a b e=>by simp only[Dv,Aa,D.slc.injEq,and_true,Kw]at e; rw[e.2]) c h rfl
theorem YB4:IContract Tryz.prog GG 97 Od:=by
 refine QV (T:=tb [] [(147,lB)]) zY (DI all_nil (all_cons YB2 all_nil)) ?_;intro c hc;unfold nH;have E:=Ynv c hc
 have hb:decide (0≤IN c 0)=!c.all Gl:=by
  have:=wi c 0
  cases h:c.all Gl with
  |true=>rw[h]at this; simp at this ⊢; omega
  |false=>rw[h]at this; simp at this ⊢; exact this
 simp (disch:=first|omega|decide) only[push_cast,↓reduceIte,CI,E,hb];rfl
variable {hints:List (List Nat)}{il:List Nat}{T:Tbl}{G:Dj}{P:Program}
theorem mD{f:Nat}{F:PF}(E:DA P il f hints=some F)(I:TblOK P G T){enc:α→List D×St}{pre:α→Prop}{r:α→D×St}
  (h:∀ a,pre a→@wW G T F.code (Dc (enc a).1) (enc a).2 ⟨@GJ F.res ⟨fun d st'=>(d,st')=r a⟩⟩) (J:T.y=fun _ _ _=>none:=by rfl):IContract P G f (GI enc pre r):=
 Jz E I (fun ds st x M=>by
  obtain⟨a,ha,N,rfl⟩:=iy M;have:=h a N;rw[ha]at this;exact this) J
noncomputable def jy:List D→Option D:=Dk (α:=Int×Int) (fun a=>[.int .u64 a.1,.int .u64 a.2]) (fun a=>0≤a.1∧a.1<18446744073709551616∧0≤a.2∧a.2<18446744073709551616) (fun a=>.tup [.int .u64 (a.1*a.2 / 18446744073709551616),.int .u64 (a.1*a.2 % 18446744073709551616)])
theorem yRd(x:Int)(y:Int)(h:0≤x∧x<18446744073709551616∧0≤y∧y<18446744073709551616):jy [.int .u64 x,.int .u64 y]=some (.tup [.int .u64 (x*y / 18446744073709551616),.int .u64 (x*y % 18446744073709551616)]):=
 D7 (fun⟨a0,a1⟩ ⟨b0,b1⟩ h=>by simp only[Aa,D.int.injEq,true_and,and_true]at h; simp[h]) (x,y) h
theorem Yif(x:Int)(y:Int)(h:0≤x∧x<18446744073709551616∧0≤y∧y<18446744073709551616):@wW GG (tb [(169,bB)] []) ZK.code (Dc [.int .u64 x,.int .u64 y]) [] ⟨Dn ZK.res (.tup [.int .u64 (x*y / 18446744073709551616),.int .u64 (x*y % 18446744073709551616)])⟩:=by
 unfold ZK;simp (disch:=first|omega|decide) only[push_cast,↓reduceIte,CI,qW x y h]
theorem Yn2:Contract Tryz.prog GG 149 jy:=
 Ed yD (DI (all_cons vK all_nil) all_nil) (fun a h=>Yif a.1 a.2 h)
noncomputable def Oe:List D→St→Option (D×St):=GI (α:=Nat×Int) (fun a=>([.slc 1 [.int .i64 a.2] true,.int .i64 (a.1:Int)],[])) (fun a=>0<a.1∧a.1≤100000) (fun a=>(.row 0 a.1 0 a.1,[⟨true,1,(CQ a.1 a.2).map nI,false⟩]))
theorem Yno(n:Nat)(a:Int)(h:0<n∧n≤100000):Oe [.slc 1 [.int .i64 a] true,.int .i64 (n:Int)] []=some (.row 0 n 0 n,[⟨true,1,(CQ n a).map nI,false⟩]):=
 MG (fun⟨a,b⟩ ⟨E,b'⟩ e=>by
  simp only[Dv,Aa,D.slc.injEq,D.int.injEq,and_true,true_and,Int.ofNat_inj]at e;obtain⟨rfl,rfl⟩:=e;rfl) ((n,a):Nat×Int) h rfl
def Gp(n j:Nat)(a:Int):List D:=(CQ j a++CQ (n - j) 0).map nI
variable {a:Int}{j n:Nat}
theorem eM(h:j≤n):(Gp n j a).length=n:=by simp[Gp]; omega
theorem tZ{m:Nat}(h:j+m≤n):FG (Gp n j a) j ((CQ m a).map nI)=Gp n (j+m) a:=by
 have e:CQ (n - j) (0:Int)=CQ m 0++CQ (n - (j+m)) 0:=by
  rw[Cb]; congr 1; omega
 unfold Gp;rw[e,BC,BC,ez (by simp) (by simp),← BC,← BC,← Aj,Cb]
theorem Yvr(I:0<j)(E:j<n):KE [⟨true,1,Gp n j a,false⟩] 1 (.row 0 n j (n - j)) (.row 0 n 0 j)=some (.int .i64 (min (n - j) j:Nat),[⟨true,1,Gp n (j+min (n - j) j) a,false⟩]):=by
 have hl:=eM (a:=a) (Cs E)
 have he:HL [⟨true,1,Gp n j a,false⟩] 0 n 0 j=some (1,(CQ j a).map nI):=by
  simp only[HL,AF,hl];rw[if_pos (by simp; omega),BA]
  congr 2
  simp[Gp]
 simp only[KE,XM,AF,G7,he,hl,Jq];rw[if_pos (by simp; omega)];simp only[Bi,BS,Bv]
 congr 3
 rw[← B6,List.take_replicate,show min (min (n - j) j) j=min (n - j) j by omega,tZ (by omega)]
theorem Ynb(I:0<n):KE [⟨true,1,CQ n (.int .i64 0),false⟩] 1 (.row 0 n 0 n) (.slc 1 [.int .i64 a] true)=some (.int .i64 1,[⟨true,1,Gp n 1 a,false⟩]):=by
 have E:(CQ n (D.int .i64 0))=Gp n 0 a:=by simp[Gp,nI]
 rw[E];have hl:=eM (a:=a) (Bh n);simp only[KE,XM,AF,G7,hl,Jq];rw[if_pos (by simp; omega)];have hm:min n [D.int IntKind.i64 a].length=1:=by simp; omega
 simp only[hm,Bv];have:=tZ (n:=n) (j:=0) (m:=1) (a:=a) (by omega);rw[An]at this;rw[← this];rfl
theorem jX(h:n≤100000):Pq 1 8 (.int .i64 0) (.int .i64 (n:Int)) (.int .i64 (n:Int))=some (n,⟨true,1,CQ n (.int .i64 0),false⟩):=by
 have E:FP (.int .i64 (n:Int))=some n:=by simp[FP]
 simp only[Pq,E];rw[if_pos ⟨AD _,by omega,by omega,by decide,rfl,rfl⟩]
theorem YB0:IContract Tryz.prog GG 100 Oe:=by
 refine mD (T:=tb [(149,jy)] []) zR (DI (all_cons Yn2 all_nil) all_nil) ?_;rintro⟨n,a⟩ ⟨I,J⟩;dsimp only at I J;unfold nw;have hm:=yRd 1 (n:Int) ⟨by omega,by omega,by omega,by omega⟩;rw[show(1*(n:Int) / 18446744073709551616)=0 by omega,show(1*(n:Int) % 18446744073709551616)=n by omega]at hm;have hc:=Ynb (n:=n) (a:=a) I;have U:¬ ((n:Int)<0):=by omega
 have V:¬ ((9223372036854775807:Int)<(n:Int)):=by omega
 simp (disch:=first|omega|decide) only[push_cast,↓reduceIte,CI,CT,Int.reduceAdd,↓CM,U,bj,wR,hm,V,jX J,hc];refine F9 (fun j:Nat=>[(7,.row 0 n 0 n),(8,.int .i64 (j:Int))]) (fun j=>[⟨true,1,Gp n j a,false⟩]) (fun j=>0<j∧j≤n) (fun j=>n - j) 1 (by simp only[push_cast,↓reduceIte,CI,CP,CN,↓CM] <;> rfl) ⟨by omega,by omega⟩ ?_;rintro j ⟨M,E⟩;have hl:=eM (a:=a) E;have N:Rt (some ⟨true,1,Gp n j a,false⟩) n=true:=by simp[Rt,hl]
 unfold nA;simp (disch:=first|omega|decide) only[push_cast,↓reduceIte,CI,N];refine EU (fun Y=>?_) (fun Y=>?_)
 ·have O:=Yvr (a:=a) M (show j<n by omega)
  have s1:Qg (some ⟨true,1,Gp n j a,false⟩) 1 (.row 0 n 0 n) 0 n 0 n j n=some (.row 0 n j (n - j)):=by
   simp[Qg,hl,show j≤n from E,show ¬ j=0 by omega,show ¬ j=n by omega]
  have s2:Qg (some ⟨true,1,Gp n j a,false⟩) 1 (.row 0 n 0 n) 0 n 0 n 0 j=some (.row 0 n 0 j):=by
   simp[Qg,hl,show j≤n from E,show ¬ j=0 by omega,show ¬ j=n by omega,show ¬ 0=j by omega]
  simp (disch:=first|omega|decide) only[push_cast,↓reduceIte,CI,CP,CN,s1,s2,O,DN];refine E2 (j+min (n - j) j) ⟨by omega,by omega⟩ (by omega) ?_;simp only[push_cast] <;> rfl
 ·obtain rfl:j=n:=by omega
  simp (disch:=first|omega|decide) only[push_cast,↓reduceIte,CI];simp[Gp]
abbrev Eb(x:List Int)(i:Nat):Int:=x.getD i default
theorem uX{x:List Int}(h:i<x.length):Eb x i∈x:=by
 grind
theorem ld(A:List Int)(lent:Bool)(tot i:Nat)(E:A.length=tot)(h:i<tot):Rv (some ⟨true,1,A.map nI,lent⟩) 1 false tot i 0=some (.int .i64 (Eb A i)):=by
 subst E; exact Ylo nI (fun _=>rfl) 1 A lent i h
theorem aA(A:List Int)(lent:Bool)(key tot:Nat)(j:Int)(E:A.length=tot)(I:0≤j)(J:j<(tot:Int)):Qh (some ⟨true,1,A.map nI,lent⟩) 1 key tot 0 tot j=some (.rptr key tot j.toNat 0):=by
 subst E;have:=xE nI 1 A lent key 0 A.length j I J;grind
def Nn(o:Option PI.Obj)(tot i:Nat)(v:Int):Option PI.Obj:=o.bind fun o=>if o.row && !o.lent && o.els.length == tot then(o.els[i]?).bind fun el=>(XR el 0 [.int .i64 v]).map fun el'=>{o with els:=o.els.set i el'} else none
theorem ij(st:St)(key tot i:Nat)(v:Int):Ms st 1 (.rptr key tot i 0) (.int .i64 v)=(Nn st[key]? tot i v).map fun o=>st.set key o:=by
 simp only[Ms,Nn,xn,oD,CD,BU]
 cases st[key]? with
 |none=>rfl
 |some o=>
  simp only[Bp]
  split
  ·cases o.els[i]? with
   |none=>rfl
   |some el=>
    have hc:(D.int .i64 v).cells=[.int .i64 v]:=rfl;grind
  ·rfl
theorem pU(A:List Int)(tot i:Nat)(v:Int)(E:A.length=tot)(h:i<tot):Nn (some ⟨true,1,A.map nI,false⟩) tot i v=some ⟨true,1,(A.set i v).map nI,false⟩:=by
 subst E;have I:XR (nI A[i]) 0 [.int .i64 v]=some (nI v):=rfl;simp[Nn,h,I,List.map_set]
def RU(len i after n:Int)(dep:List Int):Prop:=n≤i∨len≤n∨(0≤Eb dep n.toNat∧Eb dep n.toNat≠after)
instance (len i after n:Int) (dep:List Int):Decidable (RU len i after n dep):=by unfold RU; infer_instance
def Nd(len i after:Int):List Int→List Int→Option (List Int)
 |[],dep=>some dep
 |n::l,dep=>if RU len i after n dep then none else Nd len i after l (dep.set n.toNat after)
def K6(x:Ins)(i:Int):List Int:=(if x.op=13∨x.op=14 then [x.n]else [])++(if x.op≠14∧x.op≠15∧x.op≠16 then [i+1]else [])
def Kp(x:Ins)(d:Int):Prop:=d<(El x.op).1∨(x.op=15∧d≠1)∨(x.op=16∧d≠0)
instance (x:Ins) (d:Int):Decidable (Kp x d):=by unfold Kp; infer_instance
def F8(x:Ins)(d:Int):Int:=d - (El x.op).1+(El x.op).2
def Gc(len:Int):List Ins→Nat→List Int→Int→Option Int
 |[],_,_,s=>some s
 |x::r,i,dep,s=>if Eb dep i<0 then Gc len r (i+1) dep s else if Kp x (Eb dep i)then none else
  match Nd len i (F8 x (Eb dep i)) (K6 x i) dep with
  |none=>none
  |some dep'=>Gc len r (i+1) dep' (max (max s (Eb dep i)) (F8 x (Eb dep i)))
def LW:Option Int→Int×Int
 |none=>(0,200)
 |some s=>if 64<s then(0,2)else(s,0)
def GQ(n:Nat):List Int:=(CQ n (-1)).set 0 0
def FE(c:List Ins):Int×Int:=if 4096<c.length then(0,2)else if c.length=0∨c.all Gl=false then(0,200)else LW (Gc c.length c 0 (GQ c.length) 0)
theorem uu(sz:Nat)(a:D)(l:Bool):Rt (some ⟨true,sz,[a],l⟩) 1=true:=(rfl)
theorem li2(sz:Nat)(a b:D)(l:Bool):Rt (some ⟨true,sz,[a,b],l⟩) 2=true:=(rfl)
variable {st:St}
theorem kP{c:PC}{fr:Frame}{st':St}{Q:QC}(e:st=st')(h:@wW G T c fr st' Q):@wW G T c fr st Q:=by rw[e]; exact h
/- what follows an instruction -/
def Q6(N:Nat)(i:Int)(dp:List Int):Prop:=dp.length=N∧∀ y∈dp,-1≤y∧y≤i
theorem qG{N:Nat}{i:Int}{I:List Int}(h:Q6 N i I)(k:Nat){v:Int}(J:-1≤v)(M:v≤i):Q6 N i (I.set k v):=by
 refine⟨by rw[BT]; exact h.1,fun y E=>?_⟩;rcases BX E with E | rfl
 ·exact h.2 y E
 ·omega
set_option maxHeartbeats 4000000 in
set_option maxRecDepth 20000 in
theorem Vm(T:Tbl)(c:List Ins)(x:Ins)(i:Nat)(hi:i<c.length)(hc:c.length≤4096)(s after:Int)(ah:-1≤after)(a0:after≤(i:Int)+1)(E:List Int)(cd:E.length≤2)(dep:List Int)(a2:Q6 c.length ((i:Int)+1) dep)(fr:Frame)(Q:Ex→Frame→St→Prop)
  (f0:fr 0=.slc (nz 3 (c.map Da)) (c.map Da) false) (f2:fr 2=.int .i64 s) (f4:fr 4=.row 0 c.length 0 c.length) (f5:fr 5=.int .i64 (i:Int)) (ba:fr 10=.int .i64 after)
  (bb:fr 30=.slc (nz 3 (c.map Da)) (c.map Da) false) (bc:fr 31=.int .i64 (c.length:Int)) (bd:fr 32=.int .i64 (i:Int)) (a3:fr 110=Ec 0 2 (E.map nI)) (a4:fr 111=.int .i64 (E.length:Int)) (a5:fr 112=.int .i64 0)
  (U:Nd c.length i after E dep=none→∀ J st',J 2=.int .i64 0→J 3=.int .i64 200→Q .ret J st')
  (a6:∀ I,Nd c.length i after E dep=some I→Q6 c.length ((i:Int)+1) I→∀ J,J 0=.slc (nz 3 (c.map Da)) (c.map Da) false→J 2=.int .i64 s→J 4=.row 0 c.length 0 c.length→J 30=.slc (nz 3 (c.map Da)) (c.map Da) false→J 31=.int .i64 (c.length:Int)→J 32=.int .i64 (i:Int)→
   Q (.exit 2) J (⟨true,1,I.map nI,false⟩::⟨false,1,DL x,false⟩::DC 1 (E.map nI))) :
  @wW GG T (.loop [0,2,4,5,10,30,31,32,110,111,112] fp) fr (⟨true,1,dep.map nI,false⟩::⟨false,1,DL x,false⟩::DC 1 (E.map nI)) ⟨Q⟩:=by
 have hB:EC ((DC 1 (E.map nI)).length+1+1) [] (Ec 0 2 (E.map nI))=Ec 0 2 (E.map nI):=by
  cases E <;> rfl
 have be:∀ I:List Int,StOK (⟨true,1,I.map nI,false⟩::⟨false,1,DL x,false⟩::DC 1 (E.map nI)):=by
  intro I o V hr y hy;simp only[Ax]at V;rcases V with rfl | rfl | V
  ·cases hr
  ·simp only[DL,Ax,AE,or_false]at hy;rcases hy with rfl | rfl | rfl <;> rfl
  ·cases E with
   |nil=>cases V
   |cons a l=>
    rw[show DC 1 ((a::l).map nI)=[⟨true,1,(a::l).map nI,false⟩]from rfl,AN]at V;grind
 have hR:∀ (fr:Frame) (I:List Int),restrict [0,2,4,5,10,30,31,32,110,111,112] ((DC 1 (E.map nI)).length+1+1) ⟨fr,⟨true,1,I.map nI,false⟩::⟨false,1,DL x,false⟩::DC 1 (E.map nI)⟩=
   ⟨F3 (J1 fr ((DC 1 (E.map nI)).length+1+1) [] [0,2,4,5,10,30,31,32,110,111,112]),⟨true,1,I.map nI,false⟩::⟨false,1,DL x,false⟩::DC 1 (E.map nI)⟩:=fun fr I=>Zf (be I) rfl
 have Y:EV ((DC 1 (E.map nI)).length+1+1) [] 0=some 0:=Qq (by omega)
 refine F9 (fun p:Nat×List Int=>[(0,.slc (nz 3 (c.map Da)) (c.map Da) false),(2,.int .i64 s),(4,.row 0 c.length 0 c.length),(5,.int .i64 (i:Int)),(10,.int .i64 after),(30,.slc (nz 3 (c.map Da)) (c.map Da) false),(31,.int .i64 (c.length:Int)),(32,.int .i64 (i:Int)),
   (110,Ec 0 2 (E.map nI)),(111,.int .i64 (E.length:Int)),(112,.int .i64 (p.1:Int))])
  (fun p=>⟨true,1,p.2.map nI,false⟩::⟨false,1,DL x,false⟩::DC 1 (E.map nI)) (fun p=>p.1≤E.length∧Q6 c.length ((i:Int)+1) p.2∧Nd c.length i after (E.drop p.1) p.2=Nd c.length i after E dep) (fun p=>E.length - p.1) (0,dep)
  ((hR fr dep).trans (by simp only[push_cast,f0,f2,f4,f5,ba,bb,bc,bd,a3,a4,a5,hB,↓Y] <;> rfl)) ⟨Bh _,a2,rfl⟩ ?_
 rintro⟨j,I⟩ ⟨hj,M,hn⟩;dsimp only at hj M hn;unfold fp;simp (disch:=first|omega|decide) only[push_cast,↓reduceIte,CI];refine EU (fun h2=>?_) (fun h2=>?_)
 ·have a1:j<E.length:=by omega
  have bg:=Yi E a1
  have aa:E.map nI≠[]:=by
   intro e;have:=congrArg List.length e;grind
  obtain⟨n,ab⟩:∃ n,E.getD j default=n:=⟨_,rfl⟩;have bh:Qh (some ⟨true,1,E.map nI,false⟩) 1 2 E.length 0 E.length (j:Int)=some (.rptr 2 E.length j 0):=aA E false 2 E.length j rfl (by omega) (by omega);have b5:Rv (some ⟨true,1,E.map nI,false⟩) 1 false E.length j 0=some (.int .i64 n):=by rw[← ab]; exact ld E false E.length j rfl a1
  have O:∀ I:List Int,Gx (⟨true,1,I.map nI,false⟩::⟨false,1,DL x,false⟩::DC 1 (E.map nI)) 1 (Ec 0 2 (E.map nI)) (.int .i64 (j:Int))=some (.rptr 2 E.length j 0):=by
   intro I;rw[RY _ _ _ aa,Qs _ _ aa,Bi,oS];exact bh
  have N:∀ I:List Int,Ft (⟨true,1,I.map nI,false⟩::⟨false,1,DL x,false⟩::DC 1 (E.map nI)) 1 false (.rptr 2 E.length j 0)=some (.int .i64 n):=by
   intro I;rw[Qs _ _ aa,tY];exact b5
  rw[bg,ab,Nd]at hn
  by_cases b1:n≤(i:Int)
  ·rw[if_pos (.inl b1)]at hn;simp (disch:=first|omega|decide) only[push_cast,↓reduceIte,CI,O,N,  b1];exact U hn.symm _ _ rfl rfl
  ·by_cases b2:(c.length:Int)≤n
   ·rw[if_pos (.inr (.inl b2))]at hn;simp (disch:=first|omega|decide) only[push_cast,↓reduceIte,CI,O,N,  b1,b2];exact U hn.symm _ _ rfl rfl
   ·have ad:=aA I false 0 c.length n M.1 (by omega) (by omega);have ae:=ld I false c.length n.toNat M.1 (by omega);have ce:=M.2 _ (uX (x:=I) (i:=n.toNat) (by rw[M.1]; omega));have hs:=pU I c.length n.toNat after M.1 (by omega)
    by_cases b3:0≤Eb I n.toNat
    ·by_cases b4:Eb I n.toNat=after
     ·have b7:(Eb I n.toNat=after)=True:=eq_true b4;rw[if_neg (by unfold RU; omega)]at hn;simp (disch:=first|omega|decide) only[push_cast,↓reduceIte,CI,O,N,  b1,b2,ad,ae,b3,b7,ij,hs,DN,↓hR,↓Y,hB];refine E2 (j+1,I.set n.toNat after) ⟨by dsimp only; omega,qG M _ ah a0,hn⟩ (by dsimp only; omega) ?_;rfl
     ·rw[if_pos (.inr (.inr ⟨b3,b4⟩))]at hn;simp (disch:=first|omega|decide) only[push_cast,↓reduceIte,CI,O,N,  b1,b2,ad,ae,b3,b4];exact U hn.symm _ _ rfl rfl
    ·rw[if_neg (by unfold RU; omega)]at hn;simp (disch:=first|omega|decide) only[push_cast,↓reduceIte,CI,O,N,  b1,b2,ad,ae,b3,ij,hs,DN,↓hR,↓Y,hB];refine E2 (j+1,I.set n.toNat after) ⟨by dsimp only; omega,qG M _ ah a0,hn⟩ (by dsimp only; omega) ?_;rfl
 ·obtain rfl:j=E.length:=by omega
  rw[Bd,Nd]at hn;simp (disch:=first|omega|decide) only[push_cast];exact a6 I hn.symm M _ rfl rfl rfl rfl rfl rfl
noncomputable def R0:List D→Option D:=Dk (α:=List Ins) (fun a=>[.slc (nz 3 (a.map Da)) (a.map Da) false]) (fun a=>a.length≤9223372036854775807) (fun a=>.tup [.int .i64 (FE a).1,.int .i64 (FE a).2])
theorem X6(c:List Ins)(h:c.length≤9223372036854775807):R0 [.slc (nz 3 (c.map Da)) (c.map Da) false]=some (.tup [.int .i64 (FE c).1,.int .i64 (FE c).2]):=
 D7 (fun a b h=>by simp only[Aa,D.slc.injEq,and_true,Kw]at h; simp[h]) (c) h
set_option maxHeartbeats 4000000 in
set_option maxRecDepth 20000 in
theorem Yxs(c:List Ins)(h:c.length≤9223372036854775807):@wW GG (tb [(101,Ot)] [(97,Od),(100,Oe)]) Zz.code (Dc [.slc (nz 3 (c.map Da)) (c.map Da) false]) [] ⟨Dn Zz.res (.tup [.int .i64 (FE c).1,.int .i64 (FE c).2])⟩:=by
 unfold Zz
 by_cases h1:4096<c.length
 ·rw[show FE c=(0,2)from if_pos h1];simp (disch:=first|omega|decide) only[push_cast,↓reduceIte,CI,CL,show((4096:Int)<(c.length:Int)) by omega]
 by_cases h2:c.length=0
 ·rw[show FE c=(0,200) by unfold FE; rw[if_neg h1,if_pos (.inl h2)]];simp (disch:=first|omega|decide) only[push_cast,↓reduceIte,CI,CT,CL,show ¬ ((4096:Int)<(c.length:Int)) by omega,show((c.length:Int)=0) by omega]
 have bf:=Yny c h;have h3:¬ ((4096:Int)<(c.length:Int)):=by omega
 have h4:¬ ((c.length:Int)=0):=by omega
 cases a6:c.all Gl with
 |false=>
  rw[a6]at bf;rw[show FE c=(0,200) by unfold FE; rw[if_neg h1,if_pos (.inr a6)]];simp (disch:=first|omega|decide) only[push_cast,↓reduceIte,CI,CL,h3,h4,bf]
 |true=>
  rw[a6]at bf;rw[show FE c=LW (Gc c.length c 0 (GQ c.length) 0) by unfold FE; rw[if_neg h1,if_neg (by rw[a6]; simp[h2])]];have b8:=Yno c.length (-1) ⟨by omega,by omega⟩;have b9:Qh (some ⟨true,1,(CQ c.length (-1)).map nI,false⟩) 1 0 c.length 0 c.length 0=some (.rptr 0 c.length 0 0):=aA _ false 0 c.length 0 (by simp) (by omega) (by omega);have hs0:Nn (some ⟨true,1,(CQ c.length (-1)).map nI,false⟩) c.length 0 0=some ⟨true,1,(GQ c.length).map nI,false⟩:=pU _ c.length 0 0 (by simp) (by omega);simp (disch:=first|omega|decide) only[push_cast,↓reduceIte,CI,CL,h3,h4,bf,F0,b8,b9,ij,hs0]
  refine F9 (fun p:Nat×List Int×Int=>[(0,.slc (nz 3 (c.map Da)) (c.map Da) false),(2,.int .i64 p.2.2),(4,.row 0 c.length 0 c.length),(30,.slc (nz 3 (c.map Da)) (c.map Da) false),(31,.int .i64 (c.length:Int)),(32,.int .i64 (p.1:Int))])
   (fun p=>[⟨true,1,p.2.1.map nI,false⟩]) (fun p=>p.1≤c.length∧Q6 c.length p.1 p.2.1∧LW (Gc c.length (c.drop p.1) p.1 p.2.1 p.2.2)=LW (Gc c.length c 0 (GQ c.length) 0)) (fun p=>c.length - p.1) (0,GQ c.length,0)
   (by simp only[push_cast,↓reduceIte,CI,CP,CN,CL] <;> rfl) ⟨Bh _,?_,rfl⟩ ?_
  ·refine⟨by simp[GQ],fun y hy=>?_⟩;rcases BX hy with hy | rfl
   ·grind
   ·omega
  rintro⟨i,dep,s⟩ ⟨hi,ae,hv⟩;dsimp only at hi ae hv;unfold mJ;simp (disch:=first|omega|decide) only[push_cast,↓reduceIte,CI];refine EU (fun h5=>?_) (fun h5=>?_)
  ·have af:i<c.length:=by omega
   have ba:c.length≤4096:=by omega
   have ah:Q6 c.length ((i:Int)+1) dep:=⟨ae.1,fun y hy=>⟨(ae.2 y hy).1,by have:=(ae.2 y hy).2; omega⟩⟩;have hx:=fun st=>Vb st c false i af;have b4:=Yi c af;obtain⟨x,ca⟩:∃ x,c.getD i default=x:=⟨_,rfl⟩;rw[ca]at hx b4;rw[b4,Gc]at hv;have J:Qh (some ⟨true,1,dep.map nI,false⟩) 1 0 c.length 0 c.length (i:Int)=some (.rptr 0 c.length i 0):=aA dep false 0 c.length i ah.1 (by omega) (by omega);have M:=ld dep false c.length i ah.1 af;have cg:=ae.2 _ (uX (x:=dep) (i:=i) (by rw[ae.1]; omega));have he:=Ygc x.op;have ch:=yYf x.op
   by_cases h0:Eb dep i<0
   ·rw[if_pos h0]at hv;simp (disch:=first|omega|decide) only[push_cast,↓reduceIte,CI,CP,CN,CJ,hx,K2,LH,NJ,J,M,h0,DN];refine E2 (i+1,dep,s) ⟨by dsimp only; omega,ah,hv⟩ (by dsimp only; omega) ?_;rfl
   rw[if_neg h0]at hv;have bb:F8 x (Eb dep i)=Eb dep i - (El x.op).1+(El x.op).2:=rfl
   by_cases E:Eb dep i<(El x.op).1
   ·rw[if_pos (.inl E)]at hv;simp (disch:=first|omega|decide) only[push_cast,↓reduceIte,CI,hx,K2,LH,NJ,J,M,h0,Gm,he,E1,DN,E];rw[← hv];rfl
   have cb:(Eb dep i<(El x.op).1)=False:=eq_false E
   by_cases a3:x.op=15
   ·have N:(x.op=15)=True:=eq_true a3;have a0:(x.op=14)=False:=eq_false (by omega);have O:(x.op=13)=False:=eq_false (by omega);have cd:El x.op=(1,0):=by rw[a3]; rfl
    by_cases hd:Eb dep i=1
    ·have ed:(Eb dep i=1)=True:=eq_true hd;have a1:(x.op=16)=False:=eq_false (by omega);have c0:¬ Eb dep i<(El x.op).1:=E;have U:K6 x (i:Int)=[]:=by simp[K6,a3]
     have I:¬ Kp x (Eb dep i):=by unfold Kp; omega
     rw[if_neg I,U]at hv;simp (disch:=first|omega|decide) only[push_cast,↓reduceIte,CI,hx,K2,LH,NJ,J,M,h0,Gm,he,E1,DN,E,N,a0,O,a1,ed,bb.symm];have hl:=Vm (tb [(101,Ot)] [(97,Od),(100,Oe)]) c x i af ba (max (max s (Eb dep i)) (F8 x (Eb dep i))) (F8 x (Eb dep i)) (by omega) (by omega) [] (by simp) dep ah;refine hl _ _ rfl rfl rfl rfl rfl rfl rfl rfl rfl rfl rfl (fun hn V st' g2 g3=>?_) (fun dp hn Y V g0 g2 g4 aa ab ac=>?_)
     ·rw[hn]at hv;have ad:((0,200):Int×Int)=LW (Gc c.length c 0 (GQ c.length) 0):=hv;simp (disch:=first|omega|decide) only[push_cast,g2,g3];rw[← ad]
     ·rw[hn]at hv;simp (disch:=first|omega|decide) only[push_cast,↓reduceIte,CI,ac,DN];refine E2 (i+1,dp,max (max s (Eb dep i)) (F8 x (Eb dep i))) ⟨by dsimp only; omega,Y,hv⟩ (by dsimp only; omega) ?_;simp only[push_cast,↓reduceIte,CP,CN,g0,g2,g4,aa,ab] <;> rfl
    ·have ed:(Eb dep i=1)=False:=eq_false hd;rw[if_pos (.inr (.inl ⟨a3,hd⟩))]at hv;simp (disch:=first|omega|decide) only[push_cast,↓reduceIte,CI,hx,K2,LH,NJ,J,M,h0,Gm,he,E1,DN,E,N,ed];rw[← hv];rfl
   by_cases a5:x.op=16
   ·have a1:(x.op=16)=True:=eq_true a5;have N:(x.op=15)=False:=eq_false a3;have a0:(x.op=14)=False:=eq_false (by omega);have O:(x.op=13)=False:=eq_false (by omega);have ce:El x.op=(0,0):=by rw[a5]; rfl
    by_cases hd:Eb dep i=0
    ·have ed:(Eb dep i=0)=True:=eq_true hd;have U:K6 x (i:Int)=[]:=by simp[K6,a5]
     have I:¬ Kp x (Eb dep i):=by unfold Kp; omega
     rw[if_neg I,U]at hv;simp (disch:=first|omega|decide) only[push_cast,↓reduceIte,CI,hx,K2,LH,NJ,J,M,h0,Gm,he,E1,DN,E,N,a0,O,a1,ed,bb.symm];have hl:=Vm (tb [(101,Ot)] [(97,Od),(100,Oe)]) c x i af ba (max (max s (Eb dep i)) (F8 x (Eb dep i))) (F8 x (Eb dep i)) (by omega) (by omega) [] (by simp) dep ah;refine hl _ _ rfl rfl rfl rfl rfl rfl rfl rfl rfl rfl rfl (fun hn V st' g2 g3=>?_) (fun dp hn Y V g0 g2 g4 aa ab ac=>?_)
     ·rw[hn]at hv;have ad:((0,200):Int×Int)=LW (Gc c.length c 0 (GQ c.length) 0):=hv;simp (disch:=first|omega|decide) only[push_cast,g2,g3];rw[← ad]
     ·rw[hn]at hv;simp (disch:=first|omega|decide) only[push_cast,↓reduceIte,CI,ac,DN];refine E2 (i+1,dp,max (max s (Eb dep i)) (F8 x (Eb dep i))) ⟨by dsimp only; omega,Y,hv⟩ (by dsimp only; omega) ?_;simp only[push_cast,↓reduceIte,CP,CN,g0,g2,g4,aa,ab] <;> rfl
    ·have ed:(Eb dep i=0)=False:=eq_false hd;rw[if_pos (.inr (.inr ⟨a5,hd⟩))]at hv;simp (disch:=first|omega|decide) only[push_cast,↓reduceIte,CI,hx,K2,LH,NJ,J,M,h0,Gm,he,E1,DN,E,N,a1,ed];rw[← hv];rfl
   have N:(x.op=15)=False:=eq_false a3;have a1:(x.op=16)=False:=eq_false a5
   by_cases bg:x.op=14
   ·have a0:(x.op=14)=True:=eq_true bg;have O:(x.op=13)=False:=eq_false (by omega);have U:K6 x (i:Int)=[x.n]:=by simp[K6,bg]
    have I:¬ Kp x (Eb dep i):=by unfold Kp; omega
    rw[if_neg I,U]at hv;have bc:Ep [⟨true,1,dep.map nI,false⟩,⟨false,1,DL x,false⟩] 1 8 (.slc 0 [] true) (.slc 1 [.int .i64 x.n] true)=some (.row 2 1 0 1,[⟨true,1,dep.map nI,false⟩,⟨false,1,DL x,false⟩,⟨true,1,[.int .i64 x.n],false⟩]):=(rfl);simp (disch:=first|omega|decide) only[push_cast,↓reduceIte,CI,↓CM,hx,K2,LH,NJ,J,M,h0,Gm,LG,he,E1,DN,E,F0,N,a0,O,a1,bb.symm,bc,uu];have hl:=Vm (tb [(101,Ot)] [(97,Od),(100,Oe)]) c x i af ba (max (max s (Eb dep i)) (F8 x (Eb dep i))) (F8 x (Eb dep i)) (by omega) (by omega) [x.n] (by simp) dep ah;refine kP (st':=(⟨true,1,dep.map nI,false⟩::⟨false,1,DL x,false⟩::DC 1 (([x.n]:List Int).map nI))) rfl ?_;refine hl _ _ rfl rfl rfl rfl rfl rfl rfl rfl rfl rfl rfl (fun hn V st' g2 g3=>?_) (fun dp hn Y V g0 g2 g4 aa ab ac=>?_)
    ·rw[hn]at hv;have ad:((0,200):Int×Int)=LW (Gc c.length c 0 (GQ c.length) 0):=hv;simp (disch:=first|omega|decide) only[push_cast,g2,g3];rw[← ad]
    ·rw[hn]at hv;simp (disch:=first|omega|decide) only[push_cast,↓reduceIte,CI,ac,DN];refine E2 (i+1,dp,max (max s (Eb dep i)) (F8 x (Eb dep i))) ⟨by dsimp only; omega,Y,hv⟩ (by dsimp only; omega) ?_;simp only[push_cast,↓reduceIte,CP,CN,g0,g2,g4,aa,ab] <;> rfl
   have a0:(x.op=14)=False:=eq_false bg
   by_cases bh:x.op=13
   ·have O:(x.op=13)=True:=eq_true bh;have U:K6 x (i:Int)=[x.n,(i:Int)+1]:=by simp[K6,bh]
    have I:¬ Kp x (Eb dep i):=by unfold Kp; omega
    rw[if_neg I,U]at hv;have bc:Ep [⟨true,1,dep.map nI,false⟩,⟨false,1,DL x,false⟩] 1 8 (.slc 0 [] true) (.slc 1 [.int .i64 x.n] true)=some (.row 2 1 0 1,[⟨true,1,dep.map nI,false⟩,⟨false,1,DL x,false⟩,⟨true,1,[.int .i64 x.n],false⟩]):=(rfl);have cc:Ep [⟨true,1,dep.map nI,false⟩,⟨false,1,DL x,false⟩,⟨true,1,[.int .i64 x.n],false⟩] 1 8 (.row 2 1 0 1) (.slc 1 [.int .i64 ((i:Int)+1)] true)=some (.row 2 2 0 2,[⟨true,1,dep.map nI,false⟩,⟨false,1,DL x,false⟩,⟨true,1,[.int .i64 x.n,.int .i64 ((i:Int)+1)],false⟩]):=(rfl);simp (disch:=first|omega|decide) only[push_cast,↓reduceIte,CI,↓CM,hx,K2,LH,NJ,J,M,h0,Gm,LG,he,E1,DN,E,F0,N,a0,O,a1,bb.symm,bc,cc,li2];have hl:=Vm (tb [(101,Ot)] [(97,Od),(100,Oe)]) c x i af ba (max (max s (Eb dep i)) (F8 x (Eb dep i))) (F8 x (Eb dep i)) (by omega) (by omega) [x.n,(i:Int)+1] (by simp) dep ah;refine kP (st':=(⟨true,1,dep.map nI,false⟩::⟨false,1,DL x,false⟩::DC 1 (([x.n,(i:Int)+1]:List Int).map nI))) rfl ?_;refine hl _ _ rfl rfl rfl rfl rfl rfl rfl rfl rfl rfl rfl (fun hn V st' g2 g3=>?_) (fun dp hn Y V g0 g2 g4 aa ab ac=>?_)
    ·rw[hn]at hv;have ad:((0,200):Int×Int)=LW (Gc c.length c 0 (GQ c.length) 0):=hv;simp (disch:=first|omega|decide) only[push_cast,g2,g3];rw[← ad]
    ·rw[hn]at hv;simp (disch:=first|omega|decide) only[push_cast,↓reduceIte,CI,ac,DN];refine E2 (i+1,dp,max (max s (Eb dep i)) (F8 x (Eb dep i))) ⟨by dsimp only; omega,Y,hv⟩ (by dsimp only; omega) ?_;simp only[push_cast,↓reduceIte,CP,CN,g0,g2,g4,aa,ab] <;> rfl
   ·have O:(x.op=13)=False:=eq_false bh;have U:K6 x (i:Int)=[(i:Int)+1]:=by simp[K6,bh,bg,a3,a5]
    have I:¬ Kp x (Eb dep i):=by unfold Kp; omega
    rw[if_neg I,U]at hv;have bc:Ep [⟨true,1,dep.map nI,false⟩,⟨false,1,DL x,false⟩] 1 8 (.slc 0 [] true) (.slc 1 [.int .i64 ((i:Int)+1)] true)=some (.row 2 1 0 1,[⟨true,1,dep.map nI,false⟩,⟨false,1,DL x,false⟩,⟨true,1,[.int .i64 ((i:Int)+1)],false⟩]):=(rfl);simp (disch:=first|omega|decide) only[push_cast,↓reduceIte,CI,↓CM,hx,K2,LH,NJ,J,M,h0,Gm,he,E1,DN,E,F0,N,a0,O,a1,bb.symm,bc,uu];have hl:=Vm (tb [(101,Ot)] [(97,Od),(100,Oe)]) c x i af ba (max (max s (Eb dep i)) (F8 x (Eb dep i))) (F8 x (Eb dep i)) (by omega) (by omega) [(i:Int)+1] (by simp) dep ah;refine kP (st':=(⟨true,1,dep.map nI,false⟩::⟨false,1,DL x,false⟩::DC 1 (([(i:Int)+1]:List Int).map nI))) rfl ?_;refine hl _ _ rfl rfl rfl rfl rfl rfl rfl rfl rfl rfl rfl (fun hn V st' g2 g3=>?_) (fun dp hn Y V g0 g2 g4 aa ab ac=>?_)
    ·rw[hn]at hv;have ad:((0,200):Int×Int)=LW (Gc c.length c 0 (GQ c.length) 0):=hv;simp (disch:=first|omega|decide) only[push_cast,g2,g3];rw[← ad]
    ·rw[hn]at hv;simp (disch:=first|omega|decide) only[push_cast,↓reduceIte,CI,ac,DN];refine E2 (i+1,dp,max (max s (Eb dep i)) (F8 x (Eb dep i))) ⟨by dsimp only; omega,Y,hv⟩ (by dsimp only; omega) ?_;simp only[push_cast,↓reduceIte,CP,CN,g0,g2,g4,aa,ab] <;> rfl
  ·obtain rfl:i=c.length:=by omega
   rw[Bd,Gc]at hv;rw[← hv]
   by_cases h6:64<s
   ·rw[show LW (some s)=(0,2)from if_pos h6];simp (disch:=first|omega|decide) only[push_cast,↓reduceIte,CI,h6]
   ·rw[show LW (some s)=(s,0)from if_neg h6];simp (disch:=first|omega|decide) only[push_cast,↓reduceIte,CI,h6]
set_option maxRecDepth 20000 in
theorem ax:Contract Tryz.prog GG 47 R0:=
 Ed (T:=tb [(101,Ot)] [(97,Od),(100,Oe)]) yBo (DI (all_cons YCa all_nil) (all_cons YB4 (all_cons YB0 all_nil))) (fun a h=>Yxs a h)
def EX(v:Int×List Int)(p f t c:Int)(S:D)(b:Int):List D:=D2 v++[.int .i64 p,.int .i64 f,.int .i64 t,.int .i64 c,S,.int .i64 b]
def EA(v:Int×List Int):Prop:=v.2.length=16
variable {v:Int×List Int}
theorem HQ(hv:EA v):(D2 v).length=17:=by simp[D2,show v.2.length=16 from hv]
section
variable {v:Int×List Int} (hv:EA v) (lent:Bool) (p f t c:Int) (S:D) (b:Int)
include hv
theorem vv:Dy (some ⟨false,1,EX v p f t c S b,lent⟩) 1 false 17=some (.int .i64 p):=I2 (A:=D2 v) rfl (HQ hv)
theorem JH:Dy (some ⟨false,1,EX v p f t c S b,lent⟩) 1 false 21=some S:=I2 (A:=D2 v++[.int .i64 p,.int .i64 f,.int .i64 t,.int .i64 c]) (by simp[EX]; rfl) (by simp[HQ hv])
theorem Re:Dy (some ⟨false,1,EX v p f t c S b,lent⟩) 1 false 22=some (.int .i64 b):=I2 (A:=D2 v++[.int .i64 p,.int .i64 f,.int .i64 t,.int .i64 c,S]) (C:=[]) (by simp[EX]) (by simp[HQ hv])
omit hv in
theorem dz:Dy (some ⟨false,1,EX v p f t c S b,lent⟩) 1 false 0=some (.int .i64 v.1):=I2 (A:=[]) (C:=v.2.map nI++[.int .i64 p,.int .i64 f,.int .i64 t,.int .i64 c,S,.int .i64 b]) (by simp[EX,D2]) rfl
theorem Wt(i:Nat)(h:i<16):Dy (some ⟨false,1,EX v p f t c S b,lent⟩) 1 false (1+i)=some (.int .i64 (Eb v.2 i)):=by
 have hi:i<v.2.length:=by rw[show v.2.length=16 from hv]; exact h
 have e:v.2=v.2.take i++(Eb v.2 i::v.2.drop (i+1)):=by
  rw[Eb,← Yi v.2 hi,Bl]
 refine I2 (A:=.int .i64 v.1::(v.2.take i).map nI) (C:=(v.2.drop (i+1)).map nI++[.int .i64 p,.int .i64 f,.int .i64 t,.int .i64 c,S,.int .i64 b]) ?_ (by simp; omega);have E:=congrArg (List.map nI) e;rw[BC,Aw]at E;simp only[EX,D2];rw[E];simp[nI]
theorem kC:Dy (some ⟨false,1,EX v p f t c S b,lent⟩) 5 true 17=some (.agg [.int .i64 p,.int .i64 f,.int .i64 t,.int .i64 c,S]):=MC (A:=D2 v) (B:=[.int .i64 p,.int .i64 f,.int .i64 t,.int .i64 c,S]) (C:=[.int .i64 b]) (by simp[EX]) (HQ hv) rfl
theorem aW(p':Int):DY (some ⟨false,1,EX v p f t c S b,false⟩) 1 17 (.int .i64 p')=some ⟨false,1,EX v p' f t c S b,false⟩:=Ku (A:=D2 v) (B:=[.int .i64 p]) (C:=[.int .i64 f,.int .i64 t,.int .i64 c,S,.int .i64 b]) (xs:=[.int .i64 p']) rfl rfl (HQ hv) rfl rfl rfl rfl
theorem Yyo(t':Int):DY (some ⟨false,1,EX v p f t c S b,false⟩) 1 19 (.int .i64 t')=some ⟨false,1,EX v p f t' c S b,false⟩:=Ku (A:=D2 v++[.int .i64 p,.int .i64 f]) (B:=[.int .i64 t]) (C:=[.int .i64 c,S,.int .i64 b]) (xs:=[.int .i64 t']) (by simp[EX]) (by simp[EX]) (by simp[HQ hv]) rfl rfl rfl rfl
theorem Yyn(c':Int):DY (some ⟨false,1,EX v p f t c S b,false⟩) 1 20 (.int .i64 c')=some ⟨false,1,EX v p f t c' S b,false⟩:=Ku (A:=D2 v++[.int .i64 p,.int .i64 f,.int .i64 t]) (B:=[.int .i64 c]) (C:=[S,.int .i64 b]) (xs:=[.int .i64 c']) (by simp[EX]) (by simp[EX]) (by simp[HQ hv]) rfl rfl rfl rfl
theorem Yrt(sz:Nat)(els:List D)(E:Bool):DY (some ⟨false,1,EX v p f t c S b,false⟩) 1 21 (.slc sz els E)=some ⟨false,1,EX v p f t c (.slc sz els E) b,false⟩:=Ku (A:=D2 v++[.int .i64 p,.int .i64 f,.int .i64 t,.int .i64 c]) (B:=[S]) (C:=[.int .i64 b]) (xs:=[.slc sz els E]) (by simp[EX]) (by simp[EX]) (by simp[HQ hv]) rfl rfl rfl rfl
theorem Yru(k to of E:Nat):DY (some ⟨false,1,EX v p f t c S b,false⟩) 1 21 (.row k to of E)=some ⟨false,1,EX v p f t c (.row k to of E) b,false⟩:=Ku (A:=D2 v++[.int .i64 p,.int .i64 f,.int .i64 t,.int .i64 c]) (B:=[S]) (C:=[.int .i64 b]) (xs:=[.row k to of E]) (by simp[EX]) (by simp[EX]) (by simp[HQ hv]) rfl rfl rfl rfl
end
variable {S:D}{b b' c' f f' p p' t t':Int}{v':Int×List Int}
theorem rl(hv:EA v)(E:EA v'){c:Int}{I:D}(h:EX v p f t c S b=EX v' p' f' t' c' I b'):v=v'∧p=p'∧f=f'∧t=t'∧c=c'∧S=I∧b=b':=by
 unfold EX at h;obtain⟨M,J⟩:=A5 h ((HQ hv).trans (HQ E).symm);simp only[Aa,D.int.injEq,true_and,and_true]at J;refine⟨?_,J⟩;have:Ez v=Ez v':=by rw[Ez,Ez,M]
 exact Kb.1 this
def DF(st:St)(key:Nat)(C:List D):St:=st.set key ⟨false,1,C,false⟩
theorem eJ(st:St)(key:Nat)(C:List D):(DF st key C).length=st.length:=BT
variable {key:Nat}
theorem M0(h:key<st.length)(C:List D):(DF st key C)[key]?=some ⟨false,1,C,false⟩:=by simp[DF,h]
theorem I3(st:St)(key:Nat)(C:List D):List.set st key (⟨false,1,C,false⟩:PI.Obj)=DF st key C:=(rfl)
theorem Ma(st:St)(key:Nat)(C E:List D):DF (DF st key C) key E=DF st key E:=by simp[DF]
theorem Io(h:key<st.length)(m:St)(C:List D):DF (st++m) key C=DF st key C++m:=by
 unfold DF; exact BV _ _ h
theorem HX(h:key<st.length)(m:St):(st++m)[key]?=st[key]?:=Au h
theorem Qx(h:key<st.length)(C:List D)(m:St):(DF st key C++m)[key]?=some ⟨false,1,C,false⟩:=by
 rw[HX (by rw[eJ]; exact h),M0 h]
theorem NS(h:key<st.length)(m:St)(C E:List D):DF (DF st key C++m) key E=DF st key E++m:=by
 rw[Io (by rw[eJ]; exact h),Ma]
theorem LZ(st:St)(o:PI.Obj):(st++[o]).length=st.length+1:=by simp
def Hx(st:St)(key:Nat)(v:Int×List Int)(p f t c:Int)(S:D)(b:Int):Prop:=st[key]?=some ⟨false,1,EX v p f t c S b,false⟩
theorem MI{c:Int}(h:Hx st key v p f t c S b):key<st.length:=(Ac.1 h).1
theorem QS{c:Int}(h:Hx st key v p f t c S b)(m:St):Hx (st++m) key v p f t c S b:=by
 unfold Hx; rw[HX (MI h)]; exact h
theorem dW{c:Int}{I:D}(hv:EA v)(J:EA v')(h:Hx st key v p f t c S b)(E:Hx st key v' p' f' t' c' I b'):v=v'∧p=p'∧f=f'∧t=t'∧c=c'∧S=I∧b=b':=by
 unfold Hx at h E;rw[h]at E;simp only[Db,PI.Obj.mk.injEq,true_and,and_true]at E;exact rl hv J E
theorem DK(st:St)(key off:Nat):kD st (.ptr key off)=some (.ptr key off):=(rfl)
def Nm(l:List Int)(i:Nat):Int:=Eb l (l.length - 1 - i)
def Md(ds:List D)(os:List (Option (Bool×Nat×List D)))(d:D):Prop:=∃ (key:Nat) (v:Int×List Int) (p f t c:Int) (l:List Int) (b:Int) (i:Nat),EA v∧i<l.length∧l.length≤4294967296∧ds=[.ptr key 0,.int .i64 (i:Int)]∧os=[some (false,1,EX v p f t c (EB l) b)]∧d=.int .i64 (Nm l i)
noncomputable def LX:List D→List (Option (Bool×Nat×List D))→Option D:=fun ds os=>@dite _ (∃ d,Md ds os d) (Classical.propDecidable _) (fun h=>some h.choose) (fun _=>none)
variable {d:D}{os:List (Option (Bool×Nat×List D))}{ds:List D}
theorem Yiu{E:D}(h:Md ds os d)(N:Md ds os E):d=E:=by
 obtain⟨key,v,p,f,t,c,l,b,i,hv,_,_,rfl,rfl,rfl⟩:=h;obtain⟨O,v',p',f',t',c',V,b',Y,I,_,_,J,M,rfl⟩:=N;simp only[Aa,D.int.injEq,true_and,and_true,Int.ofNat_inj,Db,Dv]at J M;obtain⟨_,rfl⟩:=J;obtain⟨_,_,_,_,_,U,_⟩:=rl hv I M;rw[Sl.1 U]
theorem Yai(h:Md ds os d):LX ds os=some d:=by
 have E:∃ d,Md ds os d:=⟨d,h⟩;unfold LX;rw[dif_pos E,Yiu E.choose_spec h]
theorem yVq(h:LX ds os=some d):Md ds os d:=by
 unfold LX at h
 split at h
 ·rename_i E;simp only[Db]at h;rw[← h]; exact E.choose_spec
 ·cases h
variable {l:List Int}
theorem bT{c:Int}(hv:EA v)(h:Hx st key v p f t c (EB l) b)(i:Nat)(hi:i<l.length)(hl:l.length≤4294967296):IZ LX [.ptr key 0,.int .i64 (i:Int)] st=some (.int .i64 (Nm l i)):=by
 unfold IZ;have e:([D.ptr key 0,.int .i64 (i:Int)]).flatMap hk=[key]:=rfl;unfold Hx at h;rw[e];simp only[AZ,Ct,BU,h,B4,if_true,Hj,Ag,PI.Obj.see];exact Yai ⟨key,v,p,f,t,c,l,b,i,hv,hi,hl,rfl,rfl,rfl⟩
theorem Yjj{r:Bool×Nat×List D}(h:Hj st [key]=[some r]):∃ lent,st[key]?=some ⟨r.1,r.2.1,r.2.2,lent⟩:=by
 simp only[Hj,Aa,and_true]at h
 cases hk:st[key]? with
 |none=>simp[hk]at h
 |some o=>
  rw[hk]at h;simp only[Ag,Db,PI.Obj.see]at h;subst h;exact⟨o.lent,rfl⟩
set_option maxHeartbeats 4000000 in
set_option maxRecDepth 20000 in
theorem kW:IContract Tryz.prog GG 197 (fun ds st=>(IZ LX ds st).map (·,st)):=by
 refine Jz (T:=tb [] []) zm (DI all_nil all_nil) ?_;intro ds st r I;simp only[DG]at I;obtain⟨d,E,rfl⟩:=I;unfold IZ at E
 split at E
 case isFalse=>cases E
 obtain⟨key,v,p,f,t,c,l,b,i,hv,hi,hl,rfl,J,rfl⟩:=yVq E;obtain⟨lent,hk⟩:=Yjj J;dsimp only at hk
 have M:Gx st 1 (EB l) (.int .i64 ((l.length:Int) - 1 - (i:Int)))=some (.eptr (nI (Nm l i)) 0):=by
  have:=UT st l false (l.length - 1 - i) (by omega);rw[show((l.length - 1 - i:Nat):Int)=(l.length:Int) - 1 - (i:Int) by omega]at this;exact this
 have hle:ER st false (EB l)=some (.int .i64 (l.length:Int)):=by simp[ER,Jq,EB,E4]
 unfold mM;simp (disch:=first|omega|decide) only[push_cast,↓reduceIte,CI,CJ,DK,hk,JH hv,hle,E1,M,UU]
def LQ:Option Int→D
 |none=>.slc 0 [] true
 |some a=>.slc 1 [.int .i64 a] true
def KA(n:Nat)(l:List Int)(k:Nat):Option Int→D
 |none=>.slc (nz 1 (l.map nI)) ((l.take (l.length - k)).map nI) true
 |some _=>.row n (l.length - k+1) 0 (l.length - k+1)
def Iz(l:List Int)(k:Nat):Option Int→St
 |none=>[]
 |some a=>[⟨true,1,(l.take (l.length - k)++[a]).map nI,false⟩]
def Wa(ds:List D)(st:St)(r:D×St):Prop:=∃ (key:Nat) (v:Int×List Int) (p f t c:Int) (l:List Int) (b:Int) (k:Nat) (push:Option Int),EA v∧Hx st key v p f t c (EB l) b∧k≤l.length∧l.length≤100000∧-1000000≤p∧p≤1000000∧
 ds=[.ptr key 0,.int .i64 (k:Int),LQ push]∧r=(.int .i64 0,DF st key (EX v (p+1) f t c (KA st.length l k push) b)++Iz l k push)
noncomputable def Pu:List D→St→Option (D×St):=Fv Wa
theorem Ybt{a b:Option Int}(h:LQ a=LQ b):a=b:=by
 cases a <;> cases b <;> simp_all [LQ]
theorem Ysl:Ic Wa:=by
 rintro ds st r U ⟨key,v,p,f,t,c,l,b,k,push,hv,hm,_,_,_,_,rfl,rfl⟩ ⟨M,v',p',f',t',c',V,b',k',J,E,I,_,_,_,_,h,rfl⟩;simp only[Aa,D.ptr.injEq,D.int.injEq,true_and,and_true,Int.ofNat_inj]at h;obtain⟨rfl,rfl,N⟩:=h;obtain rfl:=Ybt N;obtain⟨rfl,rfl,rfl,rfl,rfl,O,rfl⟩:=dW hv E hm I;rw[Sl.1 O]
theorem Ynp{c:Int}(hv:EA v)(hm:Hx st key v p f t c (EB l) b)(k:Nat)(E:Option Int)(hk:k≤l.length)(hl:l.length≤100000)(I:-1000000≤p)(J:p≤1000000) :
  Pu [.ptr key 0,.int .i64 (k:Int),LQ E] st=some (.int .i64 0,DF st key (EX v (p+1) f t c (KA st.length l k E) b)++Iz l k E):=
 L0 Ysl ⟨key,v,p,f,t,c,l,b,k,E,hv,hm,hk,hl,I,J,rfl,rfl⟩
set_option maxHeartbeats 4000000 in
set_option maxRecDepth 20000 in
theorem UJ:IContract Tryz.prog GG 195 Pu:=by
 refine Jz (T:=tb [] []) zl (DI all_nil all_nil) ?_;intro ds st r N;obtain⟨key,v,p,f,t,c,l,b,k,push,hv,hm,hk,hl,O,U,rfl,rfl⟩:=Je N;have E:=MI hm;unfold Hx at hm;have hle:ER st false (EB l)=some (.int .i64 (l.length:Int)):=by simp[ER,Jq,EB,E4]
 have J:G3 st 1 (EB l) none (some (.int .i64 ((l.length:Int) - (k:Int)))) (some (.int .i64 ((l.length:Int) - (k:Int))))=some (.slc (nz 1 (l.map nI)) ((l.take (l.length - k)).map nI) true):=by
  have:=Yy1 st l false (k:=l.length - k) (by omega);rwa [show((l.length - k:Nat):Int)=(l.length:Int) - (k:Int) by omega]at this
 have M:(l.take (l.length - k)).length=l.length - k:=by rw[AL]; omega
 unfold mL
 cases push with
 |none=>
  have I:Ep st 1 8 (.slc (nz 1 (l.map nI)) ((l.take (l.length - k)).map nI) true) (.slc 0 [] true)=some (.slc (nz 1 (l.map nI)) ((l.take (l.length - k)).map nI) true,st):=rR st 1 8 _ 0 _ true (by decide);simp (disch:=first|omega|decide) only[push_cast,↓reduceIte,CI,CJ,LQ,DK,hm,JH hv,vv hv,hle,E1,J,I,Yrt hv,aW hv,I3,M0 E,Ma,DN,KA,Iz]
 |some a=>
  have I:Ep st 1 8 (.slc (nz 1 (l.map nI)) ((l.take (l.length - k)).map nI) true) (.slc 1 [.int .i64 a] true)=some (.row st.length (l.length - k+1) 0 (l.length - k+1),st++[⟨true,1,(l.take (l.length - k)++[a]).map nI,false⟩]):=by
   have:=pI st 1 8 (nz 1 (l.map nI)) ((l.take (l.length - k)).map nI) (.slc 1 [.int .i64 a] true) [.int .i64 a] 1 rfl (.inl rfl) (by
    cases l with
    |nil=>right; simp
    |cons x r=>left; rfl) (by decide) (by simp) (by simp[M]; omega) (by simp[M]; omega)
   rw[this];simp[nI]
  simp (disch:=first|omega|decide) only[push_cast,↓reduceIte,CI,CJ,LQ,DK,hm,JH hv,vv hv,hle,E1,J,I,HX E,Yru hv,aW hv,I3,Io E,Qx E,NS E,DN,KA,Iz]
def D6(op a b:Int):Int×Int:=
 if op=3 then HI a b else if op=4 then Hz a b else if op=5 then HD a b else if op=6 then(min a b,0)else if op=7 then(max a b,0)else
 if op=8 then Er a b 8 else if op=9 then Er a b 9 else if op=10 then Er a b 10 else if op=11 then(if a<b then 1 else 0,0)else(0,0)
noncomputable def cJ:List D→Option D:=Dk (α:=Bool) (fun a=>[.bool a]) (fun a=>True) (fun a=>.int .i64 (if a=true then 1 else 0))
theorem su(x:Bool):cJ [.bool x]=some (.int .i64 (if x=true then 1 else 0)):=
 D7 (fun a b h=>by simp only[Aa,D.bool.injEq,and_true]at h; simp[h]) (x) trivial
theorem Yqj(x:Bool):@wW GG (tb [] []) Y0.code (Dc [.bool x]) [] ⟨Dn Y0.res (.int .i64 (if x=true then 1 else 0))⟩:=by
 unfold Y0;cases x <;> simp (disch:=first|omega|decide) only[push_cast,↓reduceIte,CI]
theorem wI:Contract Tryz.prog GG 196 cJ:=
 Ed yKm (DI all_nil all_nil) (fun a h=>Yqj a)
noncomputable def bC:List D→Option D:=Dk (α:=Int×Int) (fun a=>[.int .i64 a.1,.int .i64 a.2]) (fun a=>True) (fun a=>.tup [.int .i64 (min a.1 a.2),.int .i64 0])
theorem Ygm(a:Int)(b:Int):bC [.int .i64 a,.int .i64 b]=some (.tup [.int .i64 (min a b),.int .i64 0]):=
 D7 (fun⟨a0,a1⟩ ⟨b0,b1⟩ h=>by simp only[Aa,D.int.injEq,true_and,and_true]at h; simp[h]) (a,b) trivial
theorem Yx6(a:Int)(b:Int):@wW GG (tb [] []) ZM.code (Dc [.int .i64 a,.int .i64 b]) [] ⟨Dn ZM.res (.tup [.int .i64 (min a b),.int .i64 0])⟩:=by
 unfold ZM;simp (disch:=first|omega|decide) only[push_cast,↓reduceIte,CI]
theorem YCj:Contract Tryz.prog GG 234 bC:=
 Ed yQ (DI all_nil all_nil) (fun a h=>Yx6 a.1 a.2)
noncomputable def bK:List D→Option D:=Dk (α:=Int×Int) (fun a=>[.int .i64 a.1,.int .i64 a.2]) (fun a=>True) (fun a=>.tup [.int .i64 (max a.1 a.2),.int .i64 0])
theorem Ygl(a:Int)(b:Int):bK [.int .i64 a,.int .i64 b]=some (.tup [.int .i64 (max a b),.int .i64 0]):=
 D7 (fun⟨a0,a1⟩ ⟨b0,b1⟩ h=>by simp only[Aa,D.int.injEq,true_and,and_true]at h; simp[h]) (a,b) trivial
theorem Yx5(a:Int)(b:Int):@wW GG (tb [] []) ZN.code (Dc [.int .i64 a,.int .i64 b]) [] ⟨Dn ZN.res (.tup [.int .i64 (max a b),.int .i64 0])⟩:=by
 unfold ZN;simp (disch:=first|omega|decide) only[push_cast,↓reduceIte,CI]
theorem YCi:Contract Tryz.prog GG 235 bK:=
 Ed yR (DI all_nil all_nil) (fun a h=>Yx5 a.1 a.2)
noncomputable def bL:List D→Option D:=Dk (α:=Int×Int) (fun a=>[.int .i64 a.1,.int .i64 a.2]) (fun a=>True) (fun a=>.tup [.int .i64 (Er a.1 a.2 8).1,.int .i64 (Er a.1 a.2 8).2])
theorem Ygk(a:Int)(b:Int):bL [.int .i64 a,.int .i64 b]=some (.tup [.int .i64 (Er a b 8).1,.int .i64 (Er a b 8).2]):=
 D7 (fun⟨a0,a1⟩ ⟨b0,b1⟩ h=>by simp only[Aa,D.int.injEq,true_and,and_true]at h; simp[h]) (a,b) trivial
theorem Yx4(a:Int)(b:Int):@wW GG (tb [(237,T2)] []) ZO.code (Dc [.int .i64 a,.int .i64 b]) [] ⟨Dn ZO.res (.tup [.int .i64 (Er a b 8).1,.int .i64 (Er a b 8).2])⟩:=by
 unfold ZO;simp (disch:=first|omega|decide) only[push_cast,↓reduceIte,CI,dN a b 8 (.inl rfl)]
theorem YCh:Contract Tryz.prog GG 236 bL:=
 Ed yS (DI (all_cons fI all_nil) all_nil) (fun a h=>Yx4 a.1 a.2)
noncomputable def bM:List D→Option D:=Dk (α:=Int×Int) (fun a=>[.int .i64 a.1,.int .i64 a.2]) (fun a=>True) (fun a=>.tup [.int .i64 (Er a.1 a.2 9).1,.int .i64 (Er a.1 a.2 9).2])
theorem Ygj(a:Int)(b:Int):bM [.int .i64 a,.int .i64 b]=some (.tup [.int .i64 (Er a b 9).1,.int .i64 (Er a b 9).2]):=
 D7 (fun⟨a0,a1⟩ ⟨b0,b1⟩ h=>by simp only[Aa,D.int.injEq,true_and,and_true]at h; simp[h]) (a,b) trivial
theorem Yx3(a:Int)(b:Int):@wW GG (tb [(237,T2)] []) ZP.code (Dc [.int .i64 a,.int .i64 b]) [] ⟨Dn ZP.res (.tup [.int .i64 (Er a b 9).1,.int .i64 (Er a b 9).2])⟩:=by
 unfold ZP;simp (disch:=first|omega|decide) only[push_cast,↓reduceIte,CI,dN a b 9 (.inr (.inl rfl))]
theorem YCg:Contract Tryz.prog GG 238 bM:=
 Ed yT (DI (all_cons fI all_nil) all_nil) (fun a h=>Yx3 a.1 a.2)
noncomputable def bN:List D→Option D:=Dk (α:=Int×Int) (fun a=>[.int .i64 a.1,.int .i64 a.2]) (fun a=>True) (fun a=>.tup [.int .i64 (Er a.1 a.2 10).1,.int .i64 (Er a.1 a.2 10).2])
theorem Ygi(a:Int)(b:Int):bN [.int .i64 a,.int .i64 b]=some (.tup [.int .i64 (Er a b 10).1,.int .i64 (Er a b 10).2]):=
 D7 (fun⟨a0,a1⟩ ⟨b0,b1⟩ h=>by simp only[Aa,D.int.injEq,true_and,and_true]at h; simp[h]) (a,b) trivial
theorem Yx2(a:Int)(b:Int):@wW GG (tb [(237,T2)] []) ZQ.code (Dc [.int .i64 a,.int .i64 b]) [] ⟨Dn ZQ.res (.tup [.int .i64 (Er a b 10).1,.int .i64 (Er a b 10).2])⟩:=by
 unfold ZQ;simp (disch:=first|omega|decide) only[push_cast,↓reduceIte,CI,dN a b 10 (.inr (.inr rfl))]
theorem YCf:Contract Tryz.prog GG 239 bN:=
 Ed yU (DI (all_cons fI all_nil) all_nil) (fun a h=>Yx2 a.1 a.2)
noncomputable def bO:List D→Option D:=Dk (α:=Int×Int) (fun a=>[.int .i64 a.1,.int .i64 a.2]) (fun a=>True) (fun a=>.tup [.int .i64 (if a.1<a.2 then 1 else 0),.int .i64 0])
theorem Ygh(a:Int)(b:Int):bO [.int .i64 a,.int .i64 b]=some (.tup [.int .i64 (if a<b then 1 else 0),.int .i64 0]):=
 D7 (fun⟨a0,a1⟩ ⟨b0,b1⟩ h=>by simp only[Aa,D.int.injEq,true_and,and_true]at h; simp[h]) (a,b) trivial
theorem Yx1(a:Int)(b:Int):@wW GG (tb [(196,cJ)] []) ZR.code (Dc [.int .i64 a,.int .i64 b]) [] ⟨Dn ZR.res (.tup [.int .i64 (if a<b then 1 else 0),.int .i64 0])⟩:=by
 unfold ZR;have hc:=su (decide (a<b))
 by_cases h:a<b
 ·rw[decide_eq_true h]at hc;simp (disch:=first|omega|decide) only[push_cast,↓reduceIte,CI,h,hc]
 ·rw[decide_eq_false h]at hc;simp (disch:=first|omega|decide) only[push_cast,↓reduceIte,CI,h,hc]
theorem YCe:Contract Tryz.prog GG 240 bO:=
 Ed yV (DI (all_cons wI all_nil) all_nil) (fun a h=>Yx1 a.1 a.2)
theorem OO{sp:List D→Option D}{x y:Int}(h:sp [.int .i64 a,.int .i64 b]=some (.tup [.int .i64 x,.int .i64 y]))(st:St):IY sp [.int .i64 a,.int .i64 b] st=some (.tup [.int .i64 x,.int .i64 y],st):=by
 have E:Ek st [.int .i64 a,.int .i64 b]=some [.int .i64 a,.int .i64 b]:=(rfl);simp only[IY,E,h];rfl
def I7(op:Int):Int:=if op=12∨op=13∨op=15 then 1 else if 3≤op∧op≤11 then 2 else 0
theorem YBh(op:Int)(h:3≤op∧op≤11):∃ f,F6 op Fj=some f:=by
 obtain⟨E,I⟩:=h;have:op=3∨op=4∨op=5∨op=6∨op=7∨op=8∨op=9∨op=10∨op=11:=by omega
 rcases this with rfl | rfl | rfl | rfl | rfl | rfl | rfl | rfl | rfl <;> exact⟨_,rfl⟩
theorem Yu4(op:Int)(h:¬ (3≤op∧op≤11)):F6 op Fj=none:=by
 simp only[Fj,F6];rw[if_neg (by omega),if_neg (by omega),if_neg (by omega),if_neg (by omega),if_neg (by omega),if_neg (by omega),if_neg (by omega),if_neg (by omega),if_neg (by omega)]
theorem iG(st:St)(op:Int)(ok:Bool)(E:D):Jx st 0 [] ok E (.gmap Fj) (.int .i64 op)=some (match F6 op Fj with
  |some f=>if ok then .tup [.agg [.clo f []],.bool true]else .agg [.clo f []]
  |none=>if ok then .tup [E,.bool false]else E):=(rfl)
theorem uZ:DH (.agg [.nilf])=some [.nilf]:=(rfl)
theorem VV(f:Nat):DY (some ⟨false,1,[.nilf],false⟩) 1 0 (.agg [.clo f []])=some ⟨false,1,[.clo f []],false⟩:=(rfl)
theorem VU:DY (some ⟨false,1,[.nilf],false⟩) 1 0 (.agg [.nilf])=some ⟨false,1,[.nilf],false⟩:=(rfl)
theorem Kk(st:St):Ft st 1 false (.eptr (.gmap Fj) 0)=some (.gmap Fj):=(rfl)
noncomputable def cE:List D→Option D:=Dk (α:=Int) (fun a=>[.int .i64 a]) (fun a=>True) (fun a=>.int .i64 (I7 a))
theorem sm(op:Int):cE [.int .i64 op]=some (.int .i64 (I7 op)):=
 D7 (fun a b h=>by simp only[Aa,D.int.injEq,true_and,and_true]at h; simp[h]) (op) trivial
theorem Yqo(op:Int):@wW GG (tb [] []) YT.code (Dc [.int .i64 op]) [] ⟨Dn YT.res (.int .i64 (I7 op))⟩:=by
 unfold YT I7
 by_cases E:op=12
 ·subst E; simp (disch:=first|omega|decide) only[push_cast,↓reduceIte,CI,true_or]
 ·by_cases J:op=13
  ·subst J; simp (disch:=first|omega|decide) only[push_cast,↓reduceIte,CI,E,true_or,or_true]
  ·by_cases N:op=15
   ·subst N; simp (disch:=first|omega|decide) only[push_cast,↓reduceIte,CI,E,J,or_true]
   ·have hn:¬ (op=12∨op=13∨op=15):=by omega
    rw[if_neg hn]
    by_cases M:3≤op∧op≤11
    ·obtain⟨f,hf⟩:=YBh op M;have I:=iG [] op true (.agg [.nilf]);rw[hf]at I;simp (disch:=first|omega|decide) only[push_cast,↓reduceIte,CI,E,J,N,M,J4 _ _ _ _ Gu,Kk,I,uZ,VV]
    ·have hf:=Yu4 op M;have I:=iG [] op true (.agg [.nilf]);rw[hf]at I;simp (disch:=first|omega|decide) only[push_cast,↓reduceIte,CI,E,J,N,M,J4 _ _ _ _ Gu,Kk,I,uZ,VU]
theorem wB:Contract Tryz.prog GG 109 cE:=
 Ed yKo (DI all_nil all_nil) (fun a h=>Yqo a)
inductive Out where
 |err (e:Int)
 |pop (k:Nat) (push:Option Int) (pc:Option Int)
 |set (p t c:Int)
def Ph(a b:Int):Int:=IntKind.wrap .i64 ((CR 64 a &&& CR 64 b).toNat:Int)
def Mm(n:Int):Int:=IntKind.wrap .i64 (1*2 ^ (min n.toNat 64))
def Dd(s:Sta)(i:Nat):Int:=Nm s.stack i
def DT(v:Int×List Int)(b:Int)(s:Sta)(x:Ins):Out:=
 if x.op=1 then(if 64≤b+s.stack.length then .err 200 else .pop 0 (some x.n) none)
 else if x.op=2 then(if 64≤b+s.stack.length then .err 200 else if Ph v.1 (Mm x.n)=0 then .err 181 else if Eb v.2 x.n.toNat < -9007199254740992∨9007199254740992<Eb v.2 x.n.toNat then .err 3 else .pop 0 (some (Eb v.2 x.n.toNat)) none)
 else if x.op=12 then .pop 1 (some (if x.n≤Dd s 0∧Dd s 0≤x.m then 1 else 0)) none
 else if x.op=13 then .pop 1 none (if Dd s 0=0 then some x.n else none)
 else if x.op=14 then .set x.n s.status s.clause
 else if x.op=15 then .set s.pc 1 x.n
 else if x.op=16 then .err 180
 else if(D6 x.op (Dd s 1) (Dd s 0)).2=0 then .pop 2 (some (D6 x.op (Dd s 1) (Dd s 0)).1) none else .err (D6 x.op (Dd s 1) (Dd s 0)).2
def Ef(st:St)(key:Nat)(v:Int×List Int)(b:Int)(s:Sta)(x:Ins):Out→D×St
 |.err e=>(.int .i64 e,st++[⟨false,1,DL x,false⟩])
 |.pop k push pc=>(.int .i64 0,DF st key (EX v (pc.getD (s.pc+1)) s.fuel s.status s.clause (KA (st.length+1) s.stack k push) b)++[⟨false,1,DL x,false⟩]++Iz s.stack k push)
 |.set p t c=>(.int .i64 0,DF st key (EX v p s.fuel t c (EB s.stack) b)++[⟨false,1,DL x,false⟩])
structure mOK (v:Int×List Int) (b:Int) (s:Sta) (x:Ins):Prop where
 v:EA v
 b0:0≤b
 b1:b≤64
 l:s.stack.length≤64
 p0:0≤s.pc
 p1:s.pc≤100000
 f:Gl x=true
 n:I7 x.op≤s.stack.length
def Wm(P:Int→Prop)(ds:List D)(st:St)(r:D×St):Prop:=∃ (key:Nat) (v:Int×List Int) (b:Int) (s:Sta) (x:Ins),mOK v b s x∧P x.op∧Hx st key v s.pc s.fuel s.status s.clause (EB s.stack) b∧ds=[.ptr key 0,Da x]∧r=Ef st key v b s x (DT v b s x)
noncomputable def J9(P:Int→Prop):List D→St→Option (D×St):=Fv (Wm P)
theorem Ys1(P:Int→Prop):Ic (Wm P):=by
 rintro ds st r r' ⟨key,v,b,s,x,hm,_,hk,rfl,rfl⟩ ⟨V,v',b',s',x',E,_,I,h,rfl⟩;simp only[Aa,D.ptr.injEq,and_true,Sc]at h;obtain⟨rfl,rfl⟩:=h;obtain⟨rfl,J,M,N,O,Y,rfl⟩:=dW hm.v E.v hk I;have U:=Sl.1 Y;obtain⟨a1,a2,a3,a4,a5⟩:=s;obtain⟨b1,b2,b3,b4,b5⟩:=s';dsimp only at J M N O U;subst J; subst M; subst N; subst O; subst U;rfl
variable {x:Ins}{s:Sta}
theorem Ynq{P:Int→Prop}(hm:mOK v b s x)(E:P x.op)(hk:Hx st key v s.pc s.fuel s.status s.clause (EB s.stack) b):J9 P [.ptr key 0,Da x] st=some (Ef st key v b s x (DT v b s x)):=
 L0 (Ys1 P) ⟨key,v,b,s,x,hm,E,hk,rfl,rfl⟩
theorem oO(h:Gl x=true):0≤x.n∧x.n≤9007199254740992∧(x.op=2→x.n<16):=by
 have:=of_decide_eq_true h;obtain⟨J,M,N,O,U,E⟩:=this;have hm:(J0 x.op).2≤9007199254740992:=by rcases tC x.op with e | e | e | e <;> rw[e] <;> decide
 refine⟨by omega,by omega,fun I=>?_⟩;have:J0 x.op=(1,15):=by rw[I]; rfl
 rw[this]at E;dsimp only at E;omega
theorem Yeu(h:Gl x=true):1≤x.op∧x.op≤16:=⟨(of_decide_eq_true h).1,(of_decide_eq_true h).2.1⟩
theorem bt(a b:Int):Dp .and (.int .i64 a) (.int .i64 b)=some (.int .i64 (Ph a b)):=(rfl)
theorem XS{n:Int}(h:0≤n):Dp .shl (.int .i64 1) (.int .i64 n)=some (.int .i64 (Mm n)):=by
 simp only[Dp,Mz,show ¬ n<0 by omega,if_false,Ag,Mm];rfl
theorem HM(st:St)(l:List Int):ER st false (EB l)=some (.int .i64 (l.length:Int)):=by simp[ER,Jq,EB,E4]
theorem T7{c:Int}(hv:EA v)(hm:Hx st key v p f t c (EB l) b)(x:Ins)(k:Nat)(I:Int)(J:I=(k:Int))(E:Option Int)(hk:k≤l.length)(hl:l.length≤64)(M:0≤p)(N:p≤100000) :
  Pu [.ptr key 0,.int .i64 I,LQ E] (st++[⟨false,1,DL x,false⟩])=some (.int .i64 0,DF st key (EX v (p+1) f t c (KA (st.length+1) l k E) b)++[⟨false,1,DL x,false⟩]++Iz l k E):=by
 subst J;have:=Ynp hv (QS hm [⟨false,1,DL x,false⟩]) k E hk (by omega) (by omega) (by omega);rwa [Io (MI hm),LZ]at this
theorem Yv0:IContract Tryz.prog GG 177 (J9 (·=1)):=by
 refine Jz (T:=tb [] [(195,Pu)]) zx (DI all_nil (all_cons UJ all_nil)) ?_;intro ds st r V;obtain⟨key,v,b,s,x,hm,J,hk,rfl,rfl⟩:=Je V;obtain⟨hv,Y,aa,hl,O,U,hf,hn⟩:=hm;have M:=MI hk;have N:=T7 hv hk x 0 0 rfl (some x.n) (Bh _) hl O U;simp only[LQ]at N;have E:=hk;unfold Hx at E;unfold nd
 by_cases I:64≤b+(s.stack.length:Int)
 ·rw[show DT v b s x=.err 200 by unfold DT; rw[if_pos J,if_pos I]];simp (disch:=first|omega|decide) only[push_cast,↓reduceIte,CI,CJ,Fq,DK,HX M,E,Re hv,JH hv,HM,DN,I,Ef]
 ·rw[show DT v b s x=.pop 0 (some x.n) none by unfold DT; rw[if_pos J,if_neg I]];simp (disch:=first|omega|decide) only[push_cast,↓reduceIte,CI,CJ,Fq,DK,HX M,E,Re hv,JH hv,HM,DN,I,Fa,LG,F0,N,Ef,AV]
theorem Yv2:IContract Tryz.prog GG 178 (J9 (·=2)):=by
 refine Jz (T:=tb [] [(195,Pu)]) zq (DI all_nil (all_cons UJ all_nil)) ?_;intro ds st r hr;obtain⟨key,v,b,s,x,hm,I,hk,rfl,rfl⟩:=Je hr;obtain⟨hv,ah,a0,hl,ad,ae,hf,hn⟩:=hm;have M:=MI hk;have J:=hk;unfold Hx at J;obtain⟨O,_,U⟩:=oO hf;have U:=U I;have a1:v.2.length=16:=hv;have V:=fun lent=>Wt hv lent s.pc s.fuel s.status s.clause (EB s.stack) b x.n.toNat (by omega);have ab:=T7 hv hk x 0 0 rfl (some (Eb v.2 x.n.toNat)) (Bh _) hl ad ae;simp only[LQ]at ab;have Y:¬ x.op=1:=by omega
 unfold m9
 by_cases E:64≤b+(s.stack.length:Int)
 ·rw[show DT v b s x=.err 200 by unfold DT; rw[if_neg Y,if_pos I,if_pos E]];simp (disch:=first|omega|decide) only[push_cast,↓reduceIte,CI,CJ,CL,Fq,DK,HX M,J,Re hv,JH hv,HM,DN,Ef,E]
 ·by_cases N:Ph v.1 (Mm x.n)=0
  ·rw[show DT v b s x=.err 181 by unfold DT; rw[if_neg Y,if_pos I,if_neg E,if_pos N]];simp (disch:=first|omega|decide) only[push_cast,↓reduceIte,CI,CJ,CL,Fq,DK,HX M,J,Re hv,JH hv,dz,HM,DN,Fa,LG,Ef,E,XS O,bt,N]
  ·by_cases h3:Eb v.2 x.n.toNat < -9007199254740992
   ·rw[show DT v b s x=.err 3 by unfold DT; rw[if_neg Y,if_pos I,if_neg E,if_neg N,if_pos (.inl h3)]];simp (disch:=first|omega|decide) only[push_cast,↓reduceIte,CI,CJ,CL,Fq,DK,HX M,J,Re hv,JH hv,dz,HM,DN,Fa,LG,Ef,E,XS O,bt,N,PJ,V,h3]
   ·by_cases h4:9007199254740992<Eb v.2 x.n.toNat
    ·rw[show DT v b s x=.err 3 by unfold DT; rw[if_neg Y,if_pos I,if_neg E,if_neg N,if_pos (.inr h4)]];simp (disch:=first|omega|decide) only[push_cast,↓reduceIte,CI,CJ,CL,Fq,DK,HX M,J,Re hv,JH hv,dz,HM,DN,Fa,LG,Ef,E,XS O,bt,N,PJ,V,h3,h4]
    ·rw[show DT v b s x=.pop 0 (some (Eb v.2 x.n.toNat)) none by unfold DT; rw[if_neg Y,if_pos I,if_neg E,if_neg N,if_neg (by omega)]];simp (disch:=first|omega|decide) only[push_cast,↓reduceIte,CI,CJ,CL,Fq,DK,HX M,J,Re hv,JH hv,dz,HM,DN,Fa,LG,F0,Ef,AV,E,XS O,bt,N,PJ,V,h3,h4,ab]
theorem yYp:IContract Tryz.prog GG 179 (J9 (·=12)):=by
 refine Jz (T:=Rk [(196,cJ)] [(195,Pu)] [(197,LX)]) zK (fC (all_cons wI all_nil) (all_cons UJ all_nil) (all_cons kW all_nil)) ?_;intro ds st r Y;obtain⟨key,v,b,s,x,hm,M,hk,rfl,rfl⟩:=Je Y;obtain⟨hv,aa,ab,hl,O,U,hf,hn⟩:=hm;have ac:=MI hk;have V:=hk;unfold Hx at V;have ad:I7 x.op=1:=by rw[M]; rfl
 have N:IZ LX [.ptr key 0,.int .i64 0] (st++[⟨false,1,DL x,false⟩])=some (.int .i64 (Dd s 0)):=bT hv (QS hk _) 0 (by omega) (by omega);have E:=T7 hv hk x 1 1 rfl (some (if x.n≤Dd s 0∧Dd s 0≤x.m then 1 else 0)) (by omega) hl O U;simp only[LQ]at E;rw[show DT v b s x=.pop 1 (some (if x.n≤Dd s 0∧Dd s 0≤x.m then 1 else 0)) none by unfold DT; rw[if_neg (by omega),if_neg (by omega),if_pos M]];have hc:=su (decide (x.n≤Dd s 0∧Dd s 0≤x.m));simp only[decide_eq_true_eq]at hc;unfold nt
 by_cases I:x.n≤Dd s 0
 ·by_cases J:Dd s 0≤x.m
  ·have hw:(if x.n≤Dd s 0∧Dd s 0≤x.m then(1:Int)else 0)=1:=if_pos ⟨I,J⟩;rw[hw]at E ⊢;rw[decide_eq_true ⟨I,J⟩]at hc;simp (disch:=first|omega|decide) only[push_cast,↓reduceIte,CI,Fq,Fa,LG,fN,F0,Ef,AV,I,J,N,hc,E]
  ·have hw:(if x.n≤Dd s 0∧Dd s 0≤x.m then(1:Int)else 0)=0:=if_neg (by omega);rw[hw]at E ⊢;rw[decide_eq_false (by omega)]at hc;simp (disch:=first|omega|decide) only[push_cast,↓reduceIte,CI,Fq,Fa,LG,fN,F0,Ef,AV,I,J,N,hc,E]
 ·have hw:(if x.n≤Dd s 0∧Dd s 0≤x.m then(1:Int)else 0)=0:=if_neg (by omega);rw[hw]at E ⊢;rw[decide_eq_false (by omega)]at hc;simp (disch:=first|omega|decide) only[push_cast,↓reduceIte,CI,Fq,Fa,LG,F0,Ef,AV,I,N,hc,E]
theorem Yv3:IContract Tryz.prog GG 181 (J9 (·=14)):=by
 refine Jz (T:=tb [] []) zp (DI all_nil all_nil) ?_;intro ds st r M;obtain⟨key,v,b,s,x,hm,J,hk,rfl,rfl⟩:=Je M;obtain⟨hv,N,O,hl,U,V,hf,hn⟩:=hm;have E:=MI hk;have I:=hk;unfold Hx at I;rw[show DT v b s x=.set x.n s.status s.clause by unfold DT; rw[if_neg (by omega),if_neg (by omega),if_neg (by omega),if_neg (by omega),if_pos J]];unfold m8;simp (disch:=first|omega|decide) only[push_cast,↓reduceIte,CI,Fq,DK,HX E,I,Fa,LG,Ef,aW hv,I3,Io E]
theorem Yv1:IContract Tryz.prog GG 183 (J9 (·=16)):=by
 refine Jz (T:=tb [] []) zw (DI all_nil all_nil) ?_;intro ds st r J;obtain⟨key,v,b,s,x,hm,E,hk,rfl,rfl⟩:=Je J;obtain⟨hv,M,N,hl,O,U,hf,hn⟩:=hm;have V:=MI hk;have I:=hk;unfold Hx at I;rw[show DT v b s x=.err 180 by unfold DT; rw[if_neg (by omega),if_neg (by omega),if_neg (by omega),if_neg (by omega),if_neg (by omega),if_neg (by omega),if_pos E]];unfold na;simp (disch:=first|omega|decide) only[push_cast,↓reduceIte,Fq,Ef]
theorem Ymp(st:St)(key:Nat)(C:List D)(o:PI.Obj):(DF st key C++[o])[st.length]?=some o:=by
 have:=Fa (DF st key C) o;rwa [eJ]at this
theorem Yvx:IContract Tryz.prog GG 180 (J9 (·=13)):=by
 refine Jz (T:=Rk [] [(195,Pu)] [(197,LX)]) zy (fC all_nil (all_cons UJ all_nil) (all_cons kW all_nil)) ?_;intro ds st r Y;obtain⟨key,v,b,s,x,hm,E,hk,rfl,rfl⟩:=Je Y;obtain⟨hv,aa,ab,hl,N,O,hf,hn⟩:=hm;have M:=MI hk;have U:=hk;unfold Hx at U;have ac:I7 x.op=1:=by rw[E]; rfl
 have V:IZ LX [.ptr key 0,.int .i64 0] (st++[⟨false,1,DL x,false⟩])=some (.int .i64 (Dd s 0)):=bT hv (QS hk _) 0 (by omega) (by omega);have I:=T7 hv hk x 1 1 rfl none (by omega) hl N O;simp only[LQ,Iz,Ad]at I;unfold nf
 by_cases J:Dd s 0=0
 ·rw[show DT v b s x=.pop 1 none (some x.n) by unfold DT; rw[if_neg (by omega),if_neg (by omega),if_neg (by omega),if_pos E,if_pos J]];simp (disch:=first|omega|decide) only[push_cast,↓reduceIte,CI,Fq,DK,LG,Ef,Cj,V,J,I,Ymp,Qx M,aW hv,I3,NS M,Iz]
 ·rw[show DT v b s x=.pop 1 none none by unfold DT; rw[if_neg (by omega),if_neg (by omega),if_neg (by omega),if_pos E,if_neg J]];simp (disch:=first|omega|decide) only[push_cast,↓reduceIte,CI,Fq,Ef,AV,V,J,I,Iz]
theorem YB1:IContract Tryz.prog GG 182 (J9 (·=15)):=by
 refine Jz (T:=tb [] []) zh (DI all_nil all_nil) ?_;intro ds st r N;obtain⟨key,v,b,s,x,hm,J,hk,rfl,rfl⟩:=Je N;obtain⟨hv,O,U,hl,V,Y,hf,hn⟩:=hm;have E:=MI hk;have I:=hk;unfold Hx at I;rw[show DT v b s x=.set s.pc 1 x.n by unfold DT; rw[if_neg (by omega),if_neg (by omega),if_neg (by omega),if_neg (by omega),if_neg (by omega),if_pos J]];have M:(key == st.length)=false:=by rw[beq_eq_false_iff_ne]; omega
 unfold mK;simp (disch:=first|omega|decide) only[push_cast,↓E3,↓reduceIte,CI,CJ,Fq,DK,HX E,I,Fa,LG,Ef,Yyo hv,Yyn hv,I3,Io E,Qx E,NS E,M]
theorem Yix:IContract Tryz.prog GG 231 (IY cA):=Yv9.toI Tryz.func231 (by kernel_rfl) (by kernel_rfl)
theorem Yiv:IContract Tryz.prog GG 232 (IY cC):=Yv7.toI Tryz.func232 (by kernel_rfl) (by kernel_rfl)
theorem Yiw:IContract Tryz.prog GG 233 (IY cB):=Yv8.toI Tryz.func233 (by kernel_rfl) (by kernel_rfl)
theorem Yrq:IContract Tryz.prog GG 234 (IY bC):=YCj.toI Tryz.func234 (by kernel_rfl) (by kernel_rfl)
theorem Yrp:IContract Tryz.prog GG 235 (IY bK):=YCi.toI Tryz.func235 (by kernel_rfl) (by kernel_rfl)
theorem Yro:IContract Tryz.prog GG 236 (IY bL):=YCh.toI Tryz.func236 (by kernel_rfl) (by kernel_rfl)
theorem Yrn:IContract Tryz.prog GG 238 (IY bM):=YCg.toI Tryz.func238 (by kernel_rfl) (by kernel_rfl)
theorem Yrm:IContract Tryz.prog GG 239 (IY bN):=YCf.toI Tryz.func239 (by kernel_rfl) (by kernel_rfl)
theorem Yrl:IContract Tryz.prog GG 240 (IY bO):=YCe.toI Tryz.func240 (by kernel_rfl) (by kernel_rfl)
theorem yYq:IContract Tryz.prog GG 184 (J9 (fun o=>3≤o∧o≤11)):=by
 refine Jz (T:=Rk [] [(195,Pu),(231,IY cA),(232,IY cC),(233,IY cB),(234,IY bC),(235,IY bK),(236,IY bL),(238,IY bM),(239,IY bN),(240,IY bO)] [(197,LX)]) zH (fC all_nil (all_cons UJ (all_cons Yix (all_cons Yiv (all_cons Yiw (all_cons Yrq (all_cons Yrp (all_cons Yro (all_cons Yrn (all_cons Yrm (all_cons Yrl all_nil)))))))))) (all_cons kW all_nil)) ?_;intro ds st r hr;obtain⟨key,v,b,s,x,hm,Y,hk,rfl,rfl⟩:=Je hr;obtain⟨hv,ae,af,hl,aa,ab,hf,hn⟩:=hm;have ah:=MI hk;have ac:=hk;unfold Hx at ac;have a0:I7 x.op=2:=by unfold I7; rw[if_neg (by omega),if_pos Y]
 have M:IZ LX [.ptr key 0,.int .i64 0] (st++[⟨false,1,DL x,false⟩])=some (.int .i64 (Dd s 0)):=bT hv (QS hk _) 0 (by omega) (by omega);have N:IZ LX [.ptr key 0,.int .i64 1] (st++[⟨false,1,DL x,false⟩])=some (.int .i64 (Dd s 1)):=bT hv (QS hk _) 1 (by omega) (by omega);have I:=T7 hv hk x 2 2 rfl (some (D6 x.op (Dd s 1) (Dd s 0)).1) (by omega) hl aa ab;simp only[LQ]at I;have O:∀ f:Nat,Nj 0 1 false (.agg [.clo f []])=some (.clo f []):=fun f=>(rfl)
 have U:DT v b s x=if(D6 x.op (Dd s 1) (Dd s 0)).2=0 then .pop 2 (some (D6 x.op (Dd s 1) (Dd s 0)).1) none else .err (D6 x.op (Dd s 1) (Dd s 0)).2:=by
  unfold DT; rw[if_neg (by omega),if_neg (by omega),if_neg (by omega),if_neg (by omega),if_neg (by omega),if_neg (by omega),if_neg (by omega)]
 have J:=iG (st++[⟨false,1,DL x,false⟩]) x.op false (.agg [.nilf]);have V:x.op=3∨x.op=4∨x.op=5∨x.op=6∨x.op=7∨x.op=8∨x.op=9∨x.op=10∨x.op=11:=by omega
 unfold nq;rcases V with e | e | e | e | e | e | e | e | e
 ·have hb:=OO (yYx (Dd s 1) (Dd s 0)) (st++[⟨false,1,DL x,false⟩]);have E:D6 x.op (Dd s 1) (Dd s 0)=HI (Dd s 1) (Dd s 0):=by unfold D6; rw[if_pos e]
  rw[show F6 x.op Fj=some 231 by rw[e]; rfl]at J
  by_cases he:(D6 x.op (Dd s 1) (Dd s 0)).2=0
  ·rw[U,if_pos he];rw[E]at he I;rw[E];simp (disch:=first|omega|decide) only[push_cast,↓reduceIte,CI,Fq,Fa,F0,Ef,AV,J4 _ _ _ _ Gu,Kk,Gm,J,O,M,N,hb,he,I]
  ·rw[U,if_neg he];rw[E]at he;rw[E];simp (disch:=first|omega|decide) only[push_cast,↓reduceIte,CI,Fq,Fa,Ef,J4 _ _ _ _ Gu,Kk,Gm,J,O,M,N,hb,he]
 ·have hb:=OO (yYv (Dd s 1) (Dd s 0)) (st++[⟨false,1,DL x,false⟩]);have E:D6 x.op (Dd s 1) (Dd s 0)=Hz (Dd s 1) (Dd s 0):=by unfold D6; rw[if_neg (by omega),if_pos e]
  rw[show F6 x.op Fj=some 232 by rw[e]; rfl]at J
  by_cases he:(D6 x.op (Dd s 1) (Dd s 0)).2=0
  ·rw[U,if_pos he];rw[E]at he I;rw[E];simp (disch:=first|omega|decide) only[push_cast,↓reduceIte,CI,Fq,Fa,F0,Ef,AV,J4 _ _ _ _ Gu,Kk,Gm,J,O,M,N,hb,he,I]
  ·rw[U,if_neg he];rw[E]at he;rw[E];simp (disch:=first|omega|decide) only[push_cast,↓reduceIte,CI,Fq,Fa,Ef,J4 _ _ _ _ Gu,Kk,Gm,J,O,M,N,hb,he]
 ·have hb:=OO (yYw (Dd s 1) (Dd s 0)) (st++[⟨false,1,DL x,false⟩]);have E:D6 x.op (Dd s 1) (Dd s 0)=HD (Dd s 1) (Dd s 0):=by unfold D6; rw[if_neg (by omega),if_neg (by omega),if_pos e]
  rw[show F6 x.op Fj=some 233 by rw[e]; rfl]at J
  by_cases he:(D6 x.op (Dd s 1) (Dd s 0)).2=0
  ·rw[U,if_pos he];rw[E]at he I;rw[E];simp (disch:=first|omega|decide) only[push_cast,↓reduceIte,CI,Fq,Fa,F0,Ef,AV,J4 _ _ _ _ Gu,Kk,Gm,J,O,M,N,hb,he,I]
  ·rw[U,if_neg he];rw[E]at he;rw[E];simp (disch:=first|omega|decide) only[push_cast,↓reduceIte,CI,Fq,Fa,Ef,J4 _ _ _ _ Gu,Kk,Gm,J,O,M,N,hb,he]
 ·have hb:=OO (Ygm (Dd s 1) (Dd s 0)) (st++[⟨false,1,DL x,false⟩]);have E:D6 x.op (Dd s 1) (Dd s 0)=(min (Dd s 1) (Dd s 0),0):=by unfold D6; rw[if_neg (by omega),if_neg (by omega),if_neg (by omega),if_pos e]
  rw[show F6 x.op Fj=some 234 by rw[e]; rfl]at J
  by_cases he:(D6 x.op (Dd s 1) (Dd s 0)).2=0
  ·rw[U,if_pos he];rw[E]at he I;rw[E];simp (disch:=first|omega|decide) only[push_cast,↓reduceIte,CI,Fq,Fa,F0,Ef,AV,J4 _ _ _ _ Gu,Kk,Gm,J,O,M,N,hb,I]
  ·rw[E]at he;exact absurd rfl he
 ·have hb:=OO (Ygl (Dd s 1) (Dd s 0)) (st++[⟨false,1,DL x,false⟩]);have E:D6 x.op (Dd s 1) (Dd s 0)=(max (Dd s 1) (Dd s 0),0):=by unfold D6; rw[if_neg (by omega),if_neg (by omega),if_neg (by omega),if_neg (by omega),if_pos e]
  rw[show F6 x.op Fj=some 235 by rw[e]; rfl]at J
  by_cases he:(D6 x.op (Dd s 1) (Dd s 0)).2=0
  ·rw[U,if_pos he];rw[E]at he I;rw[E];simp (disch:=first|omega|decide) only[push_cast,↓reduceIte,CI,Fq,Fa,F0,Ef,AV,J4 _ _ _ _ Gu,Kk,Gm,J,O,M,N,hb,I]
  ·rw[E]at he;exact absurd rfl he
 ·have hb:=OO (Ygk (Dd s 1) (Dd s 0)) (st++[⟨false,1,DL x,false⟩]);have E:D6 x.op (Dd s 1) (Dd s 0)=Er (Dd s 1) (Dd s 0) 8:=by unfold D6; rw[if_neg (by omega),if_neg (by omega),if_neg (by omega),if_neg (by omega),if_neg (by omega),if_pos e]
  rw[show F6 x.op Fj=some 236 by rw[e]; rfl]at J
  by_cases he:(D6 x.op (Dd s 1) (Dd s 0)).2=0
  ·rw[U,if_pos he];rw[E]at he I;rw[E];simp (disch:=first|omega|decide) only[push_cast,↓reduceIte,CI,Fq,Fa,F0,Ef,AV,J4 _ _ _ _ Gu,Kk,Gm,J,O,M,N,hb,he,I]
  ·rw[U,if_neg he];rw[E]at he;rw[E];simp (disch:=first|omega|decide) only[push_cast,↓reduceIte,CI,Fq,Fa,Ef,J4 _ _ _ _ Gu,Kk,Gm,J,O,M,N,hb,he]
 ·have hb:=OO (Ygj (Dd s 1) (Dd s 0)) (st++[⟨false,1,DL x,false⟩]);have E:D6 x.op (Dd s 1) (Dd s 0)=Er (Dd s 1) (Dd s 0) 9:=by unfold D6; rw[if_neg (by omega),if_neg (by omega),if_neg (by omega),if_neg (by omega),if_neg (by omega),if_neg (by omega),if_pos e]
  rw[show F6 x.op Fj=some 238 by rw[e]; rfl]at J
  by_cases he:(D6 x.op (Dd s 1) (Dd s 0)).2=0
  ·rw[U,if_pos he];rw[E]at he I;rw[E];simp (disch:=first|omega|decide) only[push_cast,↓reduceIte,CI,Fq,Fa,F0,Ef,AV,J4 _ _ _ _ Gu,Kk,Gm,J,O,M,N,hb,he,I]
  ·rw[U,if_neg he];rw[E]at he;rw[E];simp (disch:=first|omega|decide) only[push_cast,↓reduceIte,CI,Fq,Fa,Ef,J4 _ _ _ _ Gu,Kk,Gm,J,O,M,N,hb,he]
 ·have hb:=OO (Ygi (Dd s 1) (Dd s 0)) (st++[⟨false,1,DL x,false⟩]);have E:D6 x.op (Dd s 1) (Dd s 0)=Er (Dd s 1) (Dd s 0) 10:=by unfold D6; rw[if_neg (by omega),if_neg (by omega),if_neg (by omega),if_neg (by omega),if_neg (by omega),if_neg (by omega),if_neg (by omega),if_pos e]
  rw[show F6 x.op Fj=some 239 by rw[e]; rfl]at J
  by_cases he:(D6 x.op (Dd s 1) (Dd s 0)).2=0
  ·rw[U,if_pos he];rw[E]at he I;rw[E];simp (disch:=first|omega|decide) only[push_cast,↓reduceIte,CI,Fq,Fa,F0,Ef,AV,J4 _ _ _ _ Gu,Kk,Gm,J,O,M,N,hb,he,I]
  ·rw[U,if_neg he];rw[E]at he;rw[E];simp (disch:=first|omega|decide) only[push_cast,↓reduceIte,CI,Fq,Fa,Ef,J4 _ _ _ _ Gu,Kk,Gm,J,O,M,N,hb,he]
 ·have hb:=OO (Ygh (Dd s 1) (Dd s 0)) (st++[⟨false,1,DL x,false⟩]);have E:D6 x.op (Dd s 1) (Dd s 0)=(if Dd s 1<Dd s 0 then 1 else 0,0):=by unfold D6; rw[if_neg (by omega),if_neg (by omega),if_neg (by omega),if_neg (by omega),if_neg (by omega),if_neg (by omega),if_neg (by omega),if_neg (by omega),if_pos e]
  rw[show F6 x.op Fj=some 240 by rw[e]; rfl]at J
  by_cases he:(D6 x.op (Dd s 1) (Dd s 0)).2=0
  ·rw[U,if_pos he];rw[E]at he I;rw[E];simp (disch:=first|omega|decide) only[push_cast,↓reduceIte,CI,Fq,Fa,F0,Ef,AV,J4 _ _ _ _ Gu,Kk,Gm,J,O,M,N,hb,I]
  ·rw[E]at he;exact absurd rfl he
def Mk(o:Option PI.Obj)(sz:Nat)(ks:List Nat)(ok:Bool)(zero k:D):Option D:=match o with
 |some o=>if o.isMap && o.sz == sz && (Iu sz ks k k).isSome then match Lx sz ks k o.els 0 with
   |some (some i)=>match o.els[i]? with
    |some el=>some (if ok then .tup [HG sz el,.bool true]else HG sz el)
    |none=>none
   |some none=>some (if ok then .tup [zero,.bool false]else zero)
   |none=>none
  else none
 |none=>none
theorem Kg(st:St)(sz:Nat)(ks:List Nat)(ok:Bool)(E k:D)(key:Nat):Jx st sz ks ok E (.mapv key) k=Mk st[key]? sz ks ok E k:=(rfl)
def K4(o:Option PI.Obj)(sz:Nat)(ks:List Nat)(k v:D):Option PI.Obj:=match o with
 |some o=>if o.isMap && o.sz == sz && !o.lent && v.isCell && k.cells.length+1 == sz && k.cells.all D.isCell && Iu sz ks k k == some true then match Lx sz ks k o.els 0 with
   |some (some i)=>some {o with els:=o.els.set i (.agg (k.cells++[v]))}
   |some none=>some {o with els:=o.els++[.agg (k.cells++[v])]}
   |none=>none
  else none
 |none=>none
theorem JL(st:St)(sz:Nat)(ks:List Nat)(k v:D)(key:Nat):S5 st sz ks (.mapv key) k v=(K4 st[key]? sz ks k v).map fun o=>st.set key o:=by
 simp only[S5,K4]
 cases st[key]? with
 |none=>rfl
 |some o=>
  simp only
  split
  ·cases Lx sz ks k o.els 0 with
   |none=>rfl
   |some r=>cases r <;> rfl
  ·rfl
def N2:List (Int×Nat):=[(1,5000177),(2,5000178),(12,5000179),(13,5000180),(14,5000181),(15,5000182),(16,5000183)]
def W9(k:Nat)(p:Int×Nat):D:=.agg [.int .i64 p.1,.clo p.2 [.ptr k 0]]
def JU(k i:Nat):List D:=(N2.take i).map (W9 k)
theorem KL(k:Nat):K4 (some ⟨false,2,[],false⟩) 2 [0] (.int .i64 1) (.clo 5000177 [.ptr k 0])=some ⟨false,2,JU k 1,false⟩:=(rfl)
theorem KK(k:Nat):K4 (some ⟨false,2,JU k 1,false⟩) 2 [0] (.int .i64 2) (.clo 5000178 [.ptr k 0])=some ⟨false,2,JU k 2,false⟩:=(rfl)
theorem KJ(k:Nat):K4 (some ⟨false,2,JU k 2,false⟩) 2 [0] (.int .i64 12) (.clo 5000179 [.ptr k 0])=some ⟨false,2,JU k 3,false⟩:=(rfl)
theorem KI(k:Nat):K4 (some ⟨false,2,JU k 3,false⟩) 2 [0] (.int .i64 13) (.clo 5000180 [.ptr k 0])=some ⟨false,2,JU k 4,false⟩:=(rfl)
theorem KH(k:Nat):K4 (some ⟨false,2,JU k 4,false⟩) 2 [0] (.int .i64 14) (.clo 5000181 [.ptr k 0])=some ⟨false,2,JU k 5,false⟩:=(rfl)
theorem KG(k:Nat):K4 (some ⟨false,2,JU k 5,false⟩) 2 [0] (.int .i64 15) (.clo 5000182 [.ptr k 0])=some ⟨false,2,JU k 6,false⟩:=(rfl)
theorem KF(k:Nat):K4 (some ⟨false,2,JU k 6,false⟩) 2 [0] (.int .i64 16) (.clo 5000183 [.ptr k 0])=some ⟨false,2,JU k 7,false⟩:=(rfl)
theorem Rc(k:Nat)(op:Int)(f:Nat)(h:F6 op N2=some f):Mk (some ⟨false,2,JU k 7,false⟩) 2 [0] true .nilf (.int .i64 op)=some (.tup [.clo f [.ptr k 0],.bool true]):=by
 simp only[N2,F6]at h
 split at h
 ·simp only[Db]at h; subst h; rename_i e; subst e; rfl
 split at h
 ·simp only[Db]at h; subst h; rename_i e; subst e; rfl
 split at h
 ·simp only[Db]at h; subst h; rename_i e; subst e; rfl
 split at h
 ·simp only[Db]at h; subst h; rename_i e; subst e; rfl
 split at h
 ·simp only[Db]at h; subst h; rename_i e; subst e; rfl
 split at h
 ·simp only[Db]at h; subst h; rename_i e; subst e; rfl
 split at h
 ·simp only[Db]at h; subst h; rename_i e; subst e; rfl
 cases h
theorem Ys4(k:Nat)(op:Int)(h:3≤op∧op≤11):Mk (some ⟨false,2,JU k 7,false⟩) 2 [0] true .nilf (.int .i64 op)=some (.tup [.nilf,.bool false]):=by
 have:op=3∨op=4∨op=5∨op=6∨op=7∨op=8∨op=9∨op=10∨op=11:=by omega
 rcases this with rfl | rfl | rfl | rfl | rfl | rfl | rfl | rfl | rfl <;> rfl
theorem Pp(st:St)(a b:PI.Obj):(st++[a]++[b])[st.length+1]?=some b:=by
 have:=Fa (st++[a]) b;rwa [LZ]at this
theorem Po(st:St)(a b:PI.Obj):(st++[a]++[b])[st.length]?=some a:=by
 rw[HX (by rw[LZ]; omega),Fa]
theorem Pt(st:St)(a b b':PI.Obj):(st++[a]++[b]).set (st.length+1) b'=st++[a]++[b']:=by
 have:=RV (st++[a]) b b';rwa [LZ]at this
structure eOK (v:Int×List Int) (b:Int) (s:Sta) (x:Ins):Prop where
 v:EA v
 b0:0≤b
 b1:b≤64
 l:s.stack.length≤64
 p0:0≤s.pc
 p1:s.pc≤100000
 f:Gl x=true
def G1(v:Int×List Int)(b:Int)(s:Sta)(x:Ins):Out:=if(s.stack.length:Int)<I7 x.op then .err 200 else DT v b s x
def KO(st:St)(key:Nat)(s:Sta)(x:Ins):St:=if(s.stack.length:Int)<I7 x.op then st else st++[⟨false,1,DL x,false⟩]++[⟨false,2,JU key 7,false⟩]
def W8(ds:List D)(st:St)(r:D×St):Prop:=∃ (key:Nat) (v:Int×List Int) (b:Int) (s:Sta) (x:Ins),eOK v b s x∧Hx st key v s.pc s.fuel s.status s.clause (EB s.stack) b∧ds=[.ptr key 0,Da x]∧r=Ef (KO st key s x) key v b s x (G1 v b s x)
noncomputable def aO:List D→St→Option (D×St):=Fv W8
theorem Yvk:Ic W8:=by
 rintro ds st r r' ⟨key,v,b,s,x,hm,hk,rfl,rfl⟩ ⟨V,v',b',s',x',E,I,h,rfl⟩;simp only[Aa,D.ptr.injEq,and_true,Sc]at h;obtain⟨rfl,rfl⟩:=h;obtain⟨rfl,J,M,N,O,Y,rfl⟩:=dW hm.v E.v hk I;have U:=Sl.1 Y;obtain⟨a1,a2,a3,a4,a5⟩:=s;obtain⟨b1,b2,b3,b4,b5⟩:=s';dsimp only at J M N O U;subst J; subst M; subst N; subst O; subst U;rfl
theorem Ynw(hm:eOK v b s x)(hk:Hx st key v s.pc s.fuel s.status s.clause (EB s.stack) b):aO [.ptr key 0,Da x] st=some (Ef (KO st key s x) key v b s x (G1 v b s x)):=
 L0 Yvk ⟨key,v,b,s,x,hm,hk,rfl,rfl⟩
theorem JI:lp 2=some ⟨false,2,[],false⟩:=(rfl)
set_option maxHeartbeats 8000000 in
set_option maxRecDepth 20000 in
theorem YB3:IContract Tryz.prog GG 157 aO:=by
 refine Jz (T:=tb [(109,cE)] [(177,J9 (·=1)),(178,J9 (·=2)),(179,J9 (·=12)),(180,J9 (·=13)),(181,J9 (·=14)),(182,J9 (·=15)),(183,J9 (·=16)),(184,J9 (fun o=>3≤o∧o≤11))])
  zJ (DI (all_cons wB all_nil) (all_cons Yv0 (all_cons Yv2 (all_cons yYp (all_cons Yvx (all_cons Yv3 (all_cons YB1 (all_cons Yv1 (all_cons yYq all_nil))))))))) ?_
 intro ds st r hr;obtain⟨key,v,b,s,x,⟨hv,Y,aa,hl,ab,ac,hf⟩,hk,rfl,rfl⟩:=Je hr;have N:=MI hk;have E:=hk;unfold Hx at E;have O:=sm x.op;have af:=Yeu hf;unfold nr
 by_cases U:(s.stack.length:Int)<I7 x.op
 ·rw[show G1 v b s x=.err 200 from if_pos U,show KO st key s x=st from if_pos U];simp (disch:=first|omega|decide) only[push_cast,↓reduceIte,CI,CJ,Fq,DK,HX N,E,JH hv,HM,Fa,Gm,O,U,Ef]
 ·rw[show G1 v b s x=DT v b s x from if_neg U,show KO st key s x=_ from if_neg U];have hm:mOK v b s x:=⟨hv,Y,aa,hl,ab,ac,hf,by omega⟩;have ad:Hx (st++[⟨false,1,DL x,false⟩]++[⟨false,2,JU key 7,false⟩]) key v s.pc s.fuel s.status s.clause (EB s.stack) b:=QS (QS hk _) _
  have fin:∀ (P:Int→Prop),P x.op→∃ d st',J9 P [.ptr key 0,Da x] (st++[⟨false,1,DL x,false⟩]++[⟨false,2,JU key 7,false⟩])=some (d,st')∧Ef (st++[⟨false,1,DL x,false⟩]++[⟨false,2,JU key 7,false⟩]) key v b s x (DT v b s x)=(d,st'):=
   fun P hP=>⟨_,_,Ynq hm hP ad,rfl⟩
  have V:x.op=1∨x.op=2∨x.op=12∨x.op=13∨x.op=14∨x.op=15∨x.op=16∨(3≤x.op∧x.op≤11):=by omega
  rcases V with e | e | e | e | e | e | e | e
  ·obtain⟨d,st',I,J⟩:=fin (·=1) e;have M:=Rc key x.op _ (show F6 x.op N2=some 5000177 by rw[e]; rfl);rw[J];simp (disch:=first|omega|decide) only[push_cast,↓reduceIte,CI,CJ,Fq,DK,HX N,E,JH hv,HM,Fa,Gm,O,U,LZ,JL,Kg,Pp,Pt,Po,JI,KL,KK,KJ,KI,KH,KG,KF,M,Oa,PT _ 5000177 177 _ rfl (by decide),I]
  ·obtain⟨d,st',I,J⟩:=fin (·=2) e;have M:=Rc key x.op _ (show F6 x.op N2=some 5000178 by rw[e]; rfl);rw[J];simp (disch:=first|omega|decide) only[push_cast,↓reduceIte,CI,CJ,Fq,DK,HX N,E,JH hv,HM,Fa,Gm,O,U,LZ,JL,Kg,Pp,Pt,Po,JI,KL,KK,KJ,KI,KH,KG,KF,M,Oa,PT _ 5000178 178 _ rfl (by decide),I]
  ·obtain⟨d,st',I,J⟩:=fin (·=12) e;have M:=Rc key x.op _ (show F6 x.op N2=some 5000179 by rw[e]; rfl);rw[J];simp (disch:=first|omega|decide) only[push_cast,↓reduceIte,CI,CJ,Fq,DK,HX N,E,JH hv,HM,Fa,Gm,O,U,LZ,JL,Kg,Pp,Pt,Po,JI,KL,KK,KJ,KI,KH,KG,KF,M,Oa,PT _ 5000179 179 _ rfl (by decide),I]
  ·obtain⟨d,st',I,J⟩:=fin (·=13) e;have M:=Rc key x.op _ (show F6 x.op N2=some 5000180 by rw[e]; rfl);rw[J];simp (disch:=first|omega|decide) only[push_cast,↓reduceIte,CI,CJ,Fq,DK,HX N,E,JH hv,HM,Fa,Gm,O,U,LZ,JL,Kg,Pp,Pt,Po,JI,KL,KK,KJ,KI,KH,KG,KF,M,Oa,PT _ 5000180 180 _ rfl (by decide),I]
  ·obtain⟨d,st',I,J⟩:=fin (·=14) e;have M:=Rc key x.op _ (show F6 x.op N2=some 5000181 by rw[e]; rfl);rw[J];simp (disch:=first|omega|decide) only[push_cast,↓reduceIte,CI,CJ,Fq,DK,HX N,E,JH hv,HM,Fa,Gm,O,U,LZ,JL,Kg,Pp,Pt,Po,JI,KL,KK,KJ,KI,KH,KG,KF,M,Oa,PT _ 5000181 181 _ rfl (by decide),I]
  ·obtain⟨d,st',I,J⟩:=fin (·=15) e;have M:=Rc key x.op _ (show F6 x.op N2=some 5000182 by rw[e]; rfl);rw[J];simp (disch:=first|omega|decide) only[push_cast,↓reduceIte,CI,CJ,Fq,DK,HX N,E,JH hv,HM,Fa,Gm,O,U,LZ,JL,Kg,Pp,Pt,Po,JI,KL,KK,KJ,KI,KH,KG,KF,M,Oa,PT _ 5000182 182 _ rfl (by decide),I]
  ·obtain⟨d,st',I,J⟩:=fin (·=16) e;have M:=Rc key x.op _ (show F6 x.op N2=some 5000183 by rw[e]; rfl);rw[J];simp (disch:=first|omega|decide) only[push_cast,↓reduceIte,CI,CJ,Fq,DK,HX N,E,JH hv,HM,Fa,Gm,O,U,LZ,JL,Kg,Pp,Pt,Po,JI,KL,KK,KJ,KI,KH,KG,KF,M,Oa,PT _ 5000183 183 _ rfl (by decide),I]
  ·obtain⟨d,st',I,J⟩:=fin (fun o=>3≤o∧o≤11) e;have M:=Ys4 key x.op e;rw[J];simp (disch:=first|omega|decide) only[push_cast,↓reduceIte,CI,CJ,Fq,DK,HX N,E,JH hv,HM,Fa,Gm,O,U,LZ,JL,Kg,Pp,Pt,Po,JI,KL,KK,KJ,KI,KH,KG,KF,M,Oa,I]
def FL(s:Sta):Out→Sta
 |.err e=>{s with status:=10+e}
 |.pop k push pc=>{s with pc:=pc.getD (s.pc+1),stack:=s.stack.take (s.stack.length - k)++push.toList}
 |.set p t c=>{s with pc:=p,status:=t,clause:=c}
def Ds(s:Sta):Sta:={s with fuel:=s.fuel - 1}
def FO(v:Int×List Int)(b:Int)(s:Sta)(x:Ins):Sta:=if s.fuel=0 then {s with status:=220} else FL (Ds s) (G1 v b (Ds s) x)
structure aOK (c:List Ins) (v:Int×List Int) (s:Sta) (b:Int):Prop where
 v:EA v
 b0:0≤b
 b1:b≤64
 l:s.stack.length≤64
 p0:0≤s.pc
 p1:s.pc<c.length
 cl:c.length≤4096
 f:c.all Gl=true
 u0:0≤s.fuel
 u1:s.fuel≤32768
theorem Yof(op a b:Int):0≤(D6 op a b).2∧(D6 op a b).2≤100:=by
 have I:∀ c,0≤(KC c).2∧(KC c).2≤100:=fun c=>by unfold KC; split <;> exact⟨by simp,by simp⟩
 have J:∀ a b m,0≤(Er a b m).2∧(Er a b m).2≤100:=fun a b m=>by
  unfold Er
  split
  ·split <;> exact⟨by simp,by simp⟩
  ·exact⟨by simp,by simp⟩
 have ha:0≤(HI a b).2∧(HI a b).2≤100:=by unfold HI; split <;> first | exact I _ | exact⟨by simp,by simp⟩
 have M:0≤(Hz a b).2∧(Hz a b).2≤100:=by unfold Hz; split <;> first | exact I _ | exact⟨by simp,by simp⟩
 have hm:0≤(HD a b).2∧(HD a b).2≤100:=by unfold HD; split <;> first | exact I _ | exact⟨by simp,by simp⟩
 have E:∀ n:Int,0≤((n,0):Int×Int).2∧((n,0):Int×Int).2≤100:=fun n=>⟨by simp,by simp⟩;unfold D6
 split; · exact ha
 split; · exact M
 split; · exact hm
 split; · exact E _
 split; · exact E _
 split; · exact J _ _ _
 split; · exact J _ _ _
 split; · exact J _ _ _
 split; · exact E _
 exact E _
theorem wV{e:Int}(h:G1 v b s x=.err e):1≤e∧e≤1000:=by
 have E:=Yof x.op (Dd s 1) (Dd s 0);unfold G1 DT at h
 repeat' split at h
 all_goals first | (cases h; done) | (simp only[Out.err.injEq]at h; omega)
variable {k:Nat}
theorem Yvm{E pc:Option Int}(h:G1 v b s x=.pop k E pc):¬ (s.stack.length:Int)<I7 x.op:=by
 intro I;unfold G1 at h;rw[if_pos I]at h;cases h
theorem Yvl{c:Int}(h:G1 v b s x=.set p t c):¬ (s.stack.length:Int)<I7 x.op:=by
 intro E;unfold G1 at h;rw[if_pos E]at h;cases h
theorem Ye8(v:Int×List Int)(hv:EA v)(s:Sta)(b:Int):DO [.int .i64 0,.int .i64 0,.int .i64 0,.int .i64 0,.int .i64 0,.int .i64 0,.int .i64 0,.int .i64 0,.int .i64 0,.int .i64 0,.int .i64 0,.int .i64 0,.int .i64 0,.int .i64 0,.int .i64 0,.int .i64 0,.int .i64 0,.int .i64 0,.int .i64 0,.int .i64 0,.int .i64 0,.slc 0 [] true,.int .i64 0]
  [(0,17,Ez v),(17,5,DP s),(22,1,.int .i64 b)]=some (EX v s.pc s.fuel s.status s.clause (EB s.stack) b):=by
 refine(I1 (cs':=D2 v++([.int .i64 0,.int .i64 0,.int .i64 0,.int .i64 0,.slc 0 [] true]++[.int .i64 0])) (A:=[]) (B:=CQ 17 (.int .i64 0)) (C:=[.int .i64 0,.int .i64 0,.int .i64 0,.int .i64 0,.slc 0 [] true,.int .i64 0]) (xs:=D2 v) rfl rfl rfl rfl rfl (HQ hv) (T9 (v.1::v.2))).trans ?_;refine(I1 (cs':=D2 v++(DS s++[.int .i64 0])) (A:=D2 v) (B:=[.int .i64 0,.int .i64 0,.int .i64 0,.int .i64 0,.slc 0 [] true]) (C:=[.int .i64 0]) (xs:=DS s) rfl rfl (HQ hv) rfl rfl rfl (Yi2 s)).trans ?_;refine(I1 (cs':=EX v s.pc s.fuel s.status s.clause (EB s.stack) b) (A:=D2 v++DS s) (B:=[.int .i64 0]) (C:=[]) (xs:=[.int .i64 b]) (by simp) (by simp[EX,DS]) (by simp[HQ hv,DS]) rfl rfl rfl rfl).trans ?_;rfl
theorem Yn8(v:Int×List Int)(p f t c:Int)(sz:Nat)(els:List D)(E:Bool)(b:Int):DH (.agg (EX v p f t c (.slc sz els E) b))=some (EX v p f t c (.slc sz els E) b):=by
 have h:(EX v p f t c (.slc sz els E) b).all D.isCell=true:=by
  rw[EX,Bm,TN,T9];rfl
 rw[show DH (.agg (EX v p f t c (.slc sz els E) b))=if(EX v p f t c (.slc sz els E) b).all D.isCell then some (EX v p f t c (.slc sz els E) b)else none from rfl,if_pos h]
theorem X4(v:Int×List Int)(p f t c:Int)(l:List Int)(b:Int):DH (.agg (EX v p f t c (EB l) b))=some (EX v p f t c (EB l) b):=Yn8 v p f t c _ _ _ b
theorem yQv(l:List Int):(EB l).isCell=true:=(rfl)
theorem Yee(st:St)(l:List Int):DD st (EB l)=some (EB l):=by simp only[EB,gO,J3]
theorem YA1(E o1 o2 I J M N:PI.Obj)(A:List Int)(m:Nat)(h:A.length=m):DD [E,o1,o2,I,J,M,N,⟨true,1,A.map nI,false⟩] (.row 7 m 0 m)=some (EB A):=by
 have O:HL [E,o1,o2,I,J,M,N,⟨true,1,A.map nI,false⟩] 7 m 0 m=some (1,A.map nI):=by
  simp only[HL,Bw,AF];rw[if_pos (by simp[h]),BA,AI (by simp[h])]
 simp only[DD,O,Ag];rfl
theorem dJ(s:Sta)(n:Int):DY (some ⟨false,1,DS s,false⟩) 1 1 (.int .i64 n)=some ⟨false,1,DS {s with fuel:=n},false⟩:=(rfl)
theorem uO(s:Sta)(n:Int):DY (some ⟨false,1,DS s,false⟩) 1 2 (.int .i64 n)=some ⟨false,1,DS {s with status:=n},false⟩:=(rfl)
theorem Lm(a b c d S:D):DY (some ⟨false,1,[.int .i64 0,.int .i64 0,.int .i64 0,.int .i64 0,.slc 0 [] true],false⟩) 5 0 (.agg [a,b,c,d,S])=if [a,b,c,d,S].all D.isCell then some ⟨false,1,[a,b,c,d,S],false⟩else none:=by
 simp only[DY]; rfl
theorem Lp(lent:Bool)(a b c d S:D):Dy (some ⟨false,1,[a,b,c,d,S],lent⟩) 5 true 0=some (.agg [a,b,c,d,S]):=(rfl)
noncomputable def aP:List D→Option D:=Dk (α:=List Ins×(Int×List Int)×Sta×Int) (fun a=>[.slc (nz 3 (a.1.map Da)) (a.1.map Da) false,Ez a.2.1,DP a.2.2.1,.int .i64 a.2.2.2]) (fun a=>aOK a.1 a.2.1 a.2.2.1 a.2.2.2) (fun a=>DP (FO a.2.1 a.2.2.2 a.2.2.1 (a.1.getD a.2.2.1.pc.toNat default)))
theorem nR(c:List Ins)(v:Int×List Int)(s:Sta)(b:Int)(h:aOK c v s b):aP [.slc (nz 3 (c.map Da)) (c.map Da) false,Ez v,DP s,.int .i64 b]=some (DP (FO v b s (c.getD s.pc.toNat default))):=
 D7 (fun⟨a0,a1,E,I⟩ ⟨b0,b1,J,M⟩ h=>by simp only[Aa,D.slc.injEq,D.int.injEq,true_and,and_true,Kw,Sa,Kb]at h; simp[h]) (c,v,s,b) h
set_option maxHeartbeats 4000000 in
set_option maxRecDepth 20000 in
theorem Vw(c:List Ins)(v:Int×List Int)(s:Sta)(b:Int)(h:aOK c v s b):@wW GG (tb [] [(157,aO)]) Zq.code (Dc [.slc (nz 3 (c.map Da)) (c.map Da) false,Ez v,DP s,.int .i64 b]) [] ⟨Dn Zq.res (DP (FO v b s (c.getD s.pc.toNat default)))⟩:=by
 obtain⟨hv,aa,ab,hl,ac,a3,hc,hf,a4,a5⟩:=h;have V:s.pc.toNat<c.length:=by omega
 unfold Zq
 by_cases M:s.fuel=0
 ·rw[show FO v b s (c.getD s.pc.toNat default)={s with status:=220} from if_pos M];simp (disch:=first|omega|decide) only[push_cast,↓reduceIte,CI,CJ,E8,Ik,He,K1,M,uO,Hd,Iv,Il]
 ·rw[show FO v b s (c.getD s.pc.toNat default)=FL (Ds s) (G1 v b (Ds s) (c.getD s.pc.toNat default))from if_neg M];have J:=fun st=>Vb st c false s.pc.toNat V;rw[show((s.pc.toNat:Nat):Int)=s.pc by omega]at J
  have Y:Gl (c.getD s.pc.toNat default)=true:=by
   rw[Al,Am V];exact Ak.1 hf _ (BE V)
  obtain⟨x,ad⟩:∃ x,c.getD s.pc.toNat default=x:=⟨_,rfl⟩;rw[ad]at J Y ⊢;have J:∀ st:St,Gx st 3 (.slc (nz 3 (c.map Da)) (c.map Da) false) (.int .i64 (Ds s).pc)=some (.eptr (Da x) 0):=J;have he:eOK v b (Ds s) x:=⟨hv,aa,ab,hl,ac,by show s.pc≤100000; omega,Y⟩;have E:=Ynw (st:=[⟨false,1,D2 v,false⟩,⟨false,1,DS (Ds s),false⟩,⟨false,1,[.int .i64 0,.int .i64 0,.int .i64 0,.int .i64 0,.slc 0 [] true],false⟩,⟨false,1,EX v (Ds s).pc (Ds s).fuel (Ds s).status (Ds s).clause (EB (Ds s).stack) b,false⟩]) (key:=3) he rfl;have N:=Ye8 v hv (Ds s) b;have O:(⟨s.pc,s.fuel - 1,s.status,s.clause,s.stack⟩:Sta)=Ds s:=rfl
  cases U:G1 v b (Ds s) x with
  |err e=>
   have a6:=wV U;rw[U]at E
   have I:∃ l,KO [⟨false,1,D2 v,false⟩,⟨false,1,DS (Ds s),false⟩,⟨false,1,[.int .i64 0,.int .i64 0,.int .i64 0,.int .i64 0,.slc 0 [] true],false⟩,⟨false,1,EX v (Ds s).pc (Ds s).fuel (Ds s).status (Ds s).clause (EB (Ds s).stack) b,false⟩] 3 (Ds s) x=⟨false,1,D2 v,false⟩::⟨false,1,DS (Ds s),false⟩::⟨false,1,[.int .i64 0,.int .i64 0,.int .i64 0,.int .i64 0,.slc 0 [] true],false⟩::l:=by
    unfold KO; split <;> exact⟨_,rfl⟩
   obtain⟨l,I⟩:=I;rw[I]at E;simp only[Ef,Ae]at E;have ae:¬ e=0:=by omega
   simp (disch:=first|omega|decide) only[push_cast,↓reduceIte,CI,CJ,E8,Ik,He,K1,M,E1,dJ,O,FI hv,Hd,N,X4,Kt,J,K2,E,ae,DN,uO,Iv,Il,FL]
  |pop k push pc=>
   rw[U]at E;have I:=Yvm U;rw[show KO [⟨false,1,D2 v,false⟩,⟨false,1,DS (Ds s),false⟩,⟨false,1,[.int .i64 0,.int .i64 0,.int .i64 0,.int .i64 0,.slc 0 [] true],false⟩,⟨false,1,EX v (Ds s).pc (Ds s).fuel (Ds s).status (Ds s).clause (EB (Ds s).stack) b,false⟩] 3 (Ds s) x=_ from if_neg I]at E;simp only[Ef]at E
   cases push with
   |none=>
    simp only[KA,Iz,DF,Ae,Ai,Ad,Cu,Bv]at E;simp (disch:=first|omega|decide) only[push_cast,↓reduceIte,CI,CJ,E8,Ik,He,K1,M,E1,dJ,O,FI hv,Hd,N,X4,Kt,J,K2,E,DK,kC hv,Lm,Lp,FL];simp only[Option.toList_none,Ad];rfl
   |some a=>
    have hi:=fun o0 o1 o2 o3 o4 o5 o6=>YA1 o0 o1 o2 o3 o4 o5 o6 ((Ds s).stack.take ((Ds s).stack.length - k)++[a]) ((Ds s).stack.length - k+1) (by rw[Ab,AL]; simp);simp only[KA,Iz,DF,Ae,Ai,Cu,Bv,Ah,Aq]at E;simp (disch:=first|omega|decide) only[push_cast,↓reduceIte,CI,CJ,E8,Ik,He,K1,M,E1,dJ,O,FI hv,Hd,N,X4,Kt,J,K2,E,DK,kC hv,Lm,Lp,FL,hi];rfl
  |set p t cl=>
   rw[U]at E;have I:=Yvl U;rw[show KO [⟨false,1,D2 v,false⟩,⟨false,1,DS (Ds s),false⟩,⟨false,1,[.int .i64 0,.int .i64 0,.int .i64 0,.int .i64 0,.slc 0 [] true],false⟩,⟨false,1,EX v (Ds s).pc (Ds s).fuel (Ds s).status (Ds s).clause (EB (Ds s).stack) b,false⟩] 3 (Ds s) x=_ from if_neg I]at E;simp only[Ef,DF,Ae,Ai,Cu,Bv]at E;simp (disch:=first|omega|decide) only[push_cast,↓reduceIte,CI,CJ,E8,Ik,He,K1,M,E1,dJ,O,FI hv,Hd,N,X4,Kt,J,K2,E,DK,kC hv,Lm,Lp,yQv,Yee,FL];rfl
theorem yn:Contract Tryz.prog GG 110 aP:=
 Ed (T:=tb [] [(157,aO)]) yEu (DI all_nil (all_cons YB3 all_nil)) (fun a h=>Vw a.1 a.2.1 a.2.2.1 a.2.2.2 h)
def JY(c:List Ins)(s:Sta)(b:Int):Prop:=s.pc<0∨(c.length:Int)≤s.pc∨s.fuel<0∨32768<s.fuel∨s.clause≠0∨b<0∨64<b∨64 - b<(s.stack.length:Int)
instance (c:List Ins) (s:Sta) (b:Int):Decidable (JY c s b):=by unfold JY; infer_instance
def HW(c:List Ins)(s:Sta)(b:Int):Int:=if s.status≠0 then 211 else if(FE c).2≠0 then(FE c).2 else if JY c s b then 1 else 0
noncomputable def cF:List D→Option D:=Dk (α:=List Ins×Sta×Int) (fun a=>[.slc (nz 3 (a.1.map Da)) (a.1.map Da) false,DP a.2.1,.int .i64 a.2.2]) (fun a=>a.1.length≤4294967296) (fun a=>.int .i64 (HW a.1 a.2.1 a.2.2))
theorem sn(c:List Ins)(s:Sta)(b:Int)(h:c.length≤4294967296):cF [.slc (nz 3 (c.map Da)) (c.map Da) false,DP s,.int .i64 b]=some (.int .i64 (HW c s b)):=
 D7 (fun⟨a0,a1,E⟩ ⟨b0,b1,I⟩ h=>by simp only[Aa,D.slc.injEq,D.int.injEq,true_and,and_true,Kw,Sa]at h; simp[h]) (c,s,b) h
theorem Yqn(c:List Ins)(s:Sta)(b:Int)(h:c.length≤4294967296):@wW GG (tb [(47,R0)] []) YZ.code (Dc [.slc (nz 3 (c.map Da)) (c.map Da) false,DP s,.int .i64 b]) [] ⟨Dn YZ.res (.int .i64 (HW c s b))⟩:=by
 have hv:=X6 c (by omega);unfold YZ
 by_cases E:s.status=0
 ·by_cases I:(FE c).2=0
  ·have e:HW c s b=if JY c s b then 1 else 0:=by unfold HW; rw[if_neg (by simp[E]),if_neg (by simp[I])]
   rw[e]
   by_cases J:s.pc<0
   ·rw[if_pos (.inl J)];simp (disch:=first|omega|decide) only[push_cast,↓reduceIte,CI,Ik,Kt,Jd,E,hv,I,J]
   by_cases M:(c.length:Int)≤s.pc
   ·rw[if_pos (.inr (.inl M))];simp (disch:=first|omega|decide) only[push_cast,↓reduceIte,CI,Ik,Kt,Jd,E,hv,I,J,M]
   by_cases N:s.fuel<0
   ·rw[if_pos (.inr (.inr (.inl N)))];simp (disch:=first|omega|decide) only[push_cast,↓reduceIte,CI,Ik,Kt,K1,Jd,E,hv,I,J,M,N]
   by_cases O:32768<s.fuel
   ·rw[if_pos (.inr (.inr (.inr (.inl O))))];simp (disch:=first|omega|decide) only[push_cast,↓reduceIte,CI,Ik,Kt,K1,Jd,E,hv,I,J,M,N,O]
   by_cases U:s.clause=0
   ·by_cases V:b<0
    ·rw[if_pos (.inr (.inr (.inr (.inr (.inr (.inl V))))))];simp (disch:=first|omega|decide) only[push_cast,↓reduceIte,CI,Ik,Kt,K1,Jd,NN,E,hv,I,J,M,N,O,U,V]
    by_cases Y:64<b
    ·rw[if_pos (.inr (.inr (.inr (.inr (.inr (.inr (.inl Y)))))))];simp (disch:=first|omega|decide) only[push_cast,↓reduceIte,CI,Ik,Kt,K1,Jd,NN,E,hv,I,J,M,N,O,U,V,Y]
    by_cases q8:64 - b<(s.stack.length:Int)
    ·rw[if_pos (.inr (.inr (.inr (.inr (.inr (.inr (.inr q8)))))))];simp (disch:=first|omega|decide) only[push_cast,↓reduceIte,CI,Ik,Kt,K1,Jd,NN,Ol,HM,E1,E,hv,I,J,M,N,O,U,V,Y,q8]
    ·rw[if_neg (by unfold JY; omega)];simp (disch:=first|omega|decide) only[push_cast,↓reduceIte,CI,Ik,Kt,K1,Jd,NN,Ol,HM,E1,E,hv,I,J,M,N,O,U,V,Y,q8]
   ·rw[if_pos (.inr (.inr (.inr (.inr (.inl U)))))];simp (disch:=first|omega|decide) only[push_cast,↓reduceIte,CI,Ik,Kt,K1,Jd,NN,E,hv,I,J,M,N,O,U]
  ·rw[show HW c s b=(FE c).2 by unfold HW; rw[if_neg (by simp[E]),if_pos I]];simp (disch:=first|omega|decide) only[push_cast,↓reduceIte,CI,Ik,Jd,E,hv,I]
 ·rw[show HW c s b=211 from if_pos E];simp (disch:=first|omega|decide) only[push_cast,↓reduceIte,CI,Ik,Jd,E]
theorem wC:Contract Tryz.prog GG 108 cF:=
 Ed yKn (DI (all_cons ax all_nil) all_nil) (fun a h=>Yqn a.1 a.2.1 a.2.2 h)
variable {c:List Ins}
theorem ON(h:(FE c).2=0):c.length≤4096∧0<c.length∧c.all Gl=true∧∃ s,Gc c.length c 0 (GQ c.length) 0=some s∧s≤64:=by
 unfold FE at h
 split at h
 ·simp at h
 split at h
 ·simp at h
 rename_i J E;have M:¬ c.length=0:=fun e=>E (.inl e)
 have I:c.all Gl=true:=by
  cases hb:c.all Gl with
  |true=>rfl
  |false=>exact absurd (.inr hb) E
 cases hv:Gc c.length c 0 (GQ c.length) 0 with
 |none=>rw[hv]at h; simp[LW]at h
 |some s=>
  rw[hv]at h;simp only[LW]at h
  split at h
  ·simp at h
  ·exact⟨by omega,by omega,I,s,rfl,by omega⟩
theorem oX(hv:EA v)(h:HW c s b=0):aOK c v s b∧s.status=0∧s.clause=0∧(FE c).2=0:=by
 unfold HW at h
 split at h
 ·simp at h
 split at h
 ·rename_i I; exact absurd h I
 split at h
 ·simp at h
 rename_i O I M;have J:s.status=0:=by omega
 have E:(FE c).2=0:=by omega
 obtain⟨a1,U,N,_⟩:=ON E;unfold JY at M;exact⟨⟨hv,by omega,by omega,by omega,by omega,by omega,by omega,N,by omega,by omega⟩,J,by omega,E⟩
def FU:Sta:=⟨0,0,0,0,[]⟩
def GF(f:Int):Sta:=if f<0∨32768<f then FU else {FU with fuel:=f}
def Pv(f:Int):Int:=if f<0∨32768<f then 1 else 0
theorem U9:DO [.int .i64 0,.int .i64 0,.int .i64 0,.int .i64 0,.slc 0 [] true] []=some [.int .i64 0,.int .i64 0,.int .i64 0,.int .i64 0,.slc 0 [] true]:=(rfl)
theorem Yvc(f:Int):DO [.int .i64 0,.int .i64 0,.int .i64 0,.int .i64 0,.slc 0 [] true] [(1,1,.int .i64 f)]=some [.int .i64 0,.int .i64 f,.int .i64 0,.int .i64 0,.slc 0 [] true]:=(rfl)
noncomputable def cH:List D→Option D:=Dk (α:=Int) (fun a=>[.int .i64 a]) (fun a=>True) (fun a=>.tup [DP (GF a),.int .i64 (Pv a)])
theorem ss(f:Int):cH [.int .i64 f]=some (.tup [DP (GF f),.int .i64 (Pv f)]):=
 D7 (fun a b h=>by simp only[Aa,D.int.injEq,true_and,and_true]at h; simp[h]) (f) trivial
theorem Yqm(f:Int):@wW GG (tb [] []) YR.code (Dc [.int .i64 f]) [] ⟨Dn YR.res (.tup [DP (GF f),.int .i64 (Pv f)])⟩:=by
 unfold YR
 by_cases E:f<0
 ·rw[show GF f=FU from if_pos (.inl E),show Pv f=1 from if_pos (.inl E)];simp (disch:=first|omega|decide) only[push_cast,↓reduceIte,CI,He,E,U9,Lm,Lp];rfl
 ·by_cases I:32768<f
  ·rw[show GF f=FU from if_pos (.inr I),show Pv f=1 from if_pos (.inr I)];simp (disch:=first|omega|decide) only[push_cast,↓reduceIte,CI,He,E,I,U9,Lm,Lp];rfl
  ·rw[show GF f={FU with fuel:=f} from if_neg (by omega),show Pv f=0 from if_neg (by omega)];simp (disch:=first|omega|decide) only[push_cast,↓reduceIte,CI,He,E,I,Yvc,Lm,Lp];rfl
theorem wH:Contract Tryz.prog GG 48 cH:=
 Ed yKq (DI all_nil all_nil) (fun a h=>Yqm a)
def J2(c:List Ins)(s:Sta):Ins:=c.getD s.pc.toNat default
def Kl(c:List Ins)(v:Int×List Int)(s:Sta):Sta:=if HW c s 0=0 then FO v 0 s (J2 c s)else FU
noncomputable def gy:List D→Option D:=Dk (α:=List Ins×(Int×List Int)×Sta) (fun a=>[.slc (nz 3 (a.1.map Da)) (a.1.map Da) false,Ez a.2.1,DP a.2.2]) (fun a=>a.1.length≤4294967296∧EA a.2.1) (fun a=>.tup [DP (Kl a.1 a.2.1 a.2.2),.int .i64 (HW a.1 a.2.2 0)])
theorem Ygf(c:List Ins)(v:Int×List Int)(s:Sta)(h:c.length≤4294967296∧EA v):gy [.slc (nz 3 (c.map Da)) (c.map Da) false,Ez v,DP s]=some (.tup [DP (Kl c v s),.int .i64 (HW c s 0)]):=
 D7 (fun⟨a0,a1,E⟩ ⟨b0,b1,I⟩ h=>by simp only[Aa,D.slc.injEq,and_true,Kw,Sa,Kb]at h; simp[h]) (c,v,s) h
theorem Yxw(c:List Ins)(v:Int×List Int)(s:Sta)(h:c.length≤4294967296∧EA v):@wW GG (tb [(108,cF),(110,aP)] []) Ys.code (Dc [.slc (nz 3 (c.map Da)) (c.map Da) false,Ez v,DP s]) [] ⟨Dn Ys.res (.tup [DP (Kl c v s),.int .i64 (HW c s 0)])⟩:=by
 obtain⟨hc,hv⟩:=h;have I:=sn c s 0 hc;unfold Ys
 by_cases E:HW c s 0=0
 ·have ha:=nR c v s 0 (oX hv E).1;rw[show Kl c v s=FO v 0 s (J2 c s)from if_pos E];rw[E]at I ⊢;simp (disch:=first|omega|decide) only[push_cast,↓reduceIte,CI,CJ,E8,Ik,He,FI hv,ED,Fu,Hd,Il,Kx,I,ha,Iv];rfl
 ·rw[show Kl c v s=FU from if_neg E];simp (disch:=first|omega|decide) only[push_cast,↓reduceIte,CI,CJ,E8,Ik,He,Hd,Il,I,E,U9,Lm,Lp];rfl
theorem YCc:Contract Tryz.prog GG 115 gy:=
 Ed yOt (DI (all_cons wC (all_cons yn all_nil)) all_nil) (fun a h=>Yxw a.1 a.2.1 a.2.2 h)
def I4(o:Opn):Sta:=⟨o.pc,o.fuel,o.status,o.clause,o.top⟩
def N4:Opn:=⟨0,0,0,0,[],0,Du⟩
def dn(c:List Ins)(o:Opn):Prop:=0<o.fuel∧0<o.depth∧(o.top.length:Int)<I7 (J2 c (I4 o)).op
instance (c:List Ins) (o:Opn):Decidable (dn c o):=by unfold dn; infer_instance
def Rn(s:Sta)(o:Opn):Opn:=⟨s.pc,s.fuel,s.status,s.clause,s.stack,o.depth,o.rest⟩
def MS(c:List Ins)(o:Opn):Int:=if HW c (I4 o) o.depth=0 then(if dn c o then 390 else 0)else HW c (I4 o) o.depth
def MT(c:List Ins)(v:Int×List Int)(o:Opn):Opn:=if MS c o=0 then Rn (FO v o.depth (I4 o) (J2 c (I4 o))) o else N4
theorem U8(cs:List D):DO cs []=some cs:=(rfl)
theorem Va(o:Opn):DO [.int .i64 0,.int .i64 0,.int .i64 0,.int .i64 0,.slc 0 [] true] [(0,1,.int .i64 o.pc),(1,1,.int .i64 o.fuel),(2,1,.int .i64 o.status),(3,1,.int .i64 o.clause),(4,1,EB o.top)]=some (DS (I4 o)):=(rfl)
theorem U5(s:Sta):D.agg (DS s)=DP s:=(rfl)
theorem xu(x:Ins)(st:St):Fw st 0 (.eptr (Da x) 0)=some (.eptr (Da x) 0):=(rfl)
theorem oV(st:St)(x:Ins):Ft st 1 false (.eptr (Da x) 0)=some (.int .i64 x.op):=(rfl)
theorem gK(s:Sta)(o:Opn):DO (EP 0 0 0 0 (.slc 0 [] true) 0 Du) [(0,1,.int .i64 s.pc),(1,1,.int .i64 s.fuel),(2,1,.int .i64 s.status),(3,1,.int .i64 s.clause),(4,1,EB s.stack),(5,1,.int .i64 o.depth),(6,32,C9 o.rest)]=some (EW (Rn s o)):=oj ..
theorem lE(a b c d:Int)(t:D)(k:Int)(r:Dig)(o:Opn):DY (some ⟨false,1,EP a b c d t k r,false⟩) 38 0 (.agg (EW o))=some ⟨false,1,EW o,false⟩:=U1 ..
theorem lh(lent:Bool)(o:Opn):Dy (some ⟨false,1,EW o,lent⟩) 38 true 0=some (D0 o):=SJ ..
noncomputable def iR:List D→Option D:=Dk (α:=List Ins×(Int×List Int)×Opn) (fun a=>[.slc (nz 3 (a.1.map Da)) (a.1.map Da) false,Ez a.2.1,D0 a.2.2]) (fun a=>a.1.length≤4294967296∧EA a.2.1) (fun a=>.tup [D0 (MT a.1 a.2.1 a.2.2),.int .i64 (MS a.1 a.2.2)])
theorem yYs(c:List Ins)(v:Int×List Int)(o:Opn)(h:c.length≤4294967296∧EA v):iR [.slc (nz 3 (c.map Da)) (c.map Da) false,Ez v,D0 o]=some (.tup [D0 (MT c v o),.int .i64 (MS c o)]):=
 D7 (fun⟨a0,a1,E⟩ ⟨b0,b1,I⟩ h=>by simp only[Aa,D.slc.injEq,and_true,Kw,Se,Kb]at h; simp[h]) (c,v,o) h
theorem Yqk(c:List Ins)(v:Int×List Int)(o:Opn)(h:c.length≤4294967296∧EA v):@wW GG (tb [(108,cF),(109,cE),(110,aP)] []) ZC.code (Dc [.slc (nz 3 (c.map Da)) (c.map Da) false,Ez v,D0 o]) [] ⟨Dn ZC.res (.tup [D0 (MT c v o),.int .i64 (MS c o)])⟩:=by
 obtain⟨hc,hv⟩:=h;have J:=sn c (I4 o) o.depth hc;unfold ZC;have l0:=vg false o.pc o.fuel o.status o.clause (EB o.top) o.depth o.rest;have l1:=vj false o.pc o.fuel o.status o.clause (EB o.top) o.depth o.rest;have M:=lg false o.pc o.fuel o.status o.clause (EB o.top) o.depth o.rest;have N:=vn false o.pc o.fuel o.status o.clause (EB o.top) o.depth o.rest;have O:=aC false o.pc o.fuel o.status o.clause (EB o.top) o.depth o.rest;have U:=UP false o.pc o.fuel o.status o.clause (EB o.top) o.depth o.rest;have l6:=vo false o.pc o.fuel o.status o.clause (EB o.top) o.depth o.rest;rw[← J8]at l0 l1 M N O U l6
 by_cases I:HW c (I4 o) o.depth=0
 ·obtain⟨ha,hs,af,ah⟩:=oX hv I;have ae:o.pc.toNat<c.length:=by have:=ha.p0; have:=ha.p1; simp only[I4]at *; omega
  have Y:=fun st=>Vb st c false o.pc.toNat ae;rw[show((o.pc.toNat:Nat):Int)=o.pc by have:=ha.p0; simp only[I4]at *; omega]at Y;have Y:∀ st:St,Gx st 3 (.slc (nz 3 (c.map Da)) (c.map Da) false) (.int .i64 o.pc)=some (.eptr (Da (J2 c (I4 o))) 0):=Y;have hn:=sm (J2 c (I4 o)).op;rw[I]at J
  by_cases h2:dn c o
  ·have e:MS c o=390:=by unfold MS; rw[if_pos I,if_pos h2]
   rw[show MT c v o=N4 from if_neg (by rw[e]; decide),e];obtain⟨V,q2,q3⟩:=h2;simp (disch:=first|omega|decide) only[push_cast,↓reduceIte,CI,CJ,E8,Hp,Qo,Gb,He,l0,l1,M,N,O,U,Va,U5,Iv,Hd,Il,J,V,q2,HM,Y,xu,oV,hn,q3,U8,U1,SJ,az];rfl
  ·have e:MS c o=0:=by unfold MS; rw[if_pos I,if_neg h2]
   rw[show MT c v o=Rn (FO v o.depth (I4 o) (J2 c (I4 o))) o from if_pos e,e];have E:=nR c v (I4 o) o.depth ha;rw[show c.getD (I4 o).pc.toNat default=J2 c (I4 o)from rfl]at E;generalize FO v o.depth (I4 o) (J2 c (I4 o))=s at*
   by_cases V:0<o.fuel
   ·by_cases q2:0<o.depth
    ·have q3:¬ (o.top.length:Int)<I7 (J2 c (I4 o)).op:=fun q=>h2 ⟨V,q2,q⟩;simp (disch:=first|omega|decide) only[push_cast,↓reduceIte,CI,CJ,E8,Hp,Qo,Gb,He,l0,l1,M,N,O,U,l6,Va,U5,Iv,Hd,Il,Kx,J,V,q2,HM,Y,xu,oV,hn,q3,FI hv,ED,Fu,E,aV,Kt,K1,Jd,NN,Ol,gK,lE,lh,Fl]
    ·simp (disch:=first|omega|decide) only[push_cast,↓reduceIte,CI,CJ,E8,Hp,Qo,Gb,He,l0,l1,M,N,O,U,l6,Va,U5,Iv,Hd,Il,Kx,J,V,q2,FI hv,ED,Fu,E,aV,Kt,K1,Jd,NN,Ol,gK,lE,lh,Fl]
   ·simp (disch:=first|omega|decide) only[push_cast,↓reduceIte,CI,CJ,E8,Hp,Qo,Gb,He,l0,l1,M,N,O,U,l6,Va,U5,Iv,Hd,Il,Kx,J,V,FI hv,ED,Fu,E,aV,Kt,K1,Jd,NN,Ol,gK,lE,lh,Fl]
 ·have e:MS c o=HW c (I4 o) o.depth:=if_neg I;rw[show MT c v o=N4 from if_neg (by rw[e]; exact I),e];simp (disch:=first|omega|decide) only[push_cast,↓reduceIte,CI,CJ,E8,Hp,Qo,Gb,He,l0,l1,M,N,O,U,Va,U5,Iv,Hd,Il,J,I,U8,U1,SJ,az];rfl
theorem Yv5:Contract Tryz.prog GG 55 iR:=
 Ed yBl (DI (all_cons wC (all_cons wB (all_cons yn all_nil))) all_nil) (fun a h=>Yqk a.1 a.2.1 a.2.2 h)
def DZ(s:Sta):Int×Int×Int:=if s.status=1∧0<s.stack.length then(Dd s 0,s.clause,0)else if 10<s.status then(0,0,s.status - 10)else(0,0,1)
noncomputable def jA:List D→Option D:=Dk (α:=Sta) (fun a=>[DP a]) (fun a=>a.stack.length≤4294967296∧a.status≤1000000) (fun a=>.tup [.int .i64 (DZ a).1,.int .i64 (DZ a).2.1,.int .i64 (DZ a).2.2])
theorem tI(s:Sta)(h:s.stack.length≤4294967296∧s.status≤1000000):jA [DP s]=some (.tup [.int .i64 (DZ s).1,.int .i64 (DZ s).2.1,.int .i64 (DZ s).2.2]):=
 D7 (fun a b h=>by simp only[Aa,and_true,Sa]at h; simp[h]) (s) h
theorem Yib(s:Sta)(h:s.stack.length≤4294967296∧s.status≤1000000):@wW GG (tb [] []) Zc.code (Dc [DP s]) [] ⟨Dn Zc.res (.tup [.int .i64 (DZ s).1,.int .i64 (DZ s).2.1,.int .i64 (DZ s).2.2])⟩:=by
 obtain⟨hl,M⟩:=h;unfold Zc
 by_cases I:s.status=1
 ·by_cases E:0<s.stack.length
  ·rw[show DZ s=(Dd s 0,s.clause,0)from if_pos ⟨I,E⟩]
   have J:Gx [⟨false,1,DS s,false⟩] 1 (EB s.stack) (.int .i64 ((s.stack.length:Int) - 1))=some (.eptr (nI (Dd s 0)) 0):=by
    have:=UT [⟨false,1,DS s,false⟩] s.stack false (s.stack.length - 1) (by omega);rw[show((s.stack.length - 1:Nat):Int)=(s.stack.length:Int) - 1 by omega]at this;exact this
   simp (disch:=first|omega|decide) only[push_cast,↓reduceIte,CI,Ik,Jd,NN,Ol,I,HM,show((0:Int)<(s.stack.length:Int)) by omega,E1,J,UU]
  ·rw[show DZ s=(0,0,1) by unfold DZ; rw[if_neg (by omega),if_neg (by omega)]];simp (disch:=first|omega|decide) only[push_cast,↓reduceIte,CI,CT,Ik,Jd,Ol,I,HM,show ¬ ((0:Int)<(s.stack.length:Int)) by omega]
 ·by_cases E:10<s.status
  ·rw[show DZ s=(0,0,s.status - 10) by unfold DZ; rw[if_neg (by omega),if_pos E]];simp (disch:=first|omega|decide) only[push_cast,↓reduceIte,CI,Ik,Jd,I,E,E1]
  ·rw[show DZ s=(0,0,1) by unfold DZ; rw[if_neg (by omega),if_neg E]];simp (disch:=first|omega|decide) only[push_cast,↓reduceIte,CI,Ik,Jd,I,E]
theorem Yn0:Contract Tryz.prog GG 61 jA:=
 Ed yHh (DI all_nil all_nil) (fun a h=>Yib a h)
def Et(c:List Ins):D:=.slc (nz 3 (c.map Da)) (c.map Da) false
theorem Vd{a b:List Ins}:Et a=Et b↔a=b:=by
 refine⟨fun h=>?_,fun h=>by rw[h]⟩;simp only[Et,D.slc.injEq,and_true]at h;exact(List.map_inj_right (fun x y h=>Sc.1 h)).1 h.2
def RunOK(c:List Ins)(v:Int×List Int):List Sta→Prop
 |[]=>False
 |[s]=>s.status≠0
 |s::s'::l=>s.status=0∧HW c s 0=0∧s'=Kl c v s∧RunOK c v (s'::l)
theorem RunOK.det:∀ {s:Sta} {l I:List Sta},RunOK c v (s::l)→RunOK c v (s::I)→l=I
 |s,[],[],_,_=>rfl
 |s,[],_::_,h,E=>absurd E.1 h
 |s,_::_,[],h,E=>absurd h.1 E
 |s,a::l,b::I,h,E=>by
  obtain⟨_,_,rfl,J⟩:=h;obtain⟨_,_,rfl,M⟩:=E;rw[RunOK.det J M]
def Hr(s:Sta):PI.Obj:=⟨false,1,DS s,false⟩
inductive RunY (y:List D→St→Option (D×St)) (k kc kv:Nat):List Sta→Nat→St→St→Prop
 |stop {s:Sta} {l:List Sta} {i:Nat} {st st1:St} (h:y [.int .i64 (i:Int),DP s] st=some (.bool false,st1)):RunY y k kc kv (s::l) i st st1
 |last {s:Sta} {i:Nat} {st st1:St} (h:y [.int .i64 (i:Int),DP s] st=some (.bool true,st1)) (hk:st1[k]?=some (Hr s)):RunY y k kc kv [s] i st st1
 |next {s s':Sta} {l:List Sta} {i:Nat} {st st1 st2:St} (h:y [.int .i64 (i:Int),DP s] st=some (.bool true,st1)) (hk:st1[k]?=some (Hr s)) (hc:st1[kc]?=st[kc]?) (hv:st1[kv]?=st[kv]?)
   (hl:RunY y k kc kv (s'::l) (i+1) (st1.set k (Hr s')) st2):RunY y k kc kv (s::s'::l) i st st2
variable {y:List D→St→Option (D×St)}
theorem RunY.det{J M:Nat}{l:List Sta}{a b:St}(h:RunY y k J M l i st a):RunY y k J M l i st b→a=b:=by
 induction h with
 |stop h=>
  intro I
  cases I with
  |stop E=>rw[h]at E; simp at E; exact E
  |last E=>rw[h]at E; simp at E
  |next E=>rw[h]at E; simp at E
 |last h hk=>
  intro I
  cases I with
  |stop E=>rw[h]at E; simp at E
  |last E=>rw[h]at E; simp at E; exact E
 |next h hk hc hv hl O=>
  intro I
  cases I with
  |stop E=>rw[h]at E; simp at E
  |next E U V Y N=>
   rw[h]at E;simp only[Db,Dv,true_and]at E;subst E;exact O N
def StatesR(y:List D→St→Option (D×St))(ds:List D)(st:St)(r:D×St):Prop:=
 ∃ (kc kv:Nat) (c:List Ins) (v:Int×List Int) (l:List Sta) (lc lv:Bool),ds=[.ptr kc 0,.ptr kv 0]∧st[kc]?=some ⟨false,1,[Et c],lc⟩∧st[kv]?=some ⟨false,1,D2 v,lv⟩∧c.length≤4096∧EA v∧l.length≤100000∧
  RunOK c v (GF (c.length+1)::l)∧r.1=.tup []∧RunY y st.length kc kv (GF (c.length+1)::l) 0 (st++[Hr (GF (c.length+1))]) r.2
variable {r:D×St}
theorem StatesR.det{s:D×St}(h:StatesR y ds st r)(O:StatesR y ds st s):r=s:=by
 obtain⟨kc,kv,c,v,l,lc,lv,rfl,U,V,_,_,_,Y,h4,h5⟩:=h;obtain⟨ad,ae,c',v',l',af,ah,J,E,I,_,_,_,h9,M,N⟩:=O;simp only[Aa,D.ptr.injEq,and_true]at J;obtain⟨rfl,rfl⟩:=J;rw[U]at E;simp only[Db,Obj.mk.injEq,Aa,and_true,true_and,Vd]at E;rw[V]at I;simp only[Db,Obj.mk.injEq,true_and]at I;obtain⟨rfl,rfl⟩:=E;obtain rfl:v=v':=Kb.1 (congrArg D.agg I.1);obtain rfl:=Y.det h9;exact Prod.ext (h4.trans M.symm) (h5.det N)
noncomputable def Rh(y:List D→St→Option (D×St))(ds:List D)(st:St):Option (D×St):=@dite _ (∃ r,StatesR y ds st r) (Classical.propDecidable _) (fun h=>some h.choose) (fun _=>none)
theorem Yyf(h:Rh y ds st=some r):StatesR y ds st r:=by
 unfold Rh at h
 split at h
 ·rename_i E;simp only[Db]at h;rw[← h];exact E.choose_spec
 ·cases h
theorem gp(h:StatesR y ds st r):Rh y ds st=some r:=by
 have E:∃ r,StatesR y ds st r:=⟨r,h⟩;unfold Rh;rw[dif_pos E,E.choose_spec.det h]
theorem yKd{f:Nat}{F:PF}(E:TblOK P G T)(I:DA P il f hints=some F){sp:(List D→St→Option (D×St))→List D→St→Option (D×St)}
  (h:∀ (l:Nat) y ds st r,sp y ds st=some r→@wW G (Qd T l y) F.code (Dc (.clo (10000000+l) []::ds)) st ⟨@GJ F.res ⟨fun d st'=>(d,st')=r⟩⟩):Uj P G f sp:=by
 refine Ymr E I fun l y ds st r J=>?_;obtain⟨fuel,d,st',M,N⟩:=Yg (Ho (h l y ds st r J));exact⟨fuel,by rw[M fuel (AD _)]; exact congrArg some N⟩
variable {o:PI.Obj}
theorem sP{k':Nat}(h:k'≠k):(st.set k o)[k']?=st[k']?:=AM (by omega)
theorem Yu6{o':PI.Obj}(h:st[k]?=some o):(st.set k o')[k]?=some o':=Bs (Ac.1 h).1
set_option maxHeartbeats 8000000 in
set_option maxRecDepth 20000 in
theorem vR:Uj Tryz.prog GG 114 Rh:=by
 refine yKd (T:=tb [(48,cH),(115,gy)] []) (DI (all_cons wH (all_cons YCc all_nil)) all_nil) zb ?_;intro lb y ds st r hr;obtain⟨E,J,c,v,l,lc,lv,rfl,h1,h2,hc,hv,bf,h3,ab,h5⟩:=Yyf hr;obtain⟨rd,ac⟩:=r;dsimp only at ab h5;subst ab;have a1:E<st.length:=(Ac.1 h1).1;have a2:J<st.length:=(Ac.1 h2).1;have cs:=ss ((c.length:Int)+1);have e0:Pv ((c.length:Int)+1)=0:=if_neg (by omega);rw[e0]at cs;have a3:st[E]?=some ⟨false,1,[.slc (nz 3 (c.map Da)) (c.map Da) false],lc⟩:=h1;unfold mR;simp (disch:=first|omega|decide) only[push_cast,↓reduceIte,CI,a3,DN,cs,He,Fa,RV,Iv]
 refine Yov (fun i:Nat×List Sta×St=>[(0,.clo (10000000+lb) []),(1,.ptr E 0),(2,.ptr J 0),(4,.ptr st.length 0),(5,.int .i64 0),(6,.int .i64 (i.1:Int))]) (fun i=>i.2.2)
  (fun i=>RunOK c v i.2.1∧RunY y st.length E J i.2.1 i.1 i.2.2 ac∧i.2.2[E]?=some ⟨false,1,[Et c],lc⟩∧i.2.2[J]?=some ⟨false,1,D2 v,lv⟩∧i.2.2[st.length]?=(i.2.1.head?).map Hr∧i.1+i.2.1.length≤100001) (fun i=>i.2.1.length)
  (0,GF (c.length+1)::l,st++[Hr (GF (c.length+1))]) (by simp only[push_cast,↓reduceIte,CI] <;> rfl) ⟨h3,h5,by rw[HX a1]; exact h1,by rw[HX a2]; exact h2,Fa _ _,by simp; omega⟩ ?_
 rintro⟨i,ls,s0⟩ ⟨I,V,q3,q4,Y,q6⟩;dsimp only at I V q3 q4 Y q6;unfold nj
 match ls,I,V,Y,q6 with
 |[],I,_,_,_=>exact I.elim
 |s::l,I,V,Y,q6=>
 have M:s0[st.length]?=some ⟨false,1,DS s,false⟩:=Y;have bg:s0[E]?=some ⟨false,1,[.slc (nz 3 (c.map Da)) (c.map Da) false],lc⟩:=q3
 cases V with
 |stop h=>
  simp (disch:=first|omega|decide) only[push_cast,↓reduceIte,CI,M,Hd,h]
 |last h hk=>
  rename_i s1;have hk:ac[st.length]?=some ⟨false,1,DS s,false⟩:=hk;have N:¬ s.status=0:=I;simp (disch:=first|omega|decide) only[push_cast,↓reduceIte,CI,M,Hd,h,hk,Jd,N]
 |next h hk a5 a6 hl=>
  rename_i s' l' s1;have a7:s1[st.length]?=some ⟨false,1,DS s,false⟩:=hk;obtain⟨N,a8,rfl,a9⟩:=I;have ad:=Ygf c v s ⟨by omega,hv⟩;rw[a8]at ad;have O:s1[E]?=some ⟨false,1,[.slc (nz 3 (c.map Da)) (c.map Da) false],lc⟩:=a5.trans q3;have U:s1[J]?=some ⟨false,1,D2 v,lv⟩:=a6.trans q4;simp (disch:=first|omega|decide) only[push_cast,↓reduceIte,CI,M,Hd,h,a7,Jd,N,O,U,FI hv,ED,Fu,Il,Kx,ad,aV,DN]
  refine E2 (i+1,Kl c v s::l',s1.set st.length (Hr (Kl c v s))) (by
   refine⟨a9,hl,?_,?_,?_,?_⟩
   ·dsimp only; rw[sP (by omega)]; exact O
   ·dsimp only; rw[sP (by omega)]; exact U
   ·dsimp only; rw[Yu6 hk]; rfl
   ·simp only[Ah]at q6 ⊢; omega) (by simp) ?_
  simp only[push_cast] <;> rfl
noncomputable def S8:List D→St→Option (D×St):=GI (α:=(List Ins×(Int×List Int))×St) (fun a=>([Et a.1.1,Ez a.1.2],a.2)) (fun a=>EA a.1.2) (fun a=>(.clo 114 [.ptr a.2.length 0,.ptr (a.2.length+1) 0],a.2++[⟨false,1,[Et a.1.1],false⟩]++[⟨false,1,D2 a.1.2,false⟩]))
theorem nU(c:List Ins)(v:Int×List Int)(st:St)(hv:EA v):S8 [Et c,Ez v] st=some (.clo 114 [.ptr st.length 0,.ptr (st.length+1) 0],st++[⟨false,1,[Et c],false⟩]++[⟨false,1,D2 v,false⟩]):=
 MG (fun a b e=>by
  obtain⟨⟨a1,E⟩,I⟩:=a;obtain⟨⟨b1,J⟩,M⟩:=b;simp only[Dv,Aa,and_true,Vd,Kb]at e;obtain⟨⟨rfl,rfl⟩,rfl⟩:=e;rfl) (((c,v),st):(List Ins×(Int×List Int))×St) hv rfl
theorem vP:IContract Tryz.prog GG 60 S8:=by
 refine mD (T:=tb [] []) yM (DI all_nil all_nil) ?_;rintro⟨⟨c,v⟩,st⟩ hv;unfold mo;simp (disch:=first|omega|decide) only[push_cast,↓reduceIte,CI,Et,E8];rw[LZ]
def P2(c:List Ins)(out:Int)(i:Nat)(D:Nat→Int):Prop:=
 ∀ j,i≤j→j<c.length→0≤D j→¬ Kp (c.getD j default) (D j)∧D j≤out∧F8 (c.getD j default) (D j)≤out∧
  ∀ n∈K6 (c.getD j default) j,(j:Int)<n∧n<c.length∧D n.toNat=F8 (c.getD j default) (D j)
variable {dep:List Int}
theorem YCq{x:Int}(h:j≠k):Eb (dep.set k x) j=Eb dep j:=by
 grind
theorem Ywu{x:Int}(h:k<dep.length):Eb (dep.set k x) k=x:=by
 grind
theorem oL{len i after:Int}(I:0≤after)(hi:0≤i):∀ {l:List Int} {dep E:List Int},(dep.length:Int)=len→Nd len i after l dep=some E→
  E.length=dep.length∧(∀ j:Nat,0≤Eb dep j∨(j:Int)≤i→Eb E j=Eb dep j)∧∀ n∈l,i<n∧n<len∧Eb E n.toNat=after
 |[],dep,E,hl,h=>by
  simp only[Nd,Db]at h;grind
 |n::l,dep,E,hl,h=>by
  simp only[Nd]at h
  split at h
  ·cases h
  rename_i hb;unfold RU at hb;have J:i<n∧n<len:=⟨by omega,by omega⟩;have M:n.toNat<dep.length:=by omega
  obtain⟨N,O,U⟩:=oL I hi (dep:=dep.set n.toNat after) (by rw[BT]; exact hl) h;grind
theorem yYe(op:Int):0≤(El op).2:=by
 unfold El
 repeat' split
 all_goals simp
theorem gv(c:List Ins):∀ (r:List Ins) (i:Nat) (dep:List Int) (s out:Int),r=c.drop i→i≤c.length→dep.length=c.length→0≤s→Gc c.length r i dep s=some out→
  s≤out∧∃ D:Nat→Int,(∀ j:Nat,0≤Eb dep j∨j<i→D j=Eb dep j)∧P2 c out i D
 |[],i,dep,s,out,E,hi,hl,hs,h=>by
  simp only[Gc,Db]at h;subst h;have:c.length≤i:=List.drop_eq_nil_iff.1 E.symm;exact⟨CB _,Eb dep,fun _ _=>rfl,fun j N M=>absurd M (by omega)⟩
 |x::r,i,dep,s,out,E,hi,hl,hs,h=>by
  have I:i<c.length:=by
   grind
  rw[A9 I]at E;obtain⟨hx,E⟩:=List.cons.inj E;have hg:c.getD i default=x:=by rw[hx,Al,Am I]; rfl
  simp only[Gc]at h
  split at h
  ·rename_i O;obtain⟨N,D,M,U⟩:=gv c r (i+1) dep s out E I hl hs h;refine⟨N,D,fun j hj=>M j (by omega),fun j hj J V=>?_⟩
   by_cases e:j=i
   ·grind
   ·exact U j (by omega) J V
  ·rename_i O
   split at h
   ·cases h
   rename_i Y
   split at h
   ·cases h
   rename_i aa hn;have ad:(El x.op).1≤Eb dep i:=by unfold Kp at Y; omega
   have ha:0≤F8 x (Eb dep i):=by have:=yYe x.op; unfold F8; omega
   obtain⟨n1,n2,n3⟩:=oL ha (by omega) (by rw[hl]) hn;obtain⟨N,D,M,U⟩:=gv c r (i+1) aa _ out E I (by rw[n1,hl]) (by omega) h;refine⟨by omega,D,fun j hj=>?_,fun j hj J V=>?_⟩
   ·grind
   ·by_cases e:j=i
    ·grind
    ·exact U j (by omega) J V
theorem yVj(h:(FE c).2=0):∃ D:Nat→Int,D 0=0∧P2 c 64 0 D:=by
 obtain⟨N,O,U,s,I,V⟩:=ON h;obtain⟨_,D,J,M⟩:=gv c c 0 (GQ c.length) 0 s rfl (by omega) (by simp[GQ]) (by decide) I;have E:Eb (GQ c.length) 0=0:=Ywu (by simp; omega);refine⟨D,by rw[J 0 (.inl (by rw[E]; decide)),E],fun j a b d=>?_⟩;obtain⟨Y,q2,q3,q4⟩:=M j a b d;grind
structure Good (c:List Ins) (D:Nat→Int) (s:Sta):Prop where
 st:s.status=0
 cl:s.clause=0
 p0:0≤s.pc
 p1:s.pc<c.length
 d:D s.pc.toNat=s.stack.length
 u0:0≤s.fuel
 u1:s.fuel≤32768
structure Last (s:Sta):Prop where
 st:s.status≠0
 s0:0≤s.status
 s1:s.status≤100000
 l:s.stack.length≤64
theorem Good.len{D:Nat→Int}(E:P2 c 64 0 D)(h:Good c D s):s.stack.length≤64:=by
 have I:=h.d;have J:=h.p0;have M:=h.p1;have:=(E s.pc.toNat (by omega) (by omega) (by omega)).2.1;omega
theorem Good.ready{D:Nat→Int}(hv:(FE c).2=0)(E:P2 c 64 0 D)(h:Good c D s):HW c s 0=0:=by
 unfold HW;have hl:=h.len E;have I:=h.st;have J:=h.p0;have M:=h.p1;have N:=h.u0;have O:=h.u1;have U:=h.cl;rw[if_neg (by omega),if_neg (by omega),if_neg (by unfold JY; omega)]
theorem p6(h:c.all Gl=true)(hj:j<c.length):Gl (c.getD j default)=true:=by
 grind
theorem yX2(h:Gl x=true):1≤x.op∧x.op≤16:=⟨(of_decide_eq_true h).1,(of_decide_eq_true h).2.1⟩
theorem Yk1{op:Int}(h:1≤op∧op≤16):I7 op=(El op).1:=by
 have:op=1∨op=2∨op=3∨op=4∨op=5∨op=6∨op=7∨op=8∨op=9∨op=10∨op=11∨op=12∨op=13∨op=14∨op=15∨op=16:=by omega
 rcases this with rfl | rfl | rfl | rfl | rfl | rfl | rfl | rfl | rfl | rfl | rfl | rfl | rfl | rfl | rfl | rfl <;> rfl
theorem Good.step{D:Nat→Int}(hf:c.all Gl=true)(V:P2 c 64 0 D)(h:Good c D s) :
  Last (FO v 0 s (J2 c s))∨(Good c D (FO v 0 s (J2 c s))∧s.pc<(FO v 0 s (J2 c s)).pc∧(FO v 0 s (J2 c s)).fuel=s.fuel - 1):=by
 have hl:=h.len V;obtain⟨Y,h2,h3,h4,h5,h6,h7⟩:=h;have hj:s.pc.toNat<c.length:=by omega
 have ab:Gl (J2 c s)=true:=p6 hf hj;have ac:=yX2 ab;obtain⟨O,q2,q3,q4⟩:=V s.pc.toNat (by omega) hj (by omega);rw[show c.getD s.pc.toNat default=J2 c s from rfl]at O q3 q4;generalize J2 c s=x at*;rw[h5]at O q3 q4;have a3:=Yk1 ac;unfold FO
 by_cases hu:s.fuel=0
 ·rw[if_pos hu];exact .inl ⟨by simp,by simp,by simp,hl⟩
 rw[if_neg hu]
 have af:¬ ((Ds s).stack.length:Int)<I7 x.op:=by
  unfold Kp at O
  show ¬ ((s.stack.length:Int)<I7 x.op)
  omega
 have hex:G1 v 0 (Ds s) x=DT v 0 (Ds s) x:=if_neg af
 have nx:∀ (n:Int),n∈K6 x s.pc.toNat→s.pc<n∧n<c.length∧D n.toNat=F8 x s.stack.length:=fun n hn=>by
  grind
 have I:x.op≠14→x.op≠15→x.op≠16→s.pc<s.pc+1∧s.pc+1<c.length∧D (s.pc+1).toNat=F8 x s.stack.length:=fun a b d=>by
  refine nx (s.pc+1) ?_;unfold K6;grind
 have a0:x.op=13∨x.op=14→s.pc<x.n∧x.n<c.length∧D x.n.toNat=F8 x s.stack.length:=fun a=>by
  refine nx x.n ?_;unfold K6;grind
 -- a6 each outcome comes to
 have a7:∀ e,G1 v 0 (Ds s) x=.err e→Last (FL (Ds s) (G1 v 0 (Ds s) x)):=fun e he=>by
  have:=wV he;rw[he];exact⟨by simp only[FL]; omega,by simp only[FL]; omega,by simp only[FL]; omega,hl⟩
 have E:∀ k push pc,G1 v 0 (Ds s) x=.pop k push pc→k≤s.stack.length→((s.stack.length - k+push.toList.length:Nat):Int)=F8 x s.stack.length→(s.pc<pc.getD (s.pc+1)∧pc.getD (s.pc+1)<c.length∧D (pc.getD (s.pc+1)).toNat=F8 x s.stack.length)→
   Good c D (FL (Ds s) (G1 v 0 (Ds s) x))∧s.pc<(FL (Ds s) (G1 v 0 (Ds s) x)).pc∧(FL (Ds s) (G1 v 0 (Ds s) x)).fuel=s.fuel - 1:=fun k push pc he hk bd U=>by
  rw[he];refine⟨⟨Y,h2,?_,U.2.1,?_,?_,?_⟩,U.1,rfl⟩
  ·show 0≤pc.getD (s.pc+1); omega
  ·show D (pc.getD (s.pc+1)).toNat=((s.stack.take (s.stack.length - k)++push.toList).length:Int)
   grind
  ·show 0≤s.fuel - 1; omega
  ·show s.fuel - 1≤32768; omega
 have hd:(El x.op).1≤s.stack.length:=by unfold Kp at O; omega
 by_cases o1:x.op=1
 ·have he:G1 v 0 (Ds s) x=.pop 0 (some x.n) none:=by
   rw[hex]; unfold DT;rw[if_pos o1,if_neg];have:F8 x s.stack.length=s.stack.length+1:=by unfold F8; rw[o1]; simp[El]
   show ¬ (64:Int)≤0+s.stack.length
   omega
  refine .inr (E _ _ _ he (by omega) ?_ (I (by omega) (by omega) (by omega)));unfold F8; rw[o1]; simp[El]
 by_cases o2:x.op=2
 ·have a9:¬ (64:Int)≤0+(Ds s).stack.length:=by
   have:F8 x s.stack.length=s.stack.length+1:=by unfold F8; rw[o2]; simp[El]
   show ¬ (64:Int)≤0+s.stack.length
   omega
  by_cases b1:Ph v.1 (Mm x.n)=0
  ·have he:G1 v 0 (Ds s) x=.err 181:=by
    rw[hex]; unfold DT;grind
   grind
  by_cases b2:Eb v.2 x.n.toNat < -9007199254740992∨9007199254740992<Eb v.2 x.n.toNat
  ·have he:G1 v 0 (Ds s) x=.err 3:=by
    rw[hex]; unfold DT;grind
   grind
  have he:G1 v 0 (Ds s) x=.pop 0 (some (Eb v.2 x.n.toNat)) none:=by
   rw[hex]; unfold DT;grind
  refine .inr (E _ _ _ he (by omega) ?_ (I (by omega) (by omega) (by omega)));unfold F8; rw[o2]; simp[El]
 by_cases J:x.op=12
 ·have he:G1 v 0 (Ds s) x=.pop 1 (some (if x.n≤Dd (Ds s) 0∧Dd (Ds s) 0≤x.m then 1 else 0)) none:=by
   rw[hex]; unfold DT;grind
  have:(El x.op).1=1:=by rw[J]; rfl
  refine .inr (E _ _ _ he (by omega) ?_ (I (by omega) (by omega) (by omega)));unfold F8; rw[J]; simp[El]; omega
 by_cases M:x.op=13
 ·have he:G1 v 0 (Ds s) x=.pop 1 none (if Dd (Ds s) 0=0 then some x.n else none):=by
   rw[hex]; unfold DT;grind
  have:(El x.op).1=1:=by rw[M]; rfl
  refine .inr (E _ _ _ he (by omega) ?_ ?_)
  ·unfold F8; rw[M]; simp[El]; omega
  ·grind
 by_cases N:x.op=14
 ·have he:G1 v 0 (Ds s) x=.set x.n s.status s.clause:=by
   rw[hex]; unfold DT;rw[if_neg o1,if_neg o2,if_neg J,if_neg M,if_pos N]; rfl
  obtain⟨m1,m2,m3⟩:=a0 (.inr N)
  right
  rw[he];refine⟨⟨Y,h2,?_,m2,?_,?_,?_⟩,m1,rfl⟩
  ·show 0≤x.n; omega
  ·show D x.n.toNat=(s.stack.length:Int)
   rw[m3]; unfold F8; rw[N]; simp[El]
  ·show 0≤s.fuel - 1; omega
  ·show s.fuel - 1≤32768; omega
 by_cases a1:x.op=15
 ·have he:G1 v 0 (Ds s) x=.set s.pc 1 x.n:=by
   rw[hex]; unfold DT;rw[if_neg o1,if_neg o2,if_neg J,if_neg M,if_neg N,if_pos a1]; rfl
  left
  rw[he];exact⟨by simp[FL],by simp[FL],by simp[FL],hl⟩
 by_cases be:x.op=16
 ·have he:G1 v 0 (Ds s) x=.err 180:=by
   rw[hex]; unfold DT;grind
  grind
 by_cases b1:(D6 x.op (Dd (Ds s) 1) (Dd (Ds s) 0)).2=0
 ·have he:G1 v 0 (Ds s) x=.pop 2 (some (D6 x.op (Dd (Ds s) 1) (Dd (Ds s) 0)).1) none:=by
   rw[hex]; unfold DT;grind
  have e2:El x.op=(2,1):=by
   unfold El;grind
  rw[e2]at hd;refine .inr (E _ _ _ he (by omega) ?_ (I (by omega) (by omega) (by omega)));unfold F8; rw[e2]; simp; omega
 ·have he:G1 v 0 (Ds s) x=.err (D6 x.op (Dd (Ds s) 1) (Dd (Ds s) 0)).2:=by
   rw[hex]; unfold DT;grind
  grind
def Jj(c:List Ins)(v:Int×List Int):Nat→Sta→List Sta
 |0,s=>[s]
 |f+1,s=>s::if s.status=0 then Jj c v f (Kl c v s)else []
def Ko(c:List Ins)(v:Int×List Int):List Sta:=Jj c v c.length (GF (c.length+1))
theorem ym{c:List Ins}{D:Nat→Int}{v:Int×List Int}(hv:(FE c).2=0)(I:P2 c 64 0 D):∀ (f:Nat) (s:Sta),Good c D s→(c.length:Int)≤f+s.pc→
  ∃ l,Jj c v f s=s::l∧RunOK c v (s::l)∧l.length≤f∧(∀ x∈s::l,Good c D x∨Last x)
 |0,s,h,hf=>absurd h.p1 (by have:=h.p1; omega)
 |f+1,s,h,hf=>by
  have J:=h.ready hv I;have E:Kl c v s=FO v 0 s (J2 c s):=if_pos J;have M:=(ON hv).2.2.1;refine⟨Jj c v f (Kl c v s),by simp only[Jj]; rw[if_pos h.st],?_⟩;rcases h.step (v:=v) M I with hl | ⟨N,O,_⟩
  ·rw[← E]at hl
   have e:Jj c v f (Kl c v s)=[Kl c v s]:=by
    cases f with
    |zero=>rfl
    |succ f=>simp only[Jj]; rw[if_neg hl.st]
   rw[e];refine⟨⟨h.st,J,rfl,hl.st⟩,by simp,fun x U=>?_⟩;grind
  ·rw[← E]at N O;obtain⟨l,V,Y,h3,h4⟩:=ym (v:=v) hv I f (Kl c v s) N (by omega);rw[V];refine⟨⟨h.st,J,rfl,Y⟩,by simp; omega,fun x U=>?_⟩;grind
theorem cM(hv:(FE c).2=0):∃ D l,P2 c 64 0 D∧Ko c v=GF (c.length+1)::l∧RunOK c v (GF (c.length+1)::l)∧l.length≤c.length∧(∀ x∈GF (c.length+1)::l,Good c D x∨Last x):=by
 obtain⟨D,E,I⟩:=yVj hv;obtain⟨hc,Y,_⟩:=ON hv;have J:GF ((c.length:Int)+1)={FU with fuel:=(c.length:Int)+1}:=if_neg (by omega)
 have M:Good c D (GF ((c.length:Int)+1)):=by
  rw[J];exact⟨rfl,rfl,CB _,by simp only[FU]; omega,E,by simp only[]; omega,by simp only[]; omega⟩
 obtain⟨l,N,O,U,V⟩:=ym (v:=v) hv I c.length _ M (by rw[J]; simp[FU]);exact⟨D,l,I,N,O,U,V⟩
structure Der where
 code:List Ins
 env:Int×List Int
 am:Int
 er:Int
 lv:List Dig
 deriving Inhabited
def Dr(cs:D)(v:Int×List Int)(a e:Int)(L:D):List D:=cs::(D2 v++[.int .i64 a,.int .i64 e,L])
def JB(l:List Dig):D:=.slc (nz 32 (l.map C9)) (l.map C9) false
def FA(d:Der):D:=.agg (Dr (Et d.code) d.env d.am d.er (JB d.lv))
theorem Ys6{a b:List Dig}:JB a=JB b↔a=b:=by
 refine⟨fun h=>?_,fun h=>by rw[h]⟩;simp only[JB,D.slc.injEq,and_true]at h;exact Li.1 h.2
theorem Ym6{cs cs':D}{I e J:Int}{L M:D}(h:Dr cs v a e L=Dr cs' v' I J M):cs=cs'∧v=v'∧a=I∧e=J∧L=M:=by
 simp only[Dr,Aa]at h;obtain⟨N,E⟩:=List.append_inj' h.2 rfl;simp only[Aa,D.int.injEq,true_and,and_true]at E;exact⟨h.1,Kb.1 (congrArg D.agg N),E.1,E.2.1,E.2.2⟩
theorem Ym5{a b:Der}:FA a=FA b↔a=b:=by
 refine⟨fun h=>?_,fun h=>by rw[h]⟩;obtain⟨a1,O,U,V,Y⟩:=a;obtain⟨b1,b2,b3,b4,b5⟩:=b;simp only[FA,D.agg.injEq]at h;obtain⟨E,I,J,M,N⟩:=Ym6 h;subst I; subst J; subst M;rw[Vd.1 E,Ys6.1 N]
def DV:D:=.slc 0 [] true
def JC:Int×List Int:=(0,CQ 16 0)
theorem eF(hv:EA v)(cs:D)(a e:Int)(L:D):(Dr cs v a e L).length=21:=by simp[Dr,HQ hv]
theorem qH(v:Int×List Int){cs L:D}(hc:cs.isCell=true)(E:L.isCell=true)(a e:Int):(Dr cs v a e L).all D.isCell=true:=by
 have:(D2 v).all D.isCell=true:=by rw[TN,T9]
 simp only[Dr,AZ,Bm,hc,E,this,Ct,dS,BU]
theorem Js:DH (.agg [.slc 0 [] true,.int .i64 0,.int .i64 0,.int .i64 0,.int .i64 0,.int .i64 0,.int .i64 0,.int .i64 0,.int .i64 0,.int .i64 0,.int .i64 0,.int .i64 0,.int .i64 0,.int .i64 0,.int .i64 0,.int .i64 0,.int .i64 0,.int .i64 0,.int .i64 0,.int .i64 0,.slc 0 [] true])=some (Dr DV JC 0 0 DV):=(rfl)
theorem Yvi:DO [.slc 0 [] true,.int .i64 0,.int .i64 0,.int .i64 0,.int .i64 0,.int .i64 0,.int .i64 0,.int .i64 0,.int .i64 0,.int .i64 0,.int .i64 0,.int .i64 0,.int .i64 0,.int .i64 0,.int .i64 0,.int .i64 0,.int .i64 0,.int .i64 0,.int .i64 0,.int .i64 0,.slc 0 [] true] []=some (Dr DV JC 0 0 DV):=(rfl)
theorem Yvg(hv:EA v)(sz:Nat)(els:List D)(t:Bool):DO [.slc 0 [] true,.int .i64 0,.int .i64 0,.int .i64 0,.int .i64 0,.int .i64 0,.int .i64 0,.int .i64 0,.int .i64 0,.int .i64 0,.int .i64 0,.int .i64 0,.int .i64 0,.int .i64 0,.int .i64 0,.int .i64 0,.int .i64 0,.int .i64 0,.int .i64 0,.int .i64 0,.slc 0 [] true] [(0,1,.slc sz els t),(1,17,Ez v)]=some (Dr (.slc sz els t) v 0 0 DV):=by
 refine(I1 (cs:=Dr DV JC 0 0 DV) (cs':=Dr (.slc sz els t) JC 0 0 DV) (A:=[]) (B:=[DV]) (xs:=[.slc sz els t]) rfl rfl rfl rfl rfl rfl rfl).trans ?_;refine(I1 (cs:=Dr (.slc sz els t) JC 0 0 DV) (cs':=Dr (.slc sz els t) v 0 0 DV) (A:=[.slc sz els t]) (B:=D2 JC) (xs:=D2 v) rfl rfl rfl rfl rfl (HQ hv) ?_).trans ?_
 ·rw[TN,T9]
 ·rfl
theorem lD(hv:EA v)(M:EA v')(cs cs':D)(hc:cs'.isCell=true)(a e E I:Int)(L J:D)(N:J.isCell=true):DY (some ⟨false,1,Dr cs v a e L,false⟩) 21 0 (.agg (Dr cs' v' E I J))=some ⟨false,1,Dr cs' v' E I J,false⟩:=
 L1 1 _ _ 21 (eF hv ..) (eF M ..) (qH v' hc N E I)
theorem fB:EA JC:=(rfl)
section
variable {v:Int×List Int} (hv:EA v) (lent:Bool) (cs L:D) (a e:Int)
include hv
theorem vf:Dy (some ⟨false,1,Dr cs v a e L,lent⟩) 21 true 0=some (.agg (Dr cs v a e L)):=LF 1 lent _ 21 (eF hv ..)
theorem Ytk:Dy (some ⟨false,1,Dr cs v a e L,lent⟩) 17 true 1=some (Ez v):=MC (A:=[cs]) (B:=D2 v) (C:=[.int .i64 a,.int .i64 e,L]) rfl rfl (HQ hv)
theorem Yln:Dy (some ⟨false,1,Dr cs v a e L,lent⟩) 1 false 18=some (.int .i64 a):=I2 (A:=cs::D2 v) (C:=[.int .i64 e,L]) (by simp[Dr]) (by simp[HQ hv])
theorem gS:Dy (some ⟨false,1,Dr cs v a e L,lent⟩) 1 false 20=some L:=I2 (A:=cs::(D2 v++[.int .i64 a,.int .i64 e])) (C:=[]) (by simp[Dr]) (by simp[HQ hv])
theorem pV(E:Int):DY (some ⟨false,1,Dr cs v a e L,false⟩) 1 18 (.int .i64 E)=some ⟨false,1,Dr cs v E e L,false⟩:=
 Ku (A:=cs::D2 v) (B:=[.int .i64 a]) (C:=[.int .i64 e,L]) (xs:=[.int .i64 E]) (by simp[Dr]) (by simp[Dr]) (by simp[HQ hv]) rfl rfl rfl rfl
theorem pW(E:Int):DY (some ⟨false,1,Dr cs v a e L,false⟩) 1 19 (.int .i64 E)=some ⟨false,1,Dr cs v a E L,false⟩:=
 Ku (A:=cs::(D2 v++[.int .i64 a])) (B:=[.int .i64 e]) (C:=[L]) (xs:=[.int .i64 E]) (by simp[Dr]) (by simp[Dr]) (by simp[HQ hv]) rfl rfl rfl rfl
theorem Yi4(E:D)(I:E.cells=[E])(J:E.isCell=true):DY (some ⟨false,1,Dr cs v a e L,false⟩) 1 20 E=some ⟨false,1,Dr cs v a e E,false⟩:=
 Ku (A:=cs::(D2 v++[.int .i64 a,.int .i64 e])) (B:=[L]) (C:=[]) (xs:=[E]) (by simp[Dr]) (by simp[Dr]) (by simp[HQ hv]) rfl I rfl (by simp[J])
end
theorem z0:DY (some ⟨false,1,Dr DV JC 0 0 DV,false⟩) 21 0 (.agg (Dr DV JC 0 0 DV))=some ⟨false,1,Dr DV JC 0 0 DV,false⟩:=(rfl)
theorem Wu:Dy (some ⟨false,1,Dr DV JC 0 0 DV,false⟩) 21 true 0=some (.agg (Dr DV JC 0 0 DV)):=(rfl)
theorem r8(hv:EA v)(cs L:D)(a e:Int)(k t o n:Nat):DY (some ⟨false,1,Dr cs v a e L,false⟩) 1 20 (.row k t o n)=some ⟨false,1,Dr cs v a e (.row k t o n),false⟩:=Yi4 hv cs L a e _ rfl rfl
theorem Ytl(v:Int×List Int)(lent:Bool)(cs L:D)(a e:Int):Dy (some ⟨false,1,Dr cs v a e L,lent⟩) 1 false 0=some cs:=I2 (A:=[]) rfl rfl
def Ro(o:Option PI.Obj):Option Int:=o.bind fun o=>if !o.row && o.sz == 1000003 then(match o.els with
  |[.int .i64 n]=>some n
  |_=>none)else none
theorem bZ(st:St)(k:Nat):recAt st k=Ro st[k]?:=by
 unfold recAt Ro;grind
theorem aM(n:Int):Ro (some (recO n))=some n:=(rfl)
structure okS (s:Sta):Prop where
 l:s.stack.length≤4294967296
 t:s.status≤1000000
def MP(c:List Ins)(v:Int×List Int)(a e:Int)(L:D)(s:Sta)(n:Int)(ex:St):St:=
 ⟨false,1,[Et c],false⟩::⟨false,1,D2 v,false⟩::⟨false,1,Dr DV JC 0 0 DV,false⟩::⟨false,1,Dr (Et c) v a e L,false⟩::⟨false,1,[Et c],false⟩::⟨false,1,D2 v,false⟩::recO n::⟨false,1,DS s,false⟩::ex
noncomputable def LJ:Tbl:=Tn [(49,bG),(61,jA),(47,R0)] [(60,S8)] [(114,Rh)]
theorem Yjo(c:List Ins)(v:Int×List Int)(hc:c.length≤4096)(hv:EA v)(s:Sta)(E:okS s)(fr:Frame)(I:fr 2=.ptr 0 0)(J:fr 3=.ptr 1 0)(M:fr 8=.ptr 3 0)(m:Nat) :
  Ld (Q1.exec GG LJ m) (Q2.exec GG LJ m) fr [26,27] 6 [.int .i64 0,DP s] (MP c v 0 0 DV s 0 [])=some (.bool true,MP c v (DZ s).1 (DZ s).2.2 (.row 9 1 0 1) s 0 (⟨false,1,DS s,false⟩::⟨true,32,[C8 (Es c v s)].map .agg,false⟩::[])):=by
 refine ck rfl rfl rfl ?_ m;have N:=iV c v s ⟨by omega,hv,E.l⟩;have O:=tI s ⟨E.l,E.t⟩;unfold Q1 MP;simp (disch:=first|omega|decide) only[push_cast,↓reduceIte,CI,CJ,JO,He,Iv];unfold Q2;have U:=fun st=>yP6 C9 st 32 0 32 (Es c v s) true (by decide) (by decide);simp (disch:=first|omega|decide) only[push_cast,↓reduceIte,CI,CJ,I,J,M,Et,gS hv,FI hv,Hd,ED,Il,Kx,N,O,DV,U,pV hv,pW hv,r8 hv,bZ,aM,UX,LJ]
theorem yg(c:List Ins)(v:Int×List Int)(hc:c.length≤4096)(hv:EA v)(s:Sta)(E:okS s)(L:List Dig)(Y:L.length≤100000)(a e:Int)(x:PI.Obj)(I:St)(i:Nat)(fr:Frame)(J:fr 2=.ptr 0 0)(M:fr 3=.ptr 1 0)(N:fr 8=.ptr 3 0)(m:Nat) :
  Ld (Q1.exec GG LJ m) (Q2.exec GG LJ m) fr [26,27] 6 [.int .i64 (i:Int),DP s] (MP c v a e (.row 9 L.length 0 L.length) s 0 (x::⟨true,32,L.map C9,false⟩::I))=
   some (.bool true,MP c v (DZ s).1 (DZ s).2.2 (.row 9 (L++[Es c v s]).length 0 (L++[Es c v s]).length) s 0 (x::⟨true,32,(L++[Es c v s]).map C9,false⟩::(I++[Hr s]))):=by
 refine ck rfl rfl rfl ?_ m;have O:=iV c v s ⟨by omega,hv,E.l⟩;have U:=tI s ⟨E.l,E.t⟩;unfold Q1 MP;have V:=fun st=>wh C9 32 32 L (Es c v s) false true st (by decide) (by omega) (by omega);simp (disch:=first|omega|decide) only[push_cast,↓reduceIte,CI,JO,He,Iv,Fa,RV];unfold Q2;simp (disch:=first|omega|decide) only[push_cast,↓reduceIte,CI,J,M,N,Et,gS hv,FI hv,Hd,ED,Il,Kx,O,U,DV,V,pV hv,pW hv,r8 hv,bZ,aM,UX,LJ,Fa];rfl
def JD(l:List Sta):Sta:=(l.getLast?).getD FU
theorem yXj(s s':Sta)(l:List Sta):JD (s::s'::l)=JD (s'::l):=(rfl)
theorem xT(c:List Ins)(v:Int×List Int)(hc:c.length≤4096)(hv:EA v)(fr:Frame)(I:fr 2=.ptr 0 0)(J:fr 3=.ptr 1 0)(M:fr 8=.ptr 3 0)(m:Nat)(x:PI.Obj):∀ (l:List Sta) (s:Sta) (L:List Dig) (a e:Int) (ex:St),
  RunOK c v (s::l)→(∀ y∈s::l,okS y)→L.length+l.length≤100000→
  RunY (Ld (Q1.exec GG LJ m) (Q2.exec GG LJ m) fr [26,27] 6) 7 4 5 (s::l) L.length (MP c v a e (.row 9 L.length 0 L.length) s 0 (x::⟨true,32,L.map C9,false⟩::ex))
   (MP c v (DZ (JD (s::l))).1 (DZ (JD (s::l))).2.2 (.row 9 (L++(s::l).map (Es c v)).length 0 (L++(s::l).map (Es c v)).length) (JD (s::l)) 0 (x::⟨true,32,(L++(s::l).map (Es c v)).map C9,false⟩::(ex++(s::l).map Hr)))
 |[],s,L,a,e,ex,N,E,hl=>.last (yg c v hc hv s (E s (by simp)) L (by simpa using hl) a e x ex L.length fr I J M m) rfl
 |s'::l,s,L,a,e,ex,N,E,hl=>by
  have h:=xT c v hc hv fr I J M m x l s' (L++[Es c v s]) (DZ s).1 (DZ s).2.2 (ex++[Hr s]) N.2.2.2 (fun y O=>E y (by simp[O])) (by simp at hl ⊢; omega);refine .next (yg c v hc hv s (E s (by simp)) L (by simp at hl; omega) a e x ex L.length fr I J M m) rfl rfl rfl ?_
  rw[yXj];have U:L++(s::s'::l).map (Es c v)=(L++[Es c v s])++(s'::l).map (Es c v):=by simp
  have V:(L++[Es c v s]).length=L.length+1:=by simp
  have Y:ex++(s::s'::l).map Hr=(ex++[Hr s])++(s'::l).map Hr:=by simp
  rw[U,Y,← V];exact h
theorem Yze(c:List Ins)(v:Int×List Int)(hc:c.length≤4096)(hv:EA v)(fr:Frame)(E:fr 2=.ptr 0 0)(I:fr 3=.ptr 1 0)(J:fr 8=.ptr 3 0)(m:Nat)(l:List Sta)(s:Sta)(O:RunOK c v (s::l))(M:∀ y∈s::l,okS y)(hl:l.length≤90000) :
  RunY (Ld (Q1.exec GG LJ m) (Q2.exec GG LJ m) fr [26,27] 6) 7 4 5 (s::l) 0 (MP c v 0 0 DV s 0 [])
   (MP c v (DZ (JD (s::l))).1 (DZ (JD (s::l))).2.2 (.row 9 ((s::l).map (Es c v)).length 0 ((s::l).map (Es c v)).length) (JD (s::l)) 0 (⟨false,1,DS s,false⟩::⟨true,32,((s::l).map (Es c v)).map C9,false⟩::l.map Hr)):=by
 have N:=Yjo c v hc hv s (M s (by simp)) fr E I J m
 cases l with
 |nil=>exact .last N rfl
 |cons s' l=>exact .next N rfl rfl rfl (xT c v hc hv fr E I J m ⟨false,1,DS s,false⟩ l s' [Es c v s] (DZ s).1 (DZ s).2.2 [] O.2.2.2 (fun y U=>M y (by simp[U])) (by simp at hl ⊢; omega))
def N5:Der:=⟨[],JC,0,0,[]⟩
def H4(c:List Ins)(v:Int×List Int):Der:=if(FE c).2=0 then⟨c,v,(DZ (JD (Ko c v))).1,(DZ (JD (Ko c v))).2.2,(Ko c v).map (Es c v)⟩else N5
theorem Su(st:St):∀ {A:List D} (B:List D),A.all EJ=true→D9 st (A++B)=(D9 st B).map (A++·)
 |[],B,_=>by simp
 |d::A,B,h=>by
  simp only[AZ,Af]at h;rw[Ae,D9,eh st h.1,Su st B h.2];cases D9 st B <;> rfl
theorem Sk(v:Int×List Int):(D2 v).all EJ=true:=by
 rw[TN]; exact QQ (v.1::v.2)
theorem ox(st:St)(cs cs' L E:D)(v:Int×List Int)(a e:Int)(I:DD st cs=some cs')(J:DD st L=some E):DW st (.agg (Dr cs v a e L))=some (.agg (Dr cs' v a e E)):=by
 simp only[DW,Dr,D9,I,Su st _ (Sk v),J,gN,Ag]
theorem Yl8(st:St)(c:List Ins)(v:Int×List Int)(a e:Int)(L:List Dig)(k:Nat)(lent:Bool)(hk:st[k]?=some ⟨true,32,L.map C9,lent⟩):DW st (.agg (Dr (Et c) v a e (.row k L.length 0 L.length)))=some (FA ⟨c,v,a,e,L⟩):=by
 refine ox st _ _ _ _ v a e (by simp only[Et,DD,J3]) ?_
 have E:HL st k L.length 0 L.length=some (32,L.map C9):=by
  rw[rJ,hk]; exact xN C9 32 L lent
 simp only[DD,E,Ag];rfl
theorem Yl9(st:St):DW st (.agg (Dr DV JC 0 0 DV))=some (FA N5):=(rfl)
theorem Oi(st:St)(d:Der):DW st (FA d)=some (FA d):=ox st _ _ _ _ _ _ _ (by simp only[Et,DD,J3]) (by simp only[JB,DD,J3])
theorem Yu2{D:Nat→Int}(E:P2 c 64 0 D){x:Sta}(h:Good c D x∨Last x):okS x:=by
 rcases h with h | h
 ·exact⟨by have:=h.len E; omega,by have:=h.st; omega⟩
 ·exact⟨by have:=h.l; omega,by have:=h.s1; omega⟩
noncomputable def aT:List D→Option D:=Dk (α:=List Ins×(Int×List Int)) (fun a=>[.slc (nz 3 (a.1.map Da)) (a.1.map Da) false,Ez a.2]) (fun a=>a.1.length≤9223372036854775807∧EA a.2) (fun a=>.tup [FA (H4 a.1 a.2),.int .i64 (FE a.1).2])
theorem Ynn(c:List Ins)(v:Int×List Int)(h:c.length≤9223372036854775807∧EA v):aT [.slc (nz 3 (c.map Da)) (c.map Da) false,Ez v]=some (.tup [FA (H4 c v),.int .i64 (FE c).2]):=
 D7 (fun⟨a0,a1⟩ ⟨b0,b1⟩ h=>by simp only[Aa,D.slc.injEq,and_true,Kw,Kb]at h; simp[h]) (c,v) h
theorem Vr(c:List Ins)(v:Int×List Int)(h:c.length≤9223372036854775807∧EA v):@wW GG LJ Y7.code (Dc [Et c,Ez v]) [] ⟨Dn Y7.res (.tup [FA (H4 c v),.int .i64 (FE c).2])⟩:=by
 obtain⟨hc,hv⟩:=h;have M:=X6 c hc;have cs:=nU c v [⟨false,1,[.slc (nz 3 (c.map Da)) (c.map Da) false],false⟩,⟨false,1,D2 v,false⟩,⟨false,1,Dr DV JC 0 0 DV,false⟩,⟨false,1,Dr (.slc (nz 3 (c.map Da)) (c.map Da) false) v 0 0 DV,false⟩] hv;simp only[Et]at cs;unfold Y7
 by_cases I:(FE c).2=0
 ·obtain⟨Dm,l,Y,ht,N,ae,hg⟩:=cM (v:=v) I;obtain⟨J,_⟩:=ON I;rw[show H4 c v=⟨c,v,(DZ (JD (Ko c v))).1,(DZ (JD (Ko c v))).2.2,(Ko c v).map (Es c v)⟩from if_pos I,ht];have sd:∀ (sz:Nat) (els:List D) (t:Bool),DY (some ⟨false,1,Dr DV JC 0 0 DV,false⟩) 21 0 (.agg (Dr (.slc sz els t) v 0 0 DV))=some ⟨false,1,Dr (.slc sz els t) v 0 0 DV,false⟩:=fun sz els t=>lD fB hv DV _ rfl 0 0 0 0 DV DV rfl;simp (disch:=first|omega|decide) only[push_cast,↓reduceIte,CI,CJ,LJ,Et,E8,Js,M,I,FI hv,Yvg hv,sd,cs];refine fE (e:=.next) (st':=MP c v (DZ (JD (GF ((c.length:Int)+1)::l))).1 (DZ (JD (GF ((c.length:Int)+1)::l))).2.2 (.row 9 ((GF ((c.length:Int)+1)::l).map (Es c v)).length 0 ((GF ((c.length:Int)+1)::l).map (Es c v)).length) (JD (GF ((c.length:Int)+1)::l)) 0 (⟨false,1,DS (GF ((c.length:Int)+1)),false⟩::⟨true,32,((GF ((c.length:Int)+1)::l).map (Es c v)).map C9,false⟩::l.map Hr)) (d:=.tup []) (by simp only[push_cast,↓reduceIte] <;> rfl) (by decide) (by rfl) (fun m=>?_) rfl ?_
  ·refine gp ⟨4,5,c,v,l,false,false,rfl,rfl,rfl,J,hv,by omega,N,rfl,?_⟩;exact Yze c v J hv _ rfl rfl rfl m l _ N (fun y hy=>Yu2 Y (hg y hy)) (by omega)
  ·unfold MP
   have O:∀ (E:List Dig) (U V:PI.Obj) (ex:St) (a e:Int),DW (⟨false,1,[Et c],false⟩::⟨false,1,D2 v,false⟩::⟨false,1,Dr (Et c) v a e (.row 9 E.length 0 E.length),false⟩::⟨false,1,Dr (Et c) v a e (.row 9 E.length 0 E.length),false⟩::⟨false,1,[Et c],false⟩::⟨false,1,D2 v,false⟩::recO 2::U::V::⟨true,32,E.map C9,false⟩::ex) (.agg (Dr (Et c) v a e (.row 9 E.length 0 E.length)))=some (FA ⟨c,v,a,e,E⟩):=
    fun E U V ex a e=>Yl8 _ c v a e E 9 false rfl
   have sr:∀ (k t o n:Nat) (a e:Int),DY (some ⟨false,1,Dr DV JC 0 0 DV,false⟩) 21 0 (.agg (Dr (Et c) v a e (.row k t o n)))=some ⟨false,1,Dr (Et c) v a e (.row k t o n),false⟩:=fun k t o n a e=>lD fB hv DV _ rfl 0 0 _ _ DV _ rfl;generalize (GF ((c.length:Int)+1)::l).map (Es c v)=E;generalize DZ (JD (GF ((c.length:Int)+1)::l))=R;simp (disch:=first|omega|decide) only[push_cast,↓reduceIte,CI,CJ,vf hv,sr,O,I]
 ·rw[show H4 c v=N5 from if_neg I];simp (disch:=first|omega|decide) only[push_cast,↓reduceIte,CI,CJ,LJ,Et,E8,Js,M,I,Yvi,z0,Wu,Yl9]
theorem Xj:Contract Tryz.prog GG 19 aT:=
 Ed (T:=LJ) yHm (wa (all_cons vM (all_cons Yn0 (all_cons ax all_nil))) (all_cons vP all_nil) (all_cons vR all_nil)) (fun a h=>Vr a.1 a.2 h)
end Go.Proofs.YtijnglngaogdjaaGreatDoor.PI
