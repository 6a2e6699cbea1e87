/-
  derive: derivations, Run.
  Conditions: none; these are lemmas.
-/
import Derived.Test.YtijnglngaogdjaaGreatDoorArE
import Derived.Test.YtijnglngaogdjaaGreatDoorEngHe
open BitVec renaming ofInt→CR
open Int renaming reduceLT→CT,reduceNatCast'→CL,reduceNeg→CN
open List renaming replicate→CQ
open Nat renaming reduceAdd→CJ,reduceEqDiff→CI,reduceLT→CO,reduceLeDiff→CM
namespace Go.Proofs.YtijnglngaogdjaaGreatDoor.PI
open Go
set_option linter.unusedSimpArgs false
set_option maxHeartbeats 8000000
set_option maxRecDepth 20000
set_option linter.unusedVariables false
def JT(op:Int):Int×Int:=if op=1∨op=13∨op=14∨op=15 then(1,9007199254740992)else if op=2 then(1,15)else if op=12 then(2,9007199254740992)else(0,0)
def En(op:Int):Int×Int:=if op=1∨op=2 then(0,1)else if op=12 then(1,1)else if op=13∨op=15 then(1,0)else if op=14∨op=16 then(0,0)else(2,1)
def Gv(x:Ins):Bool:=decide (1≤x.op∧x.op≤16∧((JT x.op).1≤0→x.n=0)∧((JT x.op).1≤1→x.m=0)∧0≤min x.n x.m∧max x.n x.m≤(JT x.op).2)
theorem vz(op:Int):JT op=(1,9007199254740992)∨JT op=(1,15)∨JT op=(2,9007199254740992)∨JT op=(0,0):=by
 unfold JT
 split
 ·exact .inl rfl
 ·split
  ·exact .inr (.inl rfl)
  ·split
   ·exact .inr (.inr (.inl rfl))
   ·exact .inr (.inr (.inr rfl))
theorem yZ2(op:Int):0≤(En op).1∧(En op).1≤2∧0≤(En op).2∧(En op).2≤1:=by
 unfold En
 split
 ·decide
 ·split
  ·decide
  ·split
   ·decide
   ·split <;> decide
noncomputable def gU:List D→Option D:=Dl (α:=Int) (fun a=>[.int .i64 a]) (fun a=>True) (fun a=>.tup [.int .i64 (JT a).1,.int .i64 (JT a).2])
theorem Yih(op:Int):gU [.int .i64 op]=some (.tup [.int .i64 (JT op).1,.int .i64 (JT op).2]):=
 D5 (fun a b h=>by simp only[Aa,D.int.injEq,true_and,and_true]at h; simp[h]) (op) trivial
theorem YAj(op:Int):@wW GG (tb [] []) ao.code (Dc [.int .i64 op]) [] ⟨Dp ao.res (.tup [.int .i64 (JT op).1,.int .i64 (JT op).2])⟩:=by
 unfold ao JT
 by_cases E:op=1
 ·subst E; simp (disch:=first|omega|decide) only[push_cast,↓reduceIte,CI,true_or]
 ·by_cases I:op=13
  ·subst I; simp (disch:=first|omega|decide) only[push_cast,↓reduceIte,CI,E,true_or,or_true]
  ·by_cases J:op=14
   ·subst J; simp (disch:=first|omega|decide) only[push_cast,↓reduceIte,CI,E,I,true_or,or_true]
   ·by_cases M:op=15
    ·subst M; simp (disch:=first|omega|decide) only[push_cast,↓reduceIte,CI,E,I,J,or_true]
    ·by_cases U:op=2
     ·subst U; simp (disch:=first|omega|decide) only[push_cast,↓reduceIte,CI,E,I,J,M,or_self]
     ·by_cases V:op=12
      ·subst V; simp (disch:=first|omega|decide) only[push_cast,↓reduceIte,CI,E,I,J,M,U,or_self]
      ·simp (disch:=first|omega|decide) only[push_cast,↓reduceIte,CI,E,I,J,M,U,V,or_self]
theorem YFd:Contract Tryz.prog GG 148 gU:=
 Ed yvw (DI all_nil all_nil) (fun a h=>YAj a)
noncomputable def OE:List D→Option D:=Dl (α:=Int) (fun a=>[.int .i64 a]) (fun a=>True) (fun a=>.tup [.int .i64 (En a).1,.int .i64 (En a).2])
theorem Yig(op:Int):OE [.int .i64 op]=some (.tup [.int .i64 (En op).1,.int .i64 (En op).2]):=
 D5 (fun a b h=>by simp only[Aa,D.int.injEq,true_and,and_true]at h; simp[h]) (op) trivial
theorem YAi(op:Int):@wW GG (tb [] []) ZW.code (Dc [.int .i64 op]) [] ⟨Dp ZW.res (.tup [.int .i64 (En op).1,.int .i64 (En op).2])⟩:=by
 unfold ZW En
 by_cases E:op=1
 ·subst E; simp (disch:=first|omega|decide) only[push_cast,↓reduceIte,CI,true_or]
 ·by_cases I:op=2
  ·subst I; simp (disch:=first|omega|decide) only[push_cast,↓reduceIte,CI,E,or_true]
  ·by_cases J:op=12
   ·subst J; simp (disch:=first|omega|decide) only[push_cast,↓reduceIte,CI,E,I,or_self]
   ·by_cases M:op=13
    ·subst M; simp (disch:=first|omega|decide) only[push_cast,↓reduceIte,CI,E,I,J,or_self,true_or]
    ·by_cases U:op=15
     ·subst U; simp (disch:=first|omega|decide) only[push_cast,↓reduceIte,CI,E,I,J,M,or_self,or_true]
     ·by_cases V:op=14
      ·subst V; simp (disch:=first|omega|decide) only[push_cast,↓reduceIte,CI,E,I,J,M,U,or_self,true_or]
      ·by_cases Y:op=16
       ·subst Y; simp (disch:=first|omega|decide) only[push_cast,↓reduceIte,CI,E,I,J,M,U,V,or_self,or_true]
       ·simp (disch:=first|omega|decide) only[push_cast,↓reduceIte,CI,E,I,J,M,U,V,Y,or_self]
theorem YFc:Contract Tryz.prog GG 101 OE:=
 Ed yB1 (DI all_nil all_nil) (fun a h=>YAi a)
theorem ik(a b c d:Int):DR (some ⟨false,1,[.int .i64 a,.int .i64 b,.int .i64 c],false⟩) 1 1 (.int .i64 d)=some ⟨false,1,[.int .i64 a,.int .i64 d,.int .i64 c],false⟩:=(rfl)
theorem Yuj(a b c d:Int):DR (some ⟨false,1,[.int .i64 a,.int .i64 b,.int .i64 c],false⟩) 1 2 (.int .i64 d)=some ⟨false,1,[.int .i64 a,.int .i64 b,.int .i64 d],false⟩:=(rfl)
theorem Pb(lent:Bool)(a b c:D):DA (some ⟨false,1,[a,b,c],lent⟩) 3 true 0=some (.agg [a,b,c]):=(rfl)
theorem O6(a b c:Int):DR (some ⟨false,1,[.int .i64 0,.int .i64 0,.int .i64 0],false⟩) 3 0 (.agg [.int .i64 a,.int .i64 b,.int .i64 c])=some ⟨false,1,[.int .i64 a,.int .i64 b,.int .i64 c],false⟩:=(rfl)
theorem bT(a:Int):DL [.int .i64 0,.int .i64 0,.int .i64 0] [(0,1,.int .i64 a)]=some [.int .i64 a,.int .i64 0,.int .i64 0]:=(rfl)
theorem bV(x:Ins):DM x=[.int .i64 x.op,.int .i64 x.n,.int .i64 x.m]:=(rfl)
theorem bQ(a b c E b' c':Int):GU [0,0,0] false (.agg [.int .i64 a,.int .i64 b,.int .i64 c]) (.agg [.int .i64 E,.int .i64 b',.int .i64 c'])=some (.bool (decide (a=E∧b=b'∧c=c'))):=by
 simp only[GU,E0,I3,if_true,Ae,Bool.bne_false]
 congr 2
 by_cases I:a=E <;> by_cases J:b=b' <;> by_cases M:c=c' <;> simp[I,J,M]
noncomputable def gV:List D→Option D:=Dl (α:=Ins) (fun a=>[Da a]) (fun a=>True) (fun a=>.bool (Gv a))
theorem Yif(x:Ins):gV [Da x]=some (.bool (Gv x)):=
 D5 (fun a b h=>by simp only[Aa,and_true,Sr]at h; simp[h]) (x) trivial
theorem YAh(x:Ins):@wW GG (tb [(148,gU)] []) ZX.code (Dc [Da x]) [] ⟨Dp ZX.res (.bool (Gv x))⟩:=by
 unfold ZX;obtain⟨op,n,m⟩:=x
 by_cases J:op<1
 ·rw[show Gv ⟨op,n,m⟩=false from decide_eq_false (by dsimp only; omega)];simp (disch:=first|omega|decide) only[push_cast,↓reduceIte,CI,Fu,Gw,J]
 ·by_cases M:17≤op
  ·rw[show Gv ⟨op,n,m⟩=false from decide_eq_false (by dsimp only; omega)];simp (disch:=first|omega|decide) only[push_cast,↓reduceIte,CI,Fu,Gw,J,M]
  ·have hc:=Yih op
   have fin:∀ (a b:Int) (U V:Int),JT op=(a,b)→(a≤0→U=n)→(0<a→U=0)→(a≤1→V=m)→(1<a→V=0)→Gv ⟨op,n,m⟩=(decide (op=op∧U=0∧V=0) && (decide (0≤min n m) && decide (max n m≤b))):=by
    intro a b U V e e1 e2 e3 e4;unfold Gv;dsimp only;rw[e];rw[B5];simp only[Ac,decide_eq_true_eq];refine⟨fun⟨_,_,p1,Y,p3,p4⟩=>⟨⟨trivial,?_,?_⟩,p3,p4⟩,fun⟨⟨_,p1,Y⟩,p3,p4⟩=>⟨by omega,by omega,?_,?_,p3,p4⟩⟩
    ·by_cases ha:a≤0
     ·rw[e1 ha]; exact p1 ha
     ·exact e2 (by omega)
    ·by_cases ha:a≤1
     ·rw[e3 ha]; exact Y ha
     ·exact e4 (by omega)
    ·intro ha; rw[← e1 ha]; exact p1
    ·intro ha; rw[← e3 ha]; exact Y
   rcases vz op with e | e | e | e
   ·rw[fin 1 _ 0 m e (by omega) (by omega) (by omega) (by omega)];rw[e]at hc
    rcases Classical.propComplete (m=0)with I | I <;> rcases Classical.propComplete (0≤min n m)with r1 | r1 <;> rcases Classical.propComplete (max n m≤9007199254740992)with E | E <;>
     simp (disch:=first|omega|decide) only[push_cast,↓reduceIte,CI,CT,Fu,LB,J,M,hc,O6,bV,ik,Pb,bT,bQ,I,r1,E,and_self,and_false]
   ·rw[fin 1 _ 0 m e (by omega) (by omega) (by omega) (by omega)];rw[e]at hc
    rcases Classical.propComplete (m=0)with I | I <;> rcases Classical.propComplete (0≤min n m)with r1 | r1 <;> rcases Classical.propComplete (max n m≤15)with E | E <;>
     simp (disch:=first|omega|decide) only[push_cast,↓reduceIte,CI,CT,Fu,LB,J,M,hc,O6,bV,ik,Pb,bT,bQ,I,r1,E,and_self,and_false]
   ·rw[fin 2 _ 0 0 e (by omega) (by omega) (by omega) (by omega)];rw[e]at hc
    rcases Classical.propComplete (0≤min n m)with r1 | r1 <;> rcases Classical.propComplete (max n m≤9007199254740992)with E | E <;>
     simp (disch:=first|omega|decide) only[push_cast,↓reduceIte,CI,CT,Fu,LB,J,M,hc,O6,bV,ik,Yuj,Pb,bT,bQ,r1,E,and_self]
   ·rw[fin 0 _ n m e (by omega) (by omega) (by omega) (by omega)];rw[e]at hc
    rcases Classical.propComplete (n=0)with I | I <;> rcases Classical.propComplete (m=0)with q1 | q1 <;> rcases Classical.propComplete (0≤min n m)with r1 | r1 <;> rcases Classical.propComplete (max n m≤0)with E | E <;>
     simp (disch:=first|omega|decide) only[push_cast,↓reduceIte,CI,CT,Fu,LB,J,M,hc,O6,bV,Pb,bT,bQ,I,q1,r1,E,and_true,and_self,and_false]
theorem YFb:Contract Tryz.prog GG 99 gV:=
 Ed yB0 (DI (all_cons YFd all_nil) all_nil) (fun a h=>YAh a)
noncomputable def gO:List D→St→Option (D×St):=GP (α:=Ins) (fun x=>([Da x],[])) (fun _=>True) (fun x=>(.bool (!Gv x),[]))
theorem sG(x:Ins):gO [Da x] []=some (.bool (!Gv x),[]):=
 MD (fun a b e=>by simp only[Dx,Aa,and_true,Sr]at e; rw[e]) x trivial rfl
theorem Yyl:IContract Tryz.prog GG 98 gO:=by
 refine Rd (T:=tb [(99,gV)] []) yx5 (DI (all_cons YFb all_nil) all_nil) ?_;intro x _;unfold oc;simp (disch:=first|omega|decide) only[push_cast,↓reduceIte,CI,Fu,Ou,Yw2,Yif];rfl
def IW:List Ins→Nat→Int
 |[],_=>-1
 |x::l,i=>if Gv x then IW l (i+1)else i
theorem yC:∀ (l:List Ins) (i:Nat),0≤IW l i↔l.all Gv=false
 |[],i=>by simp[IW]
 |x::l,i=>by
  have:=yC l (i+1);unfold IW;cases h:Gv x <;> simp[h];simpa using this
noncomputable def mT:List D→St→Option (D×St):=GP (α:=List Ins) (fun c=>([.slc (nz 3 (c.map Da)) (c.map Da) false,.clo 98 []],[])) (fun c=>c.length≤9223372036854775807) (fun c=>(.int .i64 (IW c 0),[]))
theorem Yp8(c:List Ins)(h:c.length≤9223372036854775807):mT [.slc (nz 3 (c.map Da)) (c.map Da) false,.clo 98 []] []=some (.int .i64 (IW c 0),[]):=
 MD (fun a b e=>by simp only[Dx,Aa,D.slc.injEq,and_true,Ko]at e; rw[e.2]) c h rfl
variable {i:Nat}{α:Type}
theorem Yu[Inhabited α](l:List α)(h:i<l.length):l.drop i=l.getD i default::l.drop (i+1):=by
 rw[A7 h,Af,Ah h]; rfl
theorem YE4:IContract Tryz.prog GG 147 mT:=by
 refine Rd (T:=tb [] [(98,gO)]) ygp (DI all_nil (all_cons Yyl all_nil)) ?_;intro c hc;unfold pr;simp (disch:=first|omega|decide) only[push_cast,↓reduceIte,CI,CN]
 refine FQ (fun i:Nat=>[(0,.slc (nz 3 (c.map Da)) (c.map Da) false),(1,.clo 98 []),(7,.int .i64 (c.length:Int)),(8,.int .i64 (i:Int))])
  (fun i=>[]) (fun i=>i≤c.length∧IW (c.drop i) i=IW c 0) (fun i=>c.length - i) 0 (by simp only[push_cast,↓reduceIte,CI,↓CL] <;> rfl) ⟨by omega,rfl⟩ ?_
 rintro i ⟨hi,hb⟩;unfold pE;simp (disch:=first|omega|decide) only[push_cast,↓reduceIte,CI];refine EU (fun U=>?_) (fun U=>?_)
 ·have E:i<c.length:=by omega
  have J:=Vm [] c false i E;have I:=Yu c E;obtain⟨x,M⟩:∃ x,c.getD i default=x:=⟨_,rfl⟩;rw[M]at J I;rw[I,IW]at hb
  cases hf:Gv x with
  |false=>
   rw[hf]at hb;have hv:=sG x;rw[hf]at hv;simp (disch:=first|omega|decide) only[push_cast,↓reduceIte,CI,CN,J,KV,hv];simp only[Al,if_false]at hb;rw[← hb];rfl
  |true=>
   rw[hf]at hb;have hv:=sG x;rw[hf]at hv;simp (disch:=first|omega|decide) only[push_cast,↓reduceIte,CI,J,KV,hv,DK];refine EV (i+1) ⟨by omega,hb⟩ (by omega) ?_;simp only[push_cast] <;> rfl
 ·obtain rfl:i=c.length:=by omega
  rw[Bf,IW]at hb;simp (disch:=first|omega|decide) only[push_cast,↓reduceIte,CN];rw[← hb];rfl
noncomputable def Oq:List D→St→Option (D×St):=GP (α:=List Ins) (fun c=>([.slc (nz 3 (c.map Da)) (c.map Da) false,.clo 98 []],[])) (fun c=>c.length≤9223372036854775807) (fun c=>(.bool (!c.all Gv),[]))
theorem Yqb(c:List Ins)(h:c.length≤9223372036854775807):Oq [.slc (nz 3 (c.map Da)) (c.map Da) false,.clo 98 []] []=some (.bool (!c.all Gv),[]):=
 MD (fun a b e=>by simp only[Dx,Aa,D.slc.injEq,and_true,Ko]at e; rw[e.2]) c h rfl
theorem YE6:IContract Tryz.prog GG 97 Oq:=by
 refine Rd (T:=tb [] [(147,mT)]) yff (DI all_nil (all_cons YE4 all_nil)) ?_;intro c hc;unfold pD;have E:=Yp8 c hc
 have hb:decide (0≤IW c 0)=!c.all Gv:=by
  have:=yC c 0
  cases h:c.all Gv with
  |true=>rw[h]at this; simp at this ⊢; omega
  |false=>rw[h]at this; simp at this ⊢; exact this
 simp (disch:=first|omega|decide) only[push_cast,↓reduceIte,CI,E,hb];rfl
variable {hints:List (List Nat)}{il:List Nat}{T:Tbl}{G:Dj}{P:Program}
theorem n8{f:Nat}{F:PF}(E:DB P il f hints=some F)(I:TblOK P G T){enc:α→List D×St}{pre:α→Prop}{r:α→D×St}
  (h:∀ a,pre a→@wW G T F.code (Dc (enc a).1) (enc a).2 ⟨@GQ F.res ⟨fun d st'=>(d,st')=r a⟩⟩) (J:T.y=fun _ _ _=>none:=by rfl):IContract P G f (GP enc pre r):=
 Jv E I (fun ds st x M=>by
  obtain⟨a,ha,U,rfl⟩:=ji M;have:=h a U;rw[ha]at this;exact this) J
noncomputable def ku:List D→Option D:=Dl (α:=Int×Int) (fun a=>[.int .u64 a.1,.int .u64 a.2]) (fun a=>0≤a.1∧a.1<18446744073709551616∧0≤a.2∧a.2<18446744073709551616) (fun a=>.tup [.int .u64 (a.1*a.2 / 18446744073709551616),.int .u64 (a.1*a.2 % 18446744073709551616)])
theorem ySu(x:Int)(y:Int)(h:0≤x∧x<18446744073709551616∧0≤y∧y<18446744073709551616):ku [.int .u64 x,.int .u64 y]=some (.tup [.int .u64 (x*y / 18446744073709551616),.int .u64 (x*y % 18446744073709551616)]):=
 D5 (fun⟨a0,a1⟩ ⟨b0,b1⟩ h=>by simp only[Aa,D.int.injEq,true_and,and_true]at h; simp[h]) (x,y) h
theorem Ykl(x:Int)(y:Int)(h:0≤x∧x<18446744073709551616∧0≤y∧y<18446744073709551616):@wW GG (tb [(169,cH)] []) Z8.code (Dc [.int .u64 x,.int .u64 y]) [] ⟨Dp Z8.res (.tup [.int .u64 (x*y / 18446744073709551616),.int .u64 (x*y % 18446744073709551616)])⟩:=by
 unfold Z8;simp (disch:=first|omega|decide) only[push_cast,↓reduceIte,CI,sF x y h]
theorem Yqf:Contract Tryz.prog GG 149 ku:=
 Ed yAa (DI (all_cons xg all_nil) all_nil) (fun a h=>Ykl a.1 a.2 h)
noncomputable def Ot:List D→St→Option (D×St):=GP (α:=Nat×Int) (fun a=>([.slc 1 [.int .i64 a.2] true,.int .i64 (a.1:Int)],[])) (fun a=>0<a.1∧a.1≤100000) (fun a=>(.row 0 a.1 0 a.1,[⟨true,1,(CQ a.1 a.2).map nI,false⟩]))
theorem Yp1(n:Nat)(a:Int)(h:0<n∧n≤100000):Ot [.slc 1 [.int .i64 a] true,.int .i64 (n:Int)] []=some (.row 0 n 0 n,[⟨true,1,(CQ n a).map nI,false⟩]):=
 MD (fun⟨a,b⟩ ⟨E,b'⟩ e=>by
  simp only[Dx,Aa,D.slc.injEq,D.int.injEq,and_true,true_and,Int.ofNat_inj]at e;obtain⟨rfl,rfl⟩:=e;rfl) ((n,a):Nat×Int) h rfl
def Gy(n j:Nat)(a:Int):List D:=(CQ j a++CQ (n - j) 0).map nI
variable {a:Int}{j n:Nat}
theorem fu(h:j≤n):(Gy n j a).length=n:=by simp[Gy]; omega
theorem wc{m:Nat}(h:j+m≤n):FM (Gy n j a) j ((CQ m a).map nI)=Gy n (j+m) a:=by
 have e:CQ (n - j) (0:Int)=CQ m 0++CQ (n - (j+m)) 0:=by
  rw[Ca]; congr 1; omega
 unfold Gy;rw[e,Bh,Bh,eY (by simp) (by simp),← Bh,← Bh,← Ap,Ca]
theorem Yye(I:0<j)(E:j<n):KA [⟨true,1,Gy n j a,false⟩] 1 (.row 0 n j (n - j)) (.row 0 n 0 j)=some (.int .i64 (min (n - j) j:Nat),[⟨true,1,Gy n (j+min (n - j) j) a,false⟩]):=by
 have hl:=fu (a:=a) (Cs E)
 have he:HR [⟨true,1,Gy n j a,false⟩] 0 n 0 j=some (1,(CQ j a).map nI):=by
  simp only[HR,AF,hl];rw[if_pos (by simp; omega),Bz]
  congr 2
  simp[Gy]
 simp only[KA,X7,AF,Hh,he,hl,Jz];rw[if_pos (by simp; omega)];simp only[Bc,BQ,Bu]
 congr 3
 rw[← B6,List.take_replicate,show min (min (n - j) j) j=min (n - j) j by omega,wc (by omega)]
theorem Ypp(I:0<n):KA [⟨true,1,CQ n (.int .i64 0),false⟩] 1 (.row 0 n 0 n) (.slc 1 [.int .i64 a] true)=some (.int .i64 1,[⟨true,1,Gy n 1 a,false⟩]):=by
 have E:(CQ n (D.int .i64 0))=Gy n 0 a:=by simp[Gy,nI]
 rw[E];have hl:=fu (a:=a) (A2 n);simp only[KA,X7,AF,Hh,hl,Jz];rw[if_pos (by simp; omega)];have hm:min n [D.int IntKind.i64 a].length=1:=by simp; omega
 simp only[hm,Bu];have:=wc (n:=n) (j:=0) (m:=1) (a:=a) (by omega);rw[Aq]at this;rw[← this];rfl
theorem lh(h:n≤100000):Pt 1 8 (.int .i64 0) (.int .i64 (n:Int)) (.int .i64 (n:Int))=some (n,⟨true,1,CQ n (.int .i64 0),false⟩):=by
 have E:FZ (.int .i64 (n:Int))=some n:=by simp[FZ]
 simp only[Pt,E];rw[if_pos ⟨Ax _,by omega,by omega,by decide,rfl,rfl⟩]
theorem YE2:IContract Tryz.prog GG 100 Ot:=by
 refine n8 (T:=tb [(149,ku)] []) ynz (DI (all_cons Yqf all_nil) all_nil) ?_;rintro⟨n,a⟩ ⟨I,J⟩;dsimp only at I J;unfold oZ;have hm:=ySu 1 (n:Int) ⟨by omega,by omega,by omega,by omega⟩;rw[show(1*(n:Int) / 18446744073709551616)=0 by omega,show(1*(n:Int) % 18446744073709551616)=n by omega]at hm;have hc:=Ypp (n:=n) (a:=a) I;have Y:¬ ((n:Int)<0):=by omega
 have h1:¬ ((9223372036854775807:Int)<(n:Int)):=by omega
 simp (disch:=first|omega|decide) only[push_cast,↓reduceIte,CI,CT,Int.reduceAdd,↓CL,Y,cu,ze,hm,h1,lh J,hc];refine FQ (fun j:Nat=>[(7,.row 0 n 0 n),(8,.int .i64 (j:Int))]) (fun j=>[⟨true,1,Gy n j a,false⟩]) (fun j=>0<j∧j≤n) (fun j=>n - j) 1 (by simp only[push_cast,↓reduceIte,CI,CO,CM,↓CL] <;> rfl) ⟨by omega,by omega⟩ ?_;rintro j ⟨M,E⟩;have hl:=fu (a:=a) E;have U:RK (some ⟨true,1,Gy n j a,false⟩) n=true:=by simp[RK,hl]
 unfold pd;simp (disch:=first|omega|decide) only[push_cast,↓reduceIte,CI,U];refine EU (fun h2=>?_) (fun h2=>?_)
 ·have V:=Yye (a:=a) M (show j<n by omega)
  have s1:Qt (some ⟨true,1,Gy n j a,false⟩) 1 (.row 0 n 0 n) 0 n 0 n j n=some (.row 0 n j (n - j)):=by
   simp[Qt,hl,show j≤n from E,show ¬ j=0 by omega,show ¬ j=n by omega]
  have s2:Qt (some ⟨true,1,Gy n j a,false⟩) 1 (.row 0 n 0 n) 0 n 0 n 0 j=some (.row 0 n 0 j):=by
   simp[Qt,hl,show j≤n from E,show ¬ j=0 by omega,show ¬ j=n by omega,show ¬ 0=j by omega]
  simp (disch:=first|omega|decide) only[push_cast,↓reduceIte,CI,CO,CM,s1,s2,V,DK];refine EV (j+min (n - j) j) ⟨by omega,by omega⟩ (by omega) ?_;simp only[push_cast] <;> rfl
 ·obtain rfl:j=n:=by omega
  simp (disch:=first|omega|decide) only[push_cast,↓reduceIte,CI];simp[Gy]
abbrev Ec(x:List Int)(i:Nat):Int:=x.getD i default
theorem wZ{x:List Int}(h:i<x.length):Ec x i∈x:=by
 grind
theorem mH(A:List Int)(lent:Bool)(tot i:Nat)(E:A.length=tot)(h:i<tot):RM (some ⟨true,1,A.map nI,lent⟩) 1 false tot i 0=some (.int .i64 (Ec A i)):=by
 subst E; exact Yn0 nI (fun _=>rfl) 1 A lent i h
theorem bk(A:List Int)(lent:Bool)(key tot:Nat)(j:Int)(E:A.length=tot)(I:0≤j)(J:j<(tot:Int)):Qu (some ⟨true,1,A.map nI,lent⟩) 1 key tot 0 tot j=some (.rptr key tot j.toNat 0):=by
 subst E;have:=zB nI 1 A lent key 0 A.length j I J;grind
def Nm(o:Option PI.Obj)(tot i:Nat)(v:Int):Option PI.Obj:=o.bind fun o=>if o.row && !o.lent && o.els.length == tot then(o.els[i]?).bind fun el=>(X9 el 0 [.int .i64 v]).map fun el'=>{o with els:=o.els.set i el'} else none
theorem jb(st:St)(key tot i:Nat)(v:Int):MN st 1 (.rptr key tot i 0) (.int .i64 v)=(Nm st[key]? tot i v).map fun o=>st.set key o:=by
 simp only[MN,Nm,zK,qE,CD,BT]
 cases st[key]? with
 |none=>rfl
 |some o=>
  simp only[Bo]
  split
  ·cases o.els[i]? with
   |none=>rfl
   |some el=>
    have hc:(D.int .i64 v).cells=[.int .i64 v]:=rfl;grind
  ·rfl
theorem rN(A:List Int)(tot i:Nat)(v:Int)(E:A.length=tot)(h:i<tot):Nm (some ⟨true,1,A.map nI,false⟩) tot i v=some ⟨true,1,(A.set i v).map nI,false⟩:=by
 subst E;have I:X9 (nI A[i]) 0 [.int .i64 v]=some (nI v):=rfl;simp[Nm,h,I,List.map_set]
def Sc(len i after n:Int)(dep:List Int):Prop:=n≤i∨len≤n∨(0≤Ec dep n.toNat∧Ec dep n.toNat≠after)
instance (len i after n:Int) (dep:List Int):Decidable (Sc len i after n dep):=by unfold Sc; infer_instance
def Ng(len i after:Int):List Int→List Int→Option (List Int)
 |[],dep=>some dep
 |n::l,dep=>if Sc len i after n dep then none else Ng len i after l (dep.set n.toNat after)
def K4(x:Ins)(i:Int):List Int:=(if x.op=13∨x.op=14 then [x.n]else [])++(if x.op≠14∧x.op≠15∧x.op≠16 then [i+1]else [])
def Kc(x:Ins)(d:Int):Prop:=d<(En x.op).1∨(x.op=15∧d≠1)∨(x.op=16∧d≠0)
instance (x:Ins) (d:Int):Decidable (Kc x d):=by unfold Kc; infer_instance
def Gi(x:Ins)(d:Int):Int:=d - (En x.op).1+(En x.op).2
def Gk(len:Int):List Ins→Nat→List Int→Int→Option Int
 |[],_,_,s=>some s
 |x::r,i,dep,s=>if Ec dep i<0 then Gk len r (i+1) dep s else if Kc x (Ec dep i)then none else
  match Ng len i (Gi x (Ec dep i)) (K4 x i) dep with
  |none=>none
  |some dep'=>Gk len r (i+1) dep' (max (max s (Ec dep i)) (Gi x (Ec dep i)))
def LV:Option Int→Int×Int
 |none=>(0,200)
 |some s=>if 64<s then(0,2)else(s,0)
def GY(n:Nat):List Int:=(CQ n (-1)).set 0 0
def E9(c:List Ins):Int×Int:=if 4096<c.length then(0,2)else if c.length=0∨c.all Gv=false then(0,200)else LV (Gk c.length c 0 (GY c.length) 0)
theorem wI(sz:Nat)(a:D)(l:Bool):RK (some ⟨true,sz,[a],l⟩) 1=true:=(rfl)
theorem li2(sz:Nat)(a b:D)(l:Bool):RK (some ⟨true,sz,[a,b],l⟩) 2=true:=(rfl)
variable {st:St}
theorem mj{c:PC}{fr:Frame}{st':St}{Q:QC}(e:st=st')(h:@wW G T c fr st' Q):@wW G T c fr st Q:=by rw[e]; exact h
/- what follows an instruction -/
def Rl(N:Nat)(i:Int)(dp:List Int):Prop:=dp.length=N∧∀ y∈dp,-1≤y∧y≤i
theorem sM{N:Nat}{i:Int}{I:List Int}(h:Rl N i I)(k:Nat){v:Int}(J:-1≤v)(M:v≤i):Rl N i (I.set k v):=by
 refine⟨by rw[BS]; exact h.1,fun y E=>?_⟩;rcases BW E with E | rfl
 ·exact h.2 y E
 ·omega
set_option maxHeartbeats 4000000 in
set_option maxRecDepth 20000 in
theorem VA(T:Tbl)(c:List Ins)(x:Ins)(i:Nat)(hi:i<c.length)(hc:c.length≤4096)(s after:Int)(a1:-1≤after)(a2:after≤(i:Int)+1)(E:List Int)(cf:E.length≤2)(dep:List Int)(a4:Rl c.length ((i:Int)+1) dep)(fr:Frame)(Q:Ex→Frame→St→Prop)
  (f0:fr 0=.slc (nz 3 (c.map Da)) (c.map Da) false) (f2:fr 2=.int .i64 s) (f4:fr 4=.row 0 c.length 0 c.length) (f5:fr 5=.int .i64 (i:Int)) (bc:fr 10=.int .i64 after)
  (bd:fr 30=.slc (nz 3 (c.map Da)) (c.map Da) false) (be:fr 31=.int .i64 (c.length:Int)) (bf:fr 32=.int .i64 (i:Int)) (a5:fr 110=D4 0 2 (E.map nI)) (a6:fr 111=.int .i64 (E.length:Int)) (a7:fr 112=.int .i64 0)
  (Y:Ng c.length i after E dep=none→∀ J st',J 2=.int .i64 0→J 3=.int .i64 200→Q .ret J st')
  (a8:∀ I,Ng c.length i after E dep=some I→Rl c.length ((i:Int)+1) I→∀ J,J 0=.slc (nz 3 (c.map Da)) (c.map Da) false→J 2=.int .i64 s→J 4=.row 0 c.length 0 c.length→J 30=.slc (nz 3 (c.map Da)) (c.map Da) false→J 31=.int .i64 (c.length:Int)→J 32=.int .i64 (i:Int)→
   Q (.exit 2) J (⟨true,1,I.map nI,false⟩::⟨false,1,DM x,false⟩::Dz 1 (E.map nI))) :
  @wW GG T (.loop [0,2,4,5,10,30,31,32,110,111,112] fW) fr (⟨true,1,dep.map nI,false⟩::⟨false,1,DM x,false⟩::Dz 1 (E.map nI)) ⟨Q⟩:=by
 have hB:Eu ((Dz 1 (E.map nI)).length+1+1) [] (D4 0 2 (E.map nI))=D4 0 2 (E.map nI):=by
  cases E <;> rfl
 have bg:∀ I:List Int,StOK (⟨true,1,I.map nI,false⟩::⟨false,1,DM x,false⟩::Dz 1 (E.map nI)):=by
  intro I o ho hr y hy;simp only[Av]at ho;rcases ho with rfl | rfl | ho
  ·cases hr
  ·simp only[DM,Av,AB,or_false]at hy;rcases hy with rfl | rfl | rfl <;> rfl
  ·cases E with
   |nil=>cases ho
   |cons a l=>
    rw[show Dz 1 ((a::l).map nI)=[⟨true,1,(a::l).map nI,false⟩]from rfl,AJ]at ho;grind
 have hR:∀ (fr:Frame) (I:List Int),restrict [0,2,4,5,10,30,31,32,110,111,112] ((Dz 1 (E.map nI)).length+1+1) ⟨fr,⟨true,1,I.map nI,false⟩::⟨false,1,DM x,false⟩::Dz 1 (E.map nI)⟩=
   ⟨Gf (JU fr ((Dz 1 (E.map nI)).length+1+1) [] [0,2,4,5,10,30,31,32,110,111,112]),⟨true,1,I.map nI,false⟩::⟨false,1,DM x,false⟩::Dz 1 (E.map nI)⟩:=fun fr I=>Zz (bg I) rfl
 have ab:EW ((Dz 1 (E.map nI)).length+1+1) [] 0=some 0:=QF (by omega)
 refine FQ (fun p:Nat×List Int=>[(0,.slc (nz 3 (c.map Da)) (c.map Da) false),(2,.int .i64 s),(4,.row 0 c.length 0 c.length),(5,.int .i64 (i:Int)),(10,.int .i64 after),(30,.slc (nz 3 (c.map Da)) (c.map Da) false),(31,.int .i64 (c.length:Int)),(32,.int .i64 (i:Int)),
   (110,D4 0 2 (E.map nI)),(111,.int .i64 (E.length:Int)),(112,.int .i64 (p.1:Int))])
  (fun p=>⟨true,1,p.2.map nI,false⟩::⟨false,1,DM x,false⟩::Dz 1 (E.map nI)) (fun p=>p.1≤E.length∧Rl c.length ((i:Int)+1) p.2∧Ng c.length i after (E.drop p.1) p.2=Ng c.length i after E dep) (fun p=>E.length - p.1) (0,dep)
  ((hR fr dep).trans (by simp only[push_cast,f0,f2,f4,f5,bc,bd,be,bf,a5,a6,a7,hB,↓ab] <;> rfl)) ⟨A2 _,a4,rfl⟩ ?_
 rintro⟨j,I⟩ ⟨hj,M,hn⟩;dsimp only at hj M hn;unfold fW;simp (disch:=first|omega|decide) only[push_cast,↓reduceIte,CI];refine EU (fun h2=>?_) (fun h2=>?_)
 ·have a3:j<E.length:=by omega
  have b5:=Yu E a3
  have ac:E.map nI≠[]:=by
   intro e;have:=congrArg List.length e;grind
  obtain⟨n,ad⟩:∃ n,E.getD j default=n:=⟨_,rfl⟩;have b6:Qu (some ⟨true,1,E.map nI,false⟩) 1 2 E.length 0 E.length (j:Int)=some (.rptr 2 E.length j 0):=bk E false 2 E.length j rfl (by omega) (by omega);have b7:RM (some ⟨true,1,E.map nI,false⟩) 1 false E.length j 0=some (.int .i64 n):=by rw[← ad]; exact mH E false E.length j rfl a3
  have V:∀ I:List Int,GM (⟨true,1,I.map nI,false⟩::⟨false,1,DM x,false⟩::Dz 1 (E.map nI)) 1 (D4 0 2 (E.map nI)) (.int .i64 (j:Int))=some (.rptr 2 E.length j 0):=by
   intro I;rw[R6 _ _ _ ac,QA _ _ ac,Bc,qd];exact b6
  have U:∀ I:List Int,Fy (⟨true,1,I.map nI,false⟩::⟨false,1,DM x,false⟩::Dz 1 (E.map nI)) 1 false (.rptr 2 E.length j 0)=some (.int .i64 n):=by
   intro I;rw[QA _ _ ac,wb];exact b7
  rw[b5,ad,Ng]at hn
  by_cases b1:n≤(i:Int)
  ·rw[if_pos (.inl b1)]at hn;simp (disch:=first|omega|decide) only[push_cast,↓reduceIte,CI,V,U,  b1];exact Y hn.symm _ _ rfl rfl
  ·by_cases b2:(c.length:Int)≤n
   ·rw[if_pos (.inr (.inl b2))]at hn;simp (disch:=first|omega|decide) only[push_cast,↓reduceIte,CI,V,U,  b1,b2];exact Y hn.symm _ _ rfl rfl
   ·have af:=bk I false 0 c.length n M.1 (by omega) (by omega);have ah:=mH I false c.length n.toNat M.1 (by omega);have cg:=M.2 _ (wZ (x:=I) (i:=n.toNat) (by rw[M.1]; omega));have hs:=rN I c.length n.toNat after M.1 (by omega)
    by_cases b3:0≤Ec I n.toNat
    ·by_cases b4:Ec I n.toNat=after
     ·have b9:(Ec I n.toNat=after)=True:=eq_true b4;rw[if_neg (by unfold Sc; omega)]at hn;simp (disch:=first|omega|decide) only[push_cast,↓reduceIte,CI,V,U,  b1,b2,af,ah,b3,b9,jb,hs,DK,↓hR,↓ab,hB];refine EV (j+1,I.set n.toNat after) ⟨by dsimp only; omega,sM M _ a1 a2,hn⟩ (by dsimp only; omega) ?_;rfl
     ·rw[if_pos (.inr (.inr ⟨b3,b4⟩))]at hn;simp (disch:=first|omega|decide) only[push_cast,↓reduceIte,CI,V,U,  b1,b2,af,ah,b3,b4];exact Y hn.symm _ _ rfl rfl
    ·rw[if_neg (by unfold Sc; omega)]at hn;simp (disch:=first|omega|decide) only[push_cast,↓reduceIte,CI,V,U,  b1,b2,af,ah,b3,jb,hs,DK,↓hR,↓ab,hB];refine EV (j+1,I.set n.toNat after) ⟨by dsimp only; omega,sM M _ a1 a2,hn⟩ (by dsimp only; omega) ?_;rfl
 ·obtain rfl:j=E.length:=by omega
  rw[Bf,Ng]at hn;simp (disch:=first|omega|decide) only[push_cast];exact a8 I hn.symm M _ rfl rfl rfl rfl rfl rfl
noncomputable def Se:List D→Option D:=Dl (α:=List Ins) (fun a=>[.slc (nz 3 (a.map Da)) (a.map Da) false]) (fun a=>a.length≤9223372036854775807) (fun a=>.tup [.int .i64 (E9 a).1,.int .i64 (E9 a).2])
theorem Yo(c:List Ins)(h:c.length≤9223372036854775807):Se [.slc (nz 3 (c.map Da)) (c.map Da) false]=some (.tup [.int .i64 (E9 c).1,.int .i64 (E9 c).2]):=
 D5 (fun a b h=>by simp only[Aa,D.slc.injEq,and_true,Ko]at h; simp[h]) (c) h
set_option maxHeartbeats 4000000 in
set_option maxRecDepth 20000 in
theorem YAg(c:List Ins)(h:c.length≤9223372036854775807):@wW GG (tb [(101,OE)] [(97,Oq),(100,Ot)]) ZV.code (Dc [.slc (nz 3 (c.map Da)) (c.map Da) false]) [] ⟨Dp ZV.res (.tup [.int .i64 (E9 c).1,.int .i64 (E9 c).2])⟩:=by
 unfold ZV
 by_cases h1:4096<c.length
 ·rw[show E9 c=(0,2)from if_pos h1];simp (disch:=first|omega|decide) only[push_cast,↓reduceIte,CI,CN,show((4096:Int)<(c.length:Int)) by omega]
 by_cases h2:c.length=0
 ·rw[show E9 c=(0,200) by unfold E9; rw[if_neg h1,if_pos (.inl h2)]];simp (disch:=first|omega|decide) only[push_cast,↓reduceIte,CI,CT,CN,show ¬ ((4096:Int)<(c.length:Int)) by omega,show((c.length:Int)=0) by omega]
 have bh:=Yqb c h;have h3:¬ ((4096:Int)<(c.length:Int)):=by omega
 have h4:¬ ((c.length:Int)=0):=by omega
 cases a8:c.all Gv with
 |false=>
  rw[a8]at bh;rw[show E9 c=(0,200) by unfold E9; rw[if_neg h1,if_pos (.inr a8)]];simp (disch:=first|omega|decide) only[push_cast,↓reduceIte,CI,CN,h3,h4,bh]
 |true=>
  rw[a8]at bh;rw[show E9 c=LV (Gk c.length c 0 (GY c.length) 0) by unfold E9; rw[if_neg h1,if_neg (by rw[a8]; simp[h2])]];have ca:=Yp1 c.length (-1) ⟨by omega,by omega⟩;have cb:Qu (some ⟨true,1,(CQ c.length (-1)).map nI,false⟩) 1 0 c.length 0 c.length 0=some (.rptr 0 c.length 0 0):=bk _ false 0 c.length 0 (by simp) (by omega) (by omega);have hs0:Nm (some ⟨true,1,(CQ c.length (-1)).map nI,false⟩) c.length 0 0=some ⟨true,1,(GY c.length).map nI,false⟩:=rN _ c.length 0 0 (by simp) (by omega);simp (disch:=first|omega|decide) only[push_cast,↓reduceIte,CI,CN,h3,h4,bh,F9,ca,cb,jb,hs0]
  refine FQ (fun p:Nat×List Int×Int=>[(0,.slc (nz 3 (c.map Da)) (c.map Da) false),(2,.int .i64 p.2.2),(4,.row 0 c.length 0 c.length),(30,.slc (nz 3 (c.map Da)) (c.map Da) false),(31,.int .i64 (c.length:Int)),(32,.int .i64 (p.1:Int))])
   (fun p=>[⟨true,1,p.2.1.map nI,false⟩]) (fun p=>p.1≤c.length∧Rl c.length p.1 p.2.1∧LV (Gk c.length (c.drop p.1) p.1 p.2.1 p.2.2)=LV (Gk c.length c 0 (GY c.length) 0)) (fun p=>c.length - p.1) (0,GY c.length,0)
   (by simp only[push_cast,↓reduceIte,CI,CO,CM,CN] <;> rfl) ⟨A2 _,?_,rfl⟩ ?_
  ·refine⟨by simp[GY],fun y hy=>?_⟩;rcases BW hy with hy | rfl
   ·grind
   ·omega
  rintro⟨i,dep,s⟩ ⟨hi,ah,hv⟩;dsimp only at hi ah hv;unfold oh;simp (disch:=first|omega|decide) only[push_cast,↓reduceIte,CI];refine EU (fun h5=>?_) (fun h5=>?_)
  ·have a0:i<c.length:=by omega
   have bc:c.length≤4096:=by omega
   have a1:Rl c.length ((i:Int)+1) dep:=⟨ah.1,fun y hy=>⟨(ah.2 y hy).1,by have:=(ah.2 y hy).2; omega⟩⟩;have hx:=fun st=>Vm st c false i a0;have b6:=Yu c a0;obtain⟨x,cc⟩:∃ x,c.getD i default=x:=⟨_,rfl⟩;rw[cc]at hx b6;rw[b6,Gk]at hv;have J:Qu (some ⟨true,1,dep.map nI,false⟩) 1 0 c.length 0 c.length (i:Int)=some (.rptr 0 c.length i 0):=bk dep false 0 c.length i a1.1 (by omega) (by omega);have M:=mH dep false c.length i a1.1 a0;have c0:=ah.2 _ (wZ (x:=dep) (i:=i) (by rw[ah.1]; omega));have he:=Yig x.op;have c1:=yZ2 x.op
   by_cases h0:Ec dep i<0
   ·rw[if_pos h0]at hv;simp (disch:=first|omega|decide) only[push_cast,↓reduceIte,CI,CO,CM,CJ,hx,KV,LB,NQ,J,M,h0,DK];refine EV (i+1,dep,s) ⟨by dsimp only; omega,a1,hv⟩ (by dsimp only; omega) ?_;rfl
   rw[if_neg h0]at hv;have bd:Gi x (Ec dep i)=Ec dep i - (En x.op).1+(En x.op).2:=rfl
   by_cases E:Ec dep i<(En x.op).1
   ·rw[if_pos (.inl E)]at hv;simp (disch:=first|omega|decide) only[push_cast,↓reduceIte,CI,hx,KV,LB,NQ,J,M,h0,Gw,he,Fq,DK,E];rw[← hv];rfl
   have cd:(Ec dep i<(En x.op).1)=False:=eq_false E
   by_cases a5:x.op=15
   ·have U:(x.op=15)=True:=eq_true a5;have a2:(x.op=14)=False:=eq_false (by omega);have V:(x.op=13)=False:=eq_false (by omega);have cf:En x.op=(1,0):=by rw[a5]; rfl
    by_cases hd:Ec dep i=1
    ·have ed:(Ec dep i=1)=True:=eq_true hd;have a3:(x.op=16)=False:=eq_false (by omega);have c2:¬ Ec dep i<(En x.op).1:=E;have Y:K4 x (i:Int)=[]:=by simp[K4,a5]
     have I:¬ Kc x (Ec dep i):=by unfold Kc; omega
     rw[if_neg I,Y]at hv;simp (disch:=first|omega|decide) only[push_cast,↓reduceIte,CI,hx,KV,LB,NQ,J,M,h0,Gw,he,Fq,DK,E,U,a2,V,a3,ed,bd.symm];have hl:=VA (tb [(101,OE)] [(97,Oq),(100,Ot)]) c x i a0 bc (max (max s (Ec dep i)) (Gi x (Ec dep i))) (Gi x (Ec dep i)) (by omega) (by omega) [] (by simp) dep a1;refine hl _ _ rfl rfl rfl rfl rfl rfl rfl rfl rfl rfl rfl (fun hn aa st' g2 g3=>?_) (fun dp hn ab aa g0 g2 g4 ac ad ae=>?_)
     ·rw[hn]at hv;have af:((0,200):Int×Int)=LV (Gk c.length c 0 (GY c.length) 0):=hv;simp (disch:=first|omega|decide) only[push_cast,g2,g3];rw[← af]
     ·rw[hn]at hv;simp (disch:=first|omega|decide) only[push_cast,↓reduceIte,CI,ae,DK];refine EV (i+1,dp,max (max s (Ec dep i)) (Gi x (Ec dep i))) ⟨by dsimp only; omega,ab,hv⟩ (by dsimp only; omega) ?_;simp only[push_cast,↓reduceIte,CO,CM,g0,g2,g4,ac,ad] <;> rfl
    ·have ed:(Ec dep i=1)=False:=eq_false hd;rw[if_pos (.inr (.inl ⟨a5,hd⟩))]at hv;simp (disch:=first|omega|decide) only[push_cast,↓reduceIte,CI,hx,KV,LB,NQ,J,M,h0,Gw,he,Fq,DK,E,U,ed];rw[← hv];rfl
   by_cases a7:x.op=16
   ·have a3:(x.op=16)=True:=eq_true a7;have U:(x.op=15)=False:=eq_false a5;have a2:(x.op=14)=False:=eq_false (by omega);have V:(x.op=13)=False:=eq_false (by omega);have cg:En x.op=(0,0):=by rw[a7]; rfl
    by_cases hd:Ec dep i=0
    ·have ed:(Ec dep i=0)=True:=eq_true hd;have Y:K4 x (i:Int)=[]:=by simp[K4,a7]
     have I:¬ Kc x (Ec dep i):=by unfold Kc; omega
     rw[if_neg I,Y]at hv;simp (disch:=first|omega|decide) only[push_cast,↓reduceIte,CI,hx,KV,LB,NQ,J,M,h0,Gw,he,Fq,DK,E,U,a2,V,a3,ed,bd.symm];have hl:=VA (tb [(101,OE)] [(97,Oq),(100,Ot)]) c x i a0 bc (max (max s (Ec dep i)) (Gi x (Ec dep i))) (Gi x (Ec dep i)) (by omega) (by omega) [] (by simp) dep a1;refine hl _ _ rfl rfl rfl rfl rfl rfl rfl rfl rfl rfl rfl (fun hn aa st' g2 g3=>?_) (fun dp hn ab aa g0 g2 g4 ac ad ae=>?_)
     ·rw[hn]at hv;have af:((0,200):Int×Int)=LV (Gk c.length c 0 (GY c.length) 0):=hv;simp (disch:=first|omega|decide) only[push_cast,g2,g3];rw[← af]
     ·rw[hn]at hv;simp (disch:=first|omega|decide) only[push_cast,↓reduceIte,CI,ae,DK];refine EV (i+1,dp,max (max s (Ec dep i)) (Gi x (Ec dep i))) ⟨by dsimp only; omega,ab,hv⟩ (by dsimp only; omega) ?_;simp only[push_cast,↓reduceIte,CO,CM,g0,g2,g4,ac,ad] <;> rfl
    ·have ed:(Ec dep i=0)=False:=eq_false hd;rw[if_pos (.inr (.inr ⟨a7,hd⟩))]at hv;simp (disch:=first|omega|decide) only[push_cast,↓reduceIte,CI,hx,KV,LB,NQ,J,M,h0,Gw,he,Fq,DK,E,U,a3,ed];rw[← hv];rfl
   have U:(x.op=15)=False:=eq_false a5;have a3:(x.op=16)=False:=eq_false a7
   by_cases b1:x.op=14
   ·have a2:(x.op=14)=True:=eq_true b1;have V:(x.op=13)=False:=eq_false (by omega);have Y:K4 x (i:Int)=[x.n]:=by simp[K4,b1]
    have I:¬ Kc x (Ec dep i):=by unfold Kc; omega
    rw[if_neg I,Y]at hv;have be:Ek [⟨true,1,dep.map nI,false⟩,⟨false,1,DM x,false⟩] 1 8 (.slc 0 [] true) (.slc 1 [.int .i64 x.n] true)=some (.row 2 1 0 1,[⟨true,1,dep.map nI,false⟩,⟨false,1,DM x,false⟩,⟨true,1,[.int .i64 x.n],false⟩]):=(rfl);simp (disch:=first|omega|decide) only[push_cast,↓reduceIte,CI,↓CL,hx,KV,LB,NQ,J,M,h0,Gw,LA,he,Fq,DK,E,F9,U,a2,V,a3,bd.symm,be,wI];have hl:=VA (tb [(101,OE)] [(97,Oq),(100,Ot)]) c x i a0 bc (max (max s (Ec dep i)) (Gi x (Ec dep i))) (Gi x (Ec dep i)) (by omega) (by omega) [x.n] (by simp) dep a1;refine mj (st':=(⟨true,1,dep.map nI,false⟩::⟨false,1,DM x,false⟩::Dz 1 (([x.n]:List Int).map nI))) rfl ?_;refine hl _ _ rfl rfl rfl rfl rfl rfl rfl rfl rfl rfl rfl (fun hn aa st' g2 g3=>?_) (fun dp hn ab aa g0 g2 g4 ac ad ae=>?_)
    ·rw[hn]at hv;have af:((0,200):Int×Int)=LV (Gk c.length c 0 (GY c.length) 0):=hv;simp (disch:=first|omega|decide) only[push_cast,g2,g3];rw[← af]
    ·rw[hn]at hv;simp (disch:=first|omega|decide) only[push_cast,↓reduceIte,CI,ae,DK];refine EV (i+1,dp,max (max s (Ec dep i)) (Gi x (Ec dep i))) ⟨by dsimp only; omega,ab,hv⟩ (by dsimp only; omega) ?_;simp only[push_cast,↓reduceIte,CO,CM,g0,g2,g4,ac,ad] <;> rfl
   have a2:(x.op=14)=False:=eq_false b1
   by_cases b2:x.op=13
   ·have V:(x.op=13)=True:=eq_true b2;have Y:K4 x (i:Int)=[x.n,(i:Int)+1]:=by simp[K4,b2]
    have I:¬ Kc x (Ec dep i):=by unfold Kc; omega
    rw[if_neg I,Y]at hv;have be:Ek [⟨true,1,dep.map nI,false⟩,⟨false,1,DM x,false⟩] 1 8 (.slc 0 [] true) (.slc 1 [.int .i64 x.n] true)=some (.row 2 1 0 1,[⟨true,1,dep.map nI,false⟩,⟨false,1,DM x,false⟩,⟨true,1,[.int .i64 x.n],false⟩]):=(rfl);have ce:Ek [⟨true,1,dep.map nI,false⟩,⟨false,1,DM x,false⟩,⟨true,1,[.int .i64 x.n],false⟩] 1 8 (.row 2 1 0 1) (.slc 1 [.int .i64 ((i:Int)+1)] true)=some (.row 2 2 0 2,[⟨true,1,dep.map nI,false⟩,⟨false,1,DM x,false⟩,⟨true,1,[.int .i64 x.n,.int .i64 ((i:Int)+1)],false⟩]):=(rfl);simp (disch:=first|omega|decide) only[push_cast,↓reduceIte,CI,↓CL,hx,KV,LB,NQ,J,M,h0,Gw,LA,he,Fq,DK,E,F9,U,a2,V,a3,bd.symm,be,ce,li2];have hl:=VA (tb [(101,OE)] [(97,Oq),(100,Ot)]) c x i a0 bc (max (max s (Ec dep i)) (Gi x (Ec dep i))) (Gi x (Ec dep i)) (by omega) (by omega) [x.n,(i:Int)+1] (by simp) dep a1;refine mj (st':=(⟨true,1,dep.map nI,false⟩::⟨false,1,DM x,false⟩::Dz 1 (([x.n,(i:Int)+1]:List Int).map nI))) rfl ?_;refine hl _ _ rfl rfl rfl rfl rfl rfl rfl rfl rfl rfl rfl (fun hn aa st' g2 g3=>?_) (fun dp hn ab aa g0 g2 g4 ac ad ae=>?_)
    ·rw[hn]at hv;have af:((0,200):Int×Int)=LV (Gk c.length c 0 (GY c.length) 0):=hv;simp (disch:=first|omega|decide) only[push_cast,g2,g3];rw[← af]
    ·rw[hn]at hv;simp (disch:=first|omega|decide) only[push_cast,↓reduceIte,CI,ae,DK];refine EV (i+1,dp,max (max s (Ec dep i)) (Gi x (Ec dep i))) ⟨by dsimp only; omega,ab,hv⟩ (by dsimp only; omega) ?_;simp only[push_cast,↓reduceIte,CO,CM,g0,g2,g4,ac,ad] <;> rfl
   ·have V:(x.op=13)=False:=eq_false b2;have Y:K4 x (i:Int)=[(i:Int)+1]:=by simp[K4,b2,b1,a5,a7]
    have I:¬ Kc x (Ec dep i):=by unfold Kc; omega
    rw[if_neg I,Y]at hv;have be:Ek [⟨true,1,dep.map nI,false⟩,⟨false,1,DM x,false⟩] 1 8 (.slc 0 [] true) (.slc 1 [.int .i64 ((i:Int)+1)] true)=some (.row 2 1 0 1,[⟨true,1,dep.map nI,false⟩,⟨false,1,DM x,false⟩,⟨true,1,[.int .i64 ((i:Int)+1)],false⟩]):=(rfl);simp (disch:=first|omega|decide) only[push_cast,↓reduceIte,CI,↓CL,hx,KV,LB,NQ,J,M,h0,Gw,he,Fq,DK,E,F9,U,a2,V,a3,bd.symm,be,wI];have hl:=VA (tb [(101,OE)] [(97,Oq),(100,Ot)]) c x i a0 bc (max (max s (Ec dep i)) (Gi x (Ec dep i))) (Gi x (Ec dep i)) (by omega) (by omega) [(i:Int)+1] (by simp) dep a1;refine mj (st':=(⟨true,1,dep.map nI,false⟩::⟨false,1,DM x,false⟩::Dz 1 (([(i:Int)+1]:List Int).map nI))) rfl ?_;refine hl _ _ rfl rfl rfl rfl rfl rfl rfl rfl rfl rfl rfl (fun hn aa st' g2 g3=>?_) (fun dp hn ab aa g0 g2 g4 ac ad ae=>?_)
    ·rw[hn]at hv;have af:((0,200):Int×Int)=LV (Gk c.length c 0 (GY c.length) 0):=hv;simp (disch:=first|omega|decide) only[push_cast,g2,g3];rw[← af]
    ·rw[hn]at hv;simp (disch:=first|omega|decide) only[push_cast,↓reduceIte,CI,ae,DK];refine EV (i+1,dp,max (max s (Ec dep i)) (Gi x (Ec dep i))) ⟨by dsimp only; omega,ab,hv⟩ (by dsimp only; omega) ?_;simp only[push_cast,↓reduceIte,CO,CM,g0,g2,g4,ac,ad] <;> rfl
  ·obtain rfl:i=c.length:=by omega
   rw[Bf,Gk]at hv;rw[← hv]
   by_cases h6:64<s
   ·rw[show LV (some s)=(0,2)from if_pos h6];simp (disch:=first|omega|decide) only[push_cast,↓reduceIte,CI,h6]
   ·rw[show LV (some s)=(s,0)from if_neg h6];simp (disch:=first|omega|decide) only[push_cast,↓reduceIte,CI,h6]
set_option maxRecDepth 20000 in
theorem aT:Contract Tryz.prog GG 47 Se:=
 Ed (T:=tb [(101,OE)] [(97,Oq),(100,Ot)]) yB2 (DI (all_cons YFc all_nil) (all_cons YE6 (all_cons YE2 all_nil))) (fun a h=>YAg a h)
def EZ(v:Int×List Int)(p f t c:Int)(S:D)(b:Int):List D:=DY v++[.int .i64 p,.int .i64 f,.int .i64 t,.int .i64 c,S,.int .i64 b]
def Ew(v:Int×List Int):Prop:=v.2.length=16
variable {v:Int×List Int}
theorem HT(hv:Ew v):(DY v).length=17:=by simp[DY,show v.2.length=16 from hv]
section
variable {v:Int×List Int} (hv:Ew v) (lent:Bool) (p f t c:Int) (S:D) (b:Int)
include hv
theorem yy:DA (some ⟨false,1,EZ v p f t c S b,lent⟩) 1 false 17=some (.int .i64 p):=I5 (A:=DY v) rfl (HT hv)
theorem JD:DA (some ⟨false,1,EZ v p f t c S b,lent⟩) 1 false 21=some S:=I5 (A:=DY v++[.int .i64 p,.int .i64 f,.int .i64 t,.int .i64 c]) (by simp[EZ]; rfl) (by simp[HT hv])
theorem Ru:DA (some ⟨false,1,EZ v p f t c S b,lent⟩) 1 false 22=some (.int .i64 b):=I5 (A:=DY v++[.int .i64 p,.int .i64 f,.int .i64 t,.int .i64 c,S]) (C:=[]) (by simp[EZ]) (by simp[HT hv])
omit hv in
theorem ep:DA (some ⟨false,1,EZ v p f t c S b,lent⟩) 1 false 0=some (.int .i64 v.1):=I5 (A:=[]) (C:=v.2.map nI++[.int .i64 p,.int .i64 f,.int .i64 t,.int .i64 c,S,.int .i64 b]) (by simp[EZ,DY]) rfl
theorem WI(i:Nat)(h:i<16):DA (some ⟨false,1,EZ v p f t c S b,lent⟩) 1 false (1+i)=some (.int .i64 (Ec v.2 i)):=by
 have hi:i<v.2.length:=by rw[show v.2.length=16 from hv]; exact h
 have e:v.2=v.2.take i++(Ec v.2 i::v.2.drop (i+1)):=by
  rw[Ec,← Yu v.2 hi,Bk]
 refine I5 (A:=.int .i64 v.1::(v.2.take i).map nI) (C:=(v.2.drop (i+1)).map nI++[.int .i64 p,.int .i64 f,.int .i64 t,.int .i64 c,S,.int .i64 b]) ?_ (by simp; omega);have E:=congrArg (List.map nI) e;rw[Bh,Aw]at E;simp only[EZ,DY];rw[E];simp[nI]
theorem lZ:DA (some ⟨false,1,EZ v p f t c S b,lent⟩) 5 true 17=some (.agg [.int .i64 p,.int .i64 f,.int .i64 t,.int .i64 c,S]):=Mz (A:=DY v) (B:=[.int .i64 p,.int .i64 f,.int .i64 t,.int .i64 c,S]) (C:=[.int .i64 b]) (by simp[EZ]) (HT hv) rfl
theorem bL(p':Int):DR (some ⟨false,1,EZ v p f t c S b,false⟩) 1 17 (.int .i64 p')=some ⟨false,1,EZ v p' f t c S b,false⟩:=Km (A:=DY v) (B:=[.int .i64 p]) (C:=[.int .i64 f,.int .i64 t,.int .i64 c,S,.int .i64 b]) (xs:=[.int .i64 p']) rfl rfl (HT hv) rfl rfl rfl rfl
theorem YBg(t':Int):DR (some ⟨false,1,EZ v p f t c S b,false⟩) 1 19 (.int .i64 t')=some ⟨false,1,EZ v p f t' c S b,false⟩:=Km (A:=DY v++[.int .i64 p,.int .i64 f]) (B:=[.int .i64 t]) (C:=[.int .i64 c,S,.int .i64 b]) (xs:=[.int .i64 t']) (by simp[EZ]) (by simp[EZ]) (by simp[HT hv]) rfl rfl rfl rfl
theorem YBf(c':Int):DR (some ⟨false,1,EZ v p f t c S b,false⟩) 1 20 (.int .i64 c')=some ⟨false,1,EZ v p f t c' S b,false⟩:=Km (A:=DY v++[.int .i64 p,.int .i64 f,.int .i64 t]) (B:=[.int .i64 c]) (C:=[S,.int .i64 b]) (xs:=[.int .i64 c']) (by simp[EZ]) (by simp[EZ]) (by simp[HT hv]) rfl rfl rfl rfl
theorem Yuf(sz:Nat)(els:List D)(E:Bool):DR (some ⟨false,1,EZ v p f t c S b,false⟩) 1 21 (.slc sz els E)=some ⟨false,1,EZ v p f t c (.slc sz els E) b,false⟩:=Km (A:=DY v++[.int .i64 p,.int .i64 f,.int .i64 t,.int .i64 c]) (B:=[S]) (C:=[.int .i64 b]) (xs:=[.slc sz els E]) (by simp[EZ]) (by simp[EZ]) (by simp[HT hv]) rfl rfl rfl rfl
theorem Yug(k to of E:Nat):DR (some ⟨false,1,EZ v p f t c S b,false⟩) 1 21 (.row k to of E)=some ⟨false,1,EZ v p f t c (.row k to of E) b,false⟩:=Km (A:=DY v++[.int .i64 p,.int .i64 f,.int .i64 t,.int .i64 c]) (B:=[S]) (C:=[.int .i64 b]) (xs:=[.row k to of E]) (by simp[EZ]) (by simp[EZ]) (by simp[HT hv]) rfl rfl rfl rfl
end
variable {S:D}{b b' c' f f' p p' t t':Int}{v':Int×List Int}
theorem tt(hv:Ew v)(E:Ew v'){c:Int}{I:D}(h:EZ v p f t c S b=EZ v' p' f' t' c' I b'):v=v'∧p=p'∧f=f'∧t=t'∧c=c'∧S=I∧b=b':=by
 unfold EZ at h;obtain⟨M,J⟩:=A3 h ((HT hv).trans (HT E).symm);simp only[Aa,D.int.injEq,true_and,and_true]at J;refine⟨?_,J⟩;have:ED v=ED v':=by rw[ED,ED,M]
 exact J0.1 this
def DF(st:St)(key:Nat)(C:List D):St:=st.set key ⟨false,1,C,false⟩
theorem fE(st:St)(key:Nat)(C:List D):(DF st key C).length=st.length:=BS
variable {key:Nat}
theorem NY(h:key<st.length)(C:List D):(DF st key C)[key]?=some ⟨false,1,C,false⟩:=by simp[DF,h]
theorem I6(st:St)(key:Nat)(C:List D):List.set st key (⟨false,1,C,false⟩:PI.Obj)=DF st key C:=(rfl)
theorem L9(st:St)(key:Nat)(C E:List D):DF (DF st key C) key E=DF st key E:=by simp[DF]
theorem KX(h:key<st.length)(m:St)(C:List D):DF (st++m) key C=DF st key C++m:=by
 unfold DF; exact BU _ _ h
theorem H2(h:key<st.length)(m:St):(st++m)[key]?=st[key]?:=At h
theorem Sw(h:key<st.length)(C:List D)(m:St):(DF st key C++m)[key]?=some ⟨false,1,C,false⟩:=by
 rw[H2 (by rw[fE]; exact h),NY h]
theorem N2(h:key<st.length)(m:St)(C E:List D):DF (DF st key C++m) key E=DF st key E++m:=by
 rw[KX (by rw[fE]; exact h),L9]
theorem L0(st:St)(o:PI.Obj):(st++[o]).length=st.length+1:=by simp
def HG(st:St)(key:Nat)(v:Int×List Int)(p f t c:Int)(S:D)(b:Int):Prop:=st[key]?=some ⟨false,1,EZ v p f t c S b,false⟩
theorem MH{c:Int}(h:HG st key v p f t c S b):key<st.length:=(Ab.1 h).1
theorem Ra{c:Int}(h:HG st key v p f t c S b)(m:St):HG (st++m) key v p f t c S b:=by
 unfold HG; rw[H2 (MH h)]; exact h
theorem eT{c:Int}{I:D}(hv:Ew v)(J:Ew v')(h:HG st key v p f t c S b)(E:HG st key v' p' f' t' c' I b'):v=v'∧p=p'∧f=f'∧t=t'∧c=c'∧S=I∧b=b':=by
 unfold HG at h E;rw[h]at E;simp only[Db,PI.Obj.mk.injEq,true_and,and_true]at E;exact tt hv J E
theorem D6(st:St)(key off:Nat):lU st (.ptr key off)=some (.ptr key off):=(rfl)
def H6(l:List Int)(i:Nat):Int:=Ec l (l.length - 1 - i)
def Md(ds:List D)(os:List (Option (Bool×Nat×List D)))(d:D):Prop:=∃ (key:Nat) (v:Int×List Int) (p f t c:Int) (l:List Int) (b:Int) (i:Nat),Ew v∧i<l.length∧l.length≤4294967296∧ds=[.ptr key 0,.int .i64 (i:Int)]∧os=[some (false,1,EZ v p f t c (Ev l) b)]∧d=.int .i64 (H6 l i)
noncomputable def LX:List D→List (Option (Bool×Nat×List D))→Option D:=fun ds os=>@dite _ (∃ d,Md ds os d) (Classical.propDecidable _) (fun h=>some h.choose) (fun _=>none)
variable {d:D}{os:List (Option (Bool×Nat×List D))}{ds:List D}
theorem Yk1{E:D}(h:Md ds os d)(U:Md ds os E):d=E:=by
 obtain⟨key,v,p,f,t,c,l,b,i,hv,_,_,rfl,rfl,rfl⟩:=h;obtain⟨V,v',p',f',t',c',l',b',i',I,_,_,J,M,rfl⟩:=U;simp only[Aa,D.int.injEq,true_and,and_true,Int.ofNat_inj,Db,Dx]at J M;obtain⟨_,rfl⟩:=J;obtain⟨_,_,_,_,_,Y,_⟩:=tt hv I M;rw[SG.1 Y]
theorem Yb2(h:Md ds os d):LX ds os=some d:=by
 have E:∃ d,Md ds os d:=⟨d,h⟩;unfold LX;rw[dif_pos E,Yk1 E.choose_spec h]
theorem yXe(h:LX ds os=some d):Md ds os d:=by
 unfold LX at h
 split at h
 ·rename_i E;simp only[Db]at h;rw[← h]; exact E.choose_spec
 ·cases h
variable {l:List Int}
theorem cS{c:Int}(hv:Ew v)(h:HG st key v p f t c (Ev l) b)(i:Nat)(hi:i<l.length)(hl:l.length≤4294967296):I2 LX [.ptr key 0,.int .i64 (i:Int)] st=some (.int .i64 (H6 l i)):=by
 unfold I2;have e:([D.ptr key 0,.int .i64 (i:Int)]).flatMap hk=[key]:=rfl;unfold HG at h;rw[e];simp only[AY,Ct,BT,h,B4,if_true,Hn,Ae,PI.Obj.see];exact Yb2 ⟨key,v,p,f,t,c,l,b,i,hv,hi,hl,rfl,rfl,rfl⟩
theorem Yls{r:Bool×Nat×List D}(h:Hn st [key]=[some r]):∃ lent,st[key]?=some ⟨r.1,r.2.1,r.2.2,lent⟩:=by
 simp only[Hn,Aa,and_true]at h
 cases hk:st[key]? with
 |none=>simp[hk]at h
 |some o=>
  rw[hk]at h;simp only[Ae,Db,PI.Obj.see]at h;subst h;exact⟨o.lent,rfl⟩
set_option maxHeartbeats 4000000 in
set_option maxRecDepth 20000 in
theorem mz:IContract Tryz.prog GG 197 (fun ds st=>(I2 LX ds st).map (·,st)):=by
 refine Jv (T:=tb [] []) yvt (DI all_nil all_nil) ?_;intro ds st r I;simp only[DH]at I;obtain⟨d,E,rfl⟩:=I;unfold I2 at E
 split at E
 case isFalse=>cases E
 obtain⟨key,v,p,f,t,c,l,b,i,hv,hi,hl,rfl,J,rfl⟩:=yXe E;obtain⟨lent,hk⟩:=Yls J;dsimp only at hk
 have M:GM st 1 (Ev l) (.int .i64 ((l.length:Int) - 1 - (i:Int)))=some (.eptr (nI (H6 l i)) 0):=by
  have:=aZ st l false (l.length - 1 - i) (by omega);rw[show((l.length - 1 - i:Nat):Int)=(l.length:Int) - 1 - (i:Int) by omega]at this;exact this
 have hle:E3 st false (Ev l)=some (.int .i64 (l.length:Int)):=by simp[E3,Jz,Ev,Fb]
 unfold om;simp (disch:=first|omega|decide) only[push_cast,↓reduceIte,CI,CJ,D6,hk,JD hv,hle,Fq,M,bq]
def LO:Option Int→D
 |none=>.slc 0 [] true
 |some a=>.slc 1 [.int .i64 a] true
def Ku(n:Nat)(l:List Int)(k:Nat):Option Int→D
 |none=>.slc (nz 1 (l.map nI)) ((l.take (l.length - k)).map nI) true
 |some _=>.row n (l.length - k+1) 0 (l.length - k+1)
def IH(l:List Int)(k:Nat):Option Int→St
 |none=>[]
 |some a=>[⟨true,1,(l.take (l.length - k)++[a]).map nI,false⟩]
def Wm(ds:List D)(st:St)(r:D×St):Prop:=∃ (key:Nat) (v:Int×List Int) (p f t c:Int) (l:List Int) (b:Int) (k:Nat) (push:Option Int),Ew v∧HG st key v p f t c (Ev l) b∧k≤l.length∧l.length≤100000∧-1000000≤p∧p≤1000000∧
 ds=[.ptr key 0,.int .i64 (k:Int),LO push]∧r=(.int .i64 0,DF st key (EZ v (p+1) f t c (Ku st.length l k push) b)++IH l k push)
noncomputable def Pw:List D→St→Option (D×St):=FB Wm
theorem Ydi{a b:Option Int}(h:LO a=LO b):a=b:=by
 cases a <;> cases b <;> simp_all [LO]
theorem Yva:Ih Wm:=by
 rintro ds st r Y ⟨key,v,p,f,t,c,l,b,k,push,hv,hm,_,_,_,_,rfl,rfl⟩ ⟨M,v',p',f',t',c',l',b',k',J,E,I,_,_,_,_,h,rfl⟩;simp only[Aa,D.ptr.injEq,D.int.injEq,true_and,and_true,Int.ofNat_inj]at h;obtain⟨rfl,rfl,U⟩:=h;obtain rfl:=Ydi U;obtain⟨rfl,rfl,rfl,rfl,rfl,V,rfl⟩:=eT hv E hm I;rw[SG.1 V]
theorem Yp2{c:Int}(hv:Ew v)(hm:HG st key v p f t c (Ev l) b)(k:Nat)(E:Option Int)(hk:k≤l.length)(hl:l.length≤100000)(I:-1000000≤p)(J:p≤1000000) :
  Pw [.ptr key 0,.int .i64 (k:Int),LO E] st=some (.int .i64 0,DF st key (EZ v (p+1) f t c (Ku st.length l k E) b)++IH l k E):=
 LY Yva ⟨key,v,p,f,t,c,l,b,k,E,hv,hm,hk,hl,I,J,rfl,rfl⟩
set_option maxHeartbeats 4000000 in
set_option maxRecDepth 20000 in
theorem UX:IContract Tryz.prog GG 195 Pw:=by
 refine Jv (T:=tb [] []) yvu (DI all_nil all_nil) ?_;intro ds st r U;obtain⟨key,v,p,f,t,c,l,b,k,push,hv,hm,hk,hl,V,Y,rfl,rfl⟩:=Jd U;have E:=MH hm;unfold HG at hm;have hle:E3 st false (Ev l)=some (.int .i64 (l.length:Int)):=by simp[E3,Jz,Ev,Fb]
 have J:Hb st 1 (Ev l) none (some (.int .i64 ((l.length:Int) - (k:Int)))) (some (.int .i64 ((l.length:Int) - (k:Int))))=some (.slc (nz 1 (l.map nI)) ((l.take (l.length - k)).map nI) true):=by
  have:=YBu st l false (k:=l.length - k) (by omega);rwa [show((l.length - k:Nat):Int)=(l.length:Int) - (k:Int) by omega]at this
 have M:(l.take (l.length - k)).length=l.length - k:=by rw[AH]; omega
 unfold oj
 cases push with
 |none=>
  have I:Ek st 1 8 (.slc (nz 1 (l.map nI)) ((l.take (l.length - k)).map nI) true) (.slc 0 [] true)=some (.slc (nz 1 (l.map nI)) ((l.take (l.length - k)).map nI) true,st):=tX st 1 8 _ 0 _ true (by decide);simp (disch:=first|omega|decide) only[push_cast,↓reduceIte,CI,CJ,LO,D6,hm,JD hv,yy hv,hle,Fq,J,I,Yuf hv,bL hv,I6,NY E,L9,DK,Ku,IH]
 |some a=>
  have I:Ek st 1 8 (.slc (nz 1 (l.map nI)) ((l.take (l.length - k)).map nI) true) (.slc 1 [.int .i64 a] true)=some (.row st.length (l.length - k+1) 0 (l.length - k+1),st++[⟨true,1,(l.take (l.length - k)++[a]).map nI,false⟩]):=by
   have:=ri st 1 8 (nz 1 (l.map nI)) ((l.take (l.length - k)).map nI) (.slc 1 [.int .i64 a] true) [.int .i64 a] 1 rfl (.inl rfl) (by
    cases l with
    |nil=>right; simp
    |cons x r=>left; rfl) (by decide) (by simp) (by simp[M]; omega) (by simp[M]; omega)
   rw[this];simp[nI]
  simp (disch:=first|omega|decide) only[push_cast,↓reduceIte,CI,CJ,LO,D6,hm,JD hv,yy hv,hle,Fq,J,I,H2 E,Yug hv,bL hv,I6,KX E,Sw E,N2 E,DK,Ku,IH]
def Ea(op a b:Int):Int×Int:=
 if op=3 then HQ a b else if op=4 then HH a b else if op=5 then HJ a b else if op=6 then(min a b,0)else if op=7 then(max a b,0)else
 if op=8 then Et a b 8 else if op=9 then Et a b 9 else if op=10 then Et a b 10 else if op=11 then(if a<b then 1 else 0,0)else(0,0)
noncomputable def dF:List D→Option D:=Dl (α:=Bool) (fun a=>[.bool a]) (fun a=>True) (fun a=>.int .i64 (if a=true then 1 else 0))
theorem uG(x:Bool):dF [.bool x]=some (.int .i64 (if x=true then 1 else 0)):=
 D5 (fun a b h=>by simp only[Aa,D.bool.injEq,and_true]at h; simp[h]) (x) trivial
theorem Ys5(x:Bool):@wW GG (tb [] []) Zl.code (Dc [.bool x]) [] ⟨Dp Zl.res (.int .i64 (if x=true then 1 else 0))⟩:=by
 unfold Zl;cases x <;> simp (disch:=first|omega|decide) only[push_cast,↓reduceIte,CI]
theorem yQ:Contract Tryz.prog GG 196 dF:=
 Ed yLr (DI all_nil all_nil) (fun a h=>Ys5 a)
noncomputable def cI:List D→Option D:=Dl (α:=Int×Int) (fun a=>[.int .i64 a.1,.int .i64 a.2]) (fun a=>True) (fun a=>.tup [.int .i64 (min a.1 a.2),.int .i64 0])
theorem Yiq(a:Int)(b:Int):cI [.int .i64 a,.int .i64 b]=some (.tup [.int .i64 (min a b),.int .i64 0]):=
 D5 (fun⟨a0,a1⟩ ⟨b0,b1⟩ h=>by simp only[Aa,D.int.injEq,true_and,and_true]at h; simp[h]) (a,b) trivial
theorem YAu(a:Int)(b:Int):@wW GG (tb [] []) aq.code (Dc [.int .i64 a,.int .i64 b]) [] ⟨Dp aq.res (.tup [.int .i64 (min a b),.int .i64 0])⟩:=by
 unfold aq;simp (disch:=first|omega|decide) only[push_cast,↓reduceIte,CI]
theorem YFl:Contract Tryz.prog GG 234 cI:=
 Ed yx4 (DI all_nil all_nil) (fun a h=>YAu a.1 a.2)
noncomputable def cJ:List D→Option D:=Dl (α:=Int×Int) (fun a=>[.int .i64 a.1,.int .i64 a.2]) (fun a=>True) (fun a=>.tup [.int .i64 (max a.1 a.2),.int .i64 0])
theorem Yip(a:Int)(b:Int):cJ [.int .i64 a,.int .i64 b]=some (.tup [.int .i64 (max a b),.int .i64 0]):=
 D5 (fun⟨a0,a1⟩ ⟨b0,b1⟩ h=>by simp only[Aa,D.int.injEq,true_and,and_true]at h; simp[h]) (a,b) trivial
theorem YAt(a:Int)(b:Int):@wW GG (tb [] []) ar.code (Dc [.int .i64 a,.int .i64 b]) [] ⟨Dp ar.res (.tup [.int .i64 (max a b),.int .i64 0])⟩:=by
 unfold ar;simp (disch:=first|omega|decide) only[push_cast,↓reduceIte,CI]
theorem YFk:Contract Tryz.prog GG 235 cJ:=
 Ed yx3 (DI all_nil all_nil) (fun a h=>YAt a.1 a.2)
noncomputable def cK:List D→Option D:=Dl (α:=Int×Int) (fun a=>[.int .i64 a.1,.int .i64 a.2]) (fun a=>True) (fun a=>.tup [.int .i64 (Et a.1 a.2 8).1,.int .i64 (Et a.1 a.2 8).2])
theorem Yio(a:Int)(b:Int):cK [.int .i64 a,.int .i64 b]=some (.tup [.int .i64 (Et a b 8).1,.int .i64 (Et a b 8).2]):=
 D5 (fun⟨a0,a1⟩ ⟨b0,b1⟩ h=>by simp only[Aa,D.int.injEq,true_and,and_true]at h; simp[h]) (a,b) trivial
theorem YAs(a:Int)(b:Int):@wW GG (tb [(237,T3)] []) au.code (Dc [.int .i64 a,.int .i64 b]) [] ⟨Dp au.res (.tup [.int .i64 (Et a b 8).1,.int .i64 (Et a b 8).2])⟩:=by
 unfold au;simp (disch:=first|omega|decide) only[push_cast,↓reduceIte,CI,eZ a b 8 (.inl rfl)]
theorem YFj:Contract Tryz.prog GG 236 cK:=
 Ed yx2 (DI (all_cons gh all_nil) all_nil) (fun a h=>YAs a.1 a.2)
noncomputable def cL:List D→Option D:=Dl (α:=Int×Int) (fun a=>[.int .i64 a.1,.int .i64 a.2]) (fun a=>True) (fun a=>.tup [.int .i64 (Et a.1 a.2 9).1,.int .i64 (Et a.1 a.2 9).2])
theorem Yin(a:Int)(b:Int):cL [.int .i64 a,.int .i64 b]=some (.tup [.int .i64 (Et a b 9).1,.int .i64 (Et a b 9).2]):=
 D5 (fun⟨a0,a1⟩ ⟨b0,b1⟩ h=>by simp only[Aa,D.int.injEq,true_and,and_true]at h; simp[h]) (a,b) trivial
theorem YAr(a:Int)(b:Int):@wW GG (tb [(237,T3)] []) aw.code (Dc [.int .i64 a,.int .i64 b]) [] ⟨Dp aw.res (.tup [.int .i64 (Et a b 9).1,.int .i64 (Et a b 9).2])⟩:=by
 unfold aw;simp (disch:=first|omega|decide) only[push_cast,↓reduceIte,CI,eZ a b 9 (.inr (.inl rfl))]
theorem YFi:Contract Tryz.prog GG 238 cL:=
 Ed yx1 (DI (all_cons gh all_nil) all_nil) (fun a h=>YAr a.1 a.2)
noncomputable def cM:List D→Option D:=Dl (α:=Int×Int) (fun a=>[.int .i64 a.1,.int .i64 a.2]) (fun a=>True) (fun a=>.tup [.int .i64 (Et a.1 a.2 10).1,.int .i64 (Et a.1 a.2 10).2])
theorem Yim(a:Int)(b:Int):cM [.int .i64 a,.int .i64 b]=some (.tup [.int .i64 (Et a b 10).1,.int .i64 (Et a b 10).2]):=
 D5 (fun⟨a0,a1⟩ ⟨b0,b1⟩ h=>by simp only[Aa,D.int.injEq,true_and,and_true]at h; simp[h]) (a,b) trivial
theorem YAq(a:Int)(b:Int):@wW GG (tb [(237,T3)] []) ax.code (Dc [.int .i64 a,.int .i64 b]) [] ⟨Dp ax.res (.tup [.int .i64 (Et a b 10).1,.int .i64 (Et a b 10).2])⟩:=by
 unfold ax;simp (disch:=first|omega|decide) only[push_cast,↓reduceIte,CI,eZ a b 10 (.inr (.inr rfl))]
theorem YFh:Contract Tryz.prog GG 239 cM:=
 Ed yx0 (DI (all_cons gh all_nil) all_nil) (fun a h=>YAq a.1 a.2)
noncomputable def cN:List D→Option D:=Dl (α:=Int×Int) (fun a=>[.int .i64 a.1,.int .i64 a.2]) (fun a=>True) (fun a=>.tup [.int .i64 (if a.1<a.2 then 1 else 0),.int .i64 0])
theorem Yil(a:Int)(b:Int):cN [.int .i64 a,.int .i64 b]=some (.tup [.int .i64 (if a<b then 1 else 0),.int .i64 0]):=
 D5 (fun⟨a0,a1⟩ ⟨b0,b1⟩ h=>by simp only[Aa,D.int.injEq,true_and,and_true]at h; simp[h]) (a,b) trivial
theorem YAp(a:Int)(b:Int):@wW GG (tb [(196,dF)] []) ay.code (Dc [.int .i64 a,.int .i64 b]) [] ⟨Dp ay.res (.tup [.int .i64 (if a<b then 1 else 0),.int .i64 0])⟩:=by
 unfold ay;have hc:=uG (decide (a<b))
 by_cases h:a<b
 ·rw[decide_eq_true h]at hc;simp (disch:=first|omega|decide) only[push_cast,↓reduceIte,CI,h,hc]
 ·rw[decide_eq_false h]at hc;simp (disch:=first|omega|decide) only[push_cast,↓reduceIte,CI,h,hc]
theorem YFg:Contract Tryz.prog GG 240 cN:=
 Ed yxz (DI (all_cons yQ all_nil) all_nil) (fun a h=>YAp a.1 a.2)
theorem OP{sp:List D→Option D}{x y:Int}(h:sp [.int .i64 a,.int .i64 b]=some (.tup [.int .i64 x,.int .i64 y]))(st:St):I1 sp [.int .i64 a,.int .i64 b] st=some (.tup [.int .i64 x,.int .i64 y],st):=by
 have E:Em st [.int .i64 a,.int .i64 b]=some [.int .i64 a,.int .i64 b]:=(rfl);simp only[I1,E,h];rfl
def Gd(op:Int):Int:=if op=12∨op=13∨op=15 then 1 else if 3≤op∧op≤11 then 2 else 0
theorem YEh(op:Int)(h:3≤op∧op≤11):∃ f,Gg op Fm=some f:=by
 obtain⟨E,I⟩:=h;have:op=3∨op=4∨op=5∨op=6∨op=7∨op=8∨op=9∨op=10∨op=11:=by omega
 rcases this with rfl | rfl | rfl | rfl | rfl | rfl | rfl | rfl | rfl <;> exact⟨_,rfl⟩
theorem Yxr(op:Int)(h:¬ (3≤op∧op≤11)):Gg op Fm=none:=by
 simp only[Fm,Gg];rw[if_neg (by omega),if_neg (by omega),if_neg (by omega),if_neg (by omega),if_neg (by omega),if_neg (by omega),if_neg (by omega),if_neg (by omega),if_neg (by omega)]
theorem jr(st:St)(op:Int)(ok:Bool)(E:D):Js st 0 [] ok E (.gmap Fm) (.int .i64 op)=some (match Gg op Fm with
  |some f=>if ok then .tup [.agg [.clo f []],.bool true]else .agg [.clo f []]
  |none=>if ok then .tup [E,.bool false]else E):=(rfl)
theorem w8:DG (.agg [.nilf])=some [.nilf]:=(rfl)
theorem V7(f:Nat):DR (some ⟨false,1,[.nilf],false⟩) 1 0 (.agg [.clo f []])=some ⟨false,1,[.clo f []],false⟩:=(rfl)
theorem V6:DR (some ⟨false,1,[.nilf],false⟩) 1 0 (.agg [.nilf])=some ⟨false,1,[.nilf],false⟩:=(rfl)
theorem J8(st:St):Fy st 1 false (.eptr (.gmap Fm) 0)=some (.gmap Fm):=(rfl)
noncomputable def dB:List D→Option D:=Dl (α:=Int) (fun a=>[.int .i64 a]) (fun a=>True) (fun a=>.int .i64 (Gd a))
theorem uC(op:Int):dB [.int .i64 op]=some (.int .i64 (Gd op)):=
 D5 (fun a b h=>by simp only[Aa,D.int.injEq,true_and,and_true]at h; simp[h]) (op) trivial
theorem Yta(op:Int):@wW GG (tb [] []) Zc.code (Dc [.int .i64 op]) [] ⟨Dp Zc.res (.int .i64 (Gd op))⟩:=by
 unfold Zc Gd
 by_cases E:op=12
 ·subst E; simp (disch:=first|omega|decide) only[push_cast,↓reduceIte,CI,true_or]
 ·by_cases J:op=13
  ·subst J; simp (disch:=first|omega|decide) only[push_cast,↓reduceIte,CI,E,true_or,or_true]
  ·by_cases U:op=15
   ·subst U; simp (disch:=first|omega|decide) only[push_cast,↓reduceIte,CI,E,J,or_true]
   ·have hn:¬ (op=12∨op=13∨op=15):=by omega
    rw[if_neg hn]
    by_cases M:3≤op∧op≤11
    ·obtain⟨f,hf⟩:=YEh op M;have I:=jr [] op true (.agg [.nilf]);rw[hf]at I;simp (disch:=first|omega|decide) only[push_cast,↓reduceIte,CI,E,J,U,M,JV _ _ _ _ GF,J8,I,w8,V7]
    ·have hf:=Yxr op M;have I:=jr [] op true (.agg [.nilf]);rw[hf]at I;simp (disch:=first|omega|decide) only[push_cast,↓reduceIte,CI,E,J,U,M,JV _ _ _ _ GF,J8,I,w8,V6]
theorem zb:Contract Tryz.prog GG 109 dB:=
 Ed yLt (DI all_nil all_nil) (fun a h=>Yta a)
inductive Out where
 |err (e:Int)
 |pop (k:Nat) (push:Option Int) (pc:Option Int)
 |set (p t c:Int)
def Pk(a b:Int):Int:=IntKind.wrap .i64 ((CR 64 a &&& CR 64 b).toNat:Int)
def Mn(n:Int):Int:=IntKind.wrap .i64 (1*2 ^ (min n.toNat 64))
def Dd(s:Sta)(i:Nat):Int:=H6 s.stack i
def DO(v:Int×List Int)(b:Int)(s:Sta)(x:Ins):Out:=
 if x.op=1 then(if 64≤b+s.stack.length then .err 200 else .pop 0 (some x.n) none)
 else if x.op=2 then(if 64≤b+s.stack.length then .err 200 else if Pk v.1 (Mn x.n)=0 then .err 181 else if Ec v.2 x.n.toNat < -9007199254740992∨9007199254740992<Ec v.2 x.n.toNat then .err 3 else .pop 0 (some (Ec v.2 x.n.toNat)) none)
 else if x.op=12 then .pop 1 (some (if x.n≤Dd s 0∧Dd s 0≤x.m then 1 else 0)) none
 else if x.op=13 then .pop 1 none (if Dd s 0=0 then some x.n else none)
 else if x.op=14 then .set x.n s.status s.clause
 else if x.op=15 then .set s.pc 1 x.n
 else if x.op=16 then .err 180
 else if(Ea x.op (Dd s 1) (Dd s 0)).2=0 then .pop 2 (some (Ea x.op (Dd s 1) (Dd s 0)).1) none else .err (Ea x.op (Dd s 1) (Dd s 0)).2
def Eg(st:St)(key:Nat)(v:Int×List Int)(b:Int)(s:Sta)(x:Ins):Out→D×St
 |.err e=>(.int .i64 e,st++[⟨false,1,DM x,false⟩])
 |.pop k push pc=>(.int .i64 0,DF st key (EZ v (pc.getD (s.pc+1)) s.fuel s.status s.clause (Ku (st.length+1) s.stack k push) b)++[⟨false,1,DM x,false⟩]++IH s.stack k push)
 |.set p t c=>(.int .i64 0,DF st key (EZ v p s.fuel t c (Ev s.stack) b)++[⟨false,1,DM x,false⟩])
structure mOK (v:Int×List Int) (b:Int) (s:Sta) (x:Ins):Prop where
 v:Ew v
 b0:0≤b
 b1:b≤64
 l:s.stack.length≤64
 p0:0≤s.pc
 p1:s.pc≤100000
 f:Gv x=true
 n:Gd x.op≤s.stack.length
def WB(P:Int→Prop)(ds:List D)(st:St)(r:D×St):Prop:=∃ (key:Nat) (v:Int×List Int) (b:Int) (s:Sta) (x:Ins),mOK v b s x∧P x.op∧HG st key v s.pc s.fuel s.status s.clause (Ev s.stack) b∧ds=[.ptr key 0,Da x]∧r=Eg st key v b s x (DO v b s x)
noncomputable def JY(P:Int→Prop):List D→St→Option (D×St):=FB (WB P)
theorem Yvr(P:Int→Prop):Ih (WB P):=by
 rintro ds st r r' ⟨key,v,b,s,x,hm,_,hk,rfl,rfl⟩ ⟨aa,v',b',s',x',E,_,I,h,rfl⟩;simp only[Aa,D.ptr.injEq,and_true,Sr]at h;obtain⟨rfl,rfl⟩:=h;obtain⟨rfl,J,M,U,V,h5,rfl⟩:=eT hm.v E.v hk I;have Y:=SG.1 h5;obtain⟨a1,a2,a3,a4,a5⟩:=s;obtain⟨b1,b2,b3,b4,b5⟩:=s';dsimp only at J M U V Y;subst J; subst M; subst U; subst V; subst Y;rfl
variable {x:Ins}{s:Sta}
theorem Yp3{P:Int→Prop}(hm:mOK v b s x)(E:P x.op)(hk:HG st key v s.pc s.fuel s.status s.clause (Ev s.stack) b):JY P [.ptr key 0,Da x] st=some (Eg st key v b s x (DO v b s x)):=
 LY (Yvr P) ⟨key,v,b,s,x,hm,E,hk,rfl,rfl⟩
theorem p7(h:Gv x=true):0≤x.n∧x.n≤9007199254740992∧(x.op=2→x.n<16):=by
 have:=of_decide_eq_true h;obtain⟨J,M,U,V,Y,E⟩:=this;have hm:(JT x.op).2≤9007199254740992:=by rcases vz x.op with e | e | e | e <;> rw[e] <;> decide
 refine⟨by omega,by omega,fun I=>?_⟩;have:JT x.op=(1,15):=by rw[I]; rfl
 rw[this]at E;dsimp only at E;omega
theorem Ygv(h:Gv x=true):1≤x.op∧x.op≤16:=⟨(of_decide_eq_true h).1,(of_decide_eq_true h).2.1⟩
theorem bR(a b:Int):Ds .and (.int .i64 a) (.int .i64 b)=some (.int .i64 (Pk a b)):=(rfl)
theorem Ya{n:Int}(h:0≤n):Ds .shl (.int .i64 1) (.int .i64 n)=some (.int .i64 (Mn n)):=by
 simp only[Ds,Mu,show ¬ n<0 by omega,if_false,Ae,Mn];rfl
theorem It(st:St)(l:List Int):E3 st false (Ev l)=some (.int .i64 (l.length:Int)):=by simp[E3,Jz,Ev,Fb]
theorem Ug{c:Int}(hv:Ew v)(hm:HG st key v p f t c (Ev l) b)(x:Ins)(k:Nat)(I:Int)(J:I=(k:Int))(E:Option Int)(hk:k≤l.length)(hl:l.length≤64)(M:0≤p)(U:p≤100000) :
  Pw [.ptr key 0,.int .i64 I,LO E] (st++[⟨false,1,DM x,false⟩])=some (.int .i64 0,DF st key (EZ v (p+1) f t c (Ku (st.length+1) l k E) b)++[⟨false,1,DM x,false⟩]++IH l k E):=by
 subst J;have:=Yp2 hv (Ra hm [⟨false,1,DM x,false⟩]) k E hk (by omega) (by omega) (by omega);rwa [KX (MH hm),L0]at this
theorem Yyn:IContract Tryz.prog GG 177 (JY (·=1)):=by
 refine Jv (T:=tb [] [(195,Pw)]) yul (DI all_nil (all_cons UX all_nil)) ?_;intro ds st r hr;obtain⟨key,v,b,s,x,hm,J,hk,rfl,rfl⟩:=Jd hr;obtain⟨hv,ab,ac,hl,V,Y,hf,hn⟩:=hm;have M:=MH hk;have U:=Ug hv hk x 0 0 rfl (some x.n) (A2 _) hl V Y;simp only[LO]at U;have E:=hk;unfold HG at E;unfold oL
 by_cases I:64≤b+(s.stack.length:Int)
 ·rw[show DO v b s x=.err 200 by unfold DO; rw[if_pos J,if_pos I]];simp (disch:=first|omega|decide) only[push_cast,↓reduceIte,CI,CJ,Fu,D6,H2 M,E,Ru hv,JD hv,It,DK,I,Eg]
 ·rw[show DO v b s x=.pop 0 (some x.n) none by unfold DO; rw[if_pos J,if_neg I]];simp (disch:=first|omega|decide) only[push_cast,↓reduceIte,CI,CJ,Fu,D6,H2 M,E,Ru hv,JD hv,It,DK,I,Fc,LA,F9,U,Eg,AT]
theorem Yyp:IContract Tryz.prog GG 178 (JY (·=2)):=by
 refine Jv (T:=tb [] [(195,Pw)]) yun (DI all_nil (all_cons UX all_nil)) ?_;intro ds st r hr;obtain⟨key,v,b,s,x,hm,I,hk,rfl,rfl⟩:=Jd hr;obtain⟨hv,a1,a2,hl,af,ah,hf,hn⟩:=hm;have M:=MH hk;have J:=hk;unfold HG at J;obtain⟨V,_,Y⟩:=p7 hf;have Y:=Y I;have a3:v.2.length=16:=hv;have aa:=fun lent=>WI hv lent s.pc s.fuel s.status s.clause (Ev s.stack) b x.n.toNat (by omega);have ad:=Ug hv hk x 0 0 rfl (some (Ec v.2 x.n.toNat)) (A2 _) hl af ah;simp only[LO]at ad;have e1:¬ x.op=1:=by omega
 unfold oJ
 by_cases E:64≤b+(s.stack.length:Int)
 ·rw[show DO v b s x=.err 200 by unfold DO; rw[if_neg e1,if_pos I,if_pos E]];simp (disch:=first|omega|decide) only[push_cast,↓reduceIte,CI,CJ,CN,Fu,D6,H2 M,J,Ru hv,JD hv,It,DK,Eg,E]
 ·by_cases U:Pk v.1 (Mn x.n)=0
  ·rw[show DO v b s x=.err 181 by unfold DO; rw[if_neg e1,if_pos I,if_neg E,if_pos U]];simp (disch:=first|omega|decide) only[push_cast,↓reduceIte,CI,CJ,CN,Fu,D6,H2 M,J,Ru hv,JD hv,ep,It,DK,Fc,LA,Eg,E,Ya V,bR,U]
  ·by_cases h3:Ec v.2 x.n.toNat < -9007199254740992
   ·rw[show DO v b s x=.err 3 by unfold DO; rw[if_neg e1,if_pos I,if_neg E,if_neg U,if_pos (.inl h3)]];simp (disch:=first|omega|decide) only[push_cast,↓reduceIte,CI,CJ,CN,Fu,D6,H2 M,J,Ru hv,JD hv,ep,It,DK,Fc,LA,Eg,E,Ya V,bR,U,PU,aa,h3]
   ·by_cases h4:9007199254740992<Ec v.2 x.n.toNat
    ·rw[show DO v b s x=.err 3 by unfold DO; rw[if_neg e1,if_pos I,if_neg E,if_neg U,if_pos (.inr h4)]];simp (disch:=first|omega|decide) only[push_cast,↓reduceIte,CI,CJ,CN,Fu,D6,H2 M,J,Ru hv,JD hv,ep,It,DK,Fc,LA,Eg,E,Ya V,bR,U,PU,aa,h3,h4]
    ·rw[show DO v b s x=.pop 0 (some (Ec v.2 x.n.toNat)) none by unfold DO; rw[if_neg e1,if_pos I,if_neg E,if_neg U,if_neg (by omega)]];simp (disch:=first|omega|decide) only[push_cast,↓reduceIte,CI,CJ,CN,Fu,D6,H2 M,J,Ru hv,JD hv,ep,It,DK,Fc,LA,F9,Eg,AT,E,Ya V,bR,U,PU,aa,h3,h4,ad]
theorem Yab:IContract Tryz.prog GG 179 (JY (·=12)):=by
 refine Jv (T:=RC [(196,dF)] [(195,Pw)] [(197,LX)]) yq0 (mY (all_cons yQ all_nil) (all_cons UX all_nil) (all_cons mz all_nil)) ?_;intro ds st r hr;obtain⟨key,v,b,s,x,hm,M,hk,rfl,rfl⟩:=Jd hr;obtain⟨hv,ac,ad,hl,V,Y,hf,hn⟩:=hm;have ae:=MH hk;have aa:=hk;unfold HG at aa;have af:Gd x.op=1:=by rw[M]; rfl
 have U:I2 LX [.ptr key 0,.int .i64 0] (st++[⟨false,1,DM x,false⟩])=some (.int .i64 (Dd s 0)):=cS hv (Ra hk _) 0 (by omega) (by omega);have E:=Ug hv hk x 1 1 rfl (some (if x.n≤Dd s 0∧Dd s 0≤x.m then 1 else 0)) (by omega) hl V Y;simp only[LO]at E;rw[show DO v b s x=.pop 1 (some (if x.n≤Dd s 0∧Dd s 0≤x.m then 1 else 0)) none by unfold DO; rw[if_neg (by omega),if_neg (by omega),if_pos M]];have hc:=uG (decide (x.n≤Dd s 0∧Dd s 0≤x.m));simp only[decide_eq_true_eq]at hc;unfold oW
 by_cases I:x.n≤Dd s 0
 ·by_cases J:Dd s 0≤x.m
  ·have hw:(if x.n≤Dd s 0∧Dd s 0≤x.m then(1:Int)else 0)=1:=if_pos ⟨I,J⟩;rw[hw]at E ⊢;rw[decide_eq_true ⟨I,J⟩]at hc;simp (disch:=first|omega|decide) only[push_cast,↓reduceIte,CI,Fu,Fc,LA,gJ,F9,Eg,AT,I,J,U,hc,E]
  ·have hw:(if x.n≤Dd s 0∧Dd s 0≤x.m then(1:Int)else 0)=0:=if_neg (by omega);rw[hw]at E ⊢;rw[decide_eq_false (by omega)]at hc;simp (disch:=first|omega|decide) only[push_cast,↓reduceIte,CI,Fu,Fc,LA,gJ,F9,Eg,AT,I,J,U,hc,E]
 ·have hw:(if x.n≤Dd s 0∧Dd s 0≤x.m then(1:Int)else 0)=0:=if_neg (by omega);rw[hw]at E ⊢;rw[decide_eq_false (by omega)]at hc;simp (disch:=first|omega|decide) only[push_cast,↓reduceIte,CI,Fu,Fc,LA,F9,Eg,AT,I,U,hc,E]
theorem Yyq:IContract Tryz.prog GG 181 (JY (·=14)):=by
 refine Jv (T:=tb [] []) yuo (DI all_nil all_nil) ?_;intro ds st r M;obtain⟨key,v,b,s,x,hm,J,hk,rfl,rfl⟩:=Jd M;obtain⟨hv,U,V,hl,Y,aa,hf,hn⟩:=hm;have E:=MH hk;have I:=hk;unfold HG at I;rw[show DO v b s x=.set x.n s.status s.clause by unfold DO; rw[if_neg (by omega),if_neg (by omega),if_neg (by omega),if_neg (by omega),if_pos J]];unfold oI;simp (disch:=first|omega|decide) only[push_cast,↓reduceIte,CI,Fu,D6,H2 E,I,Fc,LA,Eg,bL hv,I6,KX E]
theorem Yyo:IContract Tryz.prog GG 183 (JY (·=16)):=by
 refine Jv (T:=tb [] []) yum (DI all_nil all_nil) ?_;intro ds st r J;obtain⟨key,v,b,s,x,hm,E,hk,rfl,rfl⟩:=Jd J;obtain⟨hv,M,U,hl,V,Y,hf,hn⟩:=hm;have aa:=MH hk;have I:=hk;unfold HG at I;rw[show DO v b s x=.err 180 by unfold DO; rw[if_neg (by omega),if_neg (by omega),if_neg (by omega),if_neg (by omega),if_neg (by omega),if_neg (by omega),if_pos E]];unfold oK;simp (disch:=first|omega|decide) only[push_cast,↓reduceIte,Fu,Eg]
theorem Yo2(st:St)(key:Nat)(C:List D)(o:PI.Obj):(DF st key C++[o])[st.length]?=some o:=by
 have:=Fc (DF st key C) o;rwa [fE]at this
theorem Yyk:IContract Tryz.prog GG 180 (JY (·=13)):=by
 refine Jv (T:=RC [] [(195,Pw)] [(197,LX)]) yuk (mY all_nil (all_cons UX all_nil) (all_cons mz all_nil)) ?_;intro ds st r hr;obtain⟨key,v,b,s,x,hm,E,hk,rfl,rfl⟩:=Jd hr;obtain⟨hv,ac,ad,hl,U,V,hf,hn⟩:=hm;have M:=MH hk;have Y:=hk;unfold HG at Y;have ae:Gd x.op=1:=by rw[E]; rfl
 have ht:I2 LX [.ptr key 0,.int .i64 0] (st++[⟨false,1,DM x,false⟩])=some (.int .i64 (Dd s 0)):=cS hv (Ra hk _) 0 (by omega) (by omega);have I:=Ug hv hk x 1 1 rfl none (by omega) hl U V;simp only[LO,IH,Ai]at I;unfold oM
 by_cases J:Dd s 0=0
 ·rw[show DO v b s x=.pop 1 none (some x.n) by unfold DO; rw[if_neg (by omega),if_neg (by omega),if_neg (by omega),if_pos E,if_pos J]];simp (disch:=first|omega|decide) only[push_cast,↓reduceIte,CI,Fu,D6,LA,Eg,Ci,ht,J,I,Yo2,Sw M,bL hv,I6,N2 M,IH]
 ·rw[show DO v b s x=.pop 1 none none by unfold DO; rw[if_neg (by omega),if_neg (by omega),if_neg (by omega),if_pos E,if_neg J]];simp (disch:=first|omega|decide) only[push_cast,↓reduceIte,CI,Fu,Eg,AT,ht,J,I,IH]
theorem YE3:IContract Tryz.prog GG 182 (JY (·=15)):=by
 refine Jv (T:=tb [] []) yvv (DI all_nil all_nil) ?_;intro ds st r U;obtain⟨key,v,b,s,x,hm,J,hk,rfl,rfl⟩:=Jd U;obtain⟨hv,V,Y,hl,aa,ab,hf,hn⟩:=hm;have E:=MH hk;have I:=hk;unfold HG at I;rw[show DO v b s x=.set s.pc 1 x.n by unfold DO; rw[if_neg (by omega),if_neg (by omega),if_neg (by omega),if_neg (by omega),if_neg (by omega),if_pos J]];have M:(key == st.length)=false:=by rw[beq_eq_false_iff_ne]; omega
 unfold oi;simp (disch:=first|omega|decide) only[push_cast,↓F4,↓reduceIte,CI,CJ,Fu,D6,H2 E,I,Fc,LA,Eg,YBg hv,YBf hv,I6,KX E,Sw E,N2 E,M]
theorem Yk4:IContract Tryz.prog GG 231 (I1 dS):=Yyw.toI Tryz.func231 (by kernel_rfl) (by kernel_rfl)
theorem Yk2:IContract Tryz.prog GG 232 (I1 dA):=Yyu.toI Tryz.func232 (by kernel_rfl) (by kernel_rfl)
theorem Yk3:IContract Tryz.prog GG 233 (I1 dU):=Yyv.toI Tryz.func233 (by kernel_rfl) (by kernel_rfl)
theorem Yuc:IContract Tryz.prog GG 234 (I1 cI):=YFl.toI Tryz.func234 (by kernel_rfl) (by kernel_rfl)
theorem Yub:IContract Tryz.prog GG 235 (I1 cJ):=YFk.toI Tryz.func235 (by kernel_rfl) (by kernel_rfl)
theorem Yua:IContract Tryz.prog GG 236 (I1 cK):=YFj.toI Tryz.func236 (by kernel_rfl) (by kernel_rfl)
theorem Yt9:IContract Tryz.prog GG 238 (I1 cL):=YFi.toI Tryz.func238 (by kernel_rfl) (by kernel_rfl)
theorem Yt8:IContract Tryz.prog GG 239 (I1 cM):=YFh.toI Tryz.func239 (by kernel_rfl) (by kernel_rfl)
theorem Yt7:IContract Tryz.prog GG 240 (I1 cN):=YFg.toI Tryz.func240 (by kernel_rfl) (by kernel_rfl)
theorem Yac:IContract Tryz.prog GG 184 (JY (fun o=>3≤o∧o≤11)):=by
 refine Jv (T:=RC [] [(195,Pw),(231,I1 dS),(232,I1 dA),(233,I1 dU),(234,I1 cI),(235,I1 cJ),(236,I1 cK),(238,I1 cL),(239,I1 cM),(240,I1 cN)] [(197,LX)]) yq2 (mY all_nil (all_cons UX (all_cons Yk4 (all_cons Yk2 (all_cons Yk3 (all_cons Yuc (all_cons Yub (all_cons Yua (all_cons Yt9 (all_cons Yt8 (all_cons Yt7 all_nil)))))))))) (all_cons mz all_nil)) ?_;intro ds st r hr;obtain⟨key,v,b,s,x,hm,ab,hk,rfl,rfl⟩:=Jd hr;obtain⟨hv,ah,a0,hl,ac,ad,hf,hn⟩:=hm;have a1:=MH hk;have ae:=hk;unfold HG at ae;have a2:Gd x.op=2:=by unfold Gd; rw[if_neg (by omega),if_pos ab]
 have M:I2 LX [.ptr key 0,.int .i64 0] (st++[⟨false,1,DM x,false⟩])=some (.int .i64 (Dd s 0)):=cS hv (Ra hk _) 0 (by omega) (by omega);have U:I2 LX [.ptr key 0,.int .i64 1] (st++[⟨false,1,DM x,false⟩])=some (.int .i64 (Dd s 1)):=cS hv (Ra hk _) 1 (by omega) (by omega);have I:=Ug hv hk x 2 2 rfl (some (Ea x.op (Dd s 1) (Dd s 0)).1) (by omega) hl ac ad;simp only[LO]at I;have V:∀ f:Nat,Nj 0 1 false (.agg [.clo f []])=some (.clo f []):=fun f=>(rfl)
 have Y:DO v b s x=if(Ea x.op (Dd s 1) (Dd s 0)).2=0 then .pop 2 (some (Ea x.op (Dd s 1) (Dd s 0)).1) none else .err (Ea x.op (Dd s 1) (Dd s 0)).2:=by
  unfold DO; rw[if_neg (by omega),if_neg (by omega),if_neg (by omega),if_neg (by omega),if_neg (by omega),if_neg (by omega),if_neg (by omega)]
 have J:=jr (st++[⟨false,1,DM x,false⟩]) x.op false (.agg [.nilf]);have aa:x.op=3∨x.op=4∨x.op=5∨x.op=6∨x.op=7∨x.op=8∨x.op=9∨x.op=10∨x.op=11:=by omega
 unfold oU;rcases aa with e | e | e | e | e | e | e | e | e
 ·have hb:=OP (Yaj (Dd s 1) (Dd s 0)) (st++[⟨false,1,DM x,false⟩]);have E:Ea x.op (Dd s 1) (Dd s 0)=HQ (Dd s 1) (Dd s 0):=by unfold Ea; rw[if_pos e]
  rw[show Gg x.op Fm=some 231 by rw[e]; rfl]at J
  by_cases he:(Ea x.op (Dd s 1) (Dd s 0)).2=0
  ·rw[Y,if_pos he];rw[E]at he I;rw[E];simp (disch:=first|omega|decide) only[push_cast,↓reduceIte,CI,Fu,Fc,F9,Eg,AT,JV _ _ _ _ GF,J8,Gw,J,V,M,U,hb,he,I]
  ·rw[Y,if_neg he];rw[E]at he;rw[E];simp (disch:=first|omega|decide) only[push_cast,↓reduceIte,CI,Fu,Fc,Eg,JV _ _ _ _ GF,J8,Gw,J,V,M,U,hb,he]
 ·have hb:=OP (Yah (Dd s 1) (Dd s 0)) (st++[⟨false,1,DM x,false⟩]);have E:Ea x.op (Dd s 1) (Dd s 0)=HH (Dd s 1) (Dd s 0):=by unfold Ea; rw[if_neg (by omega),if_pos e]
  rw[show Gg x.op Fm=some 232 by rw[e]; rfl]at J
  by_cases he:(Ea x.op (Dd s 1) (Dd s 0)).2=0
  ·rw[Y,if_pos he];rw[E]at he I;rw[E];simp (disch:=first|omega|decide) only[push_cast,↓reduceIte,CI,Fu,Fc,F9,Eg,AT,JV _ _ _ _ GF,J8,Gw,J,V,M,U,hb,he,I]
  ·rw[Y,if_neg he];rw[E]at he;rw[E];simp (disch:=first|omega|decide) only[push_cast,↓reduceIte,CI,Fu,Fc,Eg,JV _ _ _ _ GF,J8,Gw,J,V,M,U,hb,he]
 ·have hb:=OP (Yai (Dd s 1) (Dd s 0)) (st++[⟨false,1,DM x,false⟩]);have E:Ea x.op (Dd s 1) (Dd s 0)=HJ (Dd s 1) (Dd s 0):=by unfold Ea; rw[if_neg (by omega),if_neg (by omega),if_pos e]
  rw[show Gg x.op Fm=some 233 by rw[e]; rfl]at J
  by_cases he:(Ea x.op (Dd s 1) (Dd s 0)).2=0
  ·rw[Y,if_pos he];rw[E]at he I;rw[E];simp (disch:=first|omega|decide) only[push_cast,↓reduceIte,CI,Fu,Fc,F9,Eg,AT,JV _ _ _ _ GF,J8,Gw,J,V,M,U,hb,he,I]
  ·rw[Y,if_neg he];rw[E]at he;rw[E];simp (disch:=first|omega|decide) only[push_cast,↓reduceIte,CI,Fu,Fc,Eg,JV _ _ _ _ GF,J8,Gw,J,V,M,U,hb,he]
 ·have hb:=OP (Yiq (Dd s 1) (Dd s 0)) (st++[⟨false,1,DM x,false⟩]);have E:Ea x.op (Dd s 1) (Dd s 0)=(min (Dd s 1) (Dd s 0),0):=by unfold Ea; rw[if_neg (by omega),if_neg (by omega),if_neg (by omega),if_pos e]
  rw[show Gg x.op Fm=some 234 by rw[e]; rfl]at J
  by_cases he:(Ea x.op (Dd s 1) (Dd s 0)).2=0
  ·rw[Y,if_pos he];rw[E]at he I;rw[E];simp (disch:=first|omega|decide) only[push_cast,↓reduceIte,CI,Fu,Fc,F9,Eg,AT,JV _ _ _ _ GF,J8,Gw,J,V,M,U,hb,I]
  ·rw[E]at he;exact absurd rfl he
 ·have hb:=OP (Yip (Dd s 1) (Dd s 0)) (st++[⟨false,1,DM x,false⟩]);have E:Ea x.op (Dd s 1) (Dd s 0)=(max (Dd s 1) (Dd s 0),0):=by unfold Ea; rw[if_neg (by omega),if_neg (by omega),if_neg (by omega),if_neg (by omega),if_pos e]
  rw[show Gg x.op Fm=some 235 by rw[e]; rfl]at J
  by_cases he:(Ea x.op (Dd s 1) (Dd s 0)).2=0
  ·rw[Y,if_pos he];rw[E]at he I;rw[E];simp (disch:=first|omega|decide) only[push_cast,↓reduceIte,CI,Fu,Fc,F9,Eg,AT,JV _ _ _ _ GF,J8,Gw,J,V,M,U,hb,I]
  ·rw[E]at he;exact absurd rfl he
 ·have hb:=OP (Yio (Dd s 1) (Dd s 0)) (st++[⟨false,1,DM x,false⟩]);have E:Ea x.op (Dd s 1) (Dd s 0)=Et (Dd s 1) (Dd s 0) 8:=by unfold Ea; rw[if_neg (by omega),if_neg (by omega),if_neg (by omega),if_neg (by omega),if_neg (by omega),if_pos e]
  rw[show Gg x.op Fm=some 236 by rw[e]; rfl]at J
  by_cases he:(Ea x.op (Dd s 1) (Dd s 0)).2=0
  ·rw[Y,if_pos he];rw[E]at he I;rw[E];simp (disch:=first|omega|decide) only[push_cast,↓reduceIte,CI,Fu,Fc,F9,Eg,AT,JV _ _ _ _ GF,J8,Gw,J,V,M,U,hb,he,I]
  ·rw[Y,if_neg he];rw[E]at he;rw[E];simp (disch:=first|omega|decide) only[push_cast,↓reduceIte,CI,Fu,Fc,Eg,JV _ _ _ _ GF,J8,Gw,J,V,M,U,hb,he]
 ·have hb:=OP (Yin (Dd s 1) (Dd s 0)) (st++[⟨false,1,DM x,false⟩]);have E:Ea x.op (Dd s 1) (Dd s 0)=Et (Dd s 1) (Dd s 0) 9:=by unfold Ea; rw[if_neg (by omega),if_neg (by omega),if_neg (by omega),if_neg (by omega),if_neg (by omega),if_neg (by omega),if_pos e]
  rw[show Gg x.op Fm=some 238 by rw[e]; rfl]at J
  by_cases he:(Ea x.op (Dd s 1) (Dd s 0)).2=0
  ·rw[Y,if_pos he];rw[E]at he I;rw[E];simp (disch:=first|omega|decide) only[push_cast,↓reduceIte,CI,Fu,Fc,F9,Eg,AT,JV _ _ _ _ GF,J8,Gw,J,V,M,U,hb,he,I]
  ·rw[Y,if_neg he];rw[E]at he;rw[E];simp (disch:=first|omega|decide) only[push_cast,↓reduceIte,CI,Fu,Fc,Eg,JV _ _ _ _ GF,J8,Gw,J,V,M,U,hb,he]
 ·have hb:=OP (Yim (Dd s 1) (Dd s 0)) (st++[⟨false,1,DM x,false⟩]);have E:Ea x.op (Dd s 1) (Dd s 0)=Et (Dd s 1) (Dd s 0) 10:=by unfold Ea; rw[if_neg (by omega),if_neg (by omega),if_neg (by omega),if_neg (by omega),if_neg (by omega),if_neg (by omega),if_neg (by omega),if_pos e]
  rw[show Gg x.op Fm=some 239 by rw[e]; rfl]at J
  by_cases he:(Ea x.op (Dd s 1) (Dd s 0)).2=0
  ·rw[Y,if_pos he];rw[E]at he I;rw[E];simp (disch:=first|omega|decide) only[push_cast,↓reduceIte,CI,Fu,Fc,F9,Eg,AT,JV _ _ _ _ GF,J8,Gw,J,V,M,U,hb,he,I]
  ·rw[Y,if_neg he];rw[E]at he;rw[E];simp (disch:=first|omega|decide) only[push_cast,↓reduceIte,CI,Fu,Fc,Eg,JV _ _ _ _ GF,J8,Gw,J,V,M,U,hb,he]
 ·have hb:=OP (Yil (Dd s 1) (Dd s 0)) (st++[⟨false,1,DM x,false⟩]);have E:Ea x.op (Dd s 1) (Dd s 0)=(if Dd s 1<Dd s 0 then 1 else 0,0):=by unfold Ea; rw[if_neg (by omega),if_neg (by omega),if_neg (by omega),if_neg (by omega),if_neg (by omega),if_neg (by omega),if_neg (by omega),if_neg (by omega),if_pos e]
  rw[show Gg x.op Fm=some 240 by rw[e]; rfl]at J
  by_cases he:(Ea x.op (Dd s 1) (Dd s 0)).2=0
  ·rw[Y,if_pos he];rw[E]at he I;rw[E];simp (disch:=first|omega|decide) only[push_cast,↓reduceIte,CI,Fu,Fc,F9,Eg,AT,JV _ _ _ _ GF,J8,Gw,J,V,M,U,hb,I]
  ·rw[E]at he;exact absurd rfl he
def Ml(o:Option PI.Obj)(sz:Nat)(ks:List Nat)(ok:Bool)(zero k:D):Option D:=match o with
 |some o=>if o.isMap && o.sz == sz && (Iz sz ks k k).isSome then match Lu sz ks k o.els 0 with
   |some (some i)=>match o.els[i]? with
    |some el=>some (if ok then .tup [HN sz el,.bool true]else HN sz el)
    |none=>none
   |some none=>some (if ok then .tup [zero,.bool false]else zero)
   |none=>none
  else none
 |none=>none
theorem J4(st:St)(sz:Nat)(ks:List Nat)(ok:Bool)(E k:D)(key:Nat):Js st sz ks ok E (.mapv key) k=Ml st[key]? sz ks ok E k:=(rfl)
def KZ(o:Option PI.Obj)(sz:Nat)(ks:List Nat)(k v:D):Option PI.Obj:=match o with
 |some o=>if o.isMap && o.sz == sz && !o.lent && v.isCell && k.cells.length+1 == sz && k.cells.all D.isCell && Iz sz ks k k == some true then match Lu sz ks k o.els 0 with
   |some (some i)=>some {o with els:=o.els.set i (.agg (k.cells++[v]))}
   |some none=>some {o with els:=o.els++[.agg (k.cells++[v])]}
   |none=>none
  else none
 |none=>none
theorem JF(st:St)(sz:Nat)(ks:List Nat)(k v:D)(key:Nat):Tm st sz ks (.mapv key) k v=(KZ st[key]? sz ks k v).map fun o=>st.set key o:=by
 simp only[Tm,KZ]
 cases st[key]? with
 |none=>rfl
 |some o=>
  simp only
  split
  ·cases Lu sz ks k o.els 0 with
   |none=>rfl
   |some r=>cases r <;> rfl
  ·rfl
def Og:List (Int×Nat):=[(1,5000177),(2,5000178),(12,5000179),(13,5000180),(14,5000181),(15,5000182),(16,5000183)]
def Xp(k:Nat)(p:Int×Nat):D:=.agg [.int .i64 p.1,.clo p.2 [.ptr k 0]]
def JN(k i:Nat):List D:=(Og.take i).map (Xp k)
theorem KH(k:Nat):KZ (some ⟨false,2,[],false⟩) 2 [0] (.int .i64 1) (.clo 5000177 [.ptr k 0])=some ⟨false,2,JN k 1,false⟩:=(rfl)
theorem KG(k:Nat):KZ (some ⟨false,2,JN k 1,false⟩) 2 [0] (.int .i64 2) (.clo 5000178 [.ptr k 0])=some ⟨false,2,JN k 2,false⟩:=(rfl)
theorem KF(k:Nat):KZ (some ⟨false,2,JN k 2,false⟩) 2 [0] (.int .i64 12) (.clo 5000179 [.ptr k 0])=some ⟨false,2,JN k 3,false⟩:=(rfl)
theorem KE(k:Nat):KZ (some ⟨false,2,JN k 3,false⟩) 2 [0] (.int .i64 13) (.clo 5000180 [.ptr k 0])=some ⟨false,2,JN k 4,false⟩:=(rfl)
theorem KD(k:Nat):KZ (some ⟨false,2,JN k 4,false⟩) 2 [0] (.int .i64 14) (.clo 5000181 [.ptr k 0])=some ⟨false,2,JN k 5,false⟩:=(rfl)
theorem KC(k:Nat):KZ (some ⟨false,2,JN k 5,false⟩) 2 [0] (.int .i64 15) (.clo 5000182 [.ptr k 0])=some ⟨false,2,JN k 6,false⟩:=(rfl)
theorem KB(k:Nat):KZ (some ⟨false,2,JN k 6,false⟩) 2 [0] (.int .i64 16) (.clo 5000183 [.ptr k 0])=some ⟨false,2,JN k 7,false⟩:=(rfl)
theorem Rw(k:Nat)(op:Int)(f:Nat)(h:Gg op Og=some f):Ml (some ⟨false,2,JN k 7,false⟩) 2 [0] true .nilf (.int .i64 op)=some (.tup [.clo f [.ptr k 0],.bool true]):=by
 simp only[Og,Gg]at h
 split at h
 ·simp only[Db]at h; subst h; rename_i e; subst e; rfl
 split at h
 ·simp only[Db]at h; subst h; rename_i e; subst e; rfl
 split at h
 ·simp only[Db]at h; subst h; rename_i e; subst e; rfl
 split at h
 ·simp only[Db]at h; subst h; rename_i e; subst e; rfl
 split at h
 ·simp only[Db]at h; subst h; rename_i e; subst e; rfl
 split at h
 ·simp only[Db]at h; subst h; rename_i e; subst e; rfl
 split at h
 ·simp only[Db]at h; subst h; rename_i e; subst e; rfl
 cases h
theorem Yvu(k:Nat)(op:Int)(h:3≤op∧op≤11):Ml (some ⟨false,2,JN k 7,false⟩) 2 [0] true .nilf (.int .i64 op)=some (.tup [.nilf,.bool false]):=by
 have:op=3∨op=4∨op=5∨op=6∨op=7∨op=8∨op=9∨op=10∨op=11:=by omega
 rcases this with rfl | rfl | rfl | rfl | rfl | rfl | rfl | rfl | rfl <;> rfl
theorem Pp(st:St)(a b:PI.Obj):(st++[a]++[b])[st.length+1]?=some b:=by
 have:=Fc (st++[a]) b;rwa [L0]at this
theorem Po(st:St)(a b:PI.Obj):(st++[a]++[b])[st.length]?=some a:=by
 rw[H2 (by rw[L0]; omega),Fc]
theorem Pv(st:St)(a b b':PI.Obj):(st++[a]++[b]).set (st.length+1) b'=st++[a]++[b']:=by
 have:=Sd (st++[a]) b b';rwa [L0]at this
structure eOK (v:Int×List Int) (b:Int) (s:Sta) (x:Ins):Prop where
 v:Ew v
 b0:0≤b
 b1:b≤64
 l:s.stack.length≤64
 p0:0≤s.pc
 p1:s.pc≤100000
 f:Gv x=true
def Gb(v:Int×List Int)(b:Int)(s:Sta)(x:Ins):Out:=if(s.stack.length:Int)<Gd x.op then .err 200 else DO v b s x
def KL(st:St)(key:Nat)(s:Sta)(x:Ins):St:=if(s.stack.length:Int)<Gd x.op then st else st++[⟨false,1,DM x,false⟩]++[⟨false,2,JN key 7,false⟩]
def Xo(ds:List D)(st:St)(r:D×St):Prop:=∃ (key:Nat) (v:Int×List Int) (b:Int) (s:Sta) (x:Ins),eOK v b s x∧HG st key v s.pc s.fuel s.status s.clause (Ev s.stack) b∧ds=[.ptr key 0,Da x]∧r=Eg (KL st key s x) key v b s x (Gb v b s x)
noncomputable def bP:List D→St→Option (D×St):=FB Xo
theorem Yx6:Ih Xo:=by
 rintro ds st r r' ⟨key,v,b,s,x,hm,hk,rfl,rfl⟩ ⟨aa,v',b',s',x',E,I,h,rfl⟩;simp only[Aa,D.ptr.injEq,and_true,Sr]at h;obtain⟨rfl,rfl⟩:=h;obtain⟨rfl,J,M,U,V,h5,rfl⟩:=eT hm.v E.v hk I;have Y:=SG.1 h5;obtain⟨a1,a2,a3,a4,a5⟩:=s;obtain⟨b1,b2,b3,b4,b5⟩:=s';dsimp only at J M U V Y;subst J; subst M; subst U; subst V; subst Y;rfl
theorem Yp9(hm:eOK v b s x)(hk:HG st key v s.pc s.fuel s.status s.clause (Ev s.stack) b):bP [.ptr key 0,Da x] st=some (Eg (KL st key s x) key v b s x (Gb v b s x)):=
 LY Yx6 ⟨key,v,b,s,x,hm,hk,rfl,rfl⟩
theorem JB:mQ 2=some ⟨false,2,[],false⟩:=(rfl)
set_option maxHeartbeats 8000000 in
set_option maxRecDepth 20000 in
theorem YE5:IContract Tryz.prog GG 157 bP:=by
 refine Jv (T:=tb [(109,dB)] [(177,JY (·=1)),(178,JY (·=2)),(179,JY (·=12)),(180,JY (·=13)),(181,JY (·=14)),(182,JY (·=15)),(183,JY (·=16)),(184,JY (fun o=>3≤o∧o≤11))])
  yq1 (DI (all_cons zb all_nil) (all_cons Yyn (all_cons Yyp (all_cons Yab (all_cons Yyk (all_cons Yyq (all_cons YE3 (all_cons Yyo (all_cons Yac all_nil))))))))) ?_
 intro ds st r hr;obtain⟨key,v,b,s,x,⟨hv,ab,ac,hl,ad,ae,hf⟩,hk,rfl,rfl⟩:=Jd hr;have U:=MH hk;have E:=hk;unfold HG at E;have V:=uC x.op;have a0:=Ygv hf;unfold oV
 by_cases Y:(s.stack.length:Int)<Gd x.op
 ·rw[show Gb v b s x=.err 200 from if_pos Y,show KL st key s x=st from if_pos Y];simp (disch:=first|omega|decide) only[push_cast,↓reduceIte,CI,CJ,Fu,D6,H2 U,E,JD hv,It,Fc,Gw,V,Y,Eg]
 ·rw[show Gb v b s x=DO v b s x from if_neg Y,show KL st key s x=_ from if_neg Y];have hm:mOK v b s x:=⟨hv,ab,ac,hl,ad,ae,hf,by omega⟩;have af:HG (st++[⟨false,1,DM x,false⟩]++[⟨false,2,JN key 7,false⟩]) key v s.pc s.fuel s.status s.clause (Ev s.stack) b:=Ra (Ra hk _) _
  have fin:∀ (P:Int→Prop),P x.op→∃ d st',JY P [.ptr key 0,Da x] (st++[⟨false,1,DM x,false⟩]++[⟨false,2,JN key 7,false⟩])=some (d,st')∧Eg (st++[⟨false,1,DM x,false⟩]++[⟨false,2,JN key 7,false⟩]) key v b s x (DO v b s x)=(d,st'):=
   fun P hP=>⟨_,_,Yp3 hm hP af,rfl⟩
  have aa:x.op=1∨x.op=2∨x.op=12∨x.op=13∨x.op=14∨x.op=15∨x.op=16∨(3≤x.op∧x.op≤11):=by omega
  rcases aa with e | e | e | e | e | e | e | e
  ·obtain⟨d,st',I,J⟩:=fin (·=1) e;have M:=Rw key x.op _ (show Gg x.op Og=some 5000177 by rw[e]; rfl);rw[J];simp (disch:=first|omega|decide) only[push_cast,↓reduceIte,CI,CJ,Fu,D6,H2 U,E,JD hv,It,Fc,Gw,V,Y,L0,JF,J4,Pp,Pv,Po,JB,KH,KG,KF,KE,KD,KC,KB,M,Ou,P7 _ 5000177 177 _ rfl (by decide),I]
  ·obtain⟨d,st',I,J⟩:=fin (·=2) e;have M:=Rw key x.op _ (show Gg x.op Og=some 5000178 by rw[e]; rfl);rw[J];simp (disch:=first|omega|decide) only[push_cast,↓reduceIte,CI,CJ,Fu,D6,H2 U,E,JD hv,It,Fc,Gw,V,Y,L0,JF,J4,Pp,Pv,Po,JB,KH,KG,KF,KE,KD,KC,KB,M,Ou,P7 _ 5000178 178 _ rfl (by decide),I]
  ·obtain⟨d,st',I,J⟩:=fin (·=12) e;have M:=Rw key x.op _ (show Gg x.op Og=some 5000179 by rw[e]; rfl);rw[J];simp (disch:=first|omega|decide) only[push_cast,↓reduceIte,CI,CJ,Fu,D6,H2 U,E,JD hv,It,Fc,Gw,V,Y,L0,JF,J4,Pp,Pv,Po,JB,KH,KG,KF,KE,KD,KC,KB,M,Ou,P7 _ 5000179 179 _ rfl (by decide),I]
  ·obtain⟨d,st',I,J⟩:=fin (·=13) e;have M:=Rw key x.op _ (show Gg x.op Og=some 5000180 by rw[e]; rfl);rw[J];simp (disch:=first|omega|decide) only[push_cast,↓reduceIte,CI,CJ,Fu,D6,H2 U,E,JD hv,It,Fc,Gw,V,Y,L0,JF,J4,Pp,Pv,Po,JB,KH,KG,KF,KE,KD,KC,KB,M,Ou,P7 _ 5000180 180 _ rfl (by decide),I]
  ·obtain⟨d,st',I,J⟩:=fin (·=14) e;have M:=Rw key x.op _ (show Gg x.op Og=some 5000181 by rw[e]; rfl);rw[J];simp (disch:=first|omega|decide) only[push_cast,↓reduceIte,CI,CJ,Fu,D6,H2 U,E,JD hv,It,Fc,Gw,V,Y,L0,JF,J4,Pp,Pv,Po,JB,KH,KG,KF,KE,KD,KC,KB,M,Ou,P7 _ 5000181 181 _ rfl (by decide),I]
  ·obtain⟨d,st',I,J⟩:=fin (·=15) e;have M:=Rw key x.op _ (show Gg x.op Og=some 5000182 by rw[e]; rfl);rw[J];simp (disch:=first|omega|decide) only[push_cast,↓reduceIte,CI,CJ,Fu,D6,H2 U,E,JD hv,It,Fc,Gw,V,Y,L0,JF,J4,Pp,Pv,Po,JB,KH,KG,KF,KE,KD,KC,KB,M,Ou,P7 _ 5000182 182 _ rfl (by decide),I]
  ·obtain⟨d,st',I,J⟩:=fin (·=16) e;have M:=Rw key x.op _ (show Gg x.op Og=some 5000183 by rw[e]; rfl);rw[J];simp (disch:=first|omega|decide) only[push_cast,↓reduceIte,CI,CJ,Fu,D6,H2 U,E,JD hv,It,Fc,Gw,V,Y,L0,JF,J4,Pp,Pv,Po,JB,KH,KG,KF,KE,KD,KC,KB,M,Ou,P7 _ 5000183 183 _ rfl (by decide),I]
  ·obtain⟨d,st',I,J⟩:=fin (fun o=>3≤o∧o≤11) e;have M:=Yvu key x.op e;rw[J];simp (disch:=first|omega|decide) only[push_cast,↓reduceIte,CI,CJ,Fu,D6,H2 U,E,JD hv,It,Fc,Gw,V,Y,L0,JF,J4,Pp,Pv,Po,JB,KH,KG,KF,KE,KD,KC,KB,M,Ou,I]
def FU(s:Sta):Out→Sta
 |.err e=>{s with status:=10+e}
 |.pop k push pc=>{s with pc:=pc.getD (s.pc+1),stack:=s.stack.take (s.stack.length - k)++push.toList}
 |.set p t c=>{s with pc:=p,status:=t,clause:=c}
def Dk(s:Sta):Sta:={s with fuel:=s.fuel - 1}
def EY(v:Int×List Int)(b:Int)(s:Sta)(x:Ins):Sta:=if s.fuel=0 then {s with status:=220} else FU (Dk s) (Gb v b (Dk s) x)
structure aOK (c:List Ins) (v:Int×List Int) (s:Sta) (b:Int):Prop where
 v:Ew v
 b0:0≤b
 b1:b≤64
 l:s.stack.length≤64
 p0:0≤s.pc
 p1:s.pc<c.length
 cl:c.length≤4096
 f:c.all Gv=true
 u0:0≤s.fuel
 u1:s.fuel≤32768
theorem Yqr(op a b:Int):0≤(Ea op a b).2∧(Ea op a b).2≤100:=by
 have I:∀ c,0≤(Kx c).2∧(Kx c).2≤100:=fun c=>by unfold Kx; split <;> exact⟨by simp,by simp⟩
 have J:∀ a b m,0≤(Et a b m).2∧(Et a b m).2≤100:=fun a b m=>by
  unfold Et
  split
  ·split <;> exact⟨by simp,by simp⟩
  ·exact⟨by simp,by simp⟩
 have ha:0≤(HQ a b).2∧(HQ a b).2≤100:=by unfold HQ; split <;> first | exact I _ | exact⟨by simp,by simp⟩
 have M:0≤(HH a b).2∧(HH a b).2≤100:=by unfold HH; split <;> first | exact I _ | exact⟨by simp,by simp⟩
 have hm:0≤(HJ a b).2∧(HJ a b).2≤100:=by unfold HJ; split <;> first | exact I _ | exact⟨by simp,by simp⟩
 have E:∀ n:Int,0≤((n,0):Int×Int).2∧((n,0):Int×Int).2≤100:=fun n=>⟨by simp,by simp⟩;unfold Ea
 split; · exact ha
 split; · exact M
 split; · exact hm
 split; · exact E _
 split; · exact E _
 split; · exact J _ _ _
 split; · exact J _ _ _
 split; · exact J _ _ _
 split; · exact E _
 exact E _
theorem zm{e:Int}(h:Gb v b s x=.err e):1≤e∧e≤1000:=by
 have E:=Yqr x.op (Dd s 1) (Dd s 0);unfold Gb DO at h
 repeat' split at h
 all_goals first | (cases h; done) | (simp only[Out.err.injEq]at h; omega)
variable {k:Nat}
theorem zn{E pc:Option Int}(h:Gb v b s x=.pop k E pc):¬ (s.stack.length:Int)<Gd x.op:=by
 intro I;unfold Gb at h;rw[if_pos I]at h;cases h
theorem Yx7{c:Int}(h:Gb v b s x=.set p t c):¬ (s.stack.length:Int)<Gd x.op:=by
 intro E;unfold Gb at h;rw[if_pos E]at h;cases h
theorem Yg9(v:Int×List Int)(hv:Ew v)(s:Sta)(b:Int):DL [.int .i64 0,.int .i64 0,.int .i64 0,.int .i64 0,.int .i64 0,.int .i64 0,.int .i64 0,.int .i64 0,.int .i64 0,.int .i64 0,.int .i64 0,.int .i64 0,.int .i64 0,.int .i64 0,.int .i64 0,.int .i64 0,.int .i64 0,.int .i64 0,.int .i64 0,.int .i64 0,.int .i64 0,.slc 0 [] true,.int .i64 0]
  [(0,17,ED v),(17,5,DQ s),(22,1,.int .i64 b)]=some (EZ v s.pc s.fuel s.status s.clause (Ev s.stack) b):=by
 refine(I4 (cs':=DY v++([.int .i64 0,.int .i64 0,.int .i64 0,.int .i64 0,.slc 0 [] true]++[.int .i64 0])) (A:=[]) (B:=CQ 17 (.int .i64 0)) (C:=[.int .i64 0,.int .i64 0,.int .i64 0,.int .i64 0,.slc 0 [] true,.int .i64 0]) (xs:=DY v) rfl rfl rfl rfl rfl (HT hv) (Uj (v.1::v.2))).trans ?_;refine(I4 (cs':=DY v++(DW s++[.int .i64 0])) (A:=DY v) (B:=[.int .i64 0,.int .i64 0,.int .i64 0,.int .i64 0,.slc 0 [] true]) (C:=[.int .i64 0]) (xs:=DW s) rfl rfl (HT hv) rfl rfl rfl (Yk9 s)).trans ?_;refine(I4 (cs':=EZ v s.pc s.fuel s.status s.clause (Ev s.stack) b) (A:=DY v++DW s) (B:=[.int .i64 0]) (C:=[]) (xs:=[.int .i64 b]) (by simp) (by simp[EZ,DW]) (by simp[HT hv,DW]) rfl rfl rfl rfl).trans ?_;rfl
theorem Yqk(v:Int×List Int)(p f t c:Int)(sz:Nat)(els:List D)(E:Bool)(b:Int):DG (.agg (EZ v p f t c (.slc sz els E) b))=some (EZ v p f t c (.slc sz els E) b):=by
 have h:(EZ v p f t c (.slc sz els E) b).all D.isCell=true:=by
  rw[EZ,Bl,TM,Uj];rfl
 rw[show DG (.agg (EZ v p f t c (.slc sz els E) b))=if(EZ v p f t c (.slc sz els E) b).all D.isCell then some (EZ v p f t c (.slc sz els E) b)else none from rfl,if_pos h]
theorem Yl(v:Int×List Int)(p f t c:Int)(l:List Int)(b:Int):DG (.agg (EZ v p f t c (Ev l) b))=some (EZ v p f t c (Ev l) b):=Yqk v p f t c _ _ _ b
theorem yR9(l:List Int):(Ev l).isCell=true:=(rfl)
theorem Ygf(st:St)(l:List Int):DC st (Ev l)=some (Ev l):=by simp only[Ev,iI,Ik]
theorem YD0(E o1 o2 I J M U:PI.Obj)(A:List Int)(m:Nat)(h:A.length=m):DC [E,o1,o2,I,J,M,U,⟨true,1,A.map nI,false⟩] (.row 7 m 0 m)=some (Ev A):=by
 have V:HR [E,o1,o2,I,J,M,U,⟨true,1,A.map nI,false⟩] 7 m 0 m=some (1,A.map nI):=by
  simp only[HR,Bv,AF];rw[if_pos (by simp[h]),Bz,AE (by simp[h])]
 simp only[DC,V,Ae];rfl
theorem eI(s:Sta)(n:Int):DR (some ⟨false,1,DW s,false⟩) 1 1 (.int .i64 n)=some ⟨false,1,DW {s with fuel:=n},false⟩:=(rfl)
theorem YBi(s:Sta)(n:Int):DR (some ⟨false,1,DW s,false⟩) 1 2 (.int .i64 n)=some ⟨false,1,DW {s with status:=n},false⟩:=(rfl)
theorem Lf(a b c d S:D):DR (some ⟨false,1,[.int .i64 0,.int .i64 0,.int .i64 0,.int .i64 0,.slc 0 [] true],false⟩) 5 0 (.agg [a,b,c,d,S])=if [a,b,c,d,S].all D.isCell then some ⟨false,1,[a,b,c,d,S],false⟩else none:=by
 simp only[DR]; rfl
theorem Li(lent:Bool)(a b c d S:D):DA (some ⟨false,1,[a,b,c,d,S],lent⟩) 5 true 0=some (.agg [a,b,c,d,S]):=(rfl)
noncomputable def bD:List D→Option D:=Dl (α:=List Ins×(Int×List Int)×Sta×Int) (fun a=>[.slc (nz 3 (a.1.map Da)) (a.1.map Da) false,ED a.2.1,DQ a.2.2.1,.int .i64 a.2.2.2]) (fun a=>aOK a.1 a.2.1 a.2.2.1 a.2.2.2) (fun a=>DQ (EY a.2.1 a.2.2.2 a.2.2.1 (a.1.getD a.2.2.1.pc.toNat default)))
theorem pM(c:List Ins)(v:Int×List Int)(s:Sta)(b:Int)(h:aOK c v s b):bD [.slc (nz 3 (c.map Da)) (c.map Da) false,ED v,DQ s,.int .i64 b]=some (DQ (EY v b s (c.getD s.pc.toNat default))):=
 D5 (fun⟨a0,a1,E,I⟩ ⟨b0,b1,J,M⟩ h=>by simp only[Aa,D.slc.injEq,D.int.injEq,true_and,and_true,Ko,Sx,J0]at h; simp[h]) (c,v,s,b) h
set_option maxHeartbeats 4000000 in
set_option maxRecDepth 20000 in
theorem VI(c:List Ins)(v:Int×List Int)(s:Sta)(b:Int)(h:aOK c v s b):@wW GG (tb [] [(157,bP)]) ZM.code (Dc [.slc (nz 3 (c.map Da)) (c.map Da) false,ED v,DQ s,.int .i64 b]) [] ⟨Dp ZM.res (DQ (EY v b s (c.getD s.pc.toNat default)))⟩:=by
 obtain⟨hv,ac,ad,hl,ae,a5,hc,hf,a6,a7⟩:=h;have aa:s.pc.toNat<c.length:=by omega
 unfold ZM
 by_cases M:s.fuel=0
 ·rw[show EY v b s (c.getD s.pc.toNat default)={s with status:=220} from if_pos M];simp (disch:=first|omega|decide) only[push_cast,↓reduceIte,CI,CJ,FK,Ir,H3,KU,M,YBi,IB,J2,Kk]
 ·rw[show EY v b s (c.getD s.pc.toNat default)=FU (Dk s) (Gb v b (Dk s) (c.getD s.pc.toNat default))from if_neg M];have J:=fun st=>Vm st c false s.pc.toNat aa;rw[show((s.pc.toNat:Nat):Int)=s.pc by omega]at J
  have ab:Gv (c.getD s.pc.toNat default)=true:=by
   rw[Af,Ah aa];exact Ag.1 hf _ (BC aa)
  obtain⟨x,af⟩:∃ x,c.getD s.pc.toNat default=x:=⟨_,rfl⟩;rw[af]at J ab ⊢;have J:∀ st:St,GM st 3 (.slc (nz 3 (c.map Da)) (c.map Da) false) (.int .i64 (Dk s).pc)=some (.eptr (Da x) 0):=J;have he:eOK v b (Dk s) x:=⟨hv,ac,ad,hl,ae,by show s.pc≤100000; omega,ab⟩;have E:=Yp9 (st:=[⟨false,1,DY v,false⟩,⟨false,1,DW (Dk s),false⟩,⟨false,1,[.int .i64 0,.int .i64 0,.int .i64 0,.int .i64 0,.slc 0 [] true],false⟩,⟨false,1,EZ v (Dk s).pc (Dk s).fuel (Dk s).status (Dk s).clause (Ev (Dk s).stack) b,false⟩]) (key:=3) he rfl;have U:=Yg9 v hv (Dk s) b;have V:(⟨s.pc,s.fuel - 1,s.status,s.clause,s.stack⟩:Sta)=Dk s:=rfl
  cases Y:Gb v b (Dk s) x with
  |err e=>
   have a8:=zm Y;rw[Y]at E
   have I:∃ l,KL [⟨false,1,DY v,false⟩,⟨false,1,DW (Dk s),false⟩,⟨false,1,[.int .i64 0,.int .i64 0,.int .i64 0,.int .i64 0,.slc 0 [] true],false⟩,⟨false,1,EZ v (Dk s).pc (Dk s).fuel (Dk s).status (Dk s).clause (Ev (Dk s).stack) b,false⟩] 3 (Dk s) x=⟨false,1,DY v,false⟩::⟨false,1,DW (Dk s),false⟩::⟨false,1,[.int .i64 0,.int .i64 0,.int .i64 0,.int .i64 0,.slc 0 [] true],false⟩::l:=by
    unfold KL; split <;> exact⟨_,rfl⟩
   obtain⟨l,I⟩:=I;rw[I]at E;simp only[Eg,Ak]at E;have ah:¬ e=0:=by omega
   simp (disch:=first|omega|decide) only[push_cast,↓reduceIte,CI,CJ,FK,Ir,H3,KU,M,Fq,eI,V,Gh hv,IB,U,Yl,Kl,J,KV,E,ah,DK,YBi,J2,Kk,FU]
  |pop k push pc=>
   rw[Y]at E;have I:=zn Y;rw[show KL [⟨false,1,DY v,false⟩,⟨false,1,DW (Dk s),false⟩,⟨false,1,[.int .i64 0,.int .i64 0,.int .i64 0,.int .i64 0,.slc 0 [] true],false⟩,⟨false,1,EZ v (Dk s).pc (Dk s).fuel (Dk s).status (Dk s).clause (Ev (Dk s).stack) b,false⟩] 3 (Dk s) x=_ from if_neg I]at E;simp only[Eg]at E
   cases push with
   |none=>
    simp only[Ku,IH,DF,Ak,Ao,Ai,Cv,Bu]at E;simp (disch:=first|omega|decide) only[push_cast,↓reduceIte,CI,CJ,FK,Ir,H3,KU,M,Fq,eI,V,Gh hv,IB,U,Yl,Kl,J,KV,E,D6,lZ hv,Lf,Li,FU];simp only[Option.toList_none,Ai];rfl
   |some a=>
    have hi:=fun o0 o1 o2 o3 o4 o5 o6=>YD0 o0 o1 o2 o3 o4 o5 o6 ((Dk s).stack.take ((Dk s).stack.length - k)++[a]) ((Dk s).stack.length - k+1) (by rw[Ad,AH]; simp);simp only[Ku,IH,DF,Ak,Ao,Cv,Bu,An,As]at E;simp (disch:=first|omega|decide) only[push_cast,↓reduceIte,CI,CJ,FK,Ir,H3,KU,M,Fq,eI,V,Gh hv,IB,U,Yl,Kl,J,KV,E,D6,lZ hv,Lf,Li,FU,hi];rfl
  |set p t cl=>
   rw[Y]at E;have I:=Yx7 Y;rw[show KL [⟨false,1,DY v,false⟩,⟨false,1,DW (Dk s),false⟩,⟨false,1,[.int .i64 0,.int .i64 0,.int .i64 0,.int .i64 0,.slc 0 [] true],false⟩,⟨false,1,EZ v (Dk s).pc (Dk s).fuel (Dk s).status (Dk s).clause (Ev (Dk s).stack) b,false⟩] 3 (Dk s) x=_ from if_neg I]at E;simp only[Eg,DF,Ak,Ao,Cv,Bu]at E;simp (disch:=first|omega|decide) only[push_cast,↓reduceIte,CI,CJ,FK,Ir,H3,KU,M,Fq,eI,V,Gh hv,IB,U,Yl,Kl,J,KV,E,D6,lZ hv,Lf,Li,yR9,Ygf,FU];rfl
theorem YFo:Contract Tryz.prog GG 110 bD:=
 Ed (T:=tb [] [(157,bP)]) yFf (DI all_nil (all_cons YE5 all_nil)) (fun a h=>VI a.1 a.2.1 a.2.2.1 a.2.2.2 h)
def Ht(c:List Ins)(s:Sta)(b:Int):Prop:=s.pc<0∨(c.length:Int)≤s.pc∨s.fuel<0∨32768<s.fuel∨s.clause≠0∨b<0∨64<b∨64 - b<(s.stack.length:Int)
instance (c:List Ins) (s:Sta) (b:Int):Decidable (Ht c s b):=by unfold Ht; infer_instance
def G4(c:List Ins)(s:Sta)(b:Int):Int:=if s.status≠0 then 211 else if(E9 c).2≠0 then(E9 c).2 else if Ht c s b then 1 else 0
noncomputable def dC:List D→Option D:=Dl (α:=List Ins×Sta×Int) (fun a=>[.slc (nz 3 (a.1.map Da)) (a.1.map Da) false,DQ a.2.1,.int .i64 a.2.2]) (fun a=>a.1.length≤4294967296) (fun a=>.int .i64 (G4 a.1 a.2.1 a.2.2))
theorem uD(c:List Ins)(s:Sta)(b:Int)(h:c.length≤4294967296):dC [.slc (nz 3 (c.map Da)) (c.map Da) false,DQ s,.int .i64 b]=some (.int .i64 (G4 c s b)):=
 D5 (fun⟨a0,a1,E⟩ ⟨b0,b1,I⟩ h=>by simp only[Aa,D.slc.injEq,D.int.injEq,true_and,and_true,Ko,Sx]at h; simp[h]) (c,s,b) h
theorem Ys9(c:List Ins)(s:Sta)(b:Int)(h:c.length≤4294967296):@wW GG (tb [(47,Se)] []) Zd.code (Dc [.slc (nz 3 (c.map Da)) (c.map Da) false,DQ s,.int .i64 b]) [] ⟨Dp Zd.res (.int .i64 (G4 c s b))⟩:=by
 have hv:=Yo c (by omega);unfold Zd
 by_cases E:s.status=0
 ·by_cases I:(E9 c).2=0
  ·have e:G4 c s b=if Ht c s b then 1 else 0:=by unfold G4; rw[if_neg (by simp[E]),if_neg (by simp[I])]
   rw[e]
   by_cases J:s.pc<0
   ·rw[if_pos (.inl J)];simp (disch:=first|omega|decide) only[push_cast,↓reduceIte,CI,Ir,Kl,Jc,E,hv,I,J]
   by_cases M:(c.length:Int)≤s.pc
   ·rw[if_pos (.inr (.inl M))];simp (disch:=first|omega|decide) only[push_cast,↓reduceIte,CI,Ir,Kl,Jc,E,hv,I,J,M]
   by_cases U:s.fuel<0
   ·rw[if_pos (.inr (.inr (.inl U)))];simp (disch:=first|omega|decide) only[push_cast,↓reduceIte,CI,Ir,Kl,KU,Jc,E,hv,I,J,M,U]
   by_cases V:32768<s.fuel
   ·rw[if_pos (.inr (.inr (.inr (.inl V))))];simp (disch:=first|omega|decide) only[push_cast,↓reduceIte,CI,Ir,Kl,KU,Jc,E,hv,I,J,M,U,V]
   by_cases Y:s.clause=0
   ·by_cases q6:b<0
    ·rw[if_pos (.inr (.inr (.inr (.inr (.inr (.inl q6))))))];simp (disch:=first|omega|decide) only[push_cast,↓reduceIte,CI,Ir,Kl,KU,Jc,NS,E,hv,I,J,M,U,V,Y,q6]
    by_cases q7:64<b
    ·rw[if_pos (.inr (.inr (.inr (.inr (.inr (.inr (.inl q7)))))))];simp (disch:=first|omega|decide) only[push_cast,↓reduceIte,CI,Ir,Kl,KU,Jc,NS,E,hv,I,J,M,U,V,Y,q6,q7]
    by_cases q8:64 - b<(s.stack.length:Int)
    ·rw[if_pos (.inr (.inr (.inr (.inr (.inr (.inr (.inr q8)))))))];simp (disch:=first|omega|decide) only[push_cast,↓reduceIte,CI,Ir,Kl,KU,Jc,NS,Oz,It,Fq,E,hv,I,J,M,U,V,Y,q6,q7,q8]
    ·rw[if_neg (by unfold Ht; omega)];simp (disch:=first|omega|decide) only[push_cast,↓reduceIte,CI,Ir,Kl,KU,Jc,NS,Oz,It,Fq,E,hv,I,J,M,U,V,Y,q6,q7,q8]
   ·rw[if_pos (.inr (.inr (.inr (.inr (.inl Y)))))];simp (disch:=first|omega|decide) only[push_cast,↓reduceIte,CI,Ir,Kl,KU,Jc,NS,E,hv,I,J,M,U,V,Y]
  ·rw[show G4 c s b=(E9 c).2 by unfold G4; rw[if_neg (by simp[E]),if_pos I]];simp (disch:=first|omega|decide) only[push_cast,↓reduceIte,CI,Ir,Jc,E,hv,I]
 ·rw[show G4 c s b=211 from if_pos E];simp (disch:=first|omega|decide) only[push_cast,↓reduceIte,CI,Ir,Jc,E]
theorem yN:Contract Tryz.prog GG 108 dC:=
 Ed yLs (DI (all_cons aT all_nil) all_nil) (fun a h=>Ys9 a.1 a.2.1 a.2.2 h)
variable {c:List Ins}
theorem M3(h:(E9 c).2=0):c.length≤4096∧0<c.length∧c.all Gv=true∧∃ s,Gk c.length c 0 (GY c.length) 0=some s∧s≤64:=by
 unfold E9 at h
 split at h
 ·simp at h
 split at h
 ·simp at h
 rename_i J E;have M:¬ c.length=0:=fun e=>E (.inl e)
 have I:c.all Gv=true:=by
  cases hb:c.all Gv with
  |true=>rfl
  |false=>exact absurd (.inr hb) E
 cases hv:Gk c.length c 0 (GY c.length) 0 with
 |none=>rw[hv]at h; simp[LV]at h
 |some s=>
  rw[hv]at h;simp only[LV]at h
  split at h
  ·simp at h
  ·exact⟨by omega,by omega,I,s,rfl,by omega⟩
theorem ru(hv:Ew v)(h:G4 c s b=0):aOK c v s b∧s.status=0∧s.clause=0∧(E9 c).2=0:=by
 unfold G4 at h
 split at h
 ·simp at h
 split at h
 ·rename_i I; exact absurd h I
 split at h
 ·simp at h
 rename_i V I M;have J:s.status=0:=by omega
 have E:(E9 c).2=0:=by omega
 obtain⟨a1,Y,U,_⟩:=M3 E;unfold Ht at M;exact⟨⟨hv,by omega,by omega,by omega,by omega,by omega,by omega,U,by omega,by omega⟩,J,by omega,E⟩
def FO:Sta:=⟨0,0,0,0,[]⟩
def Ge(f:Int):Sta:=if f<0∨32768<f then FO else {FO with fuel:=f}
def Px(f:Int):Int:=if f<0∨32768<f then 1 else 0
theorem Vq:DL [.int .i64 0,.int .i64 0,.int .i64 0,.int .i64 0,.slc 0 [] true] []=some [.int .i64 0,.int .i64 0,.int .i64 0,.int .i64 0,.slc 0 [] true]:=(rfl)
theorem Yxy(f:Int):DL [.int .i64 0,.int .i64 0,.int .i64 0,.int .i64 0,.slc 0 [] true] [(1,1,.int .i64 f)]=some [.int .i64 0,.int .i64 f,.int .i64 0,.int .i64 0,.slc 0 [] true]:=(rfl)
noncomputable def dE:List D→Option D:=Dl (α:=Int) (fun a=>[.int .i64 a]) (fun a=>True) (fun a=>.tup [DQ (Ge a),.int .i64 (Px a)])
theorem uF(f:Int):dE [.int .i64 f]=some (.tup [DQ (Ge f),.int .i64 (Px f)]):=
 D5 (fun a b h=>by simp only[Aa,D.int.injEq,true_and,and_true]at h; simp[h]) (f) trivial
theorem Ys8(f:Int):@wW GG (tb [] []) Za.code (Dc [.int .i64 f]) [] ⟨Dp Za.res (.tup [DQ (Ge f),.int .i64 (Px f)])⟩:=by
 unfold Za
 by_cases E:f<0
 ·rw[show Ge f=FO from if_pos (.inl E),show Px f=1 from if_pos (.inl E)];simp (disch:=first|omega|decide) only[push_cast,↓reduceIte,CI,H3,E,Vq,Lf,Li];rfl
 ·by_cases I:32768<f
  ·rw[show Ge f=FO from if_pos (.inr I),show Px f=1 from if_pos (.inr I)];simp (disch:=first|omega|decide) only[push_cast,↓reduceIte,CI,H3,E,I,Vq,Lf,Li];rfl
  ·rw[show Ge f={FO with fuel:=f} from if_neg (by omega),show Px f=0 from if_neg (by omega)];simp (disch:=first|omega|decide) only[push_cast,↓reduceIte,CI,H3,E,I,Yxy,Lf,Li];rfl
theorem yP:Contract Tryz.prog GG 48 dE:=
 Ed yLv (DI all_nil all_nil) (fun a h=>Ys8 a)
def G7(c:List Ins)(s:Sta):Ins:=c.getD s.pc.toNat default
def Jn(c:List Ins)(v:Int×List Int)(s:Sta):Sta:=if G4 c s 0=0 then EY v 0 s (G7 c s)else FO
noncomputable def gT:List D→Option D:=Dl (α:=List Ins×(Int×List Int)×Sta) (fun a=>[.slc (nz 3 (a.1.map Da)) (a.1.map Da) false,ED a.2.1,DQ a.2.2]) (fun a=>a.1.length≤4294967296∧Ew a.2.1) (fun a=>.tup [DQ (Jn a.1 a.2.1 a.2.2),.int .i64 (G4 a.1 a.2.2 0)])
theorem Yij(c:List Ins)(v:Int×List Int)(s:Sta)(h:c.length≤4294967296∧Ew v):gT [.slc (nz 3 (c.map Da)) (c.map Da) false,ED v,DQ s]=some (.tup [DQ (Jn c v s),.int .i64 (G4 c s 0)]):=
 D5 (fun⟨a0,a1,E⟩ ⟨b0,b1,I⟩ h=>by simp only[Aa,D.slc.injEq,and_true,Ko,Sx,J0]at h; simp[h]) (c,v,s) h
theorem YAk(c:List Ins)(v:Int×List Int)(s:Sta)(h:c.length≤4294967296∧Ew v):@wW GG (tb [(108,dC),(110,bD)] []) YI.code (Dc [.slc (nz 3 (c.map Da)) (c.map Da) false,ED v,DQ s]) [] ⟨Dp YI.res (.tup [DQ (Jn c v s),.int .i64 (G4 c s 0)])⟩:=by
 obtain⟨hc,hv⟩:=h;have I:=uD c s 0 hc;unfold YI
 by_cases E:G4 c s 0=0
 ·have ha:=pM c v s 0 (ru hv E).1;rw[show Jn c v s=EY v 0 s (G7 c s)from if_pos E];rw[E]at I ⊢;simp (disch:=first|omega|decide) only[push_cast,↓reduceIte,CI,CJ,FK,Ir,H3,Gh hv,FH,Hm,IB,Kk,NX,I,ha,J2];rfl
 ·rw[show Jn c v s=FO from if_neg E];simp (disch:=first|omega|decide) only[push_cast,↓reduceIte,CI,CJ,FK,Ir,H3,IB,Kk,I,E,Vq,Lf,Li];rfl
theorem YFe:Contract Tryz.prog GG 115 gT:=
 Ed yP3 (DI (all_cons yN (all_cons YFo all_nil)) all_nil) (fun a h=>YAk a.1 a.2.1 a.2.2 h)
def Fx(o:Opn):Sta:=⟨o.pc,o.fuel,o.status,o.clause,o.top⟩
def Oi:Opn:=⟨0,0,0,0,[],0,Dt⟩
def Qj(c:List Ins)(o:Opn):Prop:=0<o.fuel∧0<o.depth∧(o.top.length:Int)<Gd (G7 c (Fx o)).op
instance (c:List Ins) (o:Opn):Decidable (Qj c o):=by unfold Qj; infer_instance
def Kw(s:Sta)(o:Opn):Opn:=⟨s.pc,s.fuel,s.status,s.clause,s.stack,o.depth,o.rest⟩
def K7(c:List Ins)(o:Opn):Int:=if G4 c (Fx o) o.depth=0 then(if Qj c o then 390 else 0)else G4 c (Fx o) o.depth
def Lw(c:List Ins)(v:Int×List Int)(o:Opn):Opn:=if K7 c o=0 then Kw (EY v o.depth (Fx o) (G7 c (Fx o))) o else Oi
theorem Vj(cs:List D):DL cs []=some cs:=(rfl)
theorem Vr(o:Opn):DL [.int .i64 0,.int .i64 0,.int .i64 0,.int .i64 0,.slc 0 [] true] [(0,1,.int .i64 o.pc),(1,1,.int .i64 o.fuel),(2,1,.int .i64 o.status),(3,1,.int .i64 o.clause),(4,1,Ev o.top)]=some (DW (Fx o)):=(rfl)
theorem Vf(s:Sta):D.agg (DW s)=DQ s:=(rfl)
theorem zA(x:Ins)(st:St):FC st 0 (.eptr (Da x) 0)=some (.eptr (Da x) 0):=(rfl)
theorem rp(st:St)(x:Ins):Fy st 1 false (.eptr (Da x) 0)=some (.int .i64 x.op):=(rfl)
theorem iE(s:Sta)(o:Opn):DL (ES 0 0 0 0 (.slc 0 [] true) 0 Dt) [(0,1,.int .i64 s.pc),(1,1,.int .i64 s.fuel),(2,1,.int .i64 s.status),(3,1,.int .i64 s.clause),(4,1,Ev s.stack),(5,1,.int .i64 o.depth),(6,32,C9 o.rest)]=some (E5 (Kw s o)):=pY ..
theorem mW(a b c d:Int)(t:D)(k:Int)(r:Dig)(o:Opn):DR (some ⟨false,1,ES a b c d t k r,false⟩) 38 0 (.agg (E5 o))=some ⟨false,1,E5 o,false⟩:=Vb ..
theorem mL(lent:Bool)(o:Opn):DA (some ⟨false,1,E5 o,lent⟩) 38 true 0=some (Ee o):=S3 ..
noncomputable def jz:List D→Option D:=Dl (α:=List Ins×(Int×List Int)×Opn) (fun a=>[.slc (nz 3 (a.1.map Da)) (a.1.map Da) false,ED a.2.1,Ee a.2.2]) (fun a=>a.1.length≤4294967296∧Ew a.2.1) (fun a=>.tup [Ee (Lw a.1 a.2.1 a.2.2),.int .i64 (K7 a.1 a.2.2)])
theorem Yae(c:List Ins)(v:Int×List Int)(o:Opn)(h:c.length≤4294967296∧Ew v):jz [.slc (nz 3 (c.map Da)) (c.map Da) false,ED v,Ee o]=some (.tup [Ee (Lw c v o),.int .i64 (K7 c o)]):=
 D5 (fun⟨a0,a1,E⟩ ⟨b0,b1,I⟩ h=>by simp only[Aa,D.slc.injEq,and_true,Ko,Sz,J0]at h; simp[h]) (c,v,o) h
theorem Ys6(c:List Ins)(v:Int×List Int)(o:Opn)(h:c.length≤4294967296∧Ew v):@wW GG (tb [(108,dC),(109,dB),(110,bD)] []) ZY.code (Dc [.slc (nz 3 (c.map Da)) (c.map Da) false,ED v,Ee o]) [] ⟨Dp ZY.res (.tup [Ee (Lw c v o),.int .i64 (K7 c o)])⟩:=by
 obtain⟨hc,hv⟩:=h;have J:=uD c (Fx o) o.depth hc;unfold ZY;have l0:=xJ false o.pc o.fuel o.status o.clause (Ev o.top) o.depth o.rest;have l1:=yo false o.pc o.fuel o.status o.clause (Ev o.top) o.depth o.rest;have M:=mJ false o.pc o.fuel o.status o.clause (Ev o.top) o.depth o.rest;have U:=yp false o.pc o.fuel o.status o.clause (Ev o.top) o.depth o.rest;have V:=mK false o.pc o.fuel o.status o.clause (Ev o.top) o.depth o.rest;have Y:=U1 false o.pc o.fuel o.status o.clause (Ev o.top) o.depth o.rest;have l6:=yq false o.pc o.fuel o.status o.clause (Ev o.top) o.depth o.rest;rw[← Ka]at l0 l1 M U V Y l6
 by_cases I:G4 c (Fx o) o.depth=0
 ·obtain⟨ha,hs,a0,a1⟩:=ru hv I;have ah:o.pc.toNat<c.length:=by have:=ha.p0; have:=ha.p1; simp only[Fx]at *; omega
  have hx:=fun st=>Vm st c false o.pc.toNat ah;rw[show((o.pc.toNat:Nat):Int)=o.pc by have:=ha.p0; simp only[Fx]at *; omega]at hx;have hx:∀ st:St,GM st 3 (.slc (nz 3 (c.map Da)) (c.map Da) false) (.int .i64 o.pc)=some (.eptr (Da (G7 c (Fx o))) 0):=hx;have hn:=uC (G7 c (Fx o)).op;rw[I]at J
  by_cases h2:Qj c o
  ·have e:K7 c o=390:=by unfold K7; rw[if_pos I,if_pos h2]
   rw[show Lw c v o=Oi from if_neg (by rw[e]; decide),e];obtain⟨q1,q2,q3⟩:=h2;simp (disch:=first|omega|decide) only[push_cast,↓reduceIte,CI,CJ,FK,NR,QI,Ki,H3,l0,l1,M,U,V,Y,Vr,Vf,J2,IB,Kk,J,q1,q2,It,hx,zA,rp,hn,q3,Vj,Vb,S3,bj];rfl
  ·have e:K7 c o=0:=by unfold K7; rw[if_pos I,if_neg h2]
   rw[show Lw c v o=Kw (EY v o.depth (Fx o) (G7 c (Fx o))) o from if_pos e,e];have E:=pM c v (Fx o) o.depth ha;rw[show c.getD (Fx o).pc.toNat default=G7 c (Fx o)from rfl]at E;generalize EY v o.depth (Fx o) (G7 c (Fx o))=s at*
   by_cases q1:0<o.fuel
   ·by_cases q2:0<o.depth
    ·have q3:¬ (o.top.length:Int)<Gd (G7 c (Fx o)).op:=fun q=>h2 ⟨q1,q2,q⟩;simp (disch:=first|omega|decide) only[push_cast,↓reduceIte,CI,CJ,FK,NR,QI,Ki,H3,l0,l1,M,U,V,Y,l6,Vr,Vf,J2,IB,Kk,NX,J,q1,q2,It,hx,zA,rp,hn,q3,Gh hv,FH,Hm,E,bK,Kl,KU,Jc,NS,Oz,iE,mW,mL,J1]
    ·simp (disch:=first|omega|decide) only[push_cast,↓reduceIte,CI,CJ,FK,NR,QI,Ki,H3,l0,l1,M,U,V,Y,l6,Vr,Vf,J2,IB,Kk,NX,J,q1,q2,Gh hv,FH,Hm,E,bK,Kl,KU,Jc,NS,Oz,iE,mW,mL,J1]
   ·simp (disch:=first|omega|decide) only[push_cast,↓reduceIte,CI,CJ,FK,NR,QI,Ki,H3,l0,l1,M,U,V,Y,l6,Vr,Vf,J2,IB,Kk,NX,J,q1,Gh hv,FH,Hm,E,bK,Kl,KU,Jc,NS,Oz,iE,mW,mL,J1]
 ·have e:K7 c o=G4 c (Fx o) o.depth:=if_neg I;rw[show Lw c v o=Oi from if_neg (by rw[e]; exact I),e];simp (disch:=first|omega|decide) only[push_cast,↓reduceIte,CI,CJ,FK,NR,QI,Ki,H3,l0,l1,M,U,V,Y,Vr,Vf,J2,IB,Kk,J,I,Vj,Vb,S3,bj];rfl
theorem Yys:Contract Tryz.prog GG 55 jz:=
 Ed yBz (DI (all_cons yN (all_cons zb (all_cons YFo all_nil))) all_nil) (fun a h=>Ys6 a.1 a.2.1 a.2.2 h)
def D2(s:Sta):Int×Int×Int:=if s.status=1∧0<s.stack.length then(Dd s 0,s.clause,0)else if 10<s.status then(0,0,s.status - 10)else(0,0,1)
noncomputable def ky:List D→Option D:=Dl (α:=Sta) (fun a=>[DQ a]) (fun a=>a.stack.length≤4294967296∧a.status≤1000000) (fun a=>.tup [.int .i64 (D2 a).1,.int .i64 (D2 a).2.1,.int .i64 (D2 a).2.2])
theorem vV(s:Sta)(h:s.stack.length≤4294967296∧s.status≤1000000):ky [DQ s]=some (.tup [.int .i64 (D2 s).1,.int .i64 (D2 s).2.1,.int .i64 (D2 s).2.2]):=
 D5 (fun a b h=>by simp only[Aa,and_true,Sx]at h; simp[h]) (s) h
theorem Ykh(s:Sta)(h:s.stack.length≤4294967296∧s.status≤1000000):@wW GG (tb [] []) ZE.code (Dc [DQ s]) [] ⟨Dp ZE.res (.tup [.int .i64 (D2 s).1,.int .i64 (D2 s).2.1,.int .i64 (D2 s).2.2])⟩:=by
 obtain⟨hl,M⟩:=h;unfold ZE
 by_cases I:s.status=1
 ·by_cases E:0<s.stack.length
  ·rw[show D2 s=(Dd s 0,s.clause,0)from if_pos ⟨I,E⟩]
   have J:GM [⟨false,1,DW s,false⟩] 1 (Ev s.stack) (.int .i64 ((s.stack.length:Int) - 1))=some (.eptr (nI (Dd s 0)) 0):=by
    have:=aZ [⟨false,1,DW s,false⟩] s.stack false (s.stack.length - 1) (by omega);rw[show((s.stack.length - 1:Nat):Int)=(s.stack.length:Int) - 1 by omega]at this;exact this
   simp (disch:=first|omega|decide) only[push_cast,↓reduceIte,CI,Ir,Jc,NS,Oz,I,It,show((0:Int)<(s.stack.length:Int)) by omega,Fq,J,bq]
  ·rw[show D2 s=(0,0,1) by unfold D2; rw[if_neg (by omega),if_neg (by omega)]];simp (disch:=first|omega|decide) only[push_cast,↓reduceIte,CI,CT,Ir,Jc,Oz,I,It,show ¬ ((0:Int)<(s.stack.length:Int)) by omega]
 ·by_cases E:10<s.status
  ·rw[show D2 s=(0,0,s.status - 10) by unfold D2; rw[if_neg (by omega),if_pos E]];simp (disch:=first|omega|decide) only[push_cast,↓reduceIte,CI,Ir,Jc,I,E,Fq]
  ·rw[show D2 s=(0,0,1) by unfold D2; rw[if_neg (by omega),if_neg E]];simp (disch:=first|omega|decide) only[push_cast,↓reduceIte,CI,Ir,Jc,I,E]
theorem Yqd:Contract Tryz.prog GG 61 ky:=
 Ed yIb (DI all_nil all_nil) (fun a h=>Ykh a h)
def Ef(c:List Ins):D:=.slc (nz 3 (c.map Da)) (c.map Da) false
theorem Vg{a b:List Ins}:Ef a=Ef b↔a=b:=by
 refine⟨fun h=>?_,fun h=>by rw[h]⟩;simp only[Ef,D.slc.injEq,and_true]at h;exact(List.map_inj_right (fun x y h=>Sr.1 h)).1 h.2
def RunOK(c:List Ins)(v:Int×List Int):List Sta→Prop
 |[]=>False
 |[s]=>s.status≠0
 |s::s'::l=>s.status=0∧G4 c s 0=0∧s'=Jn c v s∧RunOK c v (s'::l)
theorem RunOK.det:∀ {s:Sta} {l I:List Sta},RunOK c v (s::l)→RunOK c v (s::I)→l=I
 |s,[],[],_,_=>rfl
 |s,[],_::_,h,E=>absurd E.1 h
 |s,_::_,[],h,E=>absurd h.1 E
 |s,a::l,b::I,h,E=>by
  obtain⟨_,_,rfl,J⟩:=h;obtain⟨_,_,rfl,M⟩:=E;rw[RunOK.det J M]
def HB(s:Sta):PI.Obj:=⟨false,1,DW s,false⟩
inductive RunY (y:List D→St→Option (D×St)) (k kc kv:Nat):List Sta→Nat→St→St→Prop
 |stop {s:Sta} {l:List Sta} {i:Nat} {st st1:St} (h:y [.int .i64 (i:Int),DQ s] st=some (.bool false,st1)):RunY y k kc kv (s::l) i st st1
 |last {s:Sta} {i:Nat} {st st1:St} (h:y [.int .i64 (i:Int),DQ s] st=some (.bool true,st1)) (hk:st1[k]?=some (HB s)):RunY y k kc kv [s] i st st1
 |next {s s':Sta} {l:List Sta} {i:Nat} {st st1 st2:St} (h:y [.int .i64 (i:Int),DQ s] st=some (.bool true,st1)) (hk:st1[k]?=some (HB s)) (hc:st1[kc]?=st[kc]?) (hv:st1[kv]?=st[kv]?)
   (hl:RunY y k kc kv (s'::l) (i+1) (st1.set k (HB s')) st2):RunY y k kc kv (s::s'::l) i st st2
variable {y:List D→St→Option (D×St)}
theorem RunY.det{J M:Nat}{l:List Sta}{a b:St}(h:RunY y k J M l i st a):RunY y k J M l i st b→a=b:=by
 induction h with
 |stop h=>
  intro I
  cases I with
  |stop E=>rw[h]at E; simp at E; exact E
  |last E=>rw[h]at E; simp at E
  |next E=>rw[h]at E; simp at E
 |last h hk=>
  intro I
  cases I with
  |stop E=>rw[h]at E; simp at E
  |last E=>rw[h]at E; simp at E; exact E
 |next h hk hc hv hl V=>
  intro I
  cases I with
  |stop E=>rw[h]at E; simp at E
  |next E Y aa ab U=>
   rw[h]at E;simp only[Db,Dx,true_and]at E;subst E;exact V U
def StatesR(y:List D→St→Option (D×St))(ds:List D)(st:St)(r:D×St):Prop:=
 ∃ (kc kv:Nat) (c:List Ins) (v:Int×List Int) (l:List Sta) (lc lv:Bool),ds=[.ptr kc 0,.ptr kv 0]∧st[kc]?=some ⟨false,1,[Ef c],lc⟩∧st[kv]?=some ⟨false,1,DY v,lv⟩∧c.length≤4096∧Ew v∧l.length≤100000∧
  RunOK c v (Ge (c.length+1)::l)∧r.1=.tup []∧RunY y st.length kc kv (Ge (c.length+1)::l) 0 (st++[HB (Ge (c.length+1))]) r.2
variable {r:D×St}
theorem StatesR.det{s:D×St}(h:StatesR y ds st r)(V:StatesR y ds st s):r=s:=by
 obtain⟨kc,kv,c,v,l,lc,lv,rfl,Y,h2,_,_,_,h3,h4,h5⟩:=h;obtain⟨af,ah,c',v',l',a0,a1,J,E,I,_,_,_,h9,M,U⟩:=V;simp only[Aa,D.ptr.injEq,and_true]at J;obtain⟨rfl,rfl⟩:=J;rw[Y]at E;simp only[Db,Obj.mk.injEq,Aa,and_true,true_and,Vg]at E;rw[h2]at I;simp only[Db,Obj.mk.injEq,true_and]at I;obtain⟨rfl,rfl⟩:=E;obtain rfl:v=v':=J0.1 (congrArg D.agg I.1);obtain rfl:=h3.det h9;exact Prod.ext (h4.trans M.symm) (h5.det U)
noncomputable def Ry(y:List D→St→Option (D×St))(ds:List D)(st:St):Option (D×St):=@dite _ (∃ r,StatesR y ds st r) (Classical.propDecidable _) (fun h=>some h.choose) (fun _=>none)
theorem YA4(h:Ry y ds st=some r):StatesR y ds st r:=by
 unfold Ry at h
 split at h
 ·rename_i E;simp only[Db]at h;rw[← h];exact E.choose_spec
 ·cases h
theorem ir(h:StatesR y ds st r):Ry y ds st=some r:=by
 have E:∃ r,StatesR y ds st r:=⟨r,h⟩;unfold Ry;rw[dif_pos E,E.choose_spec.det h]
theorem yLh{f:Nat}{F:PF}(E:TblOK P G T)(I:DB P il f hints=some F){sp:(List D→St→Option (D×St))→List D→St→Option (D×St)}
  (h:∀ (l:Nat) y ds st r,sp y ds st=some r→@wW G (Qq T l y) F.code (Dc (.clo (10000000+l) []::ds)) st ⟨@GQ F.res ⟨fun d st'=>(d,st')=r⟩⟩):Ut P G f sp:=by
 refine Yo4 E I fun l y ds st r J=>?_;obtain⟨fuel,d,st',M,U⟩:=Yy (Hv (h l y ds st r J));exact⟨fuel,by rw[M fuel (Ax _)]; exact congrArg some U⟩
variable {o:PI.Obj}
theorem uV{k':Nat}(h:k'≠k):(st.set k o)[k']?=st[k']?:=AN (by omega)
theorem Yxt{o':PI.Obj}(h:st[k]?=some o):(st.set k o')[k]?=some o':=Bq (Ab.1 h).1
set_option maxHeartbeats 8000000 in
set_option maxRecDepth 20000 in
theorem xB:Ut Tryz.prog GG 114 Ry:=by
 refine yLh (T:=tb [(48,dE),(115,gT)] []) (DI (all_cons yP (all_cons YFe all_nil)) all_nil) yv0 ?_;intro lb y ds st r hr;obtain⟨E,J,c,v,l,lc,lv,rfl,h1,h2,hc,hv,bh,h3,ad,h5⟩:=YA4 hr;obtain⟨rd,ae⟩:=r;dsimp only at ad h5;subst ad;have a3:E<st.length:=(Ab.1 h1).1;have a4:J<st.length:=(Ab.1 h2).1;have cs:=uF ((c.length:Int)+1);have e0:Px ((c.length:Int)+1)=0:=if_neg (by omega);rw[e0]at cs;have a5:st[E]?=some ⟨false,1,[.slc (nz 3 (c.map Da)) (c.map Da) false],lc⟩:=h1;unfold ov;simp (disch:=first|omega|decide) only[push_cast,↓reduceIte,CI,a5,DK,cs,H3,Fc,Sd,J2]
 refine Yra (fun i:Nat×List Sta×St=>[(0,.clo (10000000+lb) []),(1,.ptr E 0),(2,.ptr J 0),(4,.ptr st.length 0),(5,.int .i64 0),(6,.int .i64 (i.1:Int))]) (fun i=>i.2.2)
  (fun i=>RunOK c v i.2.1∧RunY y st.length E J i.2.1 i.1 i.2.2 ae∧i.2.2[E]?=some ⟨false,1,[Ef c],lc⟩∧i.2.2[J]?=some ⟨false,1,DY v,lv⟩∧i.2.2[st.length]?=(i.2.1.head?).map HB∧i.1+i.2.1.length≤100001) (fun i=>i.2.1.length)
  (0,Ge (c.length+1)::l,st++[HB (Ge (c.length+1))]) (by simp only[push_cast,↓reduceIte,CI] <;> rfl) ⟨h3,h5,by rw[H2 a3]; exact h1,by rw[H2 a4]; exact h2,Fc _ _,by simp; omega⟩ ?_
 rintro⟨i,ls,s0⟩ ⟨I,q2,q3,q4,q5,q6⟩;dsimp only at I q2 q3 q4 q5 q6;unfold oQ
 match ls,I,q2,q5,q6 with
 |[],I,_,_,_=>exact I.elim
 |s::l,I,q2,q5,q6=>
 have M:s0[st.length]?=some ⟨false,1,DW s,false⟩:=q5;have b1:s0[E]?=some ⟨false,1,[.slc (nz 3 (c.map Da)) (c.map Da) false],lc⟩:=q3
 cases q2 with
 |stop h=>
  simp (disch:=first|omega|decide) only[push_cast,↓reduceIte,CI,M,IB,h]
 |last h hk=>
  rename_i s1;have hk:ae[st.length]?=some ⟨false,1,DW s,false⟩:=hk;have U:¬ s.status=0:=I;simp (disch:=first|omega|decide) only[push_cast,↓reduceIte,CI,M,IB,h,hk,Jc,U]
 |next h hk a7 a8 hl=>
  rename_i s' l' s1;have a9:s1[st.length]?=some ⟨false,1,DW s,false⟩:=hk;obtain⟨U,ba,rfl,bb⟩:=I;have af:=Yij c v s ⟨by omega,hv⟩;rw[ba]at af;have V:s1[E]?=some ⟨false,1,[.slc (nz 3 (c.map Da)) (c.map Da) false],lc⟩:=a7.trans q3;have Y:s1[J]?=some ⟨false,1,DY v,lv⟩:=a8.trans q4;simp (disch:=first|omega|decide) only[push_cast,↓reduceIte,CI,M,IB,h,a9,Jc,U,V,Y,Gh hv,FH,Hm,Kk,NX,af,bK,DK]
  refine EV (i+1,Jn c v s::l',s1.set st.length (HB (Jn c v s))) (by
   refine⟨bb,hl,?_,?_,?_,?_⟩
   ·dsimp only; rw[uV (by omega)]; exact V
   ·dsimp only; rw[uV (by omega)]; exact Y
   ·dsimp only; rw[Yxt hk]; rfl
   ·simp only[An]at q6 ⊢; omega) (by simp) ?_
  simp only[push_cast] <;> rfl
noncomputable def Tp:List D→St→Option (D×St):=GP (α:=(List Ins×(Int×List Int))×St) (fun a=>([Ef a.1.1,ED a.1.2],a.2)) (fun a=>Ew a.1.2) (fun a=>(.clo 114 [.ptr a.2.length 0,.ptr (a.2.length+1) 0],a.2++[⟨false,1,[Ef a.1.1],false⟩]++[⟨false,1,DY a.1.2,false⟩]))
theorem pP(c:List Ins)(v:Int×List Int)(st:St)(hv:Ew v):Tp [Ef c,ED v] st=some (.clo 114 [.ptr st.length 0,.ptr (st.length+1) 0],st++[⟨false,1,[Ef c],false⟩]++[⟨false,1,DY v,false⟩]):=
 MD (fun a b e=>by
  obtain⟨⟨a1,E⟩,I⟩:=a;obtain⟨⟨b1,J⟩,M⟩:=b;simp only[Dx,Aa,and_true,Vg,J0]at e;obtain⟨⟨rfl,rfl⟩,rfl⟩:=e;rfl) (((c,v),st):(List Ins×(Int×List Int))×St) hv rfl
theorem xz:IContract Tryz.prog GG 60 Tp:=by
 refine n8 (T:=tb [] []) yAd (DI all_nil all_nil) ?_;rintro⟨⟨c,v⟩,st⟩ hv;unfold nS;simp (disch:=first|omega|decide) only[push_cast,↓reduceIte,CI,Ef,FK];rw[L0]
def Qf(c:List Ins)(out:Int)(i:Nat)(D:Nat→Int):Prop:=
 ∀ j,i≤j→j<c.length→0≤D j→¬ Kc (c.getD j default) (D j)∧D j≤out∧Gi (c.getD j default) (D j)≤out∧
  ∀ n∈K4 (c.getD j default) j,(j:Int)<n∧n<c.length∧D n.toNat=Gi (c.getD j default) (D j)
variable {dep:List Int}
theorem YFt{x:Int}(h:j≠k):Ec (dep.set k x) j=Ec dep j:=by
 grind
theorem Yzh{x:Int}(h:k<dep.length):Ec (dep.set k x) k=x:=by
 grind
theorem qZ{len i after:Int}(I:0≤after)(hi:0≤i):∀ {l:List Int} {dep E:List Int},(dep.length:Int)=len→Ng len i after l dep=some E→
  E.length=dep.length∧(∀ j:Nat,0≤Ec dep j∨(j:Int)≤i→Ec E j=Ec dep j)∧∀ n∈l,i<n∧n<len∧Ec E n.toNat=after
 |[],dep,E,hl,h=>by
  simp only[Ng,Db]at h;grind
 |n::l,dep,E,hl,h=>by
  simp only[Ng]at h
  split at h
  ·cases h
  rename_i hb;unfold Sc at hb;have J:i<n∧n<len:=⟨by omega,by omega⟩;have M:n.toNat<dep.length:=by omega
  obtain⟨U,V,Y⟩:=qZ I hi (dep:=dep.set n.toNat after) (by rw[BS]; exact hl) h;grind
theorem yZ1(op:Int):0≤(En op).2:=by
 unfold En
 repeat' split
 all_goals simp
theorem ij(c:List Ins):∀ (r:List Ins) (i:Nat) (dep:List Int) (s out:Int),r=c.drop i→i≤c.length→dep.length=c.length→0≤s→Gk c.length r i dep s=some out→
  s≤out∧∃ D:Nat→Int,(∀ j:Nat,0≤Ec dep j∨j<i→D j=Ec dep j)∧Qf c out i D
 |[],i,dep,s,out,E,hi,hl,hs,h=>by
  simp only[Gk,Db]at h;subst h;have:c.length≤i:=List.drop_eq_nil_iff.1 E.symm;exact⟨CB _,Ec dep,fun _ _=>rfl,fun j U M=>absurd M (by omega)⟩
 |x::r,i,dep,s,out,E,hi,hl,hs,h=>by
  have I:i<c.length:=by
   grind
  rw[A7 I]at E;obtain⟨hx,E⟩:=List.cons.inj E;have hg:c.getD i default=x:=by rw[hx,Af,Ah I]; rfl
  simp only[Gk]at h
  split at h
  ·rename_i V;obtain⟨U,D,M,Y⟩:=ij c r (i+1) dep s out E I hl hs h;refine⟨U,D,fun j hj=>M j (by omega),fun j hj J hD=>?_⟩
   by_cases e:j=i
   ·grind
   ·exact Y j (by omega) J hD
  ·rename_i V
   split at h
   ·cases h
   rename_i ab
   split at h
   ·cases h
   rename_i ac hn;have af:(En x.op).1≤Ec dep i:=by unfold Kc at ab; omega
   have ha:0≤Gi x (Ec dep i):=by have:=yZ1 x.op; unfold Gi; omega
   obtain⟨n1,n2,n3⟩:=qZ ha (by omega) (by rw[hl]) hn;obtain⟨U,D,M,Y⟩:=ij c r (i+1) ac _ out E I (by rw[n1,hl]) (by omega) h;refine⟨by omega,D,fun j hj=>?_,fun j hj J hD=>?_⟩
   ·grind
   ·by_cases e:j=i
    ·grind
    ·exact Y j (by omega) J hD
theorem yW6(h:(E9 c).2=0):∃ D:Nat→Int,D 0=0∧Qf c 64 0 D:=by
 obtain⟨U,V,Y,s,I,h5⟩:=M3 h;obtain⟨_,D,J,M⟩:=ij c c 0 (GY c.length) 0 s rfl (by omega) (by simp[GY]) (by decide) I;have E:Ec (GY c.length) 0=0:=Yzh (by simp; omega);refine⟨D,by rw[J 0 (.inl (by rw[E]; decide)),E],fun j a b d=>?_⟩;obtain⟨q1,q2,q3,q4⟩:=M j a b d;grind
structure Good (c:List Ins) (D:Nat→Int) (s:Sta):Prop where
 st:s.status=0
 cl:s.clause=0
 p0:0≤s.pc
 p1:s.pc<c.length
 d:D s.pc.toNat=s.stack.length
 u0:0≤s.fuel
 u1:s.fuel≤32768
structure Last (s:Sta):Prop where
 st:s.status≠0
 s0:0≤s.status
 s1:s.status≤100000
 l:s.stack.length≤64
theorem Good.len{D:Nat→Int}(E:Qf c 64 0 D)(h:Good c D s):s.stack.length≤64:=by
 have I:=h.d;have J:=h.p0;have M:=h.p1;have:=(E s.pc.toNat (by omega) (by omega) (by omega)).2.1;omega
theorem Good.ready{D:Nat→Int}(hv:(E9 c).2=0)(E:Qf c 64 0 D)(h:Good c D s):G4 c s 0=0:=by
 unfold G4;have hl:=h.len E;have I:=h.st;have J:=h.p0;have M:=h.p1;have U:=h.u0;have V:=h.u1;have Y:=h.cl;rw[if_neg (by omega),if_neg (by omega),if_neg (by unfold Ht; omega)]
theorem jK(h:c.all Gv=true)(hj:j<c.length):Gv (c.getD j default)=true:=by
 grind
theorem uU(h:Gv x=true):1≤x.op∧x.op≤16:=⟨(of_decide_eq_true h).1,(of_decide_eq_true h).2.1⟩
theorem Ynd{op:Int}(h:1≤op∧op≤16):Gd op=(En op).1:=by
 have:op=1∨op=2∨op=3∨op=4∨op=5∨op=6∨op=7∨op=8∨op=9∨op=10∨op=11∨op=12∨op=13∨op=14∨op=15∨op=16:=by omega
 rcases this with rfl | rfl | rfl | rfl | rfl | rfl | rfl | rfl | rfl | rfl | rfl | rfl | rfl | rfl | rfl | rfl <;> rfl
theorem Good.step{D:Nat→Int}(hf:c.all Gv=true)(hD:Qf c 64 0 D)(h:Good c D s) :
  Last (EY v 0 s (G7 c s))∨(Good c D (EY v 0 s (G7 c s))∧s.pc<(EY v 0 s (G7 c s)).pc∧(EY v 0 s (G7 c s)).fuel=s.fuel - 1):=by
 have hl:=h.len hD;obtain⟨h1,h2,h3,h4,h5,h6,h7⟩:=h;have hj:s.pc.toNat<c.length:=by omega
 have ad:Gv (G7 c s)=true:=jK hf hj;have ae:=uU ad;obtain⟨V,q2,q3,q4⟩:=hD s.pc.toNat (by omega) hj (by omega);rw[show c.getD s.pc.toNat default=G7 c s from rfl]at V q3 q4;generalize G7 c s=x at*;rw[h5]at V q3 q4;have a5:=Ynd ae;unfold EY
 by_cases hu:s.fuel=0
 ·rw[if_pos hu];exact .inl ⟨by simp,by simp,by simp,hl⟩
 rw[if_neg hu]
 have a0:¬ ((Dk s).stack.length:Int)<Gd x.op:=by
  unfold Kc at V
  show ¬ ((s.stack.length:Int)<Gd x.op)
  omega
 have hex:Gb v 0 (Dk s) x=DO v 0 (Dk s) x:=if_neg a0
 have nx:∀ (n:Int),n∈K4 x s.pc.toNat→s.pc<n∧n<c.length∧D n.toNat=Gi x s.stack.length:=fun n hn=>by
  grind
 have I:x.op≠14→x.op≠15→x.op≠16→s.pc<s.pc+1∧s.pc+1<c.length∧D (s.pc+1).toNat=Gi x s.stack.length:=fun a b d=>by
  refine nx (s.pc+1) ?_;unfold K4;grind
 have a2:x.op=13∨x.op=14→s.pc<x.n∧x.n<c.length∧D x.n.toNat=Gi x s.stack.length:=fun a=>by
  refine nx x.n ?_;unfold K4;grind
 -- a8 each outcome comes to
 have a9:∀ e,Gb v 0 (Dk s) x=.err e→Last (FU (Dk s) (Gb v 0 (Dk s) x)):=fun e he=>by
  have:=zm he;rw[he];exact⟨by simp only[FU]; omega,by simp only[FU]; omega,by simp only[FU]; omega,hl⟩
 have E:∀ k push pc,Gb v 0 (Dk s) x=.pop k push pc→k≤s.stack.length→((s.stack.length - k+push.toList.length:Nat):Int)=Gi x s.stack.length→(s.pc<pc.getD (s.pc+1)∧pc.getD (s.pc+1)<c.length∧D (pc.getD (s.pc+1)).toNat=Gi x s.stack.length)→
   Good c D (FU (Dk s) (Gb v 0 (Dk s) x))∧s.pc<(FU (Dk s) (Gb v 0 (Dk s) x)).pc∧(FU (Dk s) (Gb v 0 (Dk s) x)).fuel=s.fuel - 1:=fun k push pc he hk bf Y=>by
  rw[he];refine⟨⟨h1,h2,?_,Y.2.1,?_,?_,?_⟩,Y.1,rfl⟩
  ·show 0≤pc.getD (s.pc+1); omega
  ·show D (pc.getD (s.pc+1)).toNat=((s.stack.take (s.stack.length - k)++push.toList).length:Int)
   grind
  ·show 0≤s.fuel - 1; omega
  ·show s.fuel - 1≤32768; omega
 have hd:(En x.op).1≤s.stack.length:=by unfold Kc at V; omega
 by_cases o1:x.op=1
 ·have he:Gb v 0 (Dk s) x=.pop 0 (some x.n) none:=by
   rw[hex]; unfold DO;rw[if_pos o1,if_neg];have:Gi x s.stack.length=s.stack.length+1:=by unfold Gi; rw[o1]; simp[En]
   show ¬ (64:Int)≤0+s.stack.length
   omega
  refine .inr (E _ _ _ he (by omega) ?_ (I (by omega) (by omega) (by omega)));unfold Gi; rw[o1]; simp[En]
 by_cases o2:x.op=2
 ·have bb:¬ (64:Int)≤0+(Dk s).stack.length:=by
   have:Gi x s.stack.length=s.stack.length+1:=by unfold Gi; rw[o2]; simp[En]
   show ¬ (64:Int)≤0+s.stack.length
   omega
  by_cases b1:Pk v.1 (Mn x.n)=0
  ·have he:Gb v 0 (Dk s) x=.err 181:=by
    rw[hex]; unfold DO;grind
   grind
  by_cases b2:Ec v.2 x.n.toNat < -9007199254740992∨9007199254740992<Ec v.2 x.n.toNat
  ·have he:Gb v 0 (Dk s) x=.err 3:=by
    rw[hex]; unfold DO;grind
   grind
  have he:Gb v 0 (Dk s) x=.pop 0 (some (Ec v.2 x.n.toNat)) none:=by
   rw[hex]; unfold DO;grind
  refine .inr (E _ _ _ he (by omega) ?_ (I (by omega) (by omega) (by omega)));unfold Gi; rw[o2]; simp[En]
 by_cases J:x.op=12
 ·have he:Gb v 0 (Dk s) x=.pop 1 (some (if x.n≤Dd (Dk s) 0∧Dd (Dk s) 0≤x.m then 1 else 0)) none:=by
   rw[hex]; unfold DO;grind
  have:(En x.op).1=1:=by rw[J]; rfl
  refine .inr (E _ _ _ he (by omega) ?_ (I (by omega) (by omega) (by omega)));unfold Gi; rw[J]; simp[En]; omega
 by_cases M:x.op=13
 ·have he:Gb v 0 (Dk s) x=.pop 1 none (if Dd (Dk s) 0=0 then some x.n else none):=by
   rw[hex]; unfold DO;grind
  have:(En x.op).1=1:=by rw[M]; rfl
  refine .inr (E _ _ _ he (by omega) ?_ ?_)
  ·unfold Gi; rw[M]; simp[En]; omega
  ·grind
 by_cases U:x.op=14
 ·have he:Gb v 0 (Dk s) x=.set x.n s.status s.clause:=by
   rw[hex]; unfold DO;rw[if_neg o1,if_neg o2,if_neg J,if_neg M,if_pos U]; rfl
  obtain⟨m1,m2,m3⟩:=a2 (.inr U)
  right
  rw[he];refine⟨⟨h1,h2,?_,m2,?_,?_,?_⟩,m1,rfl⟩
  ·show 0≤x.n; omega
  ·show D x.n.toNat=(s.stack.length:Int)
   rw[m3]; unfold Gi; rw[U]; simp[En]
  ·show 0≤s.fuel - 1; omega
  ·show s.fuel - 1≤32768; omega
 by_cases a3:x.op=15
 ·have he:Gb v 0 (Dk s) x=.set s.pc 1 x.n:=by
   rw[hex]; unfold DO;rw[if_neg o1,if_neg o2,if_neg J,if_neg M,if_neg U,if_pos a3]; rfl
  left
  rw[he];exact⟨by simp[FU],by simp[FU],by simp[FU],hl⟩
 by_cases bg:x.op=16
 ·have he:Gb v 0 (Dk s) x=.err 180:=by
   rw[hex]; unfold DO;grind
  grind
 by_cases b1:(Ea x.op (Dd (Dk s) 1) (Dd (Dk s) 0)).2=0
 ·have he:Gb v 0 (Dk s) x=.pop 2 (some (Ea x.op (Dd (Dk s) 1) (Dd (Dk s) 0)).1) none:=by
   rw[hex]; unfold DO;grind
  have e2:En x.op=(2,1):=by
   unfold En;grind
  rw[e2]at hd;refine .inr (E _ _ _ he (by omega) ?_ (I (by omega) (by omega) (by omega)));unfold Gi; rw[e2]; simp; omega
 ·have he:Gb v 0 (Dk s) x=.err (Ea x.op (Dd (Dk s) 1) (Dd (Dk s) 0)).2:=by
   rw[hex]; unfold DO;grind
  grind
def Jf(c:List Ins)(v:Int×List Int):Nat→Sta→List Sta
 |0,s=>[s]
 |f+1,s=>s::if s.status=0 then Jf c v f (Jn c v s)else []
def Hz(c:List Ins)(v:Int×List Int):List Sta:=Jf c v c.length (Ge (c.length+1))
theorem z7{c:List Ins}{D:Nat→Int}{v:Int×List Int}(hv:(E9 c).2=0)(I:Qf c 64 0 D):∀ (f:Nat) (s:Sta),Good c D s→(c.length:Int)≤f+s.pc→
  ∃ l,Jf c v f s=s::l∧RunOK c v (s::l)∧l.length≤f∧(∀ x∈s::l,Good c D x∨Last x)
 |0,s,h,hf=>absurd h.p1 (by have:=h.p1; omega)
 |f+1,s,h,hf=>by
  have J:=h.ready hv I;have E:Jn c v s=EY v 0 s (G7 c s):=if_pos J;have M:=(M3 hv).2.2.1;refine⟨Jf c v f (Jn c v s),by simp only[Jf]; rw[if_pos h.st],?_⟩;rcases h.step (v:=v) M I with hl | ⟨U,V,_⟩
  ·rw[← E]at hl
   have e:Jf c v f (Jn c v s)=[Jn c v s]:=by
    cases f with
    |zero=>rfl
    |succ f=>simp only[Jf]; rw[if_neg hl.st]
   rw[e];refine⟨⟨h.st,J,rfl,hl.st⟩,by simp,fun x Y=>?_⟩;grind
  ·rw[← E]at U V;obtain⟨l,h1,h2,h3,h4⟩:=z7 (v:=v) hv I f (Jn c v s) U (by omega);rw[h1];refine⟨⟨h.st,J,rfl,h2⟩,by simp; omega,fun x Y=>?_⟩;grind
theorem P1(hv:(E9 c).2=0):∃ D l,Qf c 64 0 D∧Hz c v=Ge (c.length+1)::l∧RunOK c v (Ge (c.length+1)::l)∧l.length≤c.length∧(∀ x∈Ge (c.length+1)::l,Good c D x∨Last x):=by
 obtain⟨D,E,I⟩:=yW6 hv;obtain⟨hc,ab,_⟩:=M3 hv;have J:Ge ((c.length:Int)+1)={FO with fuel:=(c.length:Int)+1}:=if_neg (by omega)
 have M:Good c D (Ge ((c.length:Int)+1)):=by
  rw[J];exact⟨rfl,rfl,CB _,by simp only[FO]; omega,E,by simp only[]; omega,by simp only[]; omega⟩
 obtain⟨l,U,V,Y,h4⟩:=z7 (v:=v) hv I c.length _ M (by rw[J]; simp[FO]);exact⟨D,l,I,U,V,Y,h4⟩
structure Der where
 code:List Ins
 env:Int×List Int
 am:Int
 er:Int
 lv:List Dig
 deriving Inhabited
def Dr(cs:D)(v:Int×List Int)(a e:Int)(L:D):List D:=cs::(DY v++[.int .i64 a,.int .i64 e,L])
def HK(l:List Dig):D:=.slc (nz 32 (l.map C9)) (l.map C9) false
def Fk(d:Der):D:=.agg (Dr (Ef d.code) d.env d.am d.er (HK d.lv))
theorem Yvw{a b:List Dig}:HK a=HK b↔a=b:=by
 refine⟨fun h=>?_,fun h=>by rw[h]⟩;simp only[HK,D.slc.injEq,and_true]at h;exact Kp.1 h.2
theorem Ypk{cs cs':D}{I e J:Int}{L M:D}(h:Dr cs v a e L=Dr cs' v' I J M):cs=cs'∧v=v'∧a=I∧e=J∧L=M:=by
 simp only[Dr,Aa]at h;obtain⟨U,E⟩:=List.append_inj' h.2 rfl;simp only[Aa,D.int.injEq,true_and,and_true]at E;exact⟨h.1,J0.1 (congrArg D.agg U),E.1,E.2.1,E.2.2⟩
theorem qJ{a b:Der}:Fk a=Fk b↔a=b:=by
 refine⟨fun h=>?_,fun h=>by rw[h]⟩;obtain⟨a1,V,Y,a4,a5⟩:=a;obtain⟨b1,b2,b3,b4,b5⟩:=b;simp only[Fk,D.agg.injEq]at h;obtain⟨E,I,J,M,U⟩:=Ypk h;subst I; subst J; subst M;rw[Vg.1 E,Yvw.1 U]
def DX:D:=.slc 0 [] true
def Jx:Int×List Int:=(0,CQ 16 0)
theorem fq(hv:Ew v)(cs:D)(a e:Int)(L:D):(Dr cs v a e L).length=21:=by simp[Dr,HT hv]
theorem sO(v:Int×List Int){cs L:D}(hc:cs.isCell=true)(E:L.isCell=true)(a e:Int):(Dr cs v a e L).all D.isCell=true:=by
 have:(DY v).all D.isCell=true:=by rw[TM,Uj]
 simp only[Dr,AY,Bl,hc,E,this,Ct,eQ,BT]
theorem NF:DG (.agg [.slc 0 [] true,.int .i64 0,.int .i64 0,.int .i64 0,.int .i64 0,.int .i64 0,.int .i64 0,.int .i64 0,.int .i64 0,.int .i64 0,.int .i64 0,.int .i64 0,.int .i64 0,.int .i64 0,.int .i64 0,.int .i64 0,.int .i64 0,.int .i64 0,.int .i64 0,.int .i64 0,.slc 0 [] true])=some (Dr DX Jx 0 0 DX):=(rfl)
theorem Yx4:DL [.slc 0 [] true,.int .i64 0,.int .i64 0,.int .i64 0,.int .i64 0,.int .i64 0,.int .i64 0,.int .i64 0,.int .i64 0,.int .i64 0,.int .i64 0,.int .i64 0,.int .i64 0,.int .i64 0,.int .i64 0,.int .i64 0,.int .i64 0,.int .i64 0,.int .i64 0,.int .i64 0,.slc 0 [] true] []=some (Dr DX Jx 0 0 DX):=(rfl)
theorem Yx2(hv:Ew v)(sz:Nat)(els:List D)(t:Bool):DL [.slc 0 [] true,.int .i64 0,.int .i64 0,.int .i64 0,.int .i64 0,.int .i64 0,.int .i64 0,.int .i64 0,.int .i64 0,.int .i64 0,.int .i64 0,.int .i64 0,.int .i64 0,.int .i64 0,.int .i64 0,.int .i64 0,.int .i64 0,.int .i64 0,.int .i64 0,.int .i64 0,.slc 0 [] true] [(0,1,.slc sz els t),(1,17,ED v)]=some (Dr (.slc sz els t) v 0 0 DX):=by
 refine(I4 (cs:=Dr DX Jx 0 0 DX) (cs':=Dr (.slc sz els t) Jx 0 0 DX) (A:=[]) (B:=[DX]) (xs:=[.slc sz els t]) rfl rfl rfl rfl rfl rfl rfl).trans ?_;refine(I4 (cs:=Dr (.slc sz els t) Jx 0 0 DX) (cs':=Dr (.slc sz els t) v 0 0 DX) (A:=[.slc sz els t]) (B:=DY Jx) (xs:=DY v) rfl rfl rfl rfl rfl (HT hv) ?_).trans ?_
 ·rw[TM,Uj]
 ·rfl
theorem mV(hv:Ew v)(M:Ew v')(cs cs':D)(hc:cs'.isCell=true)(a e E I:Int)(L J:D)(U:J.isCell=true):DR (some ⟨false,1,Dr cs v a e L,false⟩) 21 0 (.agg (Dr cs' v' E I J))=some ⟨false,1,Dr cs' v' E I J,false⟩:=
 Lx 1 _ _ 21 (fq hv ..) (fq M ..) (sO v' hc U E I)
theorem m4:Ew Jx:=(rfl)
section
variable {v:Int×List Int} (hv:Ew v) (lent:Bool) (cs L:D) (a e:Int)
include hv
theorem xI:DA (some ⟨false,1,Dr cs v a e L,lent⟩) 21 true 0=some (.agg (Dr cs v a e L)):=Lz 1 lent _ 21 (fq hv ..)
theorem Ywa:DA (some ⟨false,1,Dr cs v a e L,lent⟩) 17 true 1=some (ED v):=Mz (A:=[cs]) (B:=DY v) (C:=[.int .i64 a,.int .i64 e,L]) rfl rfl (HT hv)
theorem Ynz:DA (some ⟨false,1,Dr cs v a e L,lent⟩) 1 false 18=some (.int .i64 a):=I5 (A:=cs::DY v) (C:=[.int .i64 e,L]) (by simp[Dr]) (by simp[HT hv])
theorem iM:DA (some ⟨false,1,Dr cs v a e L,lent⟩) 1 false 20=some L:=I5 (A:=cs::(DY v++[.int .i64 a,.int .i64 e])) (C:=[]) (by simp[Dr]) (by simp[HT hv])
theorem rO(E:Int):DR (some ⟨false,1,Dr cs v a e L,false⟩) 1 18 (.int .i64 E)=some ⟨false,1,Dr cs v E e L,false⟩:=
 Km (A:=cs::DY v) (B:=[.int .i64 a]) (C:=[.int .i64 e,L]) (xs:=[.int .i64 E]) (by simp[Dr]) (by simp[Dr]) (by simp[HT hv]) rfl rfl rfl rfl
theorem rP(E:Int):DR (some ⟨false,1,Dr cs v a e L,false⟩) 1 19 (.int .i64 E)=some ⟨false,1,Dr cs v a E L,false⟩:=
 Km (A:=cs::(DY v++[.int .i64 a])) (B:=[.int .i64 e]) (C:=[L]) (xs:=[.int .i64 E]) (by simp[Dr]) (by simp[Dr]) (by simp[HT hv]) rfl rfl rfl rfl
theorem Ylb(E:D)(I:E.cells=[E])(J:E.isCell=true):DR (some ⟨false,1,Dr cs v a e L,false⟩) 1 20 E=some ⟨false,1,Dr cs v a e E,false⟩:=
 Km (A:=cs::(DY v++[.int .i64 a,.int .i64 e])) (B:=[L]) (C:=[]) (xs:=[E]) (by simp[Dr]) (by simp[Dr]) (by simp[HT hv]) rfl I rfl (by simp[J])
end
theorem z0:DR (some ⟨false,1,Dr DX Jx 0 0 DX,false⟩) 21 0 (.agg (Dr DX Jx 0 0 DX))=some ⟨false,1,Dr DX Jx 0 0 DX,false⟩:=(rfl)
theorem WJ:DA (some ⟨false,1,Dr DX Jx 0 0 DX,false⟩) 21 true 0=some (.agg (Dr DX Jx 0 0 DX)):=(rfl)
theorem tT(hv:Ew v)(cs L:D)(a e:Int)(k t o n:Nat):DR (some ⟨false,1,Dr cs v a e L,false⟩) 1 20 (.row k t o n)=some ⟨false,1,Dr cs v a e (.row k t o n),false⟩:=Ylb hv cs L a e _ rfl rfl
theorem Ywb(v:Int×List Int)(lent:Bool)(cs L:D)(a e:Int):DA (some ⟨false,1,Dr cs v a e L,lent⟩) 1 false 0=some cs:=I5 (A:=[]) rfl rfl
def RF(o:Option PI.Obj):Option Int:=o.bind fun o=>if !o.row && o.sz == 1000003 then(match o.els with
  |[.int .i64 n]=>some n
  |_=>none)else none
theorem du(st:St)(k:Nat):recAt st k=RF st[k]?:=by
 unfold recAt RF;grind
theorem br(n:Int):RF (some (recO n))=some n:=(rfl)
structure okS (s:Sta):Prop where
 l:s.stack.length≤4294967296
 t:s.status≤1000000
def MR(c:List Ins)(v:Int×List Int)(a e:Int)(L:D)(s:Sta)(n:Int)(ex:St):St:=
 ⟨false,1,[Ef c],false⟩::⟨false,1,DY v,false⟩::⟨false,1,Dr DX Jx 0 0 DX,false⟩::⟨false,1,Dr (Ef c) v a e L,false⟩::⟨false,1,[Ef c],false⟩::⟨false,1,DY v,false⟩::recO n::⟨false,1,DW s,false⟩::ex
noncomputable def LF:Tbl:=TB [(49,cE),(61,ky),(47,Se)] [(60,Tp)] [(114,Ry)]
theorem Ylx(c:List Ins)(v:Int×List Int)(hc:c.length≤4096)(hv:Ew v)(s:Sta)(E:okS s)(fr:Frame)(I:fr 2=.ptr 0 0)(J:fr 3=.ptr 1 0)(M:fr 8=.ptr 3 0)(m:Nat) :
  K6 (Rh.exec GG LF m) (Ri.exec GG LF m) fr [26,27] 6 [.int .i64 0,DQ s] (MR c v 0 0 DX s 0 [])=some (.bool true,MR c v (D2 s).1 (D2 s).2.2 (.row 9 1 0 1) s 0 (⟨false,1,DW s,false⟩::⟨true,32,[C8 (DT c v s)].map .agg,false⟩::[])):=by
 refine dw rfl rfl rfl ?_ m;have U:=jN c v s ⟨by omega,hv,E.l⟩;have V:=vV s ⟨E.l,E.t⟩;unfold Rh MR;simp (disch:=first|omega|decide) only[push_cast,↓reduceIte,CI,CJ,JH,H3,J2];unfold Ri;have Y:=fun st=>yRi C9 st 32 0 32 (DT c v s) true (by decide) (by decide);simp (disch:=first|omega|decide) only[push_cast,↓reduceIte,CI,CJ,I,J,M,Ef,iM hv,Gh hv,IB,FH,Kk,NX,U,V,DX,Y,rO hv,rP hv,tT hv,du,br,U7,LF]
theorem z6(c:List Ins)(v:Int×List Int)(hc:c.length≤4096)(hv:Ew v)(s:Sta)(E:okS s)(L:List Dig)(hL:L.length≤100000)(a e:Int)(x:PI.Obj)(I:St)(i:Nat)(fr:Frame)(J:fr 2=.ptr 0 0)(M:fr 3=.ptr 1 0)(U:fr 8=.ptr 3 0)(m:Nat) :
  K6 (Rh.exec GG LF m) (Ri.exec GG LF m) fr [26,27] 6 [.int .i64 (i:Int),DQ s] (MR c v a e (.row 9 L.length 0 L.length) s 0 (x::⟨true,32,L.map C9,false⟩::I))=
   some (.bool true,MR c v (D2 s).1 (D2 s).2.2 (.row 9 (L++[DT c v s]).length 0 (L++[DT c v s]).length) s 0 (x::⟨true,32,(L++[DT c v s]).map C9,false⟩::(I++[HB s]))):=by
 refine dw rfl rfl rfl ?_ m;have V:=jN c v s ⟨by omega,hv,E.l⟩;have Y:=vV s ⟨E.l,E.t⟩;unfold Rh MR;have pf:=fun st=>yM C9 32 32 L (DT c v s) false true st (by decide) (by omega) (by omega);simp (disch:=first|omega|decide) only[push_cast,↓reduceIte,CI,JH,H3,J2,Fc,Sd];unfold Ri;simp (disch:=first|omega|decide) only[push_cast,↓reduceIte,CI,J,M,U,Ef,iM hv,Gh hv,IB,FH,Kk,NX,V,Y,DX,pf,rO hv,rP hv,tT hv,du,br,U7,LF,Fc];rfl
def Ij(l:List Sta):Sta:=(l.getLast?).getD FO
theorem yY8(s s':Sta)(l:List Sta):Ij (s::s'::l)=Ij (s'::l):=(rfl)
theorem z4(c:List Ins)(v:Int×List Int)(hc:c.length≤4096)(hv:Ew v)(fr:Frame)(I:fr 2=.ptr 0 0)(J:fr 3=.ptr 1 0)(M:fr 8=.ptr 3 0)(m:Nat)(x:PI.Obj):∀ (l:List Sta) (s:Sta) (L:List Dig) (a e:Int) (ex:St),
  RunOK c v (s::l)→(∀ y∈s::l,okS y)→L.length+l.length≤100000→
  RunY (K6 (Rh.exec GG LF m) (Ri.exec GG LF m) fr [26,27] 6) 7 4 5 (s::l) L.length (MR c v a e (.row 9 L.length 0 L.length) s 0 (x::⟨true,32,L.map C9,false⟩::ex))
   (MR c v (D2 (Ij (s::l))).1 (D2 (Ij (s::l))).2.2 (.row 9 (L++(s::l).map (DT c v)).length 0 (L++(s::l).map (DT c v)).length) (Ij (s::l)) 0 (x::⟨true,32,(L++(s::l).map (DT c v)).map C9,false⟩::(ex++(s::l).map HB)))
 |[],s,L,a,e,ex,U,E,hl=>.last (z6 c v hc hv s (E s (by simp)) L (by simpa using hl) a e x ex L.length fr I J M m) rfl
 |s'::l,s,L,a,e,ex,U,E,hl=>by
  have h:=z4 c v hc hv fr I J M m x l s' (L++[DT c v s]) (D2 s).1 (D2 s).2.2 (ex++[HB s]) U.2.2.2 (fun y V=>E y (by simp[V])) (by simp at hl ⊢; omega);refine .next (z6 c v hc hv s (E s (by simp)) L (by simp at hl; omega) a e x ex L.length fr I J M m) rfl rfl rfl ?_
  rw[yY8];have Y:L++(s::s'::l).map (DT c v)=(L++[DT c v s])++(s'::l).map (DT c v):=by simp
  have e2:(L++[DT c v s]).length=L.length+1:=by simp
  have e3:ex++(s::s'::l).map HB=(ex++[HB s])++(s'::l).map HB:=by simp
  rw[Y,e3,← e2];exact h
theorem YB8(c:List Ins)(v:Int×List Int)(hc:c.length≤4096)(hv:Ew v)(fr:Frame)(E:fr 2=.ptr 0 0)(I:fr 3=.ptr 1 0)(J:fr 8=.ptr 3 0)(m:Nat)(l:List Sta)(s:Sta)(V:RunOK c v (s::l))(M:∀ y∈s::l,okS y)(hl:l.length≤90000) :
  RunY (K6 (Rh.exec GG LF m) (Ri.exec GG LF m) fr [26,27] 6) 7 4 5 (s::l) 0 (MR c v 0 0 DX s 0 [])
   (MR c v (D2 (Ij (s::l))).1 (D2 (Ij (s::l))).2.2 (.row 9 ((s::l).map (DT c v)).length 0 ((s::l).map (DT c v)).length) (Ij (s::l)) 0 (⟨false,1,DW s,false⟩::⟨true,32,((s::l).map (DT c v)).map C9,false⟩::l.map HB)):=by
 have U:=Ylx c v hc hv s (M s (by simp)) fr E I J m
 cases l with
 |nil=>exact .last U rfl
 |cons s' l=>exact .next U rfl rfl rfl (z4 c v hc hv fr E I J m ⟨false,1,DW s,false⟩ l s' [DT c v s] (D2 s).1 (D2 s).2.2 [] V.2.2.2 (fun y Y=>M y (by simp[Y])) (by simp at hl ⊢; omega))
def Oj:Der:=⟨[],Jx,0,0,[]⟩
def H7(c:List Ins)(v:Int×List Int):Der:=if(E9 c).2=0 then⟨c,v,(D2 (Ij (Hz c v))).1,(D2 (Ij (Hz c v))).2.2,(Hz c v).map (DT c v)⟩else Oj
theorem OT(st:St):∀ {A:List D} (B:List D),A.all Ep=true→D3 st (A++B)=(D3 st B).map (A++·)
 |[],B,_=>by simp
 |d::A,B,h=>by
  simp only[AY,Ac]at h;rw[Ak,D3,eV st h.1,OT st B h.2];cases D3 st B <;> rfl
theorem P5(v:Int×List Int):(DY v).all Ep=true:=by
 rw[TM]; exact Q9 (v.1::v.2)
theorem qt(st:St)(cs cs' L E:D)(v:Int×List Int)(a e:Int)(I:DC st cs=some cs')(J:DC st L=some E):DV st (.agg (Dr cs v a e L))=some (.agg (Dr cs' v a e E)):=by
 simp only[DV,Dr,D3,I,OT st _ (P5 v),J,iH,Ae]
theorem Yoj(st:St)(c:List Ins)(v:Int×List Int)(a e:Int)(L:List Dig)(k:Nat)(lent:Bool)(hk:st[k]?=some ⟨true,32,L.map C9,lent⟩):DV st (.agg (Dr (Ef c) v a e (.row k L.length 0 L.length)))=some (Fk ⟨c,v,a,e,L⟩):=by
 refine qt st _ _ _ _ v a e (by simp only[Ef,DC,Ik]) ?_
 have E:HR st k L.length 0 L.length=some (32,L.map C9):=by
  rw[tO,hk]; exact zU C9 32 L lent
 simp only[DC,E,Ae];rfl
theorem Yok(st:St):DV st (.agg (Dr DX Jx 0 0 DX))=some (Fk Oj):=(rfl)
theorem Sm(st:St)(d:Der):DV st (Fk d)=some (Fk d):=qt st _ _ _ _ _ _ _ (by simp only[Ef,DC,Ik]) (by simp only[HK,DC,Ik])
theorem Yxp{D:Nat→Int}(E:Qf c 64 0 D){x:Sta}(h:Good c D x∨Last x):okS x:=by
 rcases h with h | h
 ·exact⟨by have:=h.len E; omega,by have:=h.st; omega⟩
 ·exact⟨by have:=h.l; omega,by have:=h.s1; omega⟩
noncomputable def bH:List D→Option D:=Dl (α:=List Ins×(Int×List Int)) (fun a=>[.slc (nz 3 (a.1.map Da)) (a.1.map Da) false,ED a.2]) (fun a=>a.1.length≤9223372036854775807∧Ew a.2) (fun a=>.tup [Fk (H7 a.1 a.2),.int .i64 (E9 a.1).2])
theorem Yp0(c:List Ins)(v:Int×List Int)(h:c.length≤9223372036854775807∧Ew v):bH [.slc (nz 3 (c.map Da)) (c.map Da) false,ED v]=some (.tup [Fk (H7 c v),.int .i64 (E9 c).2]):=
 D5 (fun⟨a0,a1⟩ ⟨b0,b1⟩ h=>by simp only[Aa,D.slc.injEq,and_true,Ko,J0]at h; simp[h]) (c,v) h
theorem VD(c:List Ins)(v:Int×List Int)(h:c.length≤9223372036854775807∧Ew v):@wW GG LF Zt.code (Dc [Ef c,ED v]) [] ⟨Dp Zt.res (.tup [Fk (H7 c v),.int .i64 (E9 c).2])⟩:=by
 obtain⟨hc,hv⟩:=h;have M:=Yo c hc;have cs:=pP c v [⟨false,1,[.slc (nz 3 (c.map Da)) (c.map Da) false],false⟩,⟨false,1,DY v,false⟩,⟨false,1,Dr DX Jx 0 0 DX,false⟩,⟨false,1,Dr (.slc (nz 3 (c.map Da)) (c.map Da) false) v 0 0 DX,false⟩] hv;simp only[Ef]at cs;unfold Zt
 by_cases I:(E9 c).2=0
 ·obtain⟨Dm,l,hD,ht,U,ah,hg⟩:=P1 (v:=v) I;obtain⟨J,_⟩:=M3 I;rw[show H7 c v=⟨c,v,(D2 (Ij (Hz c v))).1,(D2 (Ij (Hz c v))).2.2,(Hz c v).map (DT c v)⟩from if_pos I,ht];have sd:∀ (sz:Nat) (els:List D) (t:Bool),DR (some ⟨false,1,Dr DX Jx 0 0 DX,false⟩) 21 0 (.agg (Dr (.slc sz els t) v 0 0 DX))=some ⟨false,1,Dr (.slc sz els t) v 0 0 DX,false⟩:=fun sz els t=>mV m4 hv DX _ rfl 0 0 0 0 DX DX rfl;simp (disch:=first|omega|decide) only[push_cast,↓reduceIte,CI,CJ,LF,Ef,FK,NF,M,I,Gh hv,Yx2 hv,sd,cs];refine gg (e:=.next) (st':=MR c v (D2 (Ij (Ge ((c.length:Int)+1)::l))).1 (D2 (Ij (Ge ((c.length:Int)+1)::l))).2.2 (.row 9 ((Ge ((c.length:Int)+1)::l).map (DT c v)).length 0 ((Ge ((c.length:Int)+1)::l).map (DT c v)).length) (Ij (Ge ((c.length:Int)+1)::l)) 0 (⟨false,1,DW (Ge ((c.length:Int)+1)),false⟩::⟨true,32,((Ge ((c.length:Int)+1)::l).map (DT c v)).map C9,false⟩::l.map HB)) (d:=.tup []) (by simp only[push_cast,↓reduceIte] <;> rfl) (by decide) (by rfl) (fun m=>?_) rfl ?_
  ·refine ir ⟨4,5,c,v,l,false,false,rfl,rfl,rfl,J,hv,by omega,U,rfl,?_⟩;exact YB8 c v J hv _ rfl rfl rfl m l _ U (fun y hy=>Yxp hD (hg y hy)) (by omega)
  ·unfold MR
   have V:∀ (E:List Dig) (Y o7:PI.Obj) (ex:St) (a e:Int),DV (⟨false,1,[Ef c],false⟩::⟨false,1,DY v,false⟩::⟨false,1,Dr (Ef c) v a e (.row 9 E.length 0 E.length),false⟩::⟨false,1,Dr (Ef c) v a e (.row 9 E.length 0 E.length),false⟩::⟨false,1,[Ef c],false⟩::⟨false,1,DY v,false⟩::recO 2::Y::o7::⟨true,32,E.map C9,false⟩::ex) (.agg (Dr (Ef c) v a e (.row 9 E.length 0 E.length)))=some (Fk ⟨c,v,a,e,E⟩):=
    fun E Y o7 ex a e=>Yoj _ c v a e E 9 false rfl
   have sr:∀ (k t o n:Nat) (a e:Int),DR (some ⟨false,1,Dr DX Jx 0 0 DX,false⟩) 21 0 (.agg (Dr (Ef c) v a e (.row k t o n)))=some ⟨false,1,Dr (Ef c) v a e (.row k t o n),false⟩:=fun k t o n a e=>mV m4 hv DX _ rfl 0 0 _ _ DX _ rfl;generalize (Ge ((c.length:Int)+1)::l).map (DT c v)=E;generalize D2 (Ij (Ge ((c.length:Int)+1)::l))=R;simp (disch:=first|omega|decide) only[push_cast,↓reduceIte,CI,CJ,xI hv,sr,V,I]
 ·rw[show H7 c v=Oj from if_neg I];simp (disch:=first|omega|decide) only[push_cast,↓reduceIte,CI,CJ,LF,Ef,FK,NF,M,I,Yx4,z0,WJ,Yok]
theorem Xz:Contract Tryz.prog GG 19 bH:=
 Ed (T:=LF) yIg (xX (all_cons xu (all_cons Yqd (all_cons aT all_nil))) (all_cons xz all_nil) (all_cons xB all_nil)) (fun a h=>VD a.1 a.2 h)
end Go.Proofs.YtijnglngaogdjaaGreatDoor.PI
