/-
  derive: derivations, Run.
  Conditions: none; these are lemmas.
-/
import Derived.Test.YtijnglngaogdjaaGreatDoorArE
import Derived.Test.YtijnglngaogdjaaGreatDoorEngHe
open BitVec renaming ofInt→CR
open Int renaming reduceLT→CT,reduceNatCast'→CL,reduceNeg→CO
open List renaming replicate→CQ
open Nat renaming reduceAdd→CJ,reduceEqDiff→CI,reduceLT→CP,reduceLeDiff→CM
namespace Go.Proofs.YtijnglngaogdjaaGreatDoor.PI
open Go
set_option linter.unusedSimpArgs false
set_option maxHeartbeats 8000000
set_option maxRecDepth 20000
set_option linter.unusedVariables false
def Kg(op:Int):Int×Int:=if op=1∨op=13∨op=14∨op=15 then(1,9007199254740992)else if op=2 then(1,15)else if op=12 then(2,9007199254740992)else(0,0)
def Ep(op:Int):Int×Int:=if op=1∨op=2 then(0,1)else if op=12 then(1,1)else if op=13∨op=15 then(1,0)else if op=14∨op=16 then(0,0)else(2,1)
def GI(x:Ins):Bool:=decide (1≤x.op∧x.op≤16∧((Kg x.op).1≤0→x.n=0)∧((Kg x.op).1≤1→x.m=0)∧0≤min x.n x.m∧max x.n x.m≤(Kg x.op).2)
theorem vE(op:Int):Kg op=(1,9007199254740992)∨Kg op=(1,15)∨Kg op=(2,9007199254740992)∨Kg op=(0,0):=by
 unfold Kg
 split
 ·exact .inl rfl
 ·split
  ·exact .inr (.inl rfl)
  ·split
   ·exact .inr (.inr (.inl rfl))
   ·exact .inr (.inr (.inr rfl))
theorem yZ5(op:Int):0≤(Ep op).1∧(Ep op).1≤2∧0≤(Ep op).2∧(Ep op).2≤1:=by
 unfold Ep
 split
 ·decide
 ·split
  ·decide
  ·split
   ·decide
   ·split <;> decide
noncomputable def gY:List D→Option D:=Dl (α:=Int) (fun a=>[.int .i64 a]) (fun a=>True) (fun a=>.tup [.int .i64 (Kg a).1,.int .i64 (Kg a).2])
theorem Yij(op:Int):gY [.int .i64 op]=some (.tup [.int .i64 (Kg op).1,.int .i64 (Kg op).2]):=
 D7 (fun a b h=>by simp only[Aa,D.int.injEq,true_and,and_true]at h; simp[h]) (op) trivial
theorem YAk(op:Int):@wW GG (tb [] []) aI.code (Dc [.int .i64 op]) [] ⟨Dq aI.res (.tup [.int .i64 (Kg op).1,.int .i64 (Kg op).2])⟩:=by
 unfold aI Kg
 by_cases E:op=1
 ·subst E; simp (disch:=first|omega|decide) only[push_cast,↓reduceIte,CI,true_or]
 ·by_cases I:op=13
  ·subst I; simp (disch:=first|omega|decide) only[push_cast,↓reduceIte,CI,E,true_or,or_true]
  ·by_cases J:op=14
   ·subst J; simp (disch:=first|omega|decide) only[push_cast,↓reduceIte,CI,E,I,true_or,or_true]
   ·by_cases M:op=15
    ·subst M; simp (disch:=first|omega|decide) only[push_cast,↓reduceIte,CI,E,I,J,or_true]
    ·by_cases U:op=2
     ·subst U; simp (disch:=first|omega|decide) only[push_cast,↓reduceIte,CI,E,I,J,M,or_self]
     ·by_cases V:op=12
      ·subst V; simp (disch:=first|omega|decide) only[push_cast,↓reduceIte,CI,E,I,J,M,U,or_self]
      ·simp (disch:=first|omega|decide) only[push_cast,↓reduceIte,CI,E,I,J,M,U,V,or_self]
theorem YFd:Contract Tryz.prog GG 148 gY:=
 Eg yv5 (DJ all_nil all_nil) (fun a h=>YAk a)
noncomputable def OI:List D→Option D:=Dl (α:=Int) (fun a=>[.int .i64 a]) (fun a=>True) (fun a=>.tup [.int .i64 (Ep a).1,.int .i64 (Ep a).2])
theorem Yii(op:Int):OI [.int .i64 op]=some (.tup [.int .i64 (Ep op).1,.int .i64 (Ep op).2]):=
 D7 (fun a b h=>by simp only[Aa,D.int.injEq,true_and,and_true]at h; simp[h]) (op) trivial
theorem YAj(op:Int):@wW GG (tb [] []) Z7.code (Dc [.int .i64 op]) [] ⟨Dq Z7.res (.tup [.int .i64 (Ep op).1,.int .i64 (Ep op).2])⟩:=by
 unfold Z7 Ep
 by_cases E:op=1
 ·subst E; simp (disch:=first|omega|decide) only[push_cast,↓reduceIte,CI,true_or]
 ·by_cases I:op=2
  ·subst I; simp (disch:=first|omega|decide) only[push_cast,↓reduceIte,CI,E,or_true]
  ·by_cases J:op=12
   ·subst J; simp (disch:=first|omega|decide) only[push_cast,↓reduceIte,CI,E,I,or_self]
   ·by_cases M:op=13
    ·subst M; simp (disch:=first|omega|decide) only[push_cast,↓reduceIte,CI,E,I,J,or_self,true_or]
    ·by_cases U:op=15
     ·subst U; simp (disch:=first|omega|decide) only[push_cast,↓reduceIte,CI,E,I,J,M,or_self,or_true]
     ·by_cases V:op=14
      ·subst V; simp (disch:=first|omega|decide) only[push_cast,↓reduceIte,CI,E,I,J,M,U,or_self,true_or]
      ·by_cases Y:op=16
       ·subst Y; simp (disch:=first|omega|decide) only[push_cast,↓reduceIte,CI,E,I,J,M,U,V,or_self,or_true]
       ·simp (disch:=first|omega|decide) only[push_cast,↓reduceIte,CI,E,I,J,M,U,V,Y,or_self]
theorem YFc:Contract Tryz.prog GG 101 OI:=
 Eg yB4 (DJ all_nil all_nil) (fun a h=>YAj a)
theorem ic(a b c d:Int):DT (some ⟨false,1,[.int .i64 a,.int .i64 b,.int .i64 c],false⟩) 1 1 (.int .i64 d)=some ⟨false,1,[.int .i64 a,.int .i64 d,.int .i64 c],false⟩:=(rfl)
theorem Yuk(a b c d:Int):DT (some ⟨false,1,[.int .i64 a,.int .i64 b,.int .i64 c],false⟩) 1 2 (.int .i64 d)=some ⟨false,1,[.int .i64 a,.int .i64 b,.int .i64 d],false⟩:=(rfl)
theorem Ph(lent:Bool)(a b c:D):DA (some ⟨false,1,[a,b,c],lent⟩) 3 true 0=some (.agg [a,b,c]):=(rfl)
theorem Pc(a b c:Int):DT (some ⟨false,1,[.int .i64 0,.int .i64 0,.int .i64 0],false⟩) 3 0 (.agg [.int .i64 a,.int .i64 b,.int .i64 c])=some ⟨false,1,[.int .i64 a,.int .i64 b,.int .i64 c],false⟩:=(rfl)
theorem bZ(a:Int):DN [.int .i64 0,.int .i64 0,.int .i64 0] [(0,1,.int .i64 a)]=some [.int .i64 a,.int .i64 0,.int .i64 0]:=(rfl)
theorem cn(x:Ins):DP x=[.int .i64 x.op,.int .i64 x.n,.int .i64 x.m]:=(rfl)
theorem bW(a b c E b' c':Int):G7 [0,0,0] false (.agg [.int .i64 a,.int .i64 b,.int .i64 c]) (.agg [.int .i64 E,.int .i64 b',.int .i64 c'])=some (.bool (decide (a=E∧b=b'∧c=c'))):=by
 simp only[G7,E9,Jn,if_true,Ag,Bool.bne_false]
 congr 2
 by_cases I:a=E <;> by_cases J:b=b' <;> by_cases M:c=c' <;> simp[I,J,M]
noncomputable def gZ:List D→Option D:=Dl (α:=Ins) (fun a=>[Da a]) (fun a=>True) (fun a=>.bool (GI a))
theorem Yih(x:Ins):gZ [Da x]=some (.bool (GI x)):=
 D7 (fun a b h=>by simp only[Aa,and_true,Sx]at h; simp[h]) (x) trivial
theorem YAi(x:Ins):@wW GG (tb [(148,gY)] []) Z8.code (Dc [Da x]) [] ⟨Dq Z8.res (.bool (GI x))⟩:=by
 unfold Z8;obtain⟨op,n,m⟩:=x
 by_cases J:op<1
 ·rw[show GI ⟨op,n,m⟩=false from decide_eq_false (by dsimp only; omega)];simp (disch:=first|omega|decide) only[push_cast,↓reduceIte,CI,FC,GJ,J]
 ·by_cases M:17≤op
  ·rw[show GI ⟨op,n,m⟩=false from decide_eq_false (by dsimp only; omega)];simp (disch:=first|omega|decide) only[push_cast,↓reduceIte,CI,FC,GJ,J,M]
  ·have hc:=Yij op
   have fin:∀ (a b:Int) (U V:Int),Kg op=(a,b)→(a≤0→U=n)→(0<a→U=0)→(a≤1→V=m)→(1<a→V=0)→GI ⟨op,n,m⟩=(decide (op=op∧U=0∧V=0) && (decide (0≤min n m) && decide (max n m≤b))):=by
    intro a b U V e e1 e2 e3 e4;unfold GI;dsimp only;rw[e];rw[B5];simp only[Af,decide_eq_true_eq];refine⟨fun⟨_,_,p1,Y,p3,p4⟩=>⟨⟨trivial,?_,?_⟩,p3,p4⟩,fun⟨⟨_,p1,Y⟩,p3,p4⟩=>⟨by omega,by omega,?_,?_,p3,p4⟩⟩
    ·by_cases ha:a≤0
     ·rw[e1 ha]; exact p1 ha
     ·exact e2 (by omega)
    ·by_cases ha:a≤1
     ·rw[e3 ha]; exact Y ha
     ·exact e4 (by omega)
    ·intro ha; rw[← e1 ha]; exact p1
    ·intro ha; rw[← e3 ha]; exact Y
   rcases vE op with e | e | e | e
   ·rw[fin 1 _ 0 m e (by omega) (by omega) (by omega) (by omega)];rw[e]at hc
    rcases Classical.propComplete (m=0)with I | I <;> rcases Classical.propComplete (0≤min n m)with r1 | r1 <;> rcases Classical.propComplete (max n m≤9007199254740992)with E | E <;>
     simp (disch:=first|omega|decide) only[push_cast,↓reduceIte,CI,CT,FC,LU,J,M,hc,Pc,cn,ic,Ph,bZ,bW,I,r1,E,and_self,and_false]
   ·rw[fin 1 _ 0 m e (by omega) (by omega) (by omega) (by omega)];rw[e]at hc
    rcases Classical.propComplete (m=0)with I | I <;> rcases Classical.propComplete (0≤min n m)with r1 | r1 <;> rcases Classical.propComplete (max n m≤15)with E | E <;>
     simp (disch:=first|omega|decide) only[push_cast,↓reduceIte,CI,CT,FC,LU,J,M,hc,Pc,cn,ic,Ph,bZ,bW,I,r1,E,and_self,and_false]
   ·rw[fin 2 _ 0 0 e (by omega) (by omega) (by omega) (by omega)];rw[e]at hc
    rcases Classical.propComplete (0≤min n m)with r1 | r1 <;> rcases Classical.propComplete (max n m≤9007199254740992)with E | E <;>
     simp (disch:=first|omega|decide) only[push_cast,↓reduceIte,CI,CT,FC,LU,J,M,hc,Pc,cn,ic,Yuk,Ph,bZ,bW,r1,E,and_self]
   ·rw[fin 0 _ n m e (by omega) (by omega) (by omega) (by omega)];rw[e]at hc
    rcases Classical.propComplete (n=0)with I | I <;> rcases Classical.propComplete (m=0)with q1 | q1 <;> rcases Classical.propComplete (0≤min n m)with r1 | r1 <;> rcases Classical.propComplete (max n m≤0)with E | E <;>
     simp (disch:=first|omega|decide) only[push_cast,↓reduceIte,CI,CT,FC,LU,J,M,hc,Pc,cn,Ph,bZ,bW,I,q1,r1,E,and_true,and_self,and_false]
theorem YFb:Contract Tryz.prog GG 99 gZ:=
 Eg yB3 (DJ (all_cons YFd all_nil) all_nil) (fun a h=>YAi a)
noncomputable def gS:List D→St→Option (D×St):=G3 (α:=Ins) (fun x=>([Da x],[])) (fun _=>True) (fun x=>(.bool (!GI x),[]))
theorem tn(x:Ins):gS [Da x] []=some (.bool (!GI x),[]):=
 MR (fun a b e=>by simp only[Dx,Aa,and_true,Sx]at e; rw[e]) x trivial rfl
theorem Yym:IContract Tryz.prog GG 98 gS:=by
 refine Rk (T:=tb [(99,gZ)] []) yyd (DJ (all_cons YFb all_nil) all_nil) ?_;intro x _;unfold od;simp (disch:=first|omega|decide) only[push_cast,↓reduceIte,CI,FC,Ov,Yw3,Yih];rfl
def Jf:List Ins→Nat→Int
 |[],_=>-1
 |x::l,i=>if GI x then Jf l (i+1)else i
theorem yR:∀ (l:List Ins) (i:Nat),0≤Jf l i↔l.all GI=false
 |[],i=>by simp[Jf]
 |x::l,i=>by
  have:=yR l (i+1);unfold Jf;cases h:GI x <;> simp[h];simpa using this
noncomputable def mY:List D→St→Option (D×St):=G3 (α:=List Ins) (fun c=>([.slc (nz 3 (c.map Da)) (c.map Da) false,.clo 98 []],[])) (fun c=>c.length≤9223372036854775807) (fun c=>(.int .i64 (Jf c 0),[]))
theorem Yp8(c:List Ins)(h:c.length≤9223372036854775807):mY [.slc (nz 3 (c.map Da)) (c.map Da) false,.clo 98 []] []=some (.int .i64 (Jf c 0),[]):=
 MR (fun a b e=>by simp only[Dx,Aa,D.slc.injEq,and_true,KL]at e; rw[e.2]) c h rfl
variable {i:Nat}{α:Type}
theorem YA[Inhabited α](l:List α)(h:i<l.length):l.drop i=l.getD i default::l.drop (i+1):=by
 rw[A9 h,Ai,Am h]; rfl
theorem YE4:IContract Tryz.prog GG 147 mY:=by
 refine Rk (T:=tb [] [(98,gS)]) yg7 (DJ all_nil (all_cons Yym all_nil)) ?_;intro c hc;unfold pD;simp (disch:=first|omega|decide) only[push_cast,↓reduceIte,CI,CO]
 refine F0 (fun i:Nat=>[(0,.slc (nz 3 (c.map Da)) (c.map Da) false),(1,.clo 98 []),(7,.int .i64 (c.length:Int)),(8,.int .i64 (i:Int))])
  (fun i=>[]) (fun i=>i≤c.length∧Jf (c.drop i) i=Jf c 0) (fun i=>c.length - i) 0 (by simp only[push_cast,↓reduceIte,CI,↓CL] <;> rfl) ⟨by omega,rfl⟩ ?_
 rintro i ⟨hi,hb⟩;unfold pF;simp (disch:=first|omega|decide) only[push_cast,↓reduceIte,CI];refine E3 (fun U=>?_) (fun U=>?_)
 ·have E:i<c.length:=by omega
  have J:=Vv [] c false i E;have I:=YA c E;obtain⟨x,M⟩:∃ x,c.getD i default=x:=⟨_,rfl⟩;rw[M]at J I;rw[I,Jf]at hb
  cases hf:GI x with
  |false=>
   rw[hf]at hb;have hv:=tn x;rw[hf]at hv;simp (disch:=first|omega|decide) only[push_cast,↓reduceIte,CI,CO,J,Le,hv];simp only[Ap,if_false]at hb;rw[← hb];rfl
  |true=>
   rw[hf]at hb;have hv:=tn x;rw[hf]at hv;simp (disch:=first|omega|decide) only[push_cast,↓reduceIte,CI,J,Le,hv,DM];refine E5 (i+1) ⟨by omega,hb⟩ (by omega) ?_;simp only[push_cast] <;> rfl
 ·obtain rfl:i=c.length:=by omega
  rw[Bg,Jf]at hb;simp (disch:=first|omega|decide) only[push_cast,↓reduceIte,CO];rw[← hb];rfl
noncomputable def Oz:List D→St→Option (D×St):=G3 (α:=List Ins) (fun c=>([.slc (nz 3 (c.map Da)) (c.map Da) false,.clo 98 []],[])) (fun c=>c.length≤9223372036854775807) (fun c=>(.bool (!c.all GI),[]))
theorem Yqb(c:List Ins)(h:c.length≤9223372036854775807):Oz [.slc (nz 3 (c.map Da)) (c.map Da) false,.clo 98 []] []=some (.bool (!c.all GI),[]):=
 MR (fun a b e=>by simp only[Dx,Aa,D.slc.injEq,and_true,KL]at e; rw[e.2]) c h rfl
theorem YE6:IContract Tryz.prog GG 97 Oz:=by
 refine Rk (T:=tb [] [(147,mY)]) yfw (DJ all_nil (all_cons YE4 all_nil)) ?_;intro c hc;unfold pE;have E:=Yp8 c hc
 have hb:decide (0≤Jf c 0)=!c.all GI:=by
  have:=yR c 0
  cases h:c.all GI with
  |true=>rw[h]at this; simp at this ⊢; omega
  |false=>rw[h]at this; simp at this ⊢; exact this
 simp (disch:=first|omega|decide) only[push_cast,↓reduceIte,CI,E,hb];rfl
variable {hints:List (List Nat)}{il:List Nat}{T:Tbl}{G:Dj}{P:Program}
theorem nV{f:Nat}{F:PF}(E:DB P il f hints=some F)(I:TblOK P G T){enc:α→List D×St}{pre:α→Prop}{r:α→D×St}
  (h:∀ a,pre a→@wW G T F.code (Dc (enc a).1) (enc a).2 ⟨@G4 F.res ⟨fun d st'=>(d,st')=r a⟩⟩) (J:T.y=fun _ _ _=>none:=by rfl):IContract P G f (G3 enc pre r):=
 JR E I (fun ds st x M=>by
  obtain⟨a,ha,U,rfl⟩:=jo M;have:=h a U;rw[ha]at this;exact this) J
noncomputable def kB:List D→Option D:=Dl (α:=Int×Int) (fun a=>[.int .u64 a.1,.int .u64 a.2]) (fun a=>0≤a.1∧a.1<18446744073709551616∧0≤a.2∧a.2<18446744073709551616) (fun a=>.tup [.int .u64 (a.1*a.2 / 18446744073709551616),.int .u64 (a.1*a.2 % 18446744073709551616)])
theorem yS0(x:Int)(y:Int)(h:0≤x∧x<18446744073709551616∧0≤y∧y<18446744073709551616):kB [.int .u64 x,.int .u64 y]=some (.tup [.int .u64 (x*y / 18446744073709551616),.int .u64 (x*y % 18446744073709551616)]):=
 D7 (fun⟨a0,a1⟩ ⟨b0,b1⟩ h=>by simp only[Aa,D.int.injEq,true_and,and_true]at h; simp[h]) (x,y) h
theorem Ykn(x:Int)(y:Int)(h:0≤x∧x<18446744073709551616∧0≤y∧y<18446744073709551616):@wW GG (tb [(169,cK)] []) aj.code (Dc [.int .u64 x,.int .u64 y]) [] ⟨Dq aj.res (.tup [.int .u64 (x*y / 18446744073709551616),.int .u64 (x*y % 18446744073709551616)])⟩:=by
 unfold aj;simp (disch:=first|omega|decide) only[push_cast,↓reduceIte,CI,sG x y h]
theorem Yqf:Contract Tryz.prog GG 149 kB:=
 Eg yAh (DJ (all_cons xq all_nil) all_nil) (fun a h=>Ykn a.1 a.2 h)
noncomputable def OA:List D→St→Option (D×St):=G3 (α:=Nat×Int) (fun a=>([.slc 1 [.int .i64 a.2] true,.int .i64 (a.1:Int)],[])) (fun a=>0<a.1∧a.1≤100000) (fun a=>(.row 0 a.1 0 a.1,[⟨true,1,(CQ a.1 a.2).map nI,false⟩]))
theorem Yp1(n:Nat)(a:Int)(h:0<n∧n≤100000):OA [.slc 1 [.int .i64 a] true,.int .i64 (n:Int)] []=some (.row 0 n 0 n,[⟨true,1,(CQ n a).map nI,false⟩]):=
 MR (fun⟨a,b⟩ ⟨E,b'⟩ e=>by
  simp only[Dx,Aa,D.slc.injEq,D.int.injEq,and_true,true_and,Int.ofNat_inj]at e;obtain⟨rfl,rfl⟩:=e;rfl) ((n,a):Nat×Int) h rfl
def GL(n j:Nat)(a:Int):List D:=(CQ j a++CQ (n - j) 0).map nI
variable {a:Int}{j n:Nat}
theorem fJ(h:j≤n):(GL n j a).length=n:=by simp[GL]; omega
theorem wu{m:Nat}(h:j+m≤n):FU (GL n j a) j ((CQ m a).map nI)=GL n (j+m) a:=by
 have e:CQ (n - j) (0:Int)=CQ m 0++CQ (n - (j+m)) 0:=by
  rw[Ca]; congr 1; omega
 unfold GL;rw[e,Bi,Bi,ff (by simp) (by simp),← Bi,← Bi,← Ak,Ca]
theorem Yyf(I:0<j)(E:j<n):KT [⟨true,1,GL n j a,false⟩] 1 (.row 0 n j (n - j)) (.row 0 n 0 j)=some (.int .i64 (min (n - j) j:Nat),[⟨true,1,GL n (j+min (n - j) j) a,false⟩]):=by
 have hl:=fJ (a:=a) (Cs E)
 have he:Ic [⟨true,1,GL n j a,false⟩] 0 n 0 j=some (1,(CQ j a).map nI):=by
  simp only[Ic,AH,hl];rw[if_pos (by simp; omega),Bz]
  congr 2
  simp[GL]
 simp only[KT,Ye,AH,Hw,he,hl,JV];rw[if_pos (by simp; omega)];simp only[Bd,BQ,Bv]
 congr 3
 rw[← B6,List.take_replicate,show min (min (n - j) j) j=min (n - j) j by omega,wu (by omega)]
theorem Ypp(I:0<n):KT [⟨true,1,CQ n (.int .i64 0),false⟩] 1 (.row 0 n 0 n) (.slc 1 [.int .i64 a] true)=some (.int .i64 1,[⟨true,1,GL n 1 a,false⟩]):=by
 have E:(CQ n (D.int .i64 0))=GL n 0 a:=by simp[GL,nI]
 rw[E];have hl:=fJ (a:=a) (A4 n);simp only[KT,Ye,AH,Hw,hl,JV];rw[if_pos (by simp; omega)];have hm:min n [D.int IntKind.i64 a].length=1:=by simp; omega
 simp only[hm,Bv];have:=wu (n:=n) (j:=0) (m:=1) (a:=a) (by omega);rw[Ao]at this;rw[← this];rfl
theorem lC(h:n≤100000):Pv 1 8 (.int .i64 0) (.int .i64 (n:Int)) (.int .i64 (n:Int))=some (n,⟨true,1,CQ n (.int .i64 0),false⟩):=by
 have E:F8 (.int .i64 (n:Int))=some n:=by simp[F8]
 simp only[Pv,E];rw[if_pos ⟨Ay _,by omega,by omega,by decide,rfl,rfl⟩]
theorem YE2:IContract Tryz.prog GG 100 OA:=by
 refine nV (T:=tb [(149,kB)] []) yok (DJ (all_cons Yqf all_nil) all_nil) ?_;rintro⟨n,a⟩ ⟨I,J⟩;dsimp only at I J;unfold oZ;have hm:=yS0 1 (n:Int) ⟨by omega,by omega,by omega,by omega⟩;rw[show(1*(n:Int) / 18446744073709551616)=0 by omega,show(1*(n:Int) % 18446744073709551616)=n by omega]at hm;have hc:=Ypp (n:=n) (a:=a) I;have Y:¬ ((n:Int)<0):=by omega
 have h1:¬ ((9223372036854775807:Int)<(n:Int)):=by omega
 simp (disch:=first|omega|decide) only[push_cast,↓reduceIte,CI,CT,Int.reduceAdd,↓CL,Y,cH,zm,hm,h1,lC J,hc];refine F0 (fun j:Nat=>[(7,.row 0 n 0 n),(8,.int .i64 (j:Int))]) (fun j=>[⟨true,1,GL n j a,false⟩]) (fun j=>0<j∧j≤n) (fun j=>n - j) 1 (by simp only[push_cast,↓reduceIte,CI,CP,CM,↓CL] <;> rfl) ⟨by omega,by omega⟩ ?_;rintro j ⟨M,E⟩;have hl:=fJ (a:=a) E;have U:RR (some ⟨true,1,GL n j a,false⟩) n=true:=by simp[RR,hl]
 unfold pq;simp (disch:=first|omega|decide) only[push_cast,↓reduceIte,CI,U];refine E3 (fun h2=>?_) (fun h2=>?_)
 ·have V:=Yyf (a:=a) M (show j<n by omega)
  have s1:Qz (some ⟨true,1,GL n j a,false⟩) 1 (.row 0 n 0 n) 0 n 0 n j n=some (.row 0 n j (n - j)):=by
   simp[Qz,hl,show j≤n from E,show ¬ j=0 by omega,show ¬ j=n by omega]
  have s2:Qz (some ⟨true,1,GL n j a,false⟩) 1 (.row 0 n 0 n) 0 n 0 n 0 j=some (.row 0 n 0 j):=by
   simp[Qz,hl,show j≤n from E,show ¬ j=0 by omega,show ¬ j=n by omega,show ¬ 0=j by omega]
  simp (disch:=first|omega|decide) only[push_cast,↓reduceIte,CI,CP,CM,s1,s2,V,DM];refine E5 (j+min (n - j) j) ⟨by omega,by omega⟩ (by omega) ?_;simp only[push_cast] <;> rfl
 ·obtain rfl:j=n:=by omega
  simp (disch:=first|omega|decide) only[push_cast,↓reduceIte,CI];simp[GL]
abbrev Ee(x:List Int)(i:Nat):Int:=x.getD i default
theorem w7{x:List Int}(h:i<x.length):Ee x i∈x:=by
 grind
theorem mN(A:List Int)(lent:Bool)(tot i:Nat)(E:A.length=tot)(h:i<tot):RT (some ⟨true,1,A.map nI,lent⟩) 1 false tot i 0=some (.int .i64 (Ee A i)):=by
 subst E; exact Yn1 nI (fun _=>rfl) 1 A lent i h
theorem bt(A:List Int)(lent:Bool)(key tot:Nat)(j:Int)(E:A.length=tot)(I:0≤j)(J:j<(tot:Int)):QA (some ⟨true,1,A.map nI,lent⟩) 1 key tot 0 tot j=some (.rptr key tot j.toNat 0):=by
 subst E;have:=zQ nI 1 A lent key 0 A.length j I J;grind
def Nx(o:Option PI.Obj)(tot i:Nat)(v:Int):Option PI.Obj:=o.bind fun o=>if o.row && !o.lent && o.els.length == tot then(o.els[i]?).bind fun el=>(Yg el 0 [.int .i64 v]).map fun el'=>{o with els:=o.els.set i el'} else none
theorem jg(st:St)(key tot i:Nat)(v:Int):M0 st 1 (.rptr key tot i 0) (.int .i64 v)=(Nx st[key]? tot i v).map fun o=>st.set key o:=by
 simp only[M0,Nx,zC,qG,CD,BT]
 cases st[key]? with
 |none=>rfl
 |some o=>
  simp only[Bp]
  split
  ·cases o.els[i]? with
   |none=>rfl
   |some el=>
    have hc:(D.int .i64 v).cells=[.int .i64 v]:=rfl;grind
  ·rfl
theorem ss(A:List Int)(tot i:Nat)(v:Int)(E:A.length=tot)(h:i<tot):Nx (some ⟨true,1,A.map nI,false⟩) tot i v=some ⟨true,1,(A.set i v).map nI,false⟩:=by
 subst E;have I:Yg (nI A[i]) 0 [.int .i64 v]=some (nI v):=rfl;simp[Nx,h,I,List.map_set]
def Si(len i after n:Int)(dep:List Int):Prop:=n≤i∨len≤n∨(0≤Ee dep n.toNat∧Ee dep n.toNat≠after)
instance (len i after n:Int) (dep:List Int):Decidable (Si len i after n dep):=by unfold Si; infer_instance
def Np(len i after:Int):List Int→List Int→Option (List Int)
 |[],dep=>some dep
 |n::l,dep=>if Si len i after n dep then none else Np len i after l (dep.set n.toNat after)
def Lj(x:Ins)(i:Int):List Int:=(if x.op=13∨x.op=14 then [x.n]else [])++(if x.op≠14∧x.op≠15∧x.op≠16 then [i+1]else [])
def KF(x:Ins)(d:Int):Prop:=d<(Ep x.op).1∨(x.op=15∧d≠1)∨(x.op=16∧d≠0)
instance (x:Ins) (d:Int):Decidable (KF x d):=by unfold KF; infer_instance
def Gr(x:Ins)(d:Int):Int:=d - (Ep x.op).1+(Ep x.op).2
def Gv(len:Int):List Ins→Nat→List Int→Int→Option Int
 |[],_,_,s=>some s
 |x::r,i,dep,s=>if Ee dep i<0 then Gv len r (i+1) dep s else if KF x (Ee dep i)then none else
  match Np len i (Gr x (Ee dep i)) (Lj x i) dep with
  |none=>none
  |some dep'=>Gv len r (i+1) dep' (max (max s (Ee dep i)) (Gr x (Ee dep i)))
def Mc:Option Int→Int×Int
 |none=>(0,200)
 |some s=>if 64<s then(0,2)else(s,0)
def Hb(n:Nat):List Int:=(CQ n (-1)).set 0 0
def Fk(c:List Ins):Int×Int:=if 4096<c.length then(0,2)else if c.length=0∨c.all GI=false then(0,200)else Mc (Gv c.length c 0 (Hb c.length) 0)
theorem wL(sz:Nat)(a:D)(l:Bool):RR (some ⟨true,sz,[a],l⟩) 1=true:=(rfl)
theorem li2(sz:Nat)(a b:D)(l:Bool):RR (some ⟨true,sz,[a,b],l⟩) 2=true:=(rfl)
variable {st:St}
theorem mv{c:PC}{fr:Frame}{st':St}{Q:QC}(e:st=st')(h:@wW G T c fr st' Q):@wW G T c fr st Q:=by rw[e]; exact h
/- what follows an instruction -/
def Rs(N:Nat)(i:Int)(dp:List Int):Prop:=dp.length=N∧∀ y∈dp,-1≤y∧y≤i
theorem sM{N:Nat}{i:Int}{I:List Int}(h:Rs N i I)(k:Nat){v:Int}(J:-1≤v)(M:v≤i):Rs N i (I.set k v):=by
 refine⟨by rw[BS]; exact h.1,fun y E=>?_⟩;rcases BW E with E | rfl
 ·exact h.2 y E
 ·omega
set_option maxHeartbeats 4000000 in
set_option maxRecDepth 20000 in
theorem VH(T:Tbl)(c:List Ins)(x:Ins)(i:Nat)(hi:i<c.length)(hc:c.length≤4096)(s after:Int)(a1:-1≤after)(a2:after≤(i:Int)+1)(E:List Int)(cf:E.length≤2)(dep:List Int)(a4:Rs c.length ((i:Int)+1) dep)(fr:Frame)(Q:Ex→Frame→St→Prop)
  (f0:fr 0=.slc (nz 3 (c.map Da)) (c.map Da) false) (f2:fr 2=.int .i64 s) (f4:fr 4=.row 0 c.length 0 c.length) (f5:fr 5=.int .i64 (i:Int)) (bc:fr 10=.int .i64 after)
  (bd:fr 30=.slc (nz 3 (c.map Da)) (c.map Da) false) (be:fr 31=.int .i64 (c.length:Int)) (bf:fr 32=.int .i64 (i:Int)) (a5:fr 110=D6 0 2 (E.map nI)) (a6:fr 111=.int .i64 (E.length:Int)) (a7:fr 112=.int .i64 0)
  (Y:Np c.length i after E dep=none→∀ J st',J 2=.int .i64 0→J 3=.int .i64 200→Q .ret J st')
  (a8:∀ I,Np c.length i after E dep=some I→Rs c.length ((i:Int)+1) I→∀ J,J 0=.slc (nz 3 (c.map Da)) (c.map Da) false→J 2=.int .i64 s→J 4=.row 0 c.length 0 c.length→J 30=.slc (nz 3 (c.map Da)) (c.map Da) false→J 31=.int .i64 (c.length:Int)→J 32=.int .i64 (i:Int)→
   Q (.exit 2) J (⟨true,1,I.map nI,false⟩::⟨false,1,DP x,false⟩::Dz 1 (E.map nI))) :
  @wW GG T (.loop [0,2,4,5,10,30,31,32,110,111,112] ga) fr (⟨true,1,dep.map nI,false⟩::⟨false,1,DP x,false⟩::Dz 1 (E.map nI)) ⟨Q⟩:=by
 have hB:Ez ((Dz 1 (E.map nI)).length+1+1) [] (D6 0 2 (E.map nI))=D6 0 2 (E.map nI):=by
  cases E <;> rfl
 have bg:∀ I:List Int,StOK (⟨true,1,I.map nI,false⟩::⟨false,1,DP x,false⟩::Dz 1 (E.map nI)):=by
  intro I o ho hr y hy;simp only[Aw]at ho;rcases ho with rfl | rfl | ho
  ·cases hr
  ·simp only[DP,Aw,AE,or_false]at hy;rcases hy with rfl | rfl | rfl <;> rfl
  ·cases E with
   |nil=>cases ho
   |cons a l=>
    rw[show Dz 1 ((a::l).map nI)=[⟨true,1,(a::l).map nI,false⟩]from rfl,AM]at ho;grind
 have hR:∀ (fr:Frame) (I:List Int),restrict [0,2,4,5,10,30,31,32,110,111,112] ((Dz 1 (E.map nI)).length+1+1) ⟨fr,⟨true,1,I.map nI,false⟩::⟨false,1,DP x,false⟩::Dz 1 (E.map nI)⟩=
   ⟨Gn (Kh fr ((Dz 1 (E.map nI)).length+1+1) [] [0,2,4,5,10,30,31,32,110,111,112]),⟨true,1,I.map nI,false⟩::⟨false,1,DP x,false⟩::Dz 1 (E.map nI)⟩:=fun fr I=>ZL (bg I) rfl
 have ab:E6 ((Dz 1 (E.map nI)).length+1+1) [] 0=some 0:=QO (by omega)
 refine F0 (fun p:Nat×List Int=>[(0,.slc (nz 3 (c.map Da)) (c.map Da) false),(2,.int .i64 s),(4,.row 0 c.length 0 c.length),(5,.int .i64 (i:Int)),(10,.int .i64 after),(30,.slc (nz 3 (c.map Da)) (c.map Da) false),(31,.int .i64 (c.length:Int)),(32,.int .i64 (i:Int)),
   (110,D6 0 2 (E.map nI)),(111,.int .i64 (E.length:Int)),(112,.int .i64 (p.1:Int))])
  (fun p=>⟨true,1,p.2.map nI,false⟩::⟨false,1,DP x,false⟩::Dz 1 (E.map nI)) (fun p=>p.1≤E.length∧Rs c.length ((i:Int)+1) p.2∧Np c.length i after (E.drop p.1) p.2=Np c.length i after E dep) (fun p=>E.length - p.1) (0,dep)
  ((hR fr dep).trans (by simp only[push_cast,f0,f2,f4,f5,bc,bd,be,bf,a5,a6,a7,hB,↓ab] <;> rfl)) ⟨A4 _,a4,rfl⟩ ?_
 rintro⟨j,I⟩ ⟨hj,M,hn⟩;dsimp only at hj M hn;unfold ga;simp (disch:=first|omega|decide) only[push_cast,↓reduceIte,CI];refine E3 (fun h2=>?_) (fun h2=>?_)
 ·have a3:j<E.length:=by omega
  have b5:=YA E a3
  have ac:E.map nI≠[]:=by
   intro e;have:=congrArg List.length e;grind
  obtain⟨n,ad⟩:∃ n,E.getD j default=n:=⟨_,rfl⟩;have b6:QA (some ⟨true,1,E.map nI,false⟩) 1 2 E.length 0 E.length (j:Int)=some (.rptr 2 E.length j 0):=bt E false 2 E.length j rfl (by omega) (by omega);have b7:RT (some ⟨true,1,E.map nI,false⟩) 1 false E.length j 0=some (.int .i64 n):=by rw[← ad]; exact mN E false E.length j rfl a3
  have V:∀ I:List Int,GX (⟨true,1,I.map nI,false⟩::⟨false,1,DP x,false⟩::Dz 1 (E.map nI)) 1 (D6 0 2 (E.map nI)) (.int .i64 (j:Int))=some (.rptr 2 E.length j 0):=by
   intro I;rw[Sd _ _ _ ac,QH _ _ ac,Bd,qg];exact b6
  have U:∀ I:List Int,FF (⟨true,1,I.map nI,false⟩::⟨false,1,DP x,false⟩::Dz 1 (E.map nI)) 1 false (.rptr 2 E.length j 0)=some (.int .i64 n):=by
   intro I;rw[QH _ _ ac,wq];exact b7
  rw[b5,ad,Np]at hn
  by_cases b1:n≤(i:Int)
  ·rw[if_pos (.inl b1)]at hn;simp (disch:=first|omega|decide) only[push_cast,↓reduceIte,CI,V,U,  b1];exact Y hn.symm _ _ rfl rfl
  ·by_cases b2:(c.length:Int)≤n
   ·rw[if_pos (.inr (.inl b2))]at hn;simp (disch:=first|omega|decide) only[push_cast,↓reduceIte,CI,V,U,  b1,b2];exact Y hn.symm _ _ rfl rfl
   ·have af:=bt I false 0 c.length n M.1 (by omega) (by omega);have ah:=mN I false c.length n.toNat M.1 (by omega);have cg:=M.2 _ (w7 (x:=I) (i:=n.toNat) (by rw[M.1]; omega));have hs:=ss I c.length n.toNat after M.1 (by omega)
    by_cases b3:0≤Ee I n.toNat
    ·by_cases b4:Ee I n.toNat=after
     ·have b9:(Ee I n.toNat=after)=True:=eq_true b4;rw[if_neg (by unfold Si; omega)]at hn;simp (disch:=first|omega|decide) only[push_cast,↓reduceIte,CI,V,U,  b1,b2,af,ah,b3,b9,jg,hs,DM,↓hR,↓ab,hB];refine E5 (j+1,I.set n.toNat after) ⟨by dsimp only; omega,sM M _ a1 a2,hn⟩ (by dsimp only; omega) ?_;rfl
     ·rw[if_pos (.inr (.inr ⟨b3,b4⟩))]at hn;simp (disch:=first|omega|decide) only[push_cast,↓reduceIte,CI,V,U,  b1,b2,af,ah,b3,b4];exact Y hn.symm _ _ rfl rfl
    ·rw[if_neg (by unfold Si; omega)]at hn;simp (disch:=first|omega|decide) only[push_cast,↓reduceIte,CI,V,U,  b1,b2,af,ah,b3,jg,hs,DM,↓hR,↓ab,hB];refine E5 (j+1,I.set n.toNat after) ⟨by dsimp only; omega,sM M _ a1 a2,hn⟩ (by dsimp only; omega) ?_;rfl
 ·obtain rfl:j=E.length:=by omega
  rw[Bg,Np]at hn;simp (disch:=first|omega|decide) only[push_cast];exact a8 I hn.symm M _ rfl rfl rfl rfl rfl rfl
noncomputable def Sk:List D→Option D:=Dl (α:=List Ins) (fun a=>[.slc (nz 3 (a.map Da)) (a.map Da) false]) (fun a=>a.length≤9223372036854775807) (fun a=>.tup [.int .i64 (Fk a).1,.int .i64 (Fk a).2])
theorem Yu(c:List Ins)(h:c.length≤9223372036854775807):Sk [.slc (nz 3 (c.map Da)) (c.map Da) false]=some (.tup [.int .i64 (Fk c).1,.int .i64 (Fk c).2]):=
 D7 (fun a b h=>by simp only[Aa,D.slc.injEq,and_true,KL]at h; simp[h]) (c) h
set_option maxHeartbeats 4000000 in
set_option maxRecDepth 20000 in
theorem YAh(c:List Ins)(h:c.length≤9223372036854775807):@wW GG (tb [(101,OI)] [(97,Oz),(100,OA)]) Z6.code (Dc [.slc (nz 3 (c.map Da)) (c.map Da) false]) [] ⟨Dq Z6.res (.tup [.int .i64 (Fk c).1,.int .i64 (Fk c).2])⟩:=by
 unfold Z6
 by_cases h1:4096<c.length
 ·rw[show Fk c=(0,2)from if_pos h1];simp (disch:=first|omega|decide) only[push_cast,↓reduceIte,CI,CO,show((4096:Int)<(c.length:Int)) by omega]
 by_cases h2:c.length=0
 ·rw[show Fk c=(0,200) by unfold Fk; rw[if_neg h1,if_pos (.inl h2)]];simp (disch:=first|omega|decide) only[push_cast,↓reduceIte,CI,CT,CO,show ¬ ((4096:Int)<(c.length:Int)) by omega,show((c.length:Int)=0) by omega]
 have bh:=Yqb c h;have h3:¬ ((4096:Int)<(c.length:Int)):=by omega
 have h4:¬ ((c.length:Int)=0):=by omega
 cases a8:c.all GI with
 |false=>
  rw[a8]at bh;rw[show Fk c=(0,200) by unfold Fk; rw[if_neg h1,if_pos (.inr a8)]];simp (disch:=first|omega|decide) only[push_cast,↓reduceIte,CI,CO,h3,h4,bh]
 |true=>
  rw[a8]at bh;rw[show Fk c=Mc (Gv c.length c 0 (Hb c.length) 0) by unfold Fk; rw[if_neg h1,if_neg (by rw[a8]; simp[h2])]];have ca:=Yp1 c.length (-1) ⟨by omega,by omega⟩;have cb:QA (some ⟨true,1,(CQ c.length (-1)).map nI,false⟩) 1 0 c.length 0 c.length 0=some (.rptr 0 c.length 0 0):=bt _ false 0 c.length 0 (by simp) (by omega) (by omega);have hs0:Nx (some ⟨true,1,(CQ c.length (-1)).map nI,false⟩) c.length 0 0=some ⟨true,1,(Hb c.length).map nI,false⟩:=ss _ c.length 0 0 (by simp) (by omega);simp (disch:=first|omega|decide) only[push_cast,↓reduceIte,CI,CO,h3,h4,bh,Gg,ca,cb,jg,hs0]
  refine F0 (fun p:Nat×List Int×Int=>[(0,.slc (nz 3 (c.map Da)) (c.map Da) false),(2,.int .i64 p.2.2),(4,.row 0 c.length 0 c.length),(30,.slc (nz 3 (c.map Da)) (c.map Da) false),(31,.int .i64 (c.length:Int)),(32,.int .i64 (p.1:Int))])
   (fun p=>[⟨true,1,p.2.1.map nI,false⟩]) (fun p=>p.1≤c.length∧Rs c.length p.1 p.2.1∧Mc (Gv c.length (c.drop p.1) p.1 p.2.1 p.2.2)=Mc (Gv c.length c 0 (Hb c.length) 0)) (fun p=>c.length - p.1) (0,Hb c.length,0)
   (by simp only[push_cast,↓reduceIte,CI,CP,CM,CO] <;> rfl) ⟨A4 _,?_,rfl⟩ ?_
  ·refine⟨by simp[Hb],fun y hy=>?_⟩;rcases BW hy with hy | rfl
   ·grind
   ·omega
  rintro⟨i,dep,s⟩ ⟨hi,ah,hv⟩;dsimp only at hi ah hv;unfold ow;simp (disch:=first|omega|decide) only[push_cast,↓reduceIte,CI];refine E3 (fun h5=>?_) (fun h5=>?_)
  ·have a0:i<c.length:=by omega
   have bc:c.length≤4096:=by omega
   have a1:Rs c.length ((i:Int)+1) dep:=⟨ah.1,fun y hy=>⟨(ah.2 y hy).1,by have:=(ah.2 y hy).2; omega⟩⟩;have hx:=fun st=>Vv st c false i a0;have b6:=YA c a0;obtain⟨x,cc⟩:∃ x,c.getD i default=x:=⟨_,rfl⟩;rw[cc]at hx b6;rw[b6,Gv]at hv;have J:QA (some ⟨true,1,dep.map nI,false⟩) 1 0 c.length 0 c.length (i:Int)=some (.rptr 0 c.length i 0):=bt dep false 0 c.length i a1.1 (by omega) (by omega);have M:=mN dep false c.length i a1.1 a0;have c0:=ah.2 _ (w7 (x:=dep) (i:=i) (by rw[ah.1]; omega));have he:=Yii x.op;have c1:=yZ5 x.op
   by_cases h0:Ee dep i<0
   ·rw[if_pos h0]at hv;simp (disch:=first|omega|decide) only[push_cast,↓reduceIte,CI,CP,CM,CJ,hx,Le,LU,NX,J,M,h0,DM];refine E5 (i+1,dep,s) ⟨by dsimp only; omega,a1,hv⟩ (by dsimp only; omega) ?_;rfl
   rw[if_neg h0]at hv;have bd:Gr x (Ee dep i)=Ee dep i - (Ep x.op).1+(Ep x.op).2:=rfl
   by_cases E:Ee dep i<(Ep x.op).1
   ·rw[if_pos (.inl E)]at hv;simp (disch:=first|omega|decide) only[push_cast,↓reduceIte,CI,hx,Le,LU,NX,J,M,h0,GJ,he,Fy,DM,E];rw[← hv];rfl
   have cd:(Ee dep i<(Ep x.op).1)=False:=eq_false E
   by_cases a5:x.op=15
   ·have U:(x.op=15)=True:=eq_true a5;have a2:(x.op=14)=False:=eq_false (by omega);have V:(x.op=13)=False:=eq_false (by omega);have cf:Ep x.op=(1,0):=by rw[a5]; rfl
    by_cases hd:Ee dep i=1
    ·have ed:(Ee dep i=1)=True:=eq_true hd;have a3:(x.op=16)=False:=eq_false (by omega);have c2:¬ Ee dep i<(Ep x.op).1:=E;have Y:Lj x (i:Int)=[]:=by simp[Lj,a5]
     have I:¬ KF x (Ee dep i):=by unfold KF; omega
     rw[if_neg I,Y]at hv;simp (disch:=first|omega|decide) only[push_cast,↓reduceIte,CI,hx,Le,LU,NX,J,M,h0,GJ,he,Fy,DM,E,U,a2,V,a3,ed,bd.symm];have hl:=VH (tb [(101,OI)] [(97,Oz),(100,OA)]) c x i a0 bc (max (max s (Ee dep i)) (Gr x (Ee dep i))) (Gr x (Ee dep i)) (by omega) (by omega) [] (by simp) dep a1;refine hl _ _ rfl rfl rfl rfl rfl rfl rfl rfl rfl rfl rfl (fun hn aa st' g2 g3=>?_) (fun dp hn ab aa g0 g2 g4 ac ad ae=>?_)
     ·rw[hn]at hv;have af:((0,200):Int×Int)=Mc (Gv c.length c 0 (Hb c.length) 0):=hv;simp (disch:=first|omega|decide) only[push_cast,g2,g3];rw[← af]
     ·rw[hn]at hv;simp (disch:=first|omega|decide) only[push_cast,↓reduceIte,CI,ae,DM];refine E5 (i+1,dp,max (max s (Ee dep i)) (Gr x (Ee dep i))) ⟨by dsimp only; omega,ab,hv⟩ (by dsimp only; omega) ?_;simp only[push_cast,↓reduceIte,CP,CM,g0,g2,g4,ac,ad] <;> rfl
    ·have ed:(Ee dep i=1)=False:=eq_false hd;rw[if_pos (.inr (.inl ⟨a5,hd⟩))]at hv;simp (disch:=first|omega|decide) only[push_cast,↓reduceIte,CI,hx,Le,LU,NX,J,M,h0,GJ,he,Fy,DM,E,U,ed];rw[← hv];rfl
   by_cases a7:x.op=16
   ·have a3:(x.op=16)=True:=eq_true a7;have U:(x.op=15)=False:=eq_false a5;have a2:(x.op=14)=False:=eq_false (by omega);have V:(x.op=13)=False:=eq_false (by omega);have cg:Ep x.op=(0,0):=by rw[a7]; rfl
    by_cases hd:Ee dep i=0
    ·have ed:(Ee dep i=0)=True:=eq_true hd;have Y:Lj x (i:Int)=[]:=by simp[Lj,a7]
     have I:¬ KF x (Ee dep i):=by unfold KF; omega
     rw[if_neg I,Y]at hv;simp (disch:=first|omega|decide) only[push_cast,↓reduceIte,CI,hx,Le,LU,NX,J,M,h0,GJ,he,Fy,DM,E,U,a2,V,a3,ed,bd.symm];have hl:=VH (tb [(101,OI)] [(97,Oz),(100,OA)]) c x i a0 bc (max (max s (Ee dep i)) (Gr x (Ee dep i))) (Gr x (Ee dep i)) (by omega) (by omega) [] (by simp) dep a1;refine hl _ _ rfl rfl rfl rfl rfl rfl rfl rfl rfl rfl rfl (fun hn aa st' g2 g3=>?_) (fun dp hn ab aa g0 g2 g4 ac ad ae=>?_)
     ·rw[hn]at hv;have af:((0,200):Int×Int)=Mc (Gv c.length c 0 (Hb c.length) 0):=hv;simp (disch:=first|omega|decide) only[push_cast,g2,g3];rw[← af]
     ·rw[hn]at hv;simp (disch:=first|omega|decide) only[push_cast,↓reduceIte,CI,ae,DM];refine E5 (i+1,dp,max (max s (Ee dep i)) (Gr x (Ee dep i))) ⟨by dsimp only; omega,ab,hv⟩ (by dsimp only; omega) ?_;simp only[push_cast,↓reduceIte,CP,CM,g0,g2,g4,ac,ad] <;> rfl
    ·have ed:(Ee dep i=0)=False:=eq_false hd;rw[if_pos (.inr (.inr ⟨a7,hd⟩))]at hv;simp (disch:=first|omega|decide) only[push_cast,↓reduceIte,CI,hx,Le,LU,NX,J,M,h0,GJ,he,Fy,DM,E,U,a3,ed];rw[← hv];rfl
   have U:(x.op=15)=False:=eq_false a5;have a3:(x.op=16)=False:=eq_false a7
   by_cases b1:x.op=14
   ·have a2:(x.op=14)=True:=eq_true b1;have V:(x.op=13)=False:=eq_false (by omega);have Y:Lj x (i:Int)=[x.n]:=by simp[Lj,b1]
    have I:¬ KF x (Ee dep i):=by unfold KF; omega
    rw[if_neg I,Y]at hv;have be:Em [⟨true,1,dep.map nI,false⟩,⟨false,1,DP x,false⟩] 1 8 (.slc 0 [] true) (.slc 1 [.int .i64 x.n] true)=some (.row 2 1 0 1,[⟨true,1,dep.map nI,false⟩,⟨false,1,DP x,false⟩,⟨true,1,[.int .i64 x.n],false⟩]):=(rfl);simp (disch:=first|omega|decide) only[push_cast,↓reduceIte,CI,↓CL,hx,Le,LU,NX,J,M,h0,GJ,LR,he,Fy,DM,E,Gg,U,a2,V,a3,bd.symm,be,wL];have hl:=VH (tb [(101,OI)] [(97,Oz),(100,OA)]) c x i a0 bc (max (max s (Ee dep i)) (Gr x (Ee dep i))) (Gr x (Ee dep i)) (by omega) (by omega) [x.n] (by simp) dep a1;refine mv (st':=(⟨true,1,dep.map nI,false⟩::⟨false,1,DP x,false⟩::Dz 1 (([x.n]:List Int).map nI))) rfl ?_;refine hl _ _ rfl rfl rfl rfl rfl rfl rfl rfl rfl rfl rfl (fun hn aa st' g2 g3=>?_) (fun dp hn ab aa g0 g2 g4 ac ad ae=>?_)
    ·rw[hn]at hv;have af:((0,200):Int×Int)=Mc (Gv c.length c 0 (Hb c.length) 0):=hv;simp (disch:=first|omega|decide) only[push_cast,g2,g3];rw[← af]
    ·rw[hn]at hv;simp (disch:=first|omega|decide) only[push_cast,↓reduceIte,CI,ae,DM];refine E5 (i+1,dp,max (max s (Ee dep i)) (Gr x (Ee dep i))) ⟨by dsimp only; omega,ab,hv⟩ (by dsimp only; omega) ?_;simp only[push_cast,↓reduceIte,CP,CM,g0,g2,g4,ac,ad] <;> rfl
   have a2:(x.op=14)=False:=eq_false b1
   by_cases b2:x.op=13
   ·have V:(x.op=13)=True:=eq_true b2;have Y:Lj x (i:Int)=[x.n,(i:Int)+1]:=by simp[Lj,b2]
    have I:¬ KF x (Ee dep i):=by unfold KF; omega
    rw[if_neg I,Y]at hv;have be:Em [⟨true,1,dep.map nI,false⟩,⟨false,1,DP x,false⟩] 1 8 (.slc 0 [] true) (.slc 1 [.int .i64 x.n] true)=some (.row 2 1 0 1,[⟨true,1,dep.map nI,false⟩,⟨false,1,DP x,false⟩,⟨true,1,[.int .i64 x.n],false⟩]):=(rfl);have ce:Em [⟨true,1,dep.map nI,false⟩,⟨false,1,DP x,false⟩,⟨true,1,[.int .i64 x.n],false⟩] 1 8 (.row 2 1 0 1) (.slc 1 [.int .i64 ((i:Int)+1)] true)=some (.row 2 2 0 2,[⟨true,1,dep.map nI,false⟩,⟨false,1,DP x,false⟩,⟨true,1,[.int .i64 x.n,.int .i64 ((i:Int)+1)],false⟩]):=(rfl);simp (disch:=first|omega|decide) only[push_cast,↓reduceIte,CI,↓CL,hx,Le,LU,NX,J,M,h0,GJ,LR,he,Fy,DM,E,Gg,U,a2,V,a3,bd.symm,be,ce,li2];have hl:=VH (tb [(101,OI)] [(97,Oz),(100,OA)]) c x i a0 bc (max (max s (Ee dep i)) (Gr x (Ee dep i))) (Gr x (Ee dep i)) (by omega) (by omega) [x.n,(i:Int)+1] (by simp) dep a1;refine mv (st':=(⟨true,1,dep.map nI,false⟩::⟨false,1,DP x,false⟩::Dz 1 (([x.n,(i:Int)+1]:List Int).map nI))) rfl ?_;refine hl _ _ rfl rfl rfl rfl rfl rfl rfl rfl rfl rfl rfl (fun hn aa st' g2 g3=>?_) (fun dp hn ab aa g0 g2 g4 ac ad ae=>?_)
    ·rw[hn]at hv;have af:((0,200):Int×Int)=Mc (Gv c.length c 0 (Hb c.length) 0):=hv;simp (disch:=first|omega|decide) only[push_cast,g2,g3];rw[← af]
    ·rw[hn]at hv;simp (disch:=first|omega|decide) only[push_cast,↓reduceIte,CI,ae,DM];refine E5 (i+1,dp,max (max s (Ee dep i)) (Gr x (Ee dep i))) ⟨by dsimp only; omega,ab,hv⟩ (by dsimp only; omega) ?_;simp only[push_cast,↓reduceIte,CP,CM,g0,g2,g4,ac,ad] <;> rfl
   ·have V:(x.op=13)=False:=eq_false b2;have Y:Lj x (i:Int)=[(i:Int)+1]:=by simp[Lj,b2,b1,a5,a7]
    have I:¬ KF x (Ee dep i):=by unfold KF; omega
    rw[if_neg I,Y]at hv;have be:Em [⟨true,1,dep.map nI,false⟩,⟨false,1,DP x,false⟩] 1 8 (.slc 0 [] true) (.slc 1 [.int .i64 ((i:Int)+1)] true)=some (.row 2 1 0 1,[⟨true,1,dep.map nI,false⟩,⟨false,1,DP x,false⟩,⟨true,1,[.int .i64 ((i:Int)+1)],false⟩]):=(rfl);simp (disch:=first|omega|decide) only[push_cast,↓reduceIte,CI,↓CL,hx,Le,LU,NX,J,M,h0,GJ,he,Fy,DM,E,Gg,U,a2,V,a3,bd.symm,be,wL];have hl:=VH (tb [(101,OI)] [(97,Oz),(100,OA)]) c x i a0 bc (max (max s (Ee dep i)) (Gr x (Ee dep i))) (Gr x (Ee dep i)) (by omega) (by omega) [(i:Int)+1] (by simp) dep a1;refine mv (st':=(⟨true,1,dep.map nI,false⟩::⟨false,1,DP x,false⟩::Dz 1 (([(i:Int)+1]:List Int).map nI))) rfl ?_;refine hl _ _ rfl rfl rfl rfl rfl rfl rfl rfl rfl rfl rfl (fun hn aa st' g2 g3=>?_) (fun dp hn ab aa g0 g2 g4 ac ad ae=>?_)
    ·rw[hn]at hv;have af:((0,200):Int×Int)=Mc (Gv c.length c 0 (Hb c.length) 0):=hv;simp (disch:=first|omega|decide) only[push_cast,g2,g3];rw[← af]
    ·rw[hn]at hv;simp (disch:=first|omega|decide) only[push_cast,↓reduceIte,CI,ae,DM];refine E5 (i+1,dp,max (max s (Ee dep i)) (Gr x (Ee dep i))) ⟨by dsimp only; omega,ab,hv⟩ (by dsimp only; omega) ?_;simp only[push_cast,↓reduceIte,CP,CM,g0,g2,g4,ac,ad] <;> rfl
  ·obtain rfl:i=c.length:=by omega
   rw[Bg,Gv]at hv;rw[← hv]
   by_cases h6:64<s
   ·rw[show Mc (some s)=(0,2)from if_pos h6];simp (disch:=first|omega|decide) only[push_cast,↓reduceIte,CI,h6]
   ·rw[show Mc (some s)=(s,0)from if_neg h6];simp (disch:=first|omega|decide) only[push_cast,↓reduceIte,CI,h6]
set_option maxRecDepth 20000 in
theorem bk:Contract Tryz.prog GG 47 Sk:=
 Eg (T:=tb [(101,OI)] [(97,Oz),(100,OA)]) yB5 (DJ (all_cons YFc all_nil) (all_cons YE6 (all_cons YE2 all_nil))) (fun a h=>YAh a h)
def E8(v:Int×List Int)(p f t c:Int)(S:D)(b:Int):List D:=D0 v++[.int .i64 p,.int .i64 f,.int .i64 t,.int .i64 c,S,.int .i64 b]
def EA(v:Int×List Int):Prop:=v.2.length=16
variable {v:Int×List Int}
theorem Ii(hv:EA v):(D0 v).length=17:=by simp[D0,show v.2.length=16 from hv]
section
variable {v:Int×List Int} (hv:EA v) (lent:Bool) (p f t c:Int) (S:D) (b:Int)
include hv
theorem yB:DA (some ⟨false,1,E8 v p f t c S b,lent⟩) 1 false 17=some (.int .i64 p):=Jp (A:=D0 v) rfl (Ii hv)
theorem JY:DA (some ⟨false,1,E8 v p f t c S b,lent⟩) 1 false 21=some S:=Jp (A:=D0 v++[.int .i64 p,.int .i64 f,.int .i64 t,.int .i64 c]) (by simp[E8]; rfl) (by simp[Ii hv])
theorem RB:DA (some ⟨false,1,E8 v p f t c S b,lent⟩) 1 false 22=some (.int .i64 b):=Jp (A:=D0 v++[.int .i64 p,.int .i64 f,.int .i64 t,.int .i64 c,S]) (C:=[]) (by simp[E8]) (by simp[Ii hv])
omit hv in
theorem eF:DA (some ⟨false,1,E8 v p f t c S b,lent⟩) 1 false 0=some (.int .i64 v.1):=Jp (A:=[]) (C:=v.2.map nI++[.int .i64 p,.int .i64 f,.int .i64 t,.int .i64 c,S,.int .i64 b]) (by simp[E8,D0]) rfl
theorem WO(i:Nat)(h:i<16):DA (some ⟨false,1,E8 v p f t c S b,lent⟩) 1 false (1+i)=some (.int .i64 (Ee v.2 i)):=by
 have hi:i<v.2.length:=by rw[show v.2.length=16 from hv]; exact h
 have e:v.2=v.2.take i++(Ee v.2 i::v.2.drop (i+1)):=by
  rw[Ee,← YA v.2 hi,Bl]
 refine Jp (A:=.int .i64 v.1::(v.2.take i).map nI) (C:=(v.2.drop (i+1)).map nI++[.int .i64 p,.int .i64 f,.int .i64 t,.int .i64 c,S,.int .i64 b]) ?_ (by simp; omega);have E:=congrArg (List.map nI) e;rw[Bi,Ax]at E;simp only[E8,D0];rw[E];simp[nI]
theorem mn:DA (some ⟨false,1,E8 v p f t c S b,lent⟩) 5 true 17=some (.agg [.int .i64 p,.int .i64 f,.int .i64 t,.int .i64 c,S]):=MN (A:=D0 v) (B:=[.int .i64 p,.int .i64 f,.int .i64 t,.int .i64 c,S]) (C:=[.int .i64 b]) (by simp[E8]) (Ii hv) rfl
theorem bM(p':Int):DT (some ⟨false,1,E8 v p f t c S b,false⟩) 1 17 (.int .i64 p')=some ⟨false,1,E8 v p' f t c S b,false⟩:=KG (A:=D0 v) (B:=[.int .i64 p]) (C:=[.int .i64 f,.int .i64 t,.int .i64 c,S,.int .i64 b]) (xs:=[.int .i64 p']) rfl rfl (Ii hv) rfl rfl rfl rfl
theorem YBh(t':Int):DT (some ⟨false,1,E8 v p f t c S b,false⟩) 1 19 (.int .i64 t')=some ⟨false,1,E8 v p f t' c S b,false⟩:=KG (A:=D0 v++[.int .i64 p,.int .i64 f]) (B:=[.int .i64 t]) (C:=[.int .i64 c,S,.int .i64 b]) (xs:=[.int .i64 t']) (by simp[E8]) (by simp[E8]) (by simp[Ii hv]) rfl rfl rfl rfl
theorem YBg(c':Int):DT (some ⟨false,1,E8 v p f t c S b,false⟩) 1 20 (.int .i64 c')=some ⟨false,1,E8 v p f t c' S b,false⟩:=KG (A:=D0 v++[.int .i64 p,.int .i64 f,.int .i64 t]) (B:=[.int .i64 c]) (C:=[S,.int .i64 b]) (xs:=[.int .i64 c']) (by simp[E8]) (by simp[E8]) (by simp[Ii hv]) rfl rfl rfl rfl
theorem Yug(sz:Nat)(els:List D)(E:Bool):DT (some ⟨false,1,E8 v p f t c S b,false⟩) 1 21 (.slc sz els E)=some ⟨false,1,E8 v p f t c (.slc sz els E) b,false⟩:=KG (A:=D0 v++[.int .i64 p,.int .i64 f,.int .i64 t,.int .i64 c]) (B:=[S]) (C:=[.int .i64 b]) (xs:=[.slc sz els E]) (by simp[E8]) (by simp[E8]) (by simp[Ii hv]) rfl rfl rfl rfl
theorem Yuh(k to of E:Nat):DT (some ⟨false,1,E8 v p f t c S b,false⟩) 1 21 (.row k to of E)=some ⟨false,1,E8 v p f t c (.row k to of E) b,false⟩:=KG (A:=D0 v++[.int .i64 p,.int .i64 f,.int .i64 t,.int .i64 c]) (B:=[S]) (C:=[.int .i64 b]) (xs:=[.row k to of E]) (by simp[E8]) (by simp[E8]) (by simp[Ii hv]) rfl rfl rfl rfl
end
variable {S:D}{b b' c' f f' p p' t t':Int}{v':Int×List Int}
theorem tz(hv:EA v)(E:EA v'){c:Int}{I:D}(h:E8 v p f t c S b=E8 v' p' f' t' c' I b'):v=v'∧p=p'∧f=f'∧t=t'∧c=c'∧S=I∧b=b':=by
 unfold E8 at h;obtain⟨M,J⟩:=A5 h ((Ii hv).trans (Ii E).symm);simp only[Aa,D.int.injEq,true_and,and_true]at J;refine⟨?_,J⟩;have:EJ v=EJ v':=by rw[EJ,EJ,M]
 exact Kn.1 this
def DG(st:St)(key:Nat)(C:List D):St:=st.set key ⟨false,1,C,false⟩
theorem fE(st:St)(key:Nat)(C:List D):(DG st key C).length=st.length:=BS
variable {key:Nat}
theorem Nc(h:key<st.length)(C:List D):(DG st key C)[key]?=some ⟨false,1,C,false⟩:=by simp[DG,h]
theorem Jq(st:St)(key:Nat)(C:List D):List.set st key (⟨false,1,C,false⟩:PI.Obj)=DG st key C:=(rfl)
theorem Mo(st:St)(key:Nat)(C E:List D):DG (DG st key C) key E=DG st key E:=by simp[DG]
theorem IN(h:key<st.length)(m:St)(C:List D):DG (st++m) key C=DG st key C++m:=by
 unfold DG; exact BU _ _ h
theorem Ir(h:key<st.length)(m:St):(st++m)[key]?=st[key]?:=At h
theorem QX(h:key<st.length)(C:List D)(m:St):(DG st key C++m)[key]?=some ⟨false,1,C,false⟩:=by
 rw[Ir (by rw[fE]; exact h),Nc h]
theorem N8(h:key<st.length)(m:St)(C E:List D):DG (DG st key C++m) key E=DG st key E++m:=by
 rw[IN (by rw[fE]; exact h),Mo]
theorem Mf(st:St)(o:PI.Obj):(st++[o]).length=st.length+1:=by simp
def H2(st:St)(key:Nat)(v:Int×List Int)(p f t c:Int)(S:D)(b:Int):Prop:=st[key]?=some ⟨false,1,E8 v p f t c S b,false⟩
theorem MV{c:Int}(h:H2 st key v p f t c S b):key<st.length:=(Ac.1 h).1
theorem Rb{c:Int}(h:H2 st key v p f t c S b)(m:St):H2 (st++m) key v p f t c S b:=by
 unfold H2; rw[Ir (MV h)]; exact h
theorem fl{c:Int}{I:D}(hv:EA v)(J:EA v')(h:H2 st key v p f t c S b)(E:H2 st key v' p' f' t' c' I b'):v=v'∧p=p'∧f=f'∧t=t'∧c=c'∧S=I∧b=b':=by
 unfold H2 at h E;rw[h]at E;simp only[Db,PI.Obj.mk.injEq,true_and,and_true]at E;exact tz hv J E
theorem DO(st:St)(key off:Nat):l9 st (.ptr key off)=some (.ptr key off):=(rfl)
def Iv(l:List Int)(i:Nat):Int:=Ee l (l.length - 1 - i)
def Mt(ds:List D)(os:List (Option (Bool×Nat×List D)))(d:D):Prop:=∃ (key:Nat) (v:Int×List Int) (p f t c:Int) (l:List Int) (b:Int) (i:Nat),EA v∧i<l.length∧l.length≤4294967296∧ds=[.ptr key 0,.int .i64 (i:Int)]∧os=[some (false,1,E8 v p f t c (Ey l) b)]∧d=.int .i64 (Iv l i)
noncomputable def Mb:List D→List (Option (Bool×Nat×List D))→Option D:=fun ds os=>@dite _ (∃ d,Mt ds os d) (Classical.propDecidable _) (fun h=>some h.choose) (fun _=>none)
variable {d:D}{os:List (Option (Bool×Nat×List D))}{ds:List D}
theorem Yk3{E:D}(h:Mt ds os d)(U:Mt ds os E):d=E:=by
 obtain⟨key,v,p,f,t,c,l,b,i,hv,_,_,rfl,rfl,rfl⟩:=h;obtain⟨V,v',p',f',t',c',l',b',i',I,_,_,J,M,rfl⟩:=U;simp only[Aa,D.int.injEq,true_and,and_true,Int.ofNat_inj,Db,Dx]at J M;obtain⟨_,rfl⟩:=J;obtain⟨_,_,_,_,_,Y,_⟩:=tz hv I M;rw[SN.1 Y]
theorem Yb4(h:Mt ds os d):Mb ds os=some d:=by
 have E:∃ d,Mt ds os d:=⟨d,h⟩;unfold Mb;rw[dif_pos E,Yk3 E.choose_spec h]
theorem yXi(h:Mb ds os=some d):Mt ds os d:=by
 unfold Mb at h
 split at h
 ·rename_i E;simp only[Db]at h;rw[← h]; exact E.choose_spec
 ·cases h
variable {l:List Int}
theorem cZ{c:Int}(hv:EA v)(h:H2 st key v p f t c (Ey l) b)(i:Nat)(hi:i<l.length)(hl:l.length≤4294967296):Jk Mb [.ptr key 0,.int .i64 (i:Int)] st=some (.int .i64 (Iv l i)):=by
 unfold Jk;have e:([D.ptr key 0,.int .i64 (i:Int)]).flatMap hk=[key]:=rfl;unfold H2 at h;rw[e];simp only[A0,Ct,BT,h,B4,if_true,HI,Ag,PI.Obj.see];exact Yb4 ⟨key,v,p,f,t,c,l,b,i,hv,hi,hl,rfl,rfl,rfl⟩
theorem Ylt{r:Bool×Nat×List D}(h:HI st [key]=[some r]):∃ lent,st[key]?=some ⟨r.1,r.2.1,r.2.2,lent⟩:=by
 simp only[HI,Aa,and_true]at h
 cases hk:st[key]? with
 |none=>simp[hk]at h
 |some o=>
  rw[hk]at h;simp only[Ag,Db,PI.Obj.see]at h;subst h;exact⟨o.lent,rfl⟩
set_option maxHeartbeats 4000000 in
set_option maxRecDepth 20000 in
theorem mH:IContract Tryz.prog GG 197 (fun ds st=>(Jk Mb ds st).map (·,st)):=by
 refine JR (T:=tb [] []) yv2 (DJ all_nil all_nil) ?_;intro ds st r I;simp only[DI]at I;obtain⟨d,E,rfl⟩:=I;unfold Jk at E
 split at E
 case isFalse=>cases E
 obtain⟨key,v,p,f,t,c,l,b,i,hv,hi,hl,rfl,J,rfl⟩:=yXi E;obtain⟨lent,hk⟩:=Ylt J;dsimp only at hk
 have M:GX st 1 (Ey l) (.int .i64 ((l.length:Int) - 1 - (i:Int)))=some (.eptr (nI (Iv l i)) 0):=by
  have:=U2 st l false (l.length - 1 - i) (by omega);rw[show((l.length - 1 - i:Nat):Int)=(l.length:Int) - 1 - (i:Int) by omega]at this;exact this
 have hle:Fc st false (Ey l)=some (.int .i64 (l.length:Int)):=by simp[Fc,JV,Ey,Fm]
 unfold oz;simp (disch:=first|omega|decide) only[push_cast,↓reduceIte,CI,CJ,DO,hk,JY hv,hle,Fy,M,Vk]
def L6:Option Int→D
 |none=>.slc 0 [] true
 |some a=>.slc 1 [.int .i64 a] true
def KO(n:Nat)(l:List Int)(k:Nat):Option Int→D
 |none=>.slc (nz 1 (l.map nI)) ((l.take (l.length - k)).map nI) true
 |some _=>.row n (l.length - k+1) 0 (l.length - k+1)
def I2(l:List Int)(k:Nat):Option Int→St
 |none=>[]
 |some a=>[⟨true,1,(l.take (l.length - k)++[a]).map nI,false⟩]
def Wu(ds:List D)(st:St)(r:D×St):Prop:=∃ (key:Nat) (v:Int×List Int) (p f t c:Int) (l:List Int) (b:Int) (k:Nat) (push:Option Int),EA v∧H2 st key v p f t c (Ey l) b∧k≤l.length∧l.length≤100000∧-1000000≤p∧p≤1000000∧
 ds=[.ptr key 0,.int .i64 (k:Int),L6 push]∧r=(.int .i64 0,DG st key (E8 v (p+1) f t c (KO st.length l k push) b)++I2 l k push)
noncomputable def Py:List D→St→Option (D×St):=FI Wu
theorem Ydk{a b:Option Int}(h:L6 a=L6 b):a=b:=by
 cases a <;> cases b <;> simp_all [L6]
theorem Yvb:IF Wu:=by
 rintro ds st r Y ⟨key,v,p,f,t,c,l,b,k,push,hv,hm,_,_,_,_,rfl,rfl⟩ ⟨M,v',p',f',t',c',l',b',k',J,E,I,_,_,_,_,h,rfl⟩;simp only[Aa,D.ptr.injEq,D.int.injEq,true_and,and_true,Int.ofNat_inj]at h;obtain⟨rfl,rfl,U⟩:=h;obtain rfl:=Ydk U;obtain⟨rfl,rfl,rfl,rfl,rfl,V,rfl⟩:=fl hv E hm I;rw[SN.1 V]
theorem Yp2{c:Int}(hv:EA v)(hm:H2 st key v p f t c (Ey l) b)(k:Nat)(E:Option Int)(hk:k≤l.length)(hl:l.length≤100000)(I:-1000000≤p)(J:p≤1000000) :
  Py [.ptr key 0,.int .i64 (k:Int),L6 E] st=some (.int .i64 0,DG st key (E8 v (p+1) f t c (KO st.length l k E) b)++I2 l k E):=
 Mg Yvb ⟨key,v,p,f,t,c,l,b,k,E,hv,hm,hk,hl,I,J,rfl,rfl⟩
set_option maxHeartbeats 4000000 in
set_option maxRecDepth 20000 in
theorem U3:IContract Tryz.prog GG 195 Py:=by
 refine JR (T:=tb [] []) yv3 (DJ all_nil all_nil) ?_;intro ds st r U;obtain⟨key,v,p,f,t,c,l,b,k,push,hv,hm,hk,hl,V,Y,rfl,rfl⟩:=Jy U;have E:=MV hm;unfold H2 at hm;have hle:Fc st false (Ey l)=some (.int .i64 (l.length:Int)):=by simp[Fc,JV,Ey,Fm]
 have J:Hp st 1 (Ey l) none (some (.int .i64 ((l.length:Int) - (k:Int)))) (some (.int .i64 ((l.length:Int) - (k:Int))))=some (.slc (nz 1 (l.map nI)) ((l.take (l.length - k)).map nI) true):=by
  have:=YBv st l false (k:=l.length - k) (by omega);rwa [show((l.length - k:Nat):Int)=(l.length:Int) - (k:Int) by omega]at this
 have M:(l.take (l.length - k)).length=l.length - k:=by rw[AK]; omega
 unfold oy
 cases push with
 |none=>
  have I:Em st 1 8 (.slc (nz 1 (l.map nI)) ((l.take (l.length - k)).map nI) true) (.slc 0 [] true)=some (.slc (nz 1 (l.map nI)) ((l.take (l.length - k)).map nI) true,st):=tI st 1 8 _ 0 _ true (by decide);simp (disch:=first|omega|decide) only[push_cast,↓reduceIte,CI,CJ,L6,DO,hm,JY hv,yB hv,hle,Fy,J,I,Yug hv,bM hv,Jq,Nc E,Mo,DM,KO,I2]
 |some a=>
  have I:Em st 1 8 (.slc (nz 1 (l.map nI)) ((l.take (l.length - k)).map nI) true) (.slc 1 [.int .i64 a] true)=some (.row st.length (l.length - k+1) 0 (l.length - k+1),st++[⟨true,1,(l.take (l.length - k)++[a]).map nI,false⟩]):=by
   have:=rf st 1 8 (nz 1 (l.map nI)) ((l.take (l.length - k)).map nI) (.slc 1 [.int .i64 a] true) [.int .i64 a] 1 rfl (.inl rfl) (by
    cases l with
    |nil=>right; simp
    |cons x r=>left; rfl) (by decide) (by simp) (by simp[M]; omega) (by simp[M]; omega)
   rw[this];simp[nI]
  simp (disch:=first|omega|decide) only[push_cast,↓reduceIte,CI,CJ,L6,DO,hm,JY hv,yB hv,hle,Fy,J,I,Ir E,Yuh hv,bM hv,Jq,IN E,QX E,N8 E,DM,KO,I2]
def Ec(op a b:Int):Int×Int:=
 if op=3 then Ib a b else if op=4 then H3 a b else if op=5 then H5 a b else if op=6 then(min a b,0)else if op=7 then(max a b,0)else
 if op=8 then Ew a b 8 else if op=9 then Ew a b 9 else if op=10 then Ew a b 10 else if op=11 then(if a<b then 1 else 0,0)else(0,0)
noncomputable def dL:List D→Option D:=Dl (α:=Bool) (fun a=>[.bool a]) (fun a=>True) (fun a=>.int .i64 (if a=true then 1 else 0))
theorem uD(x:Bool):dL [.bool x]=some (.int .i64 (if x=true then 1 else 0)):=
 D7 (fun a b h=>by simp only[Aa,D.bool.injEq,and_true]at h; simp[h]) (x) trivial
theorem Ys6(x:Bool):@wW GG (tb [] []) Zh.code (Dc [.bool x]) [] ⟨Dq Zh.res (.int .i64 (if x=true then 1 else 0))⟩:=by
 unfold Zh;cases x <;> simp (disch:=first|omega|decide) only[push_cast,↓reduceIte,CI]
theorem yT:Contract Tryz.prog GG 196 dL:=
 Eg yLv (DJ all_nil all_nil) (fun a h=>Ys6 a)
noncomputable def cL:List D→Option D:=Dl (α:=Int×Int) (fun a=>[.int .i64 a.1,.int .i64 a.2]) (fun a=>True) (fun a=>.tup [.int .i64 (min a.1 a.2),.int .i64 0])
theorem Yis(a:Int)(b:Int):cL [.int .i64 a,.int .i64 b]=some (.tup [.int .i64 (min a b),.int .i64 0]):=
 D7 (fun⟨a0,a1⟩ ⟨b0,b1⟩ h=>by simp only[Aa,D.int.injEq,true_and,and_true]at h; simp[h]) (a,b) trivial
theorem YAv(a:Int)(b:Int):@wW GG (tb [] []) aw.code (Dc [.int .i64 a,.int .i64 b]) [] ⟨Dq aw.res (.tup [.int .i64 (min a b),.int .i64 0])⟩:=by
 unfold aw;simp (disch:=first|omega|decide) only[push_cast,↓reduceIte,CI]
theorem YFl:Contract Tryz.prog GG 234 cL:=
 Eg yyc (DJ all_nil all_nil) (fun a h=>YAv a.1 a.2)
noncomputable def cM:List D→Option D:=Dl (α:=Int×Int) (fun a=>[.int .i64 a.1,.int .i64 a.2]) (fun a=>True) (fun a=>.tup [.int .i64 (max a.1 a.2),.int .i64 0])
theorem Yir(a:Int)(b:Int):cM [.int .i64 a,.int .i64 b]=some (.tup [.int .i64 (max a b),.int .i64 0]):=
 D7 (fun⟨a0,a1⟩ ⟨b0,b1⟩ h=>by simp only[Aa,D.int.injEq,true_and,and_true]at h; simp[h]) (a,b) trivial
theorem YAu(a:Int)(b:Int):@wW GG (tb [] []) ax.code (Dc [.int .i64 a,.int .i64 b]) [] ⟨Dq ax.res (.tup [.int .i64 (max a b),.int .i64 0])⟩:=by
 unfold ax;simp (disch:=first|omega|decide) only[push_cast,↓reduceIte,CI]
theorem YFk:Contract Tryz.prog GG 235 cM:=
 Eg yyb (DJ all_nil all_nil) (fun a h=>YAu a.1 a.2)
noncomputable def cQ:List D→Option D:=Dl (α:=Int×Int) (fun a=>[.int .i64 a.1,.int .i64 a.2]) (fun a=>True) (fun a=>.tup [.int .i64 (Ew a.1 a.2 8).1,.int .i64 (Ew a.1 a.2 8).2])
theorem Yiq(a:Int)(b:Int):cQ [.int .i64 a,.int .i64 b]=some (.tup [.int .i64 (Ew a b 8).1,.int .i64 (Ew a b 8).2]):=
 D7 (fun⟨a0,a1⟩ ⟨b0,b1⟩ h=>by simp only[Aa,D.int.injEq,true_and,and_true]at h; simp[h]) (a,b) trivial
theorem YAt(a:Int)(b:Int):@wW GG (tb [(237,T6)] []) ay.code (Dc [.int .i64 a,.int .i64 b]) [] ⟨Dq ay.res (.tup [.int .i64 (Ew a b 8).1,.int .i64 (Ew a b 8).2])⟩:=by
 unfold ay;simp (disch:=first|omega|decide) only[push_cast,↓reduceIte,CI,eW a b 8 (.inl rfl)]
theorem YFj:Contract Tryz.prog GG 236 cQ:=
 Eg yya (DJ (all_cons gF all_nil) all_nil) (fun a h=>YAt a.1 a.2)
noncomputable def cR:List D→Option D:=Dl (α:=Int×Int) (fun a=>[.int .i64 a.1,.int .i64 a.2]) (fun a=>True) (fun a=>.tup [.int .i64 (Ew a.1 a.2 9).1,.int .i64 (Ew a.1 a.2 9).2])
theorem Yip(a:Int)(b:Int):cR [.int .i64 a,.int .i64 b]=some (.tup [.int .i64 (Ew a b 9).1,.int .i64 (Ew a b 9).2]):=
 D7 (fun⟨a0,a1⟩ ⟨b0,b1⟩ h=>by simp only[Aa,D.int.injEq,true_and,and_true]at h; simp[h]) (a,b) trivial
theorem YAs(a:Int)(b:Int):@wW GG (tb [(237,T6)] []) az.code (Dc [.int .i64 a,.int .i64 b]) [] ⟨Dq az.res (.tup [.int .i64 (Ew a b 9).1,.int .i64 (Ew a b 9).2])⟩:=by
 unfold az;simp (disch:=first|omega|decide) only[push_cast,↓reduceIte,CI,eW a b 9 (.inr (.inl rfl))]
theorem YFi:Contract Tryz.prog GG 238 cR:=
 Eg yx9 (DJ (all_cons gF all_nil) all_nil) (fun a h=>YAs a.1 a.2)
noncomputable def cS:List D→Option D:=Dl (α:=Int×Int) (fun a=>[.int .i64 a.1,.int .i64 a.2]) (fun a=>True) (fun a=>.tup [.int .i64 (Ew a.1 a.2 10).1,.int .i64 (Ew a.1 a.2 10).2])
theorem Yio(a:Int)(b:Int):cS [.int .i64 a,.int .i64 b]=some (.tup [.int .i64 (Ew a b 10).1,.int .i64 (Ew a b 10).2]):=
 D7 (fun⟨a0,a1⟩ ⟨b0,b1⟩ h=>by simp only[Aa,D.int.injEq,true_and,and_true]at h; simp[h]) (a,b) trivial
theorem YAr(a:Int)(b:Int):@wW GG (tb [(237,T6)] []) aC.code (Dc [.int .i64 a,.int .i64 b]) [] ⟨Dq aC.res (.tup [.int .i64 (Ew a b 10).1,.int .i64 (Ew a b 10).2])⟩:=by
 unfold aC;simp (disch:=first|omega|decide) only[push_cast,↓reduceIte,CI,eW a b 10 (.inr (.inr rfl))]
theorem YFh:Contract Tryz.prog GG 239 cS:=
 Eg yx8 (DJ (all_cons gF all_nil) all_nil) (fun a h=>YAr a.1 a.2)
noncomputable def cT:List D→Option D:=Dl (α:=Int×Int) (fun a=>[.int .i64 a.1,.int .i64 a.2]) (fun a=>True) (fun a=>.tup [.int .i64 (if a.1<a.2 then 1 else 0),.int .i64 0])
theorem Yin(a:Int)(b:Int):cT [.int .i64 a,.int .i64 b]=some (.tup [.int .i64 (if a<b then 1 else 0),.int .i64 0]):=
 D7 (fun⟨a0,a1⟩ ⟨b0,b1⟩ h=>by simp only[Aa,D.int.injEq,true_and,and_true]at h; simp[h]) (a,b) trivial
theorem YAq(a:Int)(b:Int):@wW GG (tb [(196,dL)] []) aD.code (Dc [.int .i64 a,.int .i64 b]) [] ⟨Dq aD.res (.tup [.int .i64 (if a<b then 1 else 0),.int .i64 0])⟩:=by
 unfold aD;have hc:=uD (decide (a<b))
 by_cases h:a<b
 ·rw[decide_eq_true h]at hc;simp (disch:=first|omega|decide) only[push_cast,↓reduceIte,CI,h,hc]
 ·rw[decide_eq_false h]at hc;simp (disch:=first|omega|decide) only[push_cast,↓reduceIte,CI,h,hc]
theorem YFg:Contract Tryz.prog GG 240 cT:=
 Eg yx7 (DJ (all_cons yT all_nil) all_nil) (fun a h=>YAq a.1 a.2)
theorem OW{sp:List D→Option D}{x y:Int}(h:sp [.int .i64 a,.int .i64 b]=some (.tup [.int .i64 x,.int .i64 y]))(st:St):Jm sp [.int .i64 a,.int .i64 b] st=some (.tup [.int .i64 x,.int .i64 y],st):=by
 have E:Eo st [.int .i64 a,.int .i64 b]=some [.int .i64 a,.int .i64 b]:=(rfl);simp only[Jm,E,h];rfl
def Gk(op:Int):Int:=if op=12∨op=13∨op=15 then 1 else if 3≤op∧op≤11 then 2 else 0
theorem YEh(op:Int)(h:3≤op∧op≤11):∃ f,Gp op Fx=some f:=by
 obtain⟨E,I⟩:=h;have:op=3∨op=4∨op=5∨op=6∨op=7∨op=8∨op=9∨op=10∨op=11:=by omega
 rcases this with rfl | rfl | rfl | rfl | rfl | rfl | rfl | rfl | rfl <;> exact⟨_,rfl⟩
theorem Yxs(op:Int)(h:¬ (3≤op∧op≤11)):Gp op Fx=none:=by
 simp only[Fx,Gp];rw[if_neg (by omega),if_neg (by omega),if_neg (by omega),if_neg (by omega),if_neg (by omega),if_neg (by omega),if_neg (by omega),if_neg (by omega),if_neg (by omega)]
theorem jw(st:St)(op:Int)(ok:Bool)(E:D):JO st 0 [] ok E (.gmap Fx) (.int .i64 op)=some (match Gp op Fx with
  |some f=>if ok then .tup [.agg [.clo f []],.bool true]else .agg [.clo f []]
  |none=>if ok then .tup [E,.bool false]else E):=(rfl)
theorem xf:DH (.agg [.nilf])=some [.nilf]:=(rfl)
theorem We(f:Nat):DT (some ⟨false,1,[.nilf],false⟩) 1 0 (.agg [.clo f []])=some ⟨false,1,[.clo f []],false⟩:=(rfl)
theorem Wd:DT (some ⟨false,1,[.nilf],false⟩) 1 0 (.agg [.nilf])=some ⟨false,1,[.nilf],false⟩:=(rfl)
theorem Kz(st:St):FF st 1 false (.eptr (.gmap Fx) 0)=some (.gmap Fx):=(rfl)
noncomputable def dX:List D→Option D:=Dl (α:=Int) (fun a=>[.int .i64 a]) (fun a=>True) (fun a=>.int .i64 (Gk a))
theorem uz(op:Int):dX [.int .i64 op]=some (.int .i64 (Gk op)):=
 D7 (fun a b h=>by simp only[Aa,D.int.injEq,true_and,and_true]at h; simp[h]) (op) trivial
theorem Ytb(op:Int):@wW GG (tb [] []) Zf.code (Dc [.int .i64 op]) [] ⟨Dq Zf.res (.int .i64 (Gk op))⟩:=by
 unfold Zf Gk
 by_cases E:op=12
 ·subst E; simp (disch:=first|omega|decide) only[push_cast,↓reduceIte,CI,true_or]
 ·by_cases J:op=13
  ·subst J; simp (disch:=first|omega|decide) only[push_cast,↓reduceIte,CI,E,true_or,or_true]
  ·by_cases U:op=15
   ·subst U; simp (disch:=first|omega|decide) only[push_cast,↓reduceIte,CI,E,J,or_true]
   ·have hn:¬ (op=12∨op=13∨op=15):=by omega
    rw[if_neg hn]
    by_cases M:3≤op∧op≤11
    ·obtain⟨f,hf⟩:=YEh op M;have I:=jw [] op true (.agg [.nilf]);rw[hf]at I;simp (disch:=first|omega|decide) only[push_cast,↓reduceIte,CI,E,J,U,M,Ki _ _ _ _ GR,Kz,I,xf,We]
    ·have hf:=Yxs op M;have I:=jw [] op true (.agg [.nilf]);rw[hf]at I;simp (disch:=first|omega|decide) only[push_cast,↓reduceIte,CI,E,J,U,M,Ki _ _ _ _ GR,Kz,I,xf,Wd]
theorem zf:Contract Tryz.prog GG 109 dX:=
 Eg yLx (DJ all_nil all_nil) (fun a h=>Ytb a)
inductive Out where
 |err (e:Int)
 |pop (k:Nat) (push:Option Int) (pc:Option Int)
 |set (p t c:Int)
def Pq(a b:Int):Int:=IntKind.wrap .i64 ((CR 64 a &&& CR 64 b).toNat:Int)
def MD(n:Int):Int:=IntKind.wrap .i64 (1*2 ^ (min n.toNat 64))
def Dd(s:Sta)(i:Nat):Int:=Iv s.stack i
def DQ(v:Int×List Int)(b:Int)(s:Sta)(x:Ins):Out:=
 if x.op=1 then(if 64≤b+s.stack.length then .err 200 else .pop 0 (some x.n) none)
 else if x.op=2 then(if 64≤b+s.stack.length then .err 200 else if Pq v.1 (MD x.n)=0 then .err 181 else if Ee v.2 x.n.toNat < -9007199254740992∨9007199254740992<Ee v.2 x.n.toNat then .err 3 else .pop 0 (some (Ee v.2 x.n.toNat)) none)
 else if x.op=12 then .pop 1 (some (if x.n≤Dd s 0∧Dd s 0≤x.m then 1 else 0)) none
 else if x.op=13 then .pop 1 none (if Dd s 0=0 then some x.n else none)
 else if x.op=14 then .set x.n s.status s.clause
 else if x.op=15 then .set s.pc 1 x.n
 else if x.op=16 then .err 180
 else if(Ec x.op (Dd s 1) (Dd s 0)).2=0 then .pop 2 (some (Ec x.op (Dd s 1) (Dd s 0)).1) none else .err (Ec x.op (Dd s 1) (Dd s 0)).2
def Ei(st:St)(key:Nat)(v:Int×List Int)(b:Int)(s:Sta)(x:Ins):Out→D×St
 |.err e=>(.int .i64 e,st++[⟨false,1,DP x,false⟩])
 |.pop k push pc=>(.int .i64 0,DG st key (E8 v (pc.getD (s.pc+1)) s.fuel s.status s.clause (KO (st.length+1) s.stack k push) b)++[⟨false,1,DP x,false⟩]++I2 s.stack k push)
 |.set p t c=>(.int .i64 0,DG st key (E8 v p s.fuel t c (Ey s.stack) b)++[⟨false,1,DP x,false⟩])
structure mOK (v:Int×List Int) (b:Int) (s:Sta) (x:Ins):Prop where
 v:EA v
 b0:0≤b
 b1:b≤64
 l:s.stack.length≤64
 p0:0≤s.pc
 p1:s.pc≤100000
 f:GI x=true
 n:Gk x.op≤s.stack.length
def WI(P:Int→Prop)(ds:List D)(st:St)(r:D×St):Prop:=∃ (key:Nat) (v:Int×List Int) (b:Int) (s:Sta) (x:Ins),mOK v b s x∧P x.op∧H2 st key v s.pc s.fuel s.status s.clause (Ey s.stack) b∧ds=[.ptr key 0,Da x]∧r=Ei st key v b s x (DQ v b s x)
noncomputable def Kl(P:Int→Prop):List D→St→Option (D×St):=FI (WI P)
theorem Yvs(P:Int→Prop):IF (WI P):=by
 rintro ds st r r' ⟨key,v,b,s,x,hm,_,hk,rfl,rfl⟩ ⟨aa,v',b',s',x',E,_,I,h,rfl⟩;simp only[Aa,D.ptr.injEq,and_true,Sx]at h;obtain⟨rfl,rfl⟩:=h;obtain⟨rfl,J,M,U,V,h5,rfl⟩:=fl hm.v E.v hk I;have Y:=SN.1 h5;obtain⟨a1,a2,a3,a4,a5⟩:=s;obtain⟨b1,b2,b3,b4,b5⟩:=s';dsimp only at J M U V Y;subst J; subst M; subst U; subst V; subst Y;rfl
variable {x:Ins}{s:Sta}
theorem Yp3{P:Int→Prop}(hm:mOK v b s x)(E:P x.op)(hk:H2 st key v s.pc s.fuel s.status s.clause (Ey s.stack) b):Kl P [.ptr key 0,Da x] st=some (Ei st key v b s x (DQ v b s x)):=
 Mg (Yvs P) ⟨key,v,b,s,x,hm,E,hk,rfl,rfl⟩
theorem p8(h:GI x=true):0≤x.n∧x.n≤9007199254740992∧(x.op=2→x.n<16):=by
 have:=of_decide_eq_true h;obtain⟨J,M,U,V,Y,E⟩:=this;have hm:(Kg x.op).2≤9007199254740992:=by rcases vE x.op with e | e | e | e <;> rw[e] <;> decide
 refine⟨by omega,by omega,fun I=>?_⟩;have:Kg x.op=(1,15):=by rw[I]; rfl
 rw[this]at E;dsimp only at E;omega
theorem Ygx(h:GI x=true):1≤x.op∧x.op≤16:=⟨(of_decide_eq_true h).1,(of_decide_eq_true h).2.1⟩
theorem bX(a b:Int):Ds .and (.int .i64 a) (.int .i64 b)=some (.int .i64 (Pq a b)):=(rfl)
theorem Yh{n:Int}(h:0≤n):Ds .shl (.int .i64 1) (.int .i64 n)=some (.int .i64 (MD n)):=by
 simp only[Ds,MJ,show ¬ n<0 by omega,if_false,Ag,MD];rfl
theorem Ie(st:St)(l:List Int):Fc st false (Ey l)=some (.int .i64 (l.length:Int)):=by simp[Fc,JV,Ey,Fm]
theorem Um{c:Int}(hv:EA v)(hm:H2 st key v p f t c (Ey l) b)(x:Ins)(k:Nat)(I:Int)(J:I=(k:Int))(E:Option Int)(hk:k≤l.length)(hl:l.length≤64)(M:0≤p)(U:p≤100000) :
  Py [.ptr key 0,.int .i64 I,L6 E] (st++[⟨false,1,DP x,false⟩])=some (.int .i64 0,DG st key (E8 v (p+1) f t c (KO (st.length+1) l k E) b)++[⟨false,1,DP x,false⟩]++I2 l k E):=by
 subst J;have:=Yp2 hv (Rb hm [⟨false,1,DP x,false⟩]) k E hk (by omega) (by omega) (by omega);rwa [IN (MV hm),Mf]at this
theorem Yyo:IContract Tryz.prog GG 177 (Kl (·=1)):=by
 refine JR (T:=tb [] [(195,Py)]) yuu (DJ all_nil (all_cons U3 all_nil)) ?_;intro ds st r hr;obtain⟨key,v,b,s,x,hm,J,hk,rfl,rfl⟩:=Jy hr;obtain⟨hv,ab,ac,hl,V,Y,hf,hn⟩:=hm;have M:=MV hk;have U:=Um hv hk x 0 0 rfl (some x.n) (A4 _) hl V Y;simp only[L6]at U;have E:=hk;unfold H2 at E;unfold oF
 by_cases I:64≤b+(s.stack.length:Int)
 ·rw[show DQ v b s x=.err 200 by unfold DQ; rw[if_pos J,if_pos I]];simp (disch:=first|omega|decide) only[push_cast,↓reduceIte,CI,CJ,FC,DO,Ir M,E,RB hv,JY hv,Ie,DM,I,Ei]
 ·rw[show DQ v b s x=.pop 0 (some x.n) none by unfold DQ; rw[if_pos J,if_neg I]];simp (disch:=first|omega|decide) only[push_cast,↓reduceIte,CI,CJ,FC,DO,Ir M,E,RB hv,JY hv,Ie,DM,I,Fo,LR,Gg,U,Ei,AW]
theorem Yyq:IContract Tryz.prog GG 178 (Kl (·=2)):=by
 refine JR (T:=tb [] [(195,Py)]) yuw (DJ all_nil (all_cons U3 all_nil)) ?_;intro ds st r hr;obtain⟨key,v,b,s,x,hm,I,hk,rfl,rfl⟩:=Jy hr;obtain⟨hv,a1,a2,hl,af,ah,hf,hn⟩:=hm;have M:=MV hk;have J:=hk;unfold H2 at J;obtain⟨V,_,Y⟩:=p8 hf;have Y:=Y I;have a3:v.2.length=16:=hv;have aa:=fun lent=>WO hv lent s.pc s.fuel s.status s.clause (Ey s.stack) b x.n.toNat (by omega);have ad:=Um hv hk x 0 0 rfl (some (Ee v.2 x.n.toNat)) (A4 _) hl af ah;simp only[L6]at ad;have e1:¬ x.op=1:=by omega
 unfold oD
 by_cases E:64≤b+(s.stack.length:Int)
 ·rw[show DQ v b s x=.err 200 by unfold DQ; rw[if_neg e1,if_pos I,if_pos E]];simp (disch:=first|omega|decide) only[push_cast,↓reduceIte,CI,CJ,CO,FC,DO,Ir M,J,RB hv,JY hv,Ie,DM,Ei,E]
 ·by_cases U:Pq v.1 (MD x.n)=0
  ·rw[show DQ v b s x=.err 181 by unfold DQ; rw[if_neg e1,if_pos I,if_neg E,if_pos U]];simp (disch:=first|omega|decide) only[push_cast,↓reduceIte,CI,CJ,CO,FC,DO,Ir M,J,RB hv,JY hv,eF,Ie,DM,Fo,LR,Ei,E,Yh V,bX,U]
  ·by_cases h3:Ee v.2 x.n.toNat < -9007199254740992
   ·rw[show DQ v b s x=.err 3 by unfold DQ; rw[if_neg e1,if_pos I,if_neg E,if_neg U,if_pos (.inl h3)]];simp (disch:=first|omega|decide) only[push_cast,↓reduceIte,CI,CJ,CO,FC,DO,Ir M,J,RB hv,JY hv,eF,Ie,DM,Fo,LR,Ei,E,Yh V,bX,U,PZ,aa,h3]
   ·by_cases h4:9007199254740992<Ee v.2 x.n.toNat
    ·rw[show DQ v b s x=.err 3 by unfold DQ; rw[if_neg e1,if_pos I,if_neg E,if_neg U,if_pos (.inr h4)]];simp (disch:=first|omega|decide) only[push_cast,↓reduceIte,CI,CJ,CO,FC,DO,Ir M,J,RB hv,JY hv,eF,Ie,DM,Fo,LR,Ei,E,Yh V,bX,U,PZ,aa,h3,h4]
    ·rw[show DQ v b s x=.pop 0 (some (Ee v.2 x.n.toNat)) none by unfold DQ; rw[if_neg e1,if_pos I,if_neg E,if_neg U,if_neg (by omega)]];simp (disch:=first|omega|decide) only[push_cast,↓reduceIte,CI,CJ,CO,FC,DO,Ir M,J,RB hv,JY hv,eF,Ie,DM,Fo,LR,Gg,Ei,AW,E,Yh V,bX,U,PZ,aa,h3,h4,ad]
theorem Yae:IContract Tryz.prog GG 179 (Kl (·=12)):=by
 refine JR (T:=RJ [(196,dL)] [(195,Py)] [(197,Mb)]) yrg (m9 (all_cons yT all_nil) (all_cons U3 all_nil) (all_cons mH all_nil)) ?_;intro ds st r hr;obtain⟨key,v,b,s,x,hm,M,hk,rfl,rfl⟩:=Jy hr;obtain⟨hv,ac,ad,hl,V,Y,hf,hn⟩:=hm;have ae:=MV hk;have aa:=hk;unfold H2 at aa;have af:Gk x.op=1:=by rw[M]; rfl
 have U:Jk Mb [.ptr key 0,.int .i64 0] (st++[⟨false,1,DP x,false⟩])=some (.int .i64 (Dd s 0)):=cZ hv (Rb hk _) 0 (by omega) (by omega);have E:=Um hv hk x 1 1 rfl (some (if x.n≤Dd s 0∧Dd s 0≤x.m then 1 else 0)) (by omega) hl V Y;simp only[L6]at E;rw[show DQ v b s x=.pop 1 (some (if x.n≤Dd s 0∧Dd s 0≤x.m then 1 else 0)) none by unfold DQ; rw[if_neg (by omega),if_neg (by omega),if_pos M]];have hc:=uD (decide (x.n≤Dd s 0∧Dd s 0≤x.m));simp only[decide_eq_true_eq]at hc;unfold oW
 by_cases I:x.n≤Dd s 0
 ·by_cases J:Dd s 0≤x.m
  ·have hw:(if x.n≤Dd s 0∧Dd s 0≤x.m then(1:Int)else 0)=1:=if_pos ⟨I,J⟩;rw[hw]at E ⊢;rw[decide_eq_true ⟨I,J⟩]at hc;simp (disch:=first|omega|decide) only[push_cast,↓reduceIte,CI,FC,Fo,LR,gP,Gg,Ei,AW,I,J,U,hc,E]
  ·have hw:(if x.n≤Dd s 0∧Dd s 0≤x.m then(1:Int)else 0)=0:=if_neg (by omega);rw[hw]at E ⊢;rw[decide_eq_false (by omega)]at hc;simp (disch:=first|omega|decide) only[push_cast,↓reduceIte,CI,FC,Fo,LR,gP,Gg,Ei,AW,I,J,U,hc,E]
 ·have hw:(if x.n≤Dd s 0∧Dd s 0≤x.m then(1:Int)else 0)=0:=if_neg (by omega);rw[hw]at E ⊢;rw[decide_eq_false (by omega)]at hc;simp (disch:=first|omega|decide) only[push_cast,↓reduceIte,CI,FC,Fo,LR,Gg,Ei,AW,I,U,hc,E]
theorem Yyr:IContract Tryz.prog GG 181 (Kl (·=14)):=by
 refine JR (T:=tb [] []) yux (DJ all_nil all_nil) ?_;intro ds st r M;obtain⟨key,v,b,s,x,hm,J,hk,rfl,rfl⟩:=Jy M;obtain⟨hv,U,V,hl,Y,aa,hf,hn⟩:=hm;have E:=MV hk;have I:=hk;unfold H2 at I;rw[show DQ v b s x=.set x.n s.status s.clause by unfold DQ; rw[if_neg (by omega),if_neg (by omega),if_neg (by omega),if_neg (by omega),if_pos J]];unfold oC;simp (disch:=first|omega|decide) only[push_cast,↓reduceIte,CI,FC,DO,Ir E,I,Fo,LR,Ei,bM hv,Jq,IN E]
theorem Yyp:IContract Tryz.prog GG 183 (Kl (·=16)):=by
 refine JR (T:=tb [] []) yuv (DJ all_nil all_nil) ?_;intro ds st r J;obtain⟨key,v,b,s,x,hm,E,hk,rfl,rfl⟩:=Jy J;obtain⟨hv,M,U,hl,V,Y,hf,hn⟩:=hm;have aa:=MV hk;have I:=hk;unfold H2 at I;rw[show DQ v b s x=.err 180 by unfold DQ; rw[if_neg (by omega),if_neg (by omega),if_neg (by omega),if_neg (by omega),if_neg (by omega),if_neg (by omega),if_pos E]];unfold oE;simp (disch:=first|omega|decide) only[push_cast,↓reduceIte,FC,Ei]
theorem Yo2(st:St)(key:Nat)(C:List D)(o:PI.Obj):(DG st key C++[o])[st.length]?=some o:=by
 have:=Fo (DG st key C) o;rwa [fE]at this
theorem Yyl:IContract Tryz.prog GG 180 (Kl (·=13)):=by
 refine JR (T:=RJ [] [(195,Py)] [(197,Mb)]) yut (m9 all_nil (all_cons U3 all_nil) (all_cons mH all_nil)) ?_;intro ds st r hr;obtain⟨key,v,b,s,x,hm,E,hk,rfl,rfl⟩:=Jy hr;obtain⟨hv,ac,ad,hl,U,V,hf,hn⟩:=hm;have M:=MV hk;have Y:=hk;unfold H2 at Y;have ae:Gk x.op=1:=by rw[E]; rfl
 have ht:Jk Mb [.ptr key 0,.int .i64 0] (st++[⟨false,1,DP x,false⟩])=some (.int .i64 (Dd s 0)):=cZ hv (Rb hk _) 0 (by omega) (by omega);have I:=Um hv hk x 1 1 rfl none (by omega) hl U V;simp only[L6,I2,Ad]at I;unfold oG
 by_cases J:Dd s 0=0
 ·rw[show DQ v b s x=.pop 1 none (some x.n) by unfold DQ; rw[if_neg (by omega),if_neg (by omega),if_neg (by omega),if_pos E,if_pos J]];simp (disch:=first|omega|decide) only[push_cast,↓reduceIte,CI,FC,DO,LR,Ei,Ci,ht,J,I,Yo2,QX M,bM hv,Jq,N8 M,I2]
 ·rw[show DQ v b s x=.pop 1 none none by unfold DQ; rw[if_neg (by omega),if_neg (by omega),if_neg (by omega),if_pos E,if_neg J]];simp (disch:=first|omega|decide) only[push_cast,↓reduceIte,CI,FC,Ei,AW,ht,J,I,I2]
theorem YE3:IContract Tryz.prog GG 182 (Kl (·=15)):=by
 refine JR (T:=tb [] []) yv4 (DJ all_nil all_nil) ?_;intro ds st r U;obtain⟨key,v,b,s,x,hm,J,hk,rfl,rfl⟩:=Jy U;obtain⟨hv,V,Y,hl,aa,ab,hf,hn⟩:=hm;have E:=MV hk;have I:=hk;unfold H2 at I;rw[show DQ v b s x=.set s.pc 1 x.n by unfold DQ; rw[if_neg (by omega),if_neg (by omega),if_neg (by omega),if_neg (by omega),if_neg (by omega),if_pos J]];have M:(key == st.length)=false:=by rw[beq_eq_false_iff_ne]; omega
 unfold ox;simp (disch:=first|omega|decide) only[push_cast,↓EZ,↓reduceIte,CI,CJ,FC,DO,Ir E,I,Fo,LR,Ei,YBh hv,YBg hv,Jq,IN E,QX E,N8 E,M]
theorem Yk6:IContract Tryz.prog GG 231 (Jm dU):=Yyx.toI Tryz.func231 (by kernel_rfl) (by kernel_rfl)
theorem Yk4:IContract Tryz.prog GG 232 (Jm dW):=Yyv.toI Tryz.func232 (by kernel_rfl) (by kernel_rfl)
theorem Yk5:IContract Tryz.prog GG 233 (Jm dV):=Yyw.toI Tryz.func233 (by kernel_rfl) (by kernel_rfl)
theorem Yud:IContract Tryz.prog GG 234 (Jm cL):=YFl.toI Tryz.func234 (by kernel_rfl) (by kernel_rfl)
theorem Yuc:IContract Tryz.prog GG 235 (Jm cM):=YFk.toI Tryz.func235 (by kernel_rfl) (by kernel_rfl)
theorem Yub:IContract Tryz.prog GG 236 (Jm cQ):=YFj.toI Tryz.func236 (by kernel_rfl) (by kernel_rfl)
theorem Yua:IContract Tryz.prog GG 238 (Jm cR):=YFi.toI Tryz.func238 (by kernel_rfl) (by kernel_rfl)
theorem Yt9:IContract Tryz.prog GG 239 (Jm cS):=YFh.toI Tryz.func239 (by kernel_rfl) (by kernel_rfl)
theorem Yt8:IContract Tryz.prog GG 240 (Jm cT):=YFg.toI Tryz.func240 (by kernel_rfl) (by kernel_rfl)
theorem Yaf:IContract Tryz.prog GG 184 (Kl (fun o=>3≤o∧o≤11)):=by
 refine JR (T:=RJ [] [(195,Py),(231,Jm dU),(232,Jm dW),(233,Jm dV),(234,Jm cL),(235,Jm cM),(236,Jm cQ),(238,Jm cR),(239,Jm cS),(240,Jm cT)] [(197,Mb)]) yri (m9 all_nil (all_cons U3 (all_cons Yk6 (all_cons Yk4 (all_cons Yk5 (all_cons Yud (all_cons Yuc (all_cons Yub (all_cons Yua (all_cons Yt9 (all_cons Yt8 all_nil)))))))))) (all_cons mH all_nil)) ?_;intro ds st r hr;obtain⟨key,v,b,s,x,hm,ab,hk,rfl,rfl⟩:=Jy hr;obtain⟨hv,ah,a0,hl,ac,ad,hf,hn⟩:=hm;have a1:=MV hk;have ae:=hk;unfold H2 at ae;have a2:Gk x.op=2:=by unfold Gk; rw[if_neg (by omega),if_pos ab]
 have M:Jk Mb [.ptr key 0,.int .i64 0] (st++[⟨false,1,DP x,false⟩])=some (.int .i64 (Dd s 0)):=cZ hv (Rb hk _) 0 (by omega) (by omega);have U:Jk Mb [.ptr key 0,.int .i64 1] (st++[⟨false,1,DP x,false⟩])=some (.int .i64 (Dd s 1)):=cZ hv (Rb hk _) 1 (by omega) (by omega);have I:=Um hv hk x 2 2 rfl (some (Ec x.op (Dd s 1) (Dd s 0)).1) (by omega) hl ac ad;simp only[L6]at I;have V:∀ f:Nat,Nu 0 1 false (.agg [.clo f []])=some (.clo f []):=fun f=>(rfl)
 have Y:DQ v b s x=if(Ec x.op (Dd s 1) (Dd s 0)).2=0 then .pop 2 (some (Ec x.op (Dd s 1) (Dd s 0)).1) none else .err (Ec x.op (Dd s 1) (Dd s 0)).2:=by
  unfold DQ; rw[if_neg (by omega),if_neg (by omega),if_neg (by omega),if_neg (by omega),if_neg (by omega),if_neg (by omega),if_neg (by omega)]
 have J:=jw (st++[⟨false,1,DP x,false⟩]) x.op false (.agg [.nilf]);have aa:x.op=3∨x.op=4∨x.op=5∨x.op=6∨x.op=7∨x.op=8∨x.op=9∨x.op=10∨x.op=11:=by omega
 unfold oU;rcases aa with e | e | e | e | e | e | e | e | e
 ·have hb:=OW (Yam (Dd s 1) (Dd s 0)) (st++[⟨false,1,DP x,false⟩]);have E:Ec x.op (Dd s 1) (Dd s 0)=Ib (Dd s 1) (Dd s 0):=by unfold Ec; rw[if_pos e]
  rw[show Gp x.op Fx=some 231 by rw[e]; rfl]at J
  by_cases he:(Ec x.op (Dd s 1) (Dd s 0)).2=0
  ·rw[Y,if_pos he];rw[E]at he I;rw[E];simp (disch:=first|omega|decide) only[push_cast,↓reduceIte,CI,FC,Fo,Gg,Ei,AW,Ki _ _ _ _ GR,Kz,GJ,J,V,M,U,hb,he,I]
  ·rw[Y,if_neg he];rw[E]at he;rw[E];simp (disch:=first|omega|decide) only[push_cast,↓reduceIte,CI,FC,Fo,Ei,Ki _ _ _ _ GR,Kz,GJ,J,V,M,U,hb,he]
 ·have hb:=OW (Yak (Dd s 1) (Dd s 0)) (st++[⟨false,1,DP x,false⟩]);have E:Ec x.op (Dd s 1) (Dd s 0)=H3 (Dd s 1) (Dd s 0):=by unfold Ec; rw[if_neg (by omega),if_pos e]
  rw[show Gp x.op Fx=some 232 by rw[e]; rfl]at J
  by_cases he:(Ec x.op (Dd s 1) (Dd s 0)).2=0
  ·rw[Y,if_pos he];rw[E]at he I;rw[E];simp (disch:=first|omega|decide) only[push_cast,↓reduceIte,CI,FC,Fo,Gg,Ei,AW,Ki _ _ _ _ GR,Kz,GJ,J,V,M,U,hb,he,I]
  ·rw[Y,if_neg he];rw[E]at he;rw[E];simp (disch:=first|omega|decide) only[push_cast,↓reduceIte,CI,FC,Fo,Ei,Ki _ _ _ _ GR,Kz,GJ,J,V,M,U,hb,he]
 ·have hb:=OW (Yal (Dd s 1) (Dd s 0)) (st++[⟨false,1,DP x,false⟩]);have E:Ec x.op (Dd s 1) (Dd s 0)=H5 (Dd s 1) (Dd s 0):=by unfold Ec; rw[if_neg (by omega),if_neg (by omega),if_pos e]
  rw[show Gp x.op Fx=some 233 by rw[e]; rfl]at J
  by_cases he:(Ec x.op (Dd s 1) (Dd s 0)).2=0
  ·rw[Y,if_pos he];rw[E]at he I;rw[E];simp (disch:=first|omega|decide) only[push_cast,↓reduceIte,CI,FC,Fo,Gg,Ei,AW,Ki _ _ _ _ GR,Kz,GJ,J,V,M,U,hb,he,I]
  ·rw[Y,if_neg he];rw[E]at he;rw[E];simp (disch:=first|omega|decide) only[push_cast,↓reduceIte,CI,FC,Fo,Ei,Ki _ _ _ _ GR,Kz,GJ,J,V,M,U,hb,he]
 ·have hb:=OW (Yis (Dd s 1) (Dd s 0)) (st++[⟨false,1,DP x,false⟩]);have E:Ec x.op (Dd s 1) (Dd s 0)=(min (Dd s 1) (Dd s 0),0):=by unfold Ec; rw[if_neg (by omega),if_neg (by omega),if_neg (by omega),if_pos e]
  rw[show Gp x.op Fx=some 234 by rw[e]; rfl]at J
  by_cases he:(Ec x.op (Dd s 1) (Dd s 0)).2=0
  ·rw[Y,if_pos he];rw[E]at he I;rw[E];simp (disch:=first|omega|decide) only[push_cast,↓reduceIte,CI,FC,Fo,Gg,Ei,AW,Ki _ _ _ _ GR,Kz,GJ,J,V,M,U,hb,I]
  ·rw[E]at he;exact absurd rfl he
 ·have hb:=OW (Yir (Dd s 1) (Dd s 0)) (st++[⟨false,1,DP x,false⟩]);have E:Ec x.op (Dd s 1) (Dd s 0)=(max (Dd s 1) (Dd s 0),0):=by unfold Ec; rw[if_neg (by omega),if_neg (by omega),if_neg (by omega),if_neg (by omega),if_pos e]
  rw[show Gp x.op Fx=some 235 by rw[e]; rfl]at J
  by_cases he:(Ec x.op (Dd s 1) (Dd s 0)).2=0
  ·rw[Y,if_pos he];rw[E]at he I;rw[E];simp (disch:=first|omega|decide) only[push_cast,↓reduceIte,CI,FC,Fo,Gg,Ei,AW,Ki _ _ _ _ GR,Kz,GJ,J,V,M,U,hb,I]
  ·rw[E]at he;exact absurd rfl he
 ·have hb:=OW (Yiq (Dd s 1) (Dd s 0)) (st++[⟨false,1,DP x,false⟩]);have E:Ec x.op (Dd s 1) (Dd s 0)=Ew (Dd s 1) (Dd s 0) 8:=by unfold Ec; rw[if_neg (by omega),if_neg (by omega),if_neg (by omega),if_neg (by omega),if_neg (by omega),if_pos e]
  rw[show Gp x.op Fx=some 236 by rw[e]; rfl]at J
  by_cases he:(Ec x.op (Dd s 1) (Dd s 0)).2=0
  ·rw[Y,if_pos he];rw[E]at he I;rw[E];simp (disch:=first|omega|decide) only[push_cast,↓reduceIte,CI,FC,Fo,Gg,Ei,AW,Ki _ _ _ _ GR,Kz,GJ,J,V,M,U,hb,he,I]
  ·rw[Y,if_neg he];rw[E]at he;rw[E];simp (disch:=first|omega|decide) only[push_cast,↓reduceIte,CI,FC,Fo,Ei,Ki _ _ _ _ GR,Kz,GJ,J,V,M,U,hb,he]
 ·have hb:=OW (Yip (Dd s 1) (Dd s 0)) (st++[⟨false,1,DP x,false⟩]);have E:Ec x.op (Dd s 1) (Dd s 0)=Ew (Dd s 1) (Dd s 0) 9:=by unfold Ec; rw[if_neg (by omega),if_neg (by omega),if_neg (by omega),if_neg (by omega),if_neg (by omega),if_neg (by omega),if_pos e]
  rw[show Gp x.op Fx=some 238 by rw[e]; rfl]at J
  by_cases he:(Ec x.op (Dd s 1) (Dd s 0)).2=0
  ·rw[Y,if_pos he];rw[E]at he I;rw[E];simp (disch:=first|omega|decide) only[push_cast,↓reduceIte,CI,FC,Fo,Gg,Ei,AW,Ki _ _ _ _ GR,Kz,GJ,J,V,M,U,hb,he,I]
  ·rw[Y,if_neg he];rw[E]at he;rw[E];simp (disch:=first|omega|decide) only[push_cast,↓reduceIte,CI,FC,Fo,Ei,Ki _ _ _ _ GR,Kz,GJ,J,V,M,U,hb,he]
 ·have hb:=OW (Yio (Dd s 1) (Dd s 0)) (st++[⟨false,1,DP x,false⟩]);have E:Ec x.op (Dd s 1) (Dd s 0)=Ew (Dd s 1) (Dd s 0) 10:=by unfold Ec; rw[if_neg (by omega),if_neg (by omega),if_neg (by omega),if_neg (by omega),if_neg (by omega),if_neg (by omega),if_neg (by omega),if_pos e]
  rw[show Gp x.op Fx=some 239 by rw[e]; rfl]at J
  by_cases he:(Ec x.op (Dd s 1) (Dd s 0)).2=0
  ·rw[Y,if_pos he];rw[E]at he I;rw[E];simp (disch:=first|omega|decide) only[push_cast,↓reduceIte,CI,FC,Fo,Gg,Ei,AW,Ki _ _ _ _ GR,Kz,GJ,J,V,M,U,hb,he,I]
  ·rw[Y,if_neg he];rw[E]at he;rw[E];simp (disch:=first|omega|decide) only[push_cast,↓reduceIte,CI,FC,Fo,Ei,Ki _ _ _ _ GR,Kz,GJ,J,V,M,U,hb,he]
 ·have hb:=OW (Yin (Dd s 1) (Dd s 0)) (st++[⟨false,1,DP x,false⟩]);have E:Ec x.op (Dd s 1) (Dd s 0)=(if Dd s 1<Dd s 0 then 1 else 0,0):=by unfold Ec; rw[if_neg (by omega),if_neg (by omega),if_neg (by omega),if_neg (by omega),if_neg (by omega),if_neg (by omega),if_neg (by omega),if_neg (by omega),if_pos e]
  rw[show Gp x.op Fx=some 240 by rw[e]; rfl]at J
  by_cases he:(Ec x.op (Dd s 1) (Dd s 0)).2=0
  ·rw[Y,if_pos he];rw[E]at he I;rw[E];simp (disch:=first|omega|decide) only[push_cast,↓reduceIte,CI,FC,Fo,Gg,Ei,AW,Ki _ _ _ _ GR,Kz,GJ,J,V,M,U,hb,I]
  ·rw[E]at he;exact absurd rfl he
def MB(o:Option PI.Obj)(sz:Nat)(ks:List Nat)(ok:Bool)(zero k:D):Option D:=match o with
 |some o=>if o.isMap && o.sz == sz && (IU sz ks k k).isSome then match LK sz ks k o.els 0 with
   |some (some i)=>match o.els[i]? with
    |some el=>some (if ok then .tup [H9 sz el,.bool true]else H9 sz el)
    |none=>none
   |some none=>some (if ok then .tup [zero,.bool false]else zero)
   |none=>none
  else none
 |none=>none
theorem Kt(st:St)(sz:Nat)(ks:List Nat)(ok:Bool)(E k:D)(key:Nat):JO st sz ks ok E (.mapv key) k=MB st[key]? sz ks ok E k:=(rfl)
def Lh(o:Option PI.Obj)(sz:Nat)(ks:List Nat)(k v:D):Option PI.Obj:=match o with
 |some o=>if o.isMap && o.sz == sz && !o.lent && v.isCell && k.cells.length+1 == sz && k.cells.all D.isCell && IU sz ks k k == some true then match LK sz ks k o.els 0 with
   |some (some i)=>some {o with els:=o.els.set i (.agg (k.cells++[v]))}
   |some none=>some {o with els:=o.els++[.agg (k.cells++[v])]}
   |none=>none
  else none
 |none=>none
theorem J1(st:St)(sz:Nat)(ks:List Nat)(k v:D)(key:Nat):Tr st sz ks (.mapv key) k v=(Lh st[key]? sz ks k v).map fun o=>st.set key o:=by
 simp only[Tr,Lh]
 cases st[key]? with
 |none=>rfl
 |some o=>
  simp only
  split
  ·cases LK sz ks k o.els 0 with
   |none=>rfl
   |some r=>cases r <;> rfl
  ·rfl
def On:List (Int×Nat):=[(1,5000177),(2,5000178),(12,5000179),(13,5000180),(14,5000181),(15,5000182),(16,5000183)]
def Xv(k:Nat)(p:Int×Nat):D:=.agg [.int .i64 p.1,.clo p.2 [.ptr k 0]]
def Ka(k i:Nat):List D:=(On.take i).map (Xv k)
theorem K0(k:Nat):Lh (some ⟨false,2,[],false⟩) 2 [0] (.int .i64 1) (.clo 5000177 [.ptr k 0])=some ⟨false,2,Ka k 1,false⟩:=(rfl)
theorem KZ(k:Nat):Lh (some ⟨false,2,Ka k 1,false⟩) 2 [0] (.int .i64 2) (.clo 5000178 [.ptr k 0])=some ⟨false,2,Ka k 2,false⟩:=(rfl)
theorem KY(k:Nat):Lh (some ⟨false,2,Ka k 2,false⟩) 2 [0] (.int .i64 12) (.clo 5000179 [.ptr k 0])=some ⟨false,2,Ka k 3,false⟩:=(rfl)
theorem KX(k:Nat):Lh (some ⟨false,2,Ka k 3,false⟩) 2 [0] (.int .i64 13) (.clo 5000180 [.ptr k 0])=some ⟨false,2,Ka k 4,false⟩:=(rfl)
theorem KW(k:Nat):Lh (some ⟨false,2,Ka k 4,false⟩) 2 [0] (.int .i64 14) (.clo 5000181 [.ptr k 0])=some ⟨false,2,Ka k 5,false⟩:=(rfl)
theorem KV(k:Nat):Lh (some ⟨false,2,Ka k 5,false⟩) 2 [0] (.int .i64 15) (.clo 5000182 [.ptr k 0])=some ⟨false,2,Ka k 6,false⟩:=(rfl)
theorem KU(k:Nat):Lh (some ⟨false,2,Ka k 6,false⟩) 2 [0] (.int .i64 16) (.clo 5000183 [.ptr k 0])=some ⟨false,2,Ka k 7,false⟩:=(rfl)
theorem RD(k:Nat)(op:Int)(f:Nat)(h:Gp op On=some f):MB (some ⟨false,2,Ka k 7,false⟩) 2 [0] true .nilf (.int .i64 op)=some (.tup [.clo f [.ptr k 0],.bool true]):=by
 simp only[On,Gp]at h
 split at h
 ·simp only[Db]at h; subst h; rename_i e; subst e; rfl
 split at h
 ·simp only[Db]at h; subst h; rename_i e; subst e; rfl
 split at h
 ·simp only[Db]at h; subst h; rename_i e; subst e; rfl
 split at h
 ·simp only[Db]at h; subst h; rename_i e; subst e; rfl
 split at h
 ·simp only[Db]at h; subst h; rename_i e; subst e; rfl
 split at h
 ·simp only[Db]at h; subst h; rename_i e; subst e; rfl
 split at h
 ·simp only[Db]at h; subst h; rename_i e; subst e; rfl
 cases h
theorem Yvv(k:Nat)(op:Int)(h:3≤op∧op≤11):MB (some ⟨false,2,Ka k 7,false⟩) 2 [0] true .nilf (.int .i64 op)=some (.tup [.nilf,.bool false]):=by
 have:op=3∨op=4∨op=5∨op=6∨op=7∨op=8∨op=9∨op=10∨op=11:=by omega
 rcases this with rfl | rfl | rfl | rfl | rfl | rfl | rfl | rfl | rfl <;> rfl
theorem PG(st:St)(a b:PI.Obj):(st++[a]++[b])[st.length+1]?=some b:=by
 have:=Fo (st++[a]) b;rwa [Mf]at this
theorem PE(st:St)(a b:PI.Obj):(st++[a]++[b])[st.length]?=some a:=by
 rw[Ir (by rw[Mf]; omega),Fo]
theorem Px(st:St)(a b b':PI.Obj):(st++[a]++[b]).set (st.length+1) b'=st++[a]++[b']:=by
 have:=Sj (st++[a]) b b';rwa [Mf]at this
structure eOK (v:Int×List Int) (b:Int) (s:Sta) (x:Ins):Prop where
 v:EA v
 b0:0≤b
 b1:b≤64
 l:s.stack.length≤64
 p0:0≤s.pc
 p1:s.pc≤100000
 f:GI x=true
def Gi(v:Int×List Int)(b:Int)(s:Sta)(x:Ins):Out:=if(s.stack.length:Int)<Gk x.op then .err 200 else DQ v b s x
def K4(st:St)(key:Nat)(s:Sta)(x:Ins):St:=if(s.stack.length:Int)<Gk x.op then st else st++[⟨false,1,DP x,false⟩]++[⟨false,2,Ka key 7,false⟩]
def Xu(ds:List D)(st:St)(r:D×St):Prop:=∃ (key:Nat) (v:Int×List Int) (b:Int) (s:Sta) (x:Ins),eOK v b s x∧H2 st key v s.pc s.fuel s.status s.clause (Ey s.stack) b∧ds=[.ptr key 0,Da x]∧r=Ei (K4 st key s x) key v b s x (Gi v b s x)
noncomputable def bQ:List D→St→Option (D×St):=FI Xu
theorem Yx7:IF Xu:=by
 rintro ds st r r' ⟨key,v,b,s,x,hm,hk,rfl,rfl⟩ ⟨aa,v',b',s',x',E,I,h,rfl⟩;simp only[Aa,D.ptr.injEq,and_true,Sx]at h;obtain⟨rfl,rfl⟩:=h;obtain⟨rfl,J,M,U,V,h5,rfl⟩:=fl hm.v E.v hk I;have Y:=SN.1 h5;obtain⟨a1,a2,a3,a4,a5⟩:=s;obtain⟨b1,b2,b3,b4,b5⟩:=s';dsimp only at J M U V Y;subst J; subst M; subst U; subst V; subst Y;rfl
theorem Yp9(hm:eOK v b s x)(hk:H2 st key v s.pc s.fuel s.status s.clause (Ey s.stack) b):bQ [.ptr key 0,Da x] st=some (Ei (K4 st key s x) key v b s x (Gi v b s x)):=
 Mg Yx7 ⟨key,v,b,s,x,hm,hk,rfl,rfl⟩
theorem JZ:mW 2=some ⟨false,2,[],false⟩:=(rfl)
set_option maxHeartbeats 8000000 in
set_option maxRecDepth 20000 in
theorem YE5:IContract Tryz.prog GG 157 bQ:=by
 refine JR (T:=tb [(109,dX)] [(177,Kl (·=1)),(178,Kl (·=2)),(179,Kl (·=12)),(180,Kl (·=13)),(181,Kl (·=14)),(182,Kl (·=15)),(183,Kl (·=16)),(184,Kl (fun o=>3≤o∧o≤11))])
  yrh (DJ (all_cons zf all_nil) (all_cons Yyo (all_cons Yyq (all_cons Yae (all_cons Yyl (all_cons Yyr (all_cons YE3 (all_cons Yyp (all_cons Yaf all_nil))))))))) ?_
 intro ds st r hr;obtain⟨key,v,b,s,x,⟨hv,ab,ac,hl,ad,ae,hf⟩,hk,rfl,rfl⟩:=Jy hr;have U:=MV hk;have E:=hk;unfold H2 at E;have V:=uz x.op;have a0:=Ygx hf;unfold oV
 by_cases Y:(s.stack.length:Int)<Gk x.op
 ·rw[show Gi v b s x=.err 200 from if_pos Y,show K4 st key s x=st from if_pos Y];simp (disch:=first|omega|decide) only[push_cast,↓reduceIte,CI,CJ,FC,DO,Ir U,E,JY hv,Ie,Fo,GJ,V,Y,Ei]
 ·rw[show Gi v b s x=DQ v b s x from if_neg Y,show K4 st key s x=_ from if_neg Y];have hm:mOK v b s x:=⟨hv,ab,ac,hl,ad,ae,hf,by omega⟩;have af:H2 (st++[⟨false,1,DP x,false⟩]++[⟨false,2,Ka key 7,false⟩]) key v s.pc s.fuel s.status s.clause (Ey s.stack) b:=Rb (Rb hk _) _
  have fin:∀ (P:Int→Prop),P x.op→∃ d st',Kl P [.ptr key 0,Da x] (st++[⟨false,1,DP x,false⟩]++[⟨false,2,Ka key 7,false⟩])=some (d,st')∧Ei (st++[⟨false,1,DP x,false⟩]++[⟨false,2,Ka key 7,false⟩]) key v b s x (DQ v b s x)=(d,st'):=
   fun P hP=>⟨_,_,Yp3 hm hP af,rfl⟩
  have aa:x.op=1∨x.op=2∨x.op=12∨x.op=13∨x.op=14∨x.op=15∨x.op=16∨(3≤x.op∧x.op≤11):=by omega
  rcases aa with e | e | e | e | e | e | e | e
  ·obtain⟨d,st',I,J⟩:=fin (·=1) e;have M:=RD key x.op _ (show Gp x.op On=some 5000177 by rw[e]; rfl);rw[J];simp (disch:=first|omega|decide) only[push_cast,↓reduceIte,CI,CJ,FC,DO,Ir U,E,JY hv,Ie,Fo,GJ,V,Y,Mf,J1,Kt,PG,Px,PE,JZ,K0,KZ,KY,KX,KW,KV,KU,M,Ov,Qe _ 5000177 177 _ rfl (by decide),I]
  ·obtain⟨d,st',I,J⟩:=fin (·=2) e;have M:=RD key x.op _ (show Gp x.op On=some 5000178 by rw[e]; rfl);rw[J];simp (disch:=first|omega|decide) only[push_cast,↓reduceIte,CI,CJ,FC,DO,Ir U,E,JY hv,Ie,Fo,GJ,V,Y,Mf,J1,Kt,PG,Px,PE,JZ,K0,KZ,KY,KX,KW,KV,KU,M,Ov,Qe _ 5000178 178 _ rfl (by decide),I]
  ·obtain⟨d,st',I,J⟩:=fin (·=12) e;have M:=RD key x.op _ (show Gp x.op On=some 5000179 by rw[e]; rfl);rw[J];simp (disch:=first|omega|decide) only[push_cast,↓reduceIte,CI,CJ,FC,DO,Ir U,E,JY hv,Ie,Fo,GJ,V,Y,Mf,J1,Kt,PG,Px,PE,JZ,K0,KZ,KY,KX,KW,KV,KU,M,Ov,Qe _ 5000179 179 _ rfl (by decide),I]
  ·obtain⟨d,st',I,J⟩:=fin (·=13) e;have M:=RD key x.op _ (show Gp x.op On=some 5000180 by rw[e]; rfl);rw[J];simp (disch:=first|omega|decide) only[push_cast,↓reduceIte,CI,CJ,FC,DO,Ir U,E,JY hv,Ie,Fo,GJ,V,Y,Mf,J1,Kt,PG,Px,PE,JZ,K0,KZ,KY,KX,KW,KV,KU,M,Ov,Qe _ 5000180 180 _ rfl (by decide),I]
  ·obtain⟨d,st',I,J⟩:=fin (·=14) e;have M:=RD key x.op _ (show Gp x.op On=some 5000181 by rw[e]; rfl);rw[J];simp (disch:=first|omega|decide) only[push_cast,↓reduceIte,CI,CJ,FC,DO,Ir U,E,JY hv,Ie,Fo,GJ,V,Y,Mf,J1,Kt,PG,Px,PE,JZ,K0,KZ,KY,KX,KW,KV,KU,M,Ov,Qe _ 5000181 181 _ rfl (by decide),I]
  ·obtain⟨d,st',I,J⟩:=fin (·=15) e;have M:=RD key x.op _ (show Gp x.op On=some 5000182 by rw[e]; rfl);rw[J];simp (disch:=first|omega|decide) only[push_cast,↓reduceIte,CI,CJ,FC,DO,Ir U,E,JY hv,Ie,Fo,GJ,V,Y,Mf,J1,Kt,PG,Px,PE,JZ,K0,KZ,KY,KX,KW,KV,KU,M,Ov,Qe _ 5000182 182 _ rfl (by decide),I]
  ·obtain⟨d,st',I,J⟩:=fin (·=16) e;have M:=RD key x.op _ (show Gp x.op On=some 5000183 by rw[e]; rfl);rw[J];simp (disch:=first|omega|decide) only[push_cast,↓reduceIte,CI,CJ,FC,DO,Ir U,E,JY hv,Ie,Fo,GJ,V,Y,Mf,J1,Kt,PG,Px,PE,JZ,K0,KZ,KY,KX,KW,KV,KU,M,Ov,Qe _ 5000183 183 _ rfl (by decide),I]
  ·obtain⟨d,st',I,J⟩:=fin (fun o=>3≤o∧o≤11) e;have M:=Yvv key x.op e;rw[J];simp (disch:=first|omega|decide) only[push_cast,↓reduceIte,CI,CJ,FC,DO,Ir U,E,JY hv,Ie,Fo,GJ,V,Y,Mf,J1,Kt,PG,Px,PE,JZ,K0,KZ,KY,KX,KW,KV,KU,M,Ov,I]
def F4(s:Sta):Out→Sta
 |.err e=>{s with status:=10+e}
 |.pop k push pc=>{s with pc:=pc.getD (s.pc+1),stack:=s.stack.take (s.stack.length - k)++push.toList}
 |.set p t c=>{s with pc:=p,status:=t,clause:=c}
def Dk(s:Sta):Sta:={s with fuel:=s.fuel - 1}
def E7(v:Int×List Int)(b:Int)(s:Sta)(x:Ins):Sta:=if s.fuel=0 then {s with status:=220} else F4 (Dk s) (Gi v b (Dk s) x)
structure aOK (c:List Ins) (v:Int×List Int) (s:Sta) (b:Int):Prop where
 v:EA v
 b0:0≤b
 b1:b≤64
 l:s.stack.length≤64
 p0:0≤s.pc
 p1:s.pc<c.length
 cl:c.length≤4096
 f:c.all GI=true
 u0:0≤s.fuel
 u1:s.fuel≤32768
theorem Yqr(op a b:Int):0≤(Ec op a b).2∧(Ec op a b).2≤100:=by
 have I:∀ c,0≤(KR c).2∧(KR c).2≤100:=fun c=>by unfold KR; split <;> exact⟨by simp,by simp⟩
 have J:∀ a b m,0≤(Ew a b m).2∧(Ew a b m).2≤100:=fun a b m=>by
  unfold Ew
  split
  ·split <;> exact⟨by simp,by simp⟩
  ·exact⟨by simp,by simp⟩
 have ha:0≤(Ib a b).2∧(Ib a b).2≤100:=by unfold Ib; split <;> first | exact I _ | exact⟨by simp,by simp⟩
 have M:0≤(H3 a b).2∧(H3 a b).2≤100:=by unfold H3; split <;> first | exact I _ | exact⟨by simp,by simp⟩
 have hm:0≤(H5 a b).2∧(H5 a b).2≤100:=by unfold H5; split <;> first | exact I _ | exact⟨by simp,by simp⟩
 have E:∀ n:Int,0≤((n,0):Int×Int).2∧((n,0):Int×Int).2≤100:=fun n=>⟨by simp,by simp⟩;unfold Ec
 split; · exact ha
 split; · exact M
 split; · exact hm
 split; · exact E _
 split; · exact E _
 split; · exact J _ _ _
 split; · exact J _ _ _
 split; · exact J _ _ _
 split; · exact E _
 exact E _
theorem zr{e:Int}(h:Gi v b s x=.err e):1≤e∧e≤1000:=by
 have E:=Yqr x.op (Dd s 1) (Dd s 0);unfold Gi DQ at h
 repeat' split at h
 all_goals first | (cases h; done) | (simp only[Out.err.injEq]at h; omega)
variable {k:Nat}
theorem zt{E pc:Option Int}(h:Gi v b s x=.pop k E pc):¬ (s.stack.length:Int)<Gk x.op:=by
 intro I;unfold Gi at h;rw[if_pos I]at h;cases h
theorem Yx8{c:Int}(h:Gi v b s x=.set p t c):¬ (s.stack.length:Int)<Gk x.op:=by
 intro E;unfold Gi at h;rw[if_pos E]at h;cases h
theorem Yhb(v:Int×List Int)(hv:EA v)(s:Sta)(b:Int):DN [.int .i64 0,.int .i64 0,.int .i64 0,.int .i64 0,.int .i64 0,.int .i64 0,.int .i64 0,.int .i64 0,.int .i64 0,.int .i64 0,.int .i64 0,.int .i64 0,.int .i64 0,.int .i64 0,.int .i64 0,.int .i64 0,.int .i64 0,.int .i64 0,.int .i64 0,.int .i64 0,.int .i64 0,.slc 0 [] true,.int .i64 0]
  [(0,17,EJ v),(17,5,DS s),(22,1,.int .i64 b)]=some (E8 v s.pc s.fuel s.status s.clause (Ey s.stack) b):=by
 refine(Jo (cs':=D0 v++([.int .i64 0,.int .i64 0,.int .i64 0,.int .i64 0,.slc 0 [] true]++[.int .i64 0])) (A:=[]) (B:=CQ 17 (.int .i64 0)) (C:=[.int .i64 0,.int .i64 0,.int .i64 0,.int .i64 0,.slc 0 [] true,.int .i64 0]) (xs:=D0 v) rfl rfl rfl rfl rfl (Ii hv) (Uq (v.1::v.2))).trans ?_;refine(Jo (cs':=D0 v++(DY s++[.int .i64 0])) (A:=D0 v) (B:=[.int .i64 0,.int .i64 0,.int .i64 0,.int .i64 0,.slc 0 [] true]) (C:=[.int .i64 0]) (xs:=DY s) rfl rfl (Ii hv) rfl rfl rfl (Ylb s)).trans ?_;refine(Jo (cs':=E8 v s.pc s.fuel s.status s.clause (Ey s.stack) b) (A:=D0 v++DY s) (B:=[.int .i64 0]) (C:=[]) (xs:=[.int .i64 b]) (by simp) (by simp[E8,DY]) (by simp[Ii hv,DY]) rfl rfl rfl rfl).trans ?_;rfl
theorem Yqk(v:Int×List Int)(p f t c:Int)(sz:Nat)(els:List D)(E:Bool)(b:Int):DH (.agg (E8 v p f t c (.slc sz els E) b))=some (E8 v p f t c (.slc sz els E) b):=by
 have h:(E8 v p f t c (.slc sz els E) b).all D.isCell=true:=by
  rw[E8,Bm,TR,Uq];rfl
 rw[show DH (.agg (E8 v p f t c (.slc sz els E) b))=if(E8 v p f t c (.slc sz els E) b).all D.isCell then some (E8 v p f t c (.slc sz els E) b)else none from rfl,if_pos h]
theorem Ys(v:Int×List Int)(p f t c:Int)(l:List Int)(b:Int):DH (.agg (E8 v p f t c (Ey l) b))=some (E8 v p f t c (Ey l) b):=Yqk v p f t c _ _ _ b
theorem ySf(l:List Int):(Ey l).isCell=true:=(rfl)
theorem Ygh(st:St)(l:List Int):DC st (Ey l)=some (Ey l):=by simp only[Ey,iO,IJ]
theorem YD0(E o1 o2 I J M U:PI.Obj)(A:List Int)(m:Nat)(h:A.length=m):DC [E,o1,o2,I,J,M,U,⟨true,1,A.map nI,false⟩] (.row 7 m 0 m)=some (Ey A):=by
 have V:Ic [E,o1,o2,I,J,M,U,⟨true,1,A.map nI,false⟩] 7 m 0 m=some (1,A.map nI):=by
  simp only[Ic,Bw,AH];rw[if_pos (by simp[h]),Bz,AG (by simp[h])]
 simp only[DC,V,Ag];rfl
theorem eM(s:Sta)(n:Int):DT (some ⟨false,1,DY s,false⟩) 1 1 (.int .i64 n)=some ⟨false,1,DY {s with fuel:=n},false⟩:=(rfl)
theorem YBj(s:Sta)(n:Int):DT (some ⟨false,1,DY s,false⟩) 1 2 (.int .i64 n)=some ⟨false,1,DY {s with status:=n},false⟩:=(rfl)
theorem Lx(a b c d S:D):DT (some ⟨false,1,[.int .i64 0,.int .i64 0,.int .i64 0,.int .i64 0,.slc 0 [] true],false⟩) 5 0 (.agg [a,b,c,d,S])=if [a,b,c,d,S].all D.isCell then some ⟨false,1,[a,b,c,d,S],false⟩else none:=by
 simp only[DT]; rfl
theorem LA(lent:Bool)(a b c d S:D):DA (some ⟨false,1,[a,b,c,d,S],lent⟩) 5 true 0=some (.agg [a,b,c,d,S]):=(rfl)
noncomputable def bR:List D→Option D:=Dl (α:=List Ins×(Int×List Int)×Sta×Int) (fun a=>[.slc (nz 3 (a.1.map Da)) (a.1.map Da) false,EJ a.2.1,DS a.2.2.1,.int .i64 a.2.2.2]) (fun a=>aOK a.1 a.2.1 a.2.2.1 a.2.2.2) (fun a=>DS (E7 a.2.1 a.2.2.2 a.2.2.1 (a.1.getD a.2.2.1.pc.toNat default)))
theorem pL(c:List Ins)(v:Int×List Int)(s:Sta)(b:Int)(h:aOK c v s b):bR [.slc (nz 3 (c.map Da)) (c.map Da) false,EJ v,DS s,.int .i64 b]=some (DS (E7 v b s (c.getD s.pc.toNat default))):=
 D7 (fun⟨a0,a1,E,I⟩ ⟨b0,b1,J,M⟩ h=>by simp only[Aa,D.slc.injEq,D.int.injEq,true_and,and_true,KL,SF,Kn]at h; simp[h]) (c,v,s,b) h
set_option maxHeartbeats 4000000 in
set_option maxRecDepth 20000 in
theorem VP(c:List Ins)(v:Int×List Int)(s:Sta)(b:Int)(h:aOK c v s b):@wW GG (tb [] [(157,bQ)]) ZT.code (Dc [.slc (nz 3 (c.map Da)) (c.map Da) false,EJ v,DS s,.int .i64 b]) [] ⟨Dq ZT.res (DS (E7 v b s (c.getD s.pc.toNat default)))⟩:=by
 obtain⟨hv,ac,ad,hl,ae,a5,hc,hf,a6,a7⟩:=h;have aa:s.pc.toNat<c.length:=by omega
 unfold ZT
 by_cases M:s.fuel=0
 ·rw[show E7 v b s (c.getD s.pc.toNat default)={s with status:=220} from if_pos M];simp (disch:=first|omega|decide) only[push_cast,↓reduceIte,CI,CJ,FV,IM,Is,Ld,M,YBj,IW,Kp,KI]
 ·rw[show E7 v b s (c.getD s.pc.toNat default)=F4 (Dk s) (Gi v b (Dk s) (c.getD s.pc.toNat default))from if_neg M];have J:=fun st=>Vv st c false s.pc.toNat aa;rw[show((s.pc.toNat:Nat):Int)=s.pc by omega]at J
  have ab:GI (c.getD s.pc.toNat default)=true:=by
   rw[Ai,Am aa];exact Al.1 hf _ (BC aa)
  obtain⟨x,af⟩:∃ x,c.getD s.pc.toNat default=x:=⟨_,rfl⟩;rw[af]at J ab ⊢;have J:∀ st:St,GX st 3 (.slc (nz 3 (c.map Da)) (c.map Da) false) (.int .i64 (Dk s).pc)=some (.eptr (Da x) 0):=J;have he:eOK v b (Dk s) x:=⟨hv,ac,ad,hl,ae,by show s.pc≤100000; omega,ab⟩;have E:=Yp9 (st:=[⟨false,1,D0 v,false⟩,⟨false,1,DY (Dk s),false⟩,⟨false,1,[.int .i64 0,.int .i64 0,.int .i64 0,.int .i64 0,.slc 0 [] true],false⟩,⟨false,1,E8 v (Dk s).pc (Dk s).fuel (Dk s).status (Dk s).clause (Ey (Dk s).stack) b,false⟩]) (key:=3) he rfl;have U:=Yhb v hv (Dk s) b;have V:(⟨s.pc,s.fuel - 1,s.status,s.clause,s.stack⟩:Sta)=Dk s:=rfl
  cases Y:Gi v b (Dk s) x with
  |err e=>
   have a8:=zr Y;rw[Y]at E
   have I:∃ l,K4 [⟨false,1,D0 v,false⟩,⟨false,1,DY (Dk s),false⟩,⟨false,1,[.int .i64 0,.int .i64 0,.int .i64 0,.int .i64 0,.slc 0 [] true],false⟩,⟨false,1,E8 v (Dk s).pc (Dk s).fuel (Dk s).status (Dk s).clause (Ey (Dk s).stack) b,false⟩] 3 (Dk s) x=⟨false,1,D0 v,false⟩::⟨false,1,DY (Dk s),false⟩::⟨false,1,[.int .i64 0,.int .i64 0,.int .i64 0,.int .i64 0,.slc 0 [] true],false⟩::l:=by
    unfold K4; split <;> exact⟨_,rfl⟩
   obtain⟨l,I⟩:=I;rw[I]at E;simp only[Ei,Ae]at E;have ah:¬ e=0:=by omega
   simp (disch:=first|omega|decide) only[push_cast,↓reduceIte,CI,CJ,FV,IM,Is,Ld,M,Fy,eM,V,Gq hv,IW,U,Ys,KJ,J,Le,E,ah,DM,YBj,Kp,KI,F4]
  |pop k push pc=>
   rw[Y]at E;have I:=zt Y;rw[show K4 [⟨false,1,D0 v,false⟩,⟨false,1,DY (Dk s),false⟩,⟨false,1,[.int .i64 0,.int .i64 0,.int .i64 0,.int .i64 0,.slc 0 [] true],false⟩,⟨false,1,E8 v (Dk s).pc (Dk s).fuel (Dk s).status (Dk s).clause (Ey (Dk s).stack) b,false⟩] 3 (Dk s) x=_ from if_neg I]at E;simp only[Ei]at E
   cases push with
   |none=>
    simp only[KO,I2,DG,Ae,Aj,Ad,Cv,Bv]at E;simp (disch:=first|omega|decide) only[push_cast,↓reduceIte,CI,CJ,FV,IM,Is,Ld,M,Fy,eM,V,Gq hv,IW,U,Ys,KJ,J,Le,E,DO,mn hv,Lx,LA,F4];simp only[Option.toList_none,Ad];rfl
   |some a=>
    have hi:=fun o0 o1 o2 o3 o4 o5 o6=>YD0 o0 o1 o2 o3 o4 o5 o6 ((Dk s).stack.take ((Dk s).stack.length - k)++[a]) ((Dk s).stack.length - k+1) (by rw[Ab,AK]; simp);simp only[KO,I2,DG,Ae,Aj,Cv,Bv,Ah,Aq]at E;simp (disch:=first|omega|decide) only[push_cast,↓reduceIte,CI,CJ,FV,IM,Is,Ld,M,Fy,eM,V,Gq hv,IW,U,Ys,KJ,J,Le,E,DO,mn hv,Lx,LA,F4,hi];rfl
  |set p t cl=>
   rw[Y]at E;have I:=Yx8 Y;rw[show K4 [⟨false,1,D0 v,false⟩,⟨false,1,DY (Dk s),false⟩,⟨false,1,[.int .i64 0,.int .i64 0,.int .i64 0,.int .i64 0,.slc 0 [] true],false⟩,⟨false,1,E8 v (Dk s).pc (Dk s).fuel (Dk s).status (Dk s).clause (Ey (Dk s).stack) b,false⟩] 3 (Dk s) x=_ from if_neg I]at E;simp only[Ei,DG,Ae,Aj,Cv,Bv]at E;simp (disch:=first|omega|decide) only[push_cast,↓reduceIte,CI,CJ,FV,IM,Is,Ld,M,Fy,eM,V,Gq hv,IW,U,Ys,KJ,J,Le,E,DO,mn hv,Lx,LA,ySf,Ygh,F4];rfl
theorem YFo:Contract Tryz.prog GG 110 bR:=
 Eg (T:=tb [] [(157,bQ)]) yFh (DJ all_nil (all_cons YE5 all_nil)) (fun a h=>VP a.1 a.2.1 a.2.2.1 a.2.2.2 h)
def HO(c:List Ins)(s:Sta)(b:Int):Prop:=s.pc<0∨(c.length:Int)≤s.pc∨s.fuel<0∨32768<s.fuel∨s.clause≠0∨b<0∨64<b∨64 - b<(s.stack.length:Int)
instance (c:List Ins) (s:Sta) (b:Int):Decidable (HO c s b):=by unfold HO; infer_instance
def Hj(c:List Ins)(s:Sta)(b:Int):Int:=if s.status≠0 then 211 else if(Fk c).2≠0 then(Fk c).2 else if HO c s b then 1 else 0
noncomputable def dY:List D→Option D:=Dl (α:=List Ins×Sta×Int) (fun a=>[.slc (nz 3 (a.1.map Da)) (a.1.map Da) false,DS a.2.1,.int .i64 a.2.2]) (fun a=>a.1.length≤4294967296) (fun a=>.int .i64 (Hj a.1 a.2.1 a.2.2))
theorem uA(c:List Ins)(s:Sta)(b:Int)(h:c.length≤4294967296):dY [.slc (nz 3 (c.map Da)) (c.map Da) false,DS s,.int .i64 b]=some (.int .i64 (Hj c s b)):=
 D7 (fun⟨a0,a1,E⟩ ⟨b0,b1,I⟩ h=>by simp only[Aa,D.slc.injEq,D.int.injEq,true_and,and_true,KL,SF]at h; simp[h]) (c,s,b) h
theorem Yta(c:List Ins)(s:Sta)(b:Int)(h:c.length≤4294967296):@wW GG (tb [(47,Sk)] []) Zg.code (Dc [.slc (nz 3 (c.map Da)) (c.map Da) false,DS s,.int .i64 b]) [] ⟨Dq Zg.res (.int .i64 (Hj c s b))⟩:=by
 have hv:=Yu c (by omega);unfold Zg
 by_cases E:s.status=0
 ·by_cases I:(Fk c).2=0
  ·have e:Hj c s b=if HO c s b then 1 else 0:=by unfold Hj; rw[if_neg (by simp[E]),if_neg (by simp[I])]
   rw[e]
   by_cases J:s.pc<0
   ·rw[if_pos (.inl J)];simp (disch:=first|omega|decide) only[push_cast,↓reduceIte,CI,IM,KJ,Jx,E,hv,I,J]
   by_cases M:(c.length:Int)≤s.pc
   ·rw[if_pos (.inr (.inl M))];simp (disch:=first|omega|decide) only[push_cast,↓reduceIte,CI,IM,KJ,Jx,E,hv,I,J,M]
   by_cases U:s.fuel<0
   ·rw[if_pos (.inr (.inr (.inl U)))];simp (disch:=first|omega|decide) only[push_cast,↓reduceIte,CI,IM,KJ,Ld,Jx,E,hv,I,J,M,U]
   by_cases V:32768<s.fuel
   ·rw[if_pos (.inr (.inr (.inr (.inl V))))];simp (disch:=first|omega|decide) only[push_cast,↓reduceIte,CI,IM,KJ,Ld,Jx,E,hv,I,J,M,U,V]
   by_cases Y:s.clause=0
   ·by_cases q6:b<0
    ·rw[if_pos (.inr (.inr (.inr (.inr (.inr (.inl q6))))))];simp (disch:=first|omega|decide) only[push_cast,↓reduceIte,CI,IM,KJ,Ld,Jx,N0,E,hv,I,J,M,U,V,Y,q6]
    by_cases q7:64<b
    ·rw[if_pos (.inr (.inr (.inr (.inr (.inr (.inr (.inl q7)))))))];simp (disch:=first|omega|decide) only[push_cast,↓reduceIte,CI,IM,KJ,Ld,Jx,N0,E,hv,I,J,M,U,V,Y,q6,q7]
    by_cases q8:64 - b<(s.stack.length:Int)
    ·rw[if_pos (.inr (.inr (.inr (.inr (.inr (.inr (.inr q8)))))))];simp (disch:=first|omega|decide) only[push_cast,↓reduceIte,CI,IM,KJ,Ld,Jx,N0,OK,Ie,Fy,E,hv,I,J,M,U,V,Y,q6,q7,q8]
    ·rw[if_neg (by unfold HO; omega)];simp (disch:=first|omega|decide) only[push_cast,↓reduceIte,CI,IM,KJ,Ld,Jx,N0,OK,Ie,Fy,E,hv,I,J,M,U,V,Y,q6,q7,q8]
   ·rw[if_pos (.inr (.inr (.inr (.inr (.inl Y)))))];simp (disch:=first|omega|decide) only[push_cast,↓reduceIte,CI,IM,KJ,Ld,Jx,N0,E,hv,I,J,M,U,V,Y]
  ·rw[show Hj c s b=(Fk c).2 by unfold Hj; rw[if_neg (by simp[E]),if_pos I]];simp (disch:=first|omega|decide) only[push_cast,↓reduceIte,CI,IM,Jx,E,hv,I]
 ·rw[show Hj c s b=211 from if_pos E];simp (disch:=first|omega|decide) only[push_cast,↓reduceIte,CI,IM,Jx,E]
theorem zg:Contract Tryz.prog GG 108 dY:=
 Eg yLw (DJ (all_cons bk all_nil) all_nil) (fun a h=>Yta a.1 a.2.1 a.2.2 h)
variable {c:List Ins}
theorem Nh(h:(Fk c).2=0):c.length≤4096∧0<c.length∧c.all GI=true∧∃ s,Gv c.length c 0 (Hb c.length) 0=some s∧s≤64:=by
 unfold Fk at h
 split at h
 ·simp at h
 split at h
 ·simp at h
 rename_i J E;have M:¬ c.length=0:=fun e=>E (.inl e)
 have I:c.all GI=true:=by
  cases hb:c.all GI with
  |true=>rfl
  |false=>exact absurd (.inr hb) E
 cases hv:Gv c.length c 0 (Hb c.length) 0 with
 |none=>rw[hv]at h; simp[Mc]at h
 |some s=>
  rw[hv]at h;simp only[Mc]at h
  split at h
  ·simp at h
  ·exact⟨by omega,by omega,I,s,rfl,by omega⟩
theorem rp(hv:EA v)(h:Hj c s b=0):aOK c v s b∧s.status=0∧s.clause=0∧(Fk c).2=0:=by
 unfold Hj at h
 split at h
 ·simp at h
 split at h
 ·rename_i I; exact absurd h I
 split at h
 ·simp at h
 rename_i V I M;have J:s.status=0:=by omega
 have E:(Fk c).2=0:=by omega
 obtain⟨a1,Y,U,_⟩:=Nh E;unfold HO at M;exact⟨⟨hv,by omega,by omega,by omega,by omega,by omega,by omega,U,by omega,by omega⟩,J,by omega,E⟩
def FX:Sta:=⟨0,0,0,0,[]⟩
def Gl(f:Int):Sta:=if f<0∨32768<f then FX else {FX with fuel:=f}
def Pz(f:Int):Int:=if f<0∨32768<f then 1 else 0
theorem Vr:DN [.int .i64 0,.int .i64 0,.int .i64 0,.int .i64 0,.slc 0 [] true] []=some [.int .i64 0,.int .i64 0,.int .i64 0,.int .i64 0,.slc 0 [] true]:=(rfl)
theorem Yxz(f:Int):DN [.int .i64 0,.int .i64 0,.int .i64 0,.int .i64 0,.slc 0 [] true] [(1,1,.int .i64 f)]=some [.int .i64 0,.int .i64 f,.int .i64 0,.int .i64 0,.slc 0 [] true]:=(rfl)
noncomputable def ee:List D→Option D:=Dl (α:=Int) (fun a=>[.int .i64 a]) (fun a=>True) (fun a=>.tup [DS (Gl a),.int .i64 (Pz a)])
theorem uC(f:Int):ee [.int .i64 f]=some (.tup [DS (Gl f),.int .i64 (Pz f)]):=
 D7 (fun a b h=>by simp only[Aa,D.int.injEq,true_and,and_true]at h; simp[h]) (f) trivial
theorem Ys9(f:Int):@wW GG (tb [] []) Zd.code (Dc [.int .i64 f]) [] ⟨Dq Zd.res (.tup [DS (Gl f),.int .i64 (Pz f)])⟩:=by
 unfold Zd
 by_cases E:f<0
 ·rw[show Gl f=FX from if_pos (.inl E),show Pz f=1 from if_pos (.inl E)];simp (disch:=first|omega|decide) only[push_cast,↓reduceIte,CI,Is,E,Vr,Lx,LA];rfl
 ·by_cases I:32768<f
  ·rw[show Gl f=FX from if_pos (.inr I),show Pz f=1 from if_pos (.inr I)];simp (disch:=first|omega|decide) only[push_cast,↓reduceIte,CI,Is,E,I,Vr,Lx,LA];rfl
  ·rw[show Gl f={FX with fuel:=f} from if_neg (by omega),show Pz f=0 from if_neg (by omega)];simp (disch:=first|omega|decide) only[push_cast,↓reduceIte,CI,Is,E,I,Yxz,Lx,LA];rfl
theorem yS:Contract Tryz.prog GG 48 ee:=
 Eg yLz (DJ all_nil all_nil) (fun a h=>Ys9 a)
def Hn(c:List Ins)(s:Sta):Ins:=c.getD s.pc.toNat default
def JI(c:List Ins)(v:Int×List Int)(s:Sta):Sta:=if Hj c s 0=0 then E7 v 0 s (Hn c s)else FX
noncomputable def gX:List D→Option D:=Dl (α:=List Ins×(Int×List Int)×Sta) (fun a=>[.slc (nz 3 (a.1.map Da)) (a.1.map Da) false,EJ a.2.1,DS a.2.2]) (fun a=>a.1.length≤4294967296∧EA a.2.1) (fun a=>.tup [DS (JI a.1 a.2.1 a.2.2),.int .i64 (Hj a.1 a.2.2 0)])
theorem Yil(c:List Ins)(v:Int×List Int)(s:Sta)(h:c.length≤4294967296∧EA v):gX [.slc (nz 3 (c.map Da)) (c.map Da) false,EJ v,DS s]=some (.tup [DS (JI c v s),.int .i64 (Hj c s 0)]):=
 D7 (fun⟨a0,a1,E⟩ ⟨b0,b1,I⟩ h=>by simp only[Aa,D.slc.injEq,and_true,KL,SF,Kn]at h; simp[h]) (c,v,s) h
theorem YAl(c:List Ins)(v:Int×List Int)(s:Sta)(h:c.length≤4294967296∧EA v):@wW GG (tb [(108,dY),(110,bR)] []) Y3.code (Dc [.slc (nz 3 (c.map Da)) (c.map Da) false,EJ v,DS s]) [] ⟨Dq Y3.res (.tup [DS (JI c v s),.int .i64 (Hj c s 0)])⟩:=by
 obtain⟨hc,hv⟩:=h;have I:=uA c s 0 hc;unfold Y3
 by_cases E:Hj c s 0=0
 ·have ha:=pL c v s 0 (rp hv E).1;rw[show JI c v s=E7 v 0 s (Hn c s)from if_pos E];rw[E]at I ⊢;simp (disch:=first|omega|decide) only[push_cast,↓reduceIte,CI,CJ,FV,IM,Is,Gq hv,ET,F1,IW,KI,N5,I,ha,Kp];rfl
 ·rw[show JI c v s=FX from if_neg E];simp (disch:=first|omega|decide) only[push_cast,↓reduceIte,CI,CJ,FV,IM,Is,IW,KI,I,E,Vr,Lx,LA];rfl
theorem YFe:Contract Tryz.prog GG 115 gX:=
 Eg yP9 (DJ (all_cons zg (all_cons YFo all_nil)) all_nil) (fun a h=>YAl a.1 a.2.1 a.2.2 h)
def FE(o:Opn):Sta:=⟨o.pc,o.fuel,o.status,o.clause,o.top⟩
def Oq:Opn:=⟨0,0,0,0,[],0,Dt⟩
def Qp(c:List Ins)(o:Opn):Prop:=0<o.fuel∧0<o.depth∧(o.top.length:Int)<Gk (Hn c (FE o)).op
instance (c:List Ins) (o:Opn):Decidable (Qp c o):=by unfold Qp; infer_instance
def KQ(s:Sta)(o:Opn):Opn:=⟨s.pc,s.fuel,s.status,s.clause,s.stack,o.depth,o.rest⟩
def Lq(c:List Ins)(o:Opn):Int:=if Hj c (FE o) o.depth=0 then(if Qp c o then 390 else 0)else Hj c (FE o) o.depth
def LO(c:List Ins)(v:Int×List Int)(o:Opn):Opn:=if Lq c o=0 then KQ (E7 v o.depth (FE o) (Hn c (FE o))) o else Oq
theorem Vq(cs:List D):DN cs []=some cs:=(rfl)
theorem Vs(o:Opn):DN [.int .i64 0,.int .i64 0,.int .i64 0,.int .i64 0,.slc 0 [] true] [(0,1,.int .i64 o.pc),(1,1,.int .i64 o.fuel),(2,1,.int .i64 o.status),(3,1,.int .i64 o.clause),(4,1,Ey o.top)]=some (DY (FE o)):=(rfl)
theorem Vm(s:Sta):D.agg (DY s)=DS s:=(rfl)
theorem zF(x:Ins)(st:St):FJ st 0 (.eptr (Da x) 0)=some (.eptr (Da x) 0):=(rfl)
theorem rl(st:St)(x:Ins):FF st 1 false (.eptr (Da x) 0)=some (.int .i64 x.op):=(rfl)
theorem iK(s:Sta)(o:Opn):DN (E1 0 0 0 0 (.slc 0 [] true) 0 Dt) [(0,1,.int .i64 s.pc),(1,1,.int .i64 s.fuel),(2,1,.int .i64 s.status),(3,1,.int .i64 s.clause),(4,1,Ey s.stack),(5,1,.int .i64 o.depth),(6,32,C9 o.rest)]=some (Ff (KQ s o)):=q9 ..
theorem m5(a b c d:Int)(t:D)(k:Int)(r:Dig)(o:Opn):DT (some ⟨false,1,E1 a b c d t k r,false⟩) 38 0 (.agg (Ff o))=some ⟨false,1,Ff o,false⟩:=Vh ..
theorem mS(lent:Bool)(o:Opn):DA (some ⟨false,1,Ff o,lent⟩) 38 true 0=some (Ef o):=S6 ..
noncomputable def jD:List D→Option D:=Dl (α:=List Ins×(Int×List Int)×Opn) (fun a=>[.slc (nz 3 (a.1.map Da)) (a.1.map Da) false,EJ a.2.1,Ef a.2.2]) (fun a=>a.1.length≤4294967296∧EA a.2.1) (fun a=>.tup [Ef (LO a.1 a.2.1 a.2.2),.int .i64 (Lq a.1 a.2.2)])
theorem Yah(c:List Ins)(v:Int×List Int)(o:Opn)(h:c.length≤4294967296∧EA v):jD [.slc (nz 3 (c.map Da)) (c.map Da) false,EJ v,Ef o]=some (.tup [Ef (LO c v o),.int .i64 (Lq c o)]):=
 D7 (fun⟨a0,a1,E⟩ ⟨b0,b1,I⟩ h=>by simp only[Aa,D.slc.injEq,and_true,KL,SA,Kn]at h; simp[h]) (c,v,o) h
theorem Ys7(c:List Ins)(v:Int×List Int)(o:Opn)(h:c.length≤4294967296∧EA v):@wW GG (tb [(108,dY),(109,dX),(110,bR)] []) ZV.code (Dc [.slc (nz 3 (c.map Da)) (c.map Da) false,EJ v,Ef o]) [] ⟨Dq ZV.res (.tup [Ef (LO c v o),.int .i64 (Lq c o)])⟩:=by
 obtain⟨hc,hv⟩:=h;have J:=uA c (FE o) o.depth hc;unfold ZV;have l0:=xL false o.pc o.fuel o.status o.clause (Ey o.top) o.depth o.rest;have l1:=xM false o.pc o.fuel o.status o.clause (Ey o.top) o.depth o.rest;have M:=mQ false o.pc o.fuel o.status o.clause (Ey o.top) o.depth o.rest;have U:=yv false o.pc o.fuel o.status o.clause (Ey o.top) o.depth o.rest;have V:=mR false o.pc o.fuel o.status o.clause (Ey o.top) o.depth o.rest;have Y:=U6 false o.pc o.fuel o.status o.clause (Ey o.top) o.depth o.rest;have l6:=yw false o.pc o.fuel o.status o.clause (Ey o.top) o.depth o.rest;rw[← KD]at l0 l1 M U V Y l6
 by_cases I:Hj c (FE o) o.depth=0
 ·obtain⟨ha,hs,a0,a1⟩:=rp hv I;have ah:o.pc.toNat<c.length:=by have:=ha.p0; have:=ha.p1; simp only[FE]at *; omega
  have hx:=fun st=>Vv st c false o.pc.toNat ah;rw[show((o.pc.toNat:Nat):Int)=o.pc by have:=ha.p0; simp only[FE]at *; omega]at hx;have hx:∀ st:St,GX st 3 (.slc (nz 3 (c.map Da)) (c.map Da) false) (.int .i64 o.pc)=some (.eptr (Da (Hn c (FE o))) 0):=hx;have hn:=uz (Hn c (FE o)).op;rw[I]at J
  by_cases h2:Qp c o
  ·have e:Lq c o=390:=by unfold Lq; rw[if_pos I,if_pos h2]
   rw[show LO c v o=Oq from if_neg (by rw[e]; decide),e];obtain⟨q1,q2,q3⟩:=h2;simp (disch:=first|omega|decide) only[push_cast,↓reduceIte,CI,CJ,FV,NY,QM,Gu,Is,l0,l1,M,U,V,Y,Vs,Vm,Kp,IW,KI,J,q1,q2,Ie,hx,zF,rl,hn,q3,Vq,Vh,S6,br];rfl
  ·have e:Lq c o=0:=by unfold Lq; rw[if_pos I,if_neg h2]
   rw[show LO c v o=KQ (E7 v o.depth (FE o) (Hn c (FE o))) o from if_pos e,e];have E:=pL c v (FE o) o.depth ha;rw[show c.getD (FE o).pc.toNat default=Hn c (FE o)from rfl]at E;generalize E7 v o.depth (FE o) (Hn c (FE o))=s at*
   by_cases q1:0<o.fuel
   ·by_cases q2:0<o.depth
    ·have q3:¬ (o.top.length:Int)<Gk (Hn c (FE o)).op:=fun q=>h2 ⟨q1,q2,q⟩;simp (disch:=first|omega|decide) only[push_cast,↓reduceIte,CI,CJ,FV,NY,QM,Gu,Is,l0,l1,M,U,V,Y,l6,Vs,Vm,Kp,IW,KI,N5,J,q1,q2,Ie,hx,zF,rl,hn,q3,Gq hv,ET,F1,E,bL,KJ,Ld,Jx,N0,OK,iK,m5,mS,Gm]
    ·simp (disch:=first|omega|decide) only[push_cast,↓reduceIte,CI,CJ,FV,NY,QM,Gu,Is,l0,l1,M,U,V,Y,l6,Vs,Vm,Kp,IW,KI,N5,J,q1,q2,Gq hv,ET,F1,E,bL,KJ,Ld,Jx,N0,OK,iK,m5,mS,Gm]
   ·simp (disch:=first|omega|decide) only[push_cast,↓reduceIte,CI,CJ,FV,NY,QM,Gu,Is,l0,l1,M,U,V,Y,l6,Vs,Vm,Kp,IW,KI,N5,J,q1,Gq hv,ET,F1,E,bL,KJ,Ld,Jx,N0,OK,iK,m5,mS,Gm]
 ·have e:Lq c o=Hj c (FE o) o.depth:=if_neg I;rw[show LO c v o=Oq from if_neg (by rw[e]; exact I),e];simp (disch:=first|omega|decide) only[push_cast,↓reduceIte,CI,CJ,FV,NY,QM,Gu,Is,l0,l1,M,U,V,Y,Vs,Vm,Kp,IW,KI,J,I,Vq,Vh,S6,br];rfl
theorem Yyt:Contract Tryz.prog GG 55 jD:=
 Eg yB2 (DJ (all_cons zg (all_cons zf (all_cons YFo all_nil))) all_nil) (fun a h=>Ys7 a.1 a.2.1 a.2.2 h)
def D4(s:Sta):Int×Int×Int:=if s.status=1∧0<s.stack.length then(Dd s 0,s.clause,0)else if 10<s.status then(0,0,s.status - 10)else(0,0,1)
noncomputable def kD:List D→Option D:=Dl (α:=Sta) (fun a=>[DS a]) (fun a=>a.stack.length≤4294967296∧a.status≤1000000) (fun a=>.tup [.int .i64 (D4 a).1,.int .i64 (D4 a).2.1,.int .i64 (D4 a).2.2])
theorem vW(s:Sta)(h:s.stack.length≤4294967296∧s.status≤1000000):kD [DS s]=some (.tup [.int .i64 (D4 s).1,.int .i64 (D4 s).2.1,.int .i64 (D4 s).2.2]):=
 D7 (fun a b h=>by simp only[Aa,and_true,SF]at h; simp[h]) (s) h
theorem Ykj(s:Sta)(h:s.stack.length≤4294967296∧s.status≤1000000):@wW GG (tb [] []) ZE.code (Dc [DS s]) [] ⟨Dq ZE.res (.tup [.int .i64 (D4 s).1,.int .i64 (D4 s).2.1,.int .i64 (D4 s).2.2])⟩:=by
 obtain⟨hl,M⟩:=h;unfold ZE
 by_cases I:s.status=1
 ·by_cases E:0<s.stack.length
  ·rw[show D4 s=(Dd s 0,s.clause,0)from if_pos ⟨I,E⟩]
   have J:GX [⟨false,1,DY s,false⟩] 1 (Ey s.stack) (.int .i64 ((s.stack.length:Int) - 1))=some (.eptr (nI (Dd s 0)) 0):=by
    have:=U2 [⟨false,1,DY s,false⟩] s.stack false (s.stack.length - 1) (by omega);rw[show((s.stack.length - 1:Nat):Int)=(s.stack.length:Int) - 1 by omega]at this;exact this
   simp (disch:=first|omega|decide) only[push_cast,↓reduceIte,CI,IM,Jx,N0,OK,I,Ie,show((0:Int)<(s.stack.length:Int)) by omega,Fy,J,Vk]
  ·rw[show D4 s=(0,0,1) by unfold D4; rw[if_neg (by omega),if_neg (by omega)]];simp (disch:=first|omega|decide) only[push_cast,↓reduceIte,CI,CT,IM,Jx,OK,I,Ie,show ¬ ((0:Int)<(s.stack.length:Int)) by omega]
 ·by_cases E:10<s.status
  ·rw[show D4 s=(0,0,s.status - 10) by unfold D4; rw[if_neg (by omega),if_pos E]];simp (disch:=first|omega|decide) only[push_cast,↓reduceIte,CI,IM,Jx,I,E,Fy]
  ·rw[show D4 s=(0,0,1) by unfold D4; rw[if_neg (by omega),if_neg E]];simp (disch:=first|omega|decide) only[push_cast,↓reduceIte,CI,IM,Jx,I,E]
theorem Yqd:Contract Tryz.prog GG 61 kD:=
 Eg yIe (DJ all_nil all_nil) (fun a h=>Ykj a h)
def Eh(c:List Ins):D:=.slc (nz 3 (c.map Da)) (c.map Da) false
theorem Vn{a b:List Ins}:Eh a=Eh b↔a=b:=by
 refine⟨fun h=>?_,fun h=>by rw[h]⟩;simp only[Eh,D.slc.injEq,and_true]at h;exact(List.map_inj_right (fun x y h=>Sx.1 h)).1 h.2
def RunOK(c:List Ins)(v:Int×List Int):List Sta→Prop
 |[]=>False
 |[s]=>s.status≠0
 |s::s'::l=>s.status=0∧Hj c s 0=0∧s'=JI c v s∧RunOK c v (s'::l)
theorem RunOK.det:∀ {s:Sta} {l I:List Sta},RunOK c v (s::l)→RunOK c v (s::I)→l=I
 |s,[],[],_,_=>rfl
 |s,[],_::_,h,E=>absurd E.1 h
 |s,_::_,[],h,E=>absurd h.1 E
 |s,a::l,b::I,h,E=>by
  obtain⟨_,_,rfl,J⟩:=h;obtain⟨_,_,rfl,M⟩:=E;rw[RunOK.det J M]
def HW(s:Sta):PI.Obj:=⟨false,1,DY s,false⟩
inductive RunY (y:List D→St→Option (D×St)) (k kc kv:Nat):List Sta→Nat→St→St→Prop
 |stop {s:Sta} {l:List Sta} {i:Nat} {st st1:St} (h:y [.int .i64 (i:Int),DS s] st=some (.bool false,st1)):RunY y k kc kv (s::l) i st st1
 |last {s:Sta} {i:Nat} {st st1:St} (h:y [.int .i64 (i:Int),DS s] st=some (.bool true,st1)) (hk:st1[k]?=some (HW s)):RunY y k kc kv [s] i st st1
 |next {s s':Sta} {l:List Sta} {i:Nat} {st st1 st2:St} (h:y [.int .i64 (i:Int),DS s] st=some (.bool true,st1)) (hk:st1[k]?=some (HW s)) (hc:st1[kc]?=st[kc]?) (hv:st1[kv]?=st[kv]?)
   (hl:RunY y k kc kv (s'::l) (i+1) (st1.set k (HW s')) st2):RunY y k kc kv (s::s'::l) i st st2
variable {y:List D→St→Option (D×St)}
theorem RunY.det{J M:Nat}{l:List Sta}{a b:St}(h:RunY y k J M l i st a):RunY y k J M l i st b→a=b:=by
 induction h with
 |stop h=>
  intro I
  cases I with
  |stop E=>rw[h]at E; simp at E; exact E
  |last E=>rw[h]at E; simp at E
  |next E=>rw[h]at E; simp at E
 |last h hk=>
  intro I
  cases I with
  |stop E=>rw[h]at E; simp at E
  |last E=>rw[h]at E; simp at E; exact E
 |next h hk hc hv hl V=>
  intro I
  cases I with
  |stop E=>rw[h]at E; simp at E
  |next E Y aa ab U=>
   rw[h]at E;simp only[Db,Dx,true_and]at E;subst E;exact V U
def StatesR(y:List D→St→Option (D×St))(ds:List D)(st:St)(r:D×St):Prop:=
 ∃ (kc kv:Nat) (c:List Ins) (v:Int×List Int) (l:List Sta) (lc lv:Bool),ds=[.ptr kc 0,.ptr kv 0]∧st[kc]?=some ⟨false,1,[Eh c],lc⟩∧st[kv]?=some ⟨false,1,D0 v,lv⟩∧c.length≤4096∧EA v∧l.length≤100000∧
  RunOK c v (Gl (c.length+1)::l)∧r.1=.tup []∧RunY y st.length kc kv (Gl (c.length+1)::l) 0 (st++[HW (Gl (c.length+1))]) r.2
variable {r:D×St}
theorem StatesR.det{s:D×St}(h:StatesR y ds st r)(V:StatesR y ds st s):r=s:=by
 obtain⟨kc,kv,c,v,l,lc,lv,rfl,Y,h2,_,_,_,h3,h4,h5⟩:=h;obtain⟨af,ah,c',v',l',a0,a1,J,E,I,_,_,_,h9,M,U⟩:=V;simp only[Aa,D.ptr.injEq,and_true]at J;obtain⟨rfl,rfl⟩:=J;rw[Y]at E;simp only[Db,Obj.mk.injEq,Aa,and_true,true_and,Vn]at E;rw[h2]at I;simp only[Db,Obj.mk.injEq,true_and]at I;obtain⟨rfl,rfl⟩:=E;obtain rfl:v=v':=Kn.1 (congrArg D.agg I.1);obtain rfl:=h3.det h9;exact Prod.ext (h4.trans M.symm) (h5.det U)
noncomputable def RF(y:List D→St→Option (D×St))(ds:List D)(st:St):Option (D×St):=@dite _ (∃ r,StatesR y ds st r) (Classical.propDecidable _) (fun h=>some h.choose) (fun _=>none)
theorem YA5(h:RF y ds st=some r):StatesR y ds st r:=by
 unfold RF at h
 split at h
 ·rename_i E;simp only[Db]at h;rw[← h];exact E.choose_spec
 ·cases h
theorem ik(h:StatesR y ds st r):RF y ds st=some r:=by
 have E:∃ r,StatesR y ds st r:=⟨r,h⟩;unfold RF;rw[dif_pos E,E.choose_spec.det h]
theorem yLl{f:Nat}{F:PF}(E:TblOK P G T)(I:DB P il f hints=some F){sp:(List D→St→Option (D×St))→List D→St→Option (D×St)}
  (h:∀ (l:Nat) y ds st r,sp y ds st=some r→@wW G (Qx T l y) F.code (Dc (.clo (10000000+l) []::ds)) st ⟨@G4 F.res ⟨fun d st'=>(d,st')=r⟩⟩):UA P G f sp:=by
 refine Yo4 E I fun l y ds st r J=>?_;obtain⟨fuel,d,st',M,U⟩:=YF (HQ (h l y ds st r J));exact⟨fuel,by rw[M fuel (Ay _)]; exact congrArg some U⟩
variable {o:PI.Obj}
theorem vA{k':Nat}(h:k'≠k):(st.set k o)[k']?=st[k']?:=AQ (by omega)
theorem Yxu{o':PI.Obj}(h:st[k]?=some o):(st.set k o')[k]?=some o':=Bs (Ac.1 h).1
set_option maxHeartbeats 8000000 in
set_option maxRecDepth 20000 in
theorem xD:UA Tryz.prog GG 114 RF:=by
 refine yLl (T:=tb [(48,ee),(115,gX)] []) (DJ (all_cons yS (all_cons YFe all_nil)) all_nil) yv9 ?_;intro lb y ds st r hr;obtain⟨E,J,c,v,l,lc,lv,rfl,h1,h2,hc,hv,bh,h3,ad,h5⟩:=YA5 hr;obtain⟨rd,ae⟩:=r;dsimp only at ad h5;subst ad;have a3:E<st.length:=(Ac.1 h1).1;have a4:J<st.length:=(Ac.1 h2).1;have cs:=uC ((c.length:Int)+1);have e0:Pz ((c.length:Int)+1)=0:=if_neg (by omega);rw[e0]at cs;have a5:st[E]?=some ⟨false,1,[.slc (nz 3 (c.map Da)) (c.map Da) false],lc⟩:=h1;unfold oo;simp (disch:=first|omega|decide) only[push_cast,↓reduceIte,CI,a5,DM,cs,Is,Fo,Sj,Kp]
 refine Yra (fun i:Nat×List Sta×St=>[(0,.clo (10000000+lb) []),(1,.ptr E 0),(2,.ptr J 0),(4,.ptr st.length 0),(5,.int .i64 0),(6,.int .i64 (i.1:Int))]) (fun i=>i.2.2)
  (fun i=>RunOK c v i.2.1∧RunY y st.length E J i.2.1 i.1 i.2.2 ae∧i.2.2[E]?=some ⟨false,1,[Eh c],lc⟩∧i.2.2[J]?=some ⟨false,1,D0 v,lv⟩∧i.2.2[st.length]?=(i.2.1.head?).map HW∧i.1+i.2.1.length≤100001) (fun i=>i.2.1.length)
  (0,Gl (c.length+1)::l,st++[HW (Gl (c.length+1))]) (by simp only[push_cast,↓reduceIte,CI] <;> rfl) ⟨h3,h5,by rw[Ir a3]; exact h1,by rw[Ir a4]; exact h2,Fo _ _,by simp; omega⟩ ?_
 rintro⟨i,ls,s0⟩ ⟨I,q2,q3,q4,q5,q6⟩;dsimp only at I q2 q3 q4 q5 q6;unfold oQ
 match ls,I,q2,q5,q6 with
 |[],I,_,_,_=>exact I.elim
 |s::l,I,q2,q5,q6=>
 have M:s0[st.length]?=some ⟨false,1,DY s,false⟩:=q5;have b1:s0[E]?=some ⟨false,1,[.slc (nz 3 (c.map Da)) (c.map Da) false],lc⟩:=q3
 cases q2 with
 |stop h=>
  simp (disch:=first|omega|decide) only[push_cast,↓reduceIte,CI,M,IW,h]
 |last h hk=>
  rename_i s1;have hk:ae[st.length]?=some ⟨false,1,DY s,false⟩:=hk;have U:¬ s.status=0:=I;simp (disch:=first|omega|decide) only[push_cast,↓reduceIte,CI,M,IW,h,hk,Jx,U]
 |next h hk a7 a8 hl=>
  rename_i s' l' s1;have a9:s1[st.length]?=some ⟨false,1,DY s,false⟩:=hk;obtain⟨U,ba,rfl,bb⟩:=I;have af:=Yil c v s ⟨by omega,hv⟩;rw[ba]at af;have V:s1[E]?=some ⟨false,1,[.slc (nz 3 (c.map Da)) (c.map Da) false],lc⟩:=a7.trans q3;have Y:s1[J]?=some ⟨false,1,D0 v,lv⟩:=a8.trans q4;simp (disch:=first|omega|decide) only[push_cast,↓reduceIte,CI,M,IW,h,a9,Jx,U,V,Y,Gq hv,ET,F1,KI,N5,af,bL,DM]
  refine E5 (i+1,JI c v s::l',s1.set st.length (HW (JI c v s))) (by
   refine⟨bb,hl,?_,?_,?_,?_⟩
   ·dsimp only; rw[vA (by omega)]; exact V
   ·dsimp only; rw[vA (by omega)]; exact Y
   ·dsimp only; rw[Yxu hk]; rfl
   ·simp only[Ah]at q6 ⊢; omega) (by simp) ?_
  simp only[push_cast] <;> rfl
noncomputable def Tu:List D→St→Option (D×St):=G3 (α:=(List Ins×(Int×List Int))×St) (fun a=>([Eh a.1.1,EJ a.1.2],a.2)) (fun a=>EA a.1.2) (fun a=>(.clo 114 [.ptr a.2.length 0,.ptr (a.2.length+1) 0],a.2++[⟨false,1,[Eh a.1.1],false⟩]++[⟨false,1,D0 a.1.2,false⟩]))
theorem pO(c:List Ins)(v:Int×List Int)(st:St)(hv:EA v):Tu [Eh c,EJ v] st=some (.clo 114 [.ptr st.length 0,.ptr (st.length+1) 0],st++[⟨false,1,[Eh c],false⟩]++[⟨false,1,D0 v,false⟩]):=
 MR (fun a b e=>by
  obtain⟨⟨a1,E⟩,I⟩:=a;obtain⟨⟨b1,J⟩,M⟩:=b;simp only[Dx,Aa,and_true,Vn,Kn]at e;obtain⟨⟨rfl,rfl⟩,rfl⟩:=e;rfl) (((c,v),st):(List Ins×(Int×List Int))×St) hv rfl
theorem xB:IContract Tryz.prog GG 60 Tu:=by
 refine nV (T:=tb [] []) yAk (DJ all_nil all_nil) ?_;rintro⟨⟨c,v⟩,st⟩ hv;unfold nX;simp (disch:=first|omega|decide) only[push_cast,↓reduceIte,CI,Eh,FV];rw[Mf]
def Qm(c:List Ins)(out:Int)(i:Nat)(D:Nat→Int):Prop:=
 ∀ j,i≤j→j<c.length→0≤D j→¬ KF (c.getD j default) (D j)∧D j≤out∧Gr (c.getD j default) (D j)≤out∧
  ∀ n∈Lj (c.getD j default) j,(j:Int)<n∧n<c.length∧D n.toNat=Gr (c.getD j default) (D j)
variable {dep:List Int}
theorem YFt{x:Int}(h:j≠k):Ee (dep.set k x) j=Ee dep j:=by
 grind
theorem Yzi{x:Int}(h:k<dep.length):Ee (dep.set k x) k=x:=by
 grind
theorem rQ{len i after:Int}(I:0≤after)(hi:0≤i):∀ {l:List Int} {dep E:List Int},(dep.length:Int)=len→Np len i after l dep=some E→
  E.length=dep.length∧(∀ j:Nat,0≤Ee dep j∨(j:Int)≤i→Ee E j=Ee dep j)∧∀ n∈l,i<n∧n<len∧Ee E n.toNat=after
 |[],dep,E,hl,h=>by
  simp only[Np,Db]at h;grind
 |n::l,dep,E,hl,h=>by
  simp only[Np]at h
  split at h
  ·cases h
  rename_i hb;unfold Si at hb;have J:i<n∧n<len:=⟨by omega,by omega⟩;have M:n.toNat<dep.length:=by omega
  obtain⟨U,V,Y⟩:=rQ I hi (dep:=dep.set n.toNat after) (by rw[BS]; exact hl) h;grind
theorem yZ4(op:Int):0≤(Ep op).2:=by
 unfold Ep
 repeat' split
 all_goals simp
theorem iC(c:List Ins):∀ (r:List Ins) (i:Nat) (dep:List Int) (s out:Int),r=c.drop i→i≤c.length→dep.length=c.length→0≤s→Gv c.length r i dep s=some out→
  s≤out∧∃ D:Nat→Int,(∀ j:Nat,0≤Ee dep j∨j<i→D j=Ee dep j)∧Qm c out i D
 |[],i,dep,s,out,E,hi,hl,hs,h=>by
  simp only[Gv,Db]at h;subst h;have:c.length≤i:=List.drop_eq_nil_iff.1 E.symm;exact⟨CB _,Ee dep,fun _ _=>rfl,fun j U M=>absurd M (by omega)⟩
 |x::r,i,dep,s,out,E,hi,hl,hs,h=>by
  have I:i<c.length:=by
   grind
  rw[A9 I]at E;obtain⟨hx,E⟩:=List.cons.inj E;have hg:c.getD i default=x:=by rw[hx,Ai,Am I]; rfl
  simp only[Gv]at h
  split at h
  ·rename_i V;obtain⟨U,D,M,Y⟩:=iC c r (i+1) dep s out E I hl hs h;refine⟨U,D,fun j hj=>M j (by omega),fun j hj J hD=>?_⟩
   by_cases e:j=i
   ·grind
   ·exact Y j (by omega) J hD
  ·rename_i V
   split at h
   ·cases h
   rename_i ab
   split at h
   ·cases h
   rename_i ac hn;have af:(Ep x.op).1≤Ee dep i:=by unfold KF at ab; omega
   have ha:0≤Gr x (Ee dep i):=by have:=yZ4 x.op; unfold Gr; omega
   obtain⟨n1,n2,n3⟩:=rQ ha (by omega) (by rw[hl]) hn;obtain⟨U,D,M,Y⟩:=iC c r (i+1) ac _ out E I (by rw[n1,hl]) (by omega) h;refine⟨by omega,D,fun j hj=>?_,fun j hj J hD=>?_⟩
   ·grind
   ·by_cases e:j=i
    ·grind
    ·exact Y j (by omega) J hD
theorem yXa(h:(Fk c).2=0):∃ D:Nat→Int,D 0=0∧Qm c 64 0 D:=by
 obtain⟨U,V,Y,s,I,h5⟩:=Nh h;obtain⟨_,D,J,M⟩:=iC c c 0 (Hb c.length) 0 s rfl (by omega) (by simp[Hb]) (by decide) I;have E:Ee (Hb c.length) 0=0:=Yzi (by simp; omega);refine⟨D,by rw[J 0 (.inl (by rw[E]; decide)),E],fun j a b d=>?_⟩;obtain⟨q1,q2,q3,q4⟩:=M j a b d;grind
structure Good (c:List Ins) (D:Nat→Int) (s:Sta):Prop where
 st:s.status=0
 cl:s.clause=0
 p0:0≤s.pc
 p1:s.pc<c.length
 d:D s.pc.toNat=s.stack.length
 u0:0≤s.fuel
 u1:s.fuel≤32768
structure Last (s:Sta):Prop where
 st:s.status≠0
 s0:0≤s.status
 s1:s.status≤100000
 l:s.stack.length≤64
theorem Good.len{D:Nat→Int}(E:Qm c 64 0 D)(h:Good c D s):s.stack.length≤64:=by
 have I:=h.d;have J:=h.p0;have M:=h.p1;have:=(E s.pc.toNat (by omega) (by omega) (by omega)).2.1;omega
theorem Good.ready{D:Nat→Int}(hv:(Fk c).2=0)(E:Qm c 64 0 D)(h:Good c D s):Hj c s 0=0:=by
 unfold Hj;have hl:=h.len E;have I:=h.st;have J:=h.p0;have M:=h.p1;have U:=h.u0;have V:=h.u1;have Y:=h.cl;rw[if_neg (by omega),if_neg (by omega),if_neg (by unfold HO; omega)]
theorem jQ(h:c.all GI=true)(hj:j<c.length):GI (c.getD j default)=true:=by
 grind
theorem vz(h:GI x=true):1≤x.op∧x.op≤16:=⟨(of_decide_eq_true h).1,(of_decide_eq_true h).2.1⟩
theorem Yne{op:Int}(h:1≤op∧op≤16):Gk op=(Ep op).1:=by
 have:op=1∨op=2∨op=3∨op=4∨op=5∨op=6∨op=7∨op=8∨op=9∨op=10∨op=11∨op=12∨op=13∨op=14∨op=15∨op=16:=by omega
 rcases this with rfl | rfl | rfl | rfl | rfl | rfl | rfl | rfl | rfl | rfl | rfl | rfl | rfl | rfl | rfl | rfl <;> rfl
theorem Good.step{D:Nat→Int}(hf:c.all GI=true)(hD:Qm c 64 0 D)(h:Good c D s) :
  Last (E7 v 0 s (Hn c s))∨(Good c D (E7 v 0 s (Hn c s))∧s.pc<(E7 v 0 s (Hn c s)).pc∧(E7 v 0 s (Hn c s)).fuel=s.fuel - 1):=by
 have hl:=h.len hD;obtain⟨h1,h2,h3,h4,h5,h6,h7⟩:=h;have hj:s.pc.toNat<c.length:=by omega
 have ad:GI (Hn c s)=true:=jQ hf hj;have ae:=vz ad;obtain⟨V,q2,q3,q4⟩:=hD s.pc.toNat (by omega) hj (by omega);rw[show c.getD s.pc.toNat default=Hn c s from rfl]at V q3 q4;generalize Hn c s=x at*;rw[h5]at V q3 q4;have a5:=Yne ae;unfold E7
 by_cases hu:s.fuel=0
 ·rw[if_pos hu];exact .inl ⟨by simp,by simp,by simp,hl⟩
 rw[if_neg hu]
 have a0:¬ ((Dk s).stack.length:Int)<Gk x.op:=by
  unfold KF at V
  show ¬ ((s.stack.length:Int)<Gk x.op)
  omega
 have hex:Gi v 0 (Dk s) x=DQ v 0 (Dk s) x:=if_neg a0
 have nx:∀ (n:Int),n∈Lj x s.pc.toNat→s.pc<n∧n<c.length∧D n.toNat=Gr x s.stack.length:=fun n hn=>by
  grind
 have I:x.op≠14→x.op≠15→x.op≠16→s.pc<s.pc+1∧s.pc+1<c.length∧D (s.pc+1).toNat=Gr x s.stack.length:=fun a b d=>by
  refine nx (s.pc+1) ?_;unfold Lj;grind
 have a2:x.op=13∨x.op=14→s.pc<x.n∧x.n<c.length∧D x.n.toNat=Gr x s.stack.length:=fun a=>by
  refine nx x.n ?_;unfold Lj;grind
 -- a8 each outcome comes to
 have a9:∀ e,Gi v 0 (Dk s) x=.err e→Last (F4 (Dk s) (Gi v 0 (Dk s) x)):=fun e he=>by
  have:=zr he;rw[he];exact⟨by simp only[F4]; omega,by simp only[F4]; omega,by simp only[F4]; omega,hl⟩
 have E:∀ k push pc,Gi v 0 (Dk s) x=.pop k push pc→k≤s.stack.length→((s.stack.length - k+push.toList.length:Nat):Int)=Gr x s.stack.length→(s.pc<pc.getD (s.pc+1)∧pc.getD (s.pc+1)<c.length∧D (pc.getD (s.pc+1)).toNat=Gr x s.stack.length)→
   Good c D (F4 (Dk s) (Gi v 0 (Dk s) x))∧s.pc<(F4 (Dk s) (Gi v 0 (Dk s) x)).pc∧(F4 (Dk s) (Gi v 0 (Dk s) x)).fuel=s.fuel - 1:=fun k push pc he hk bf Y=>by
  rw[he];refine⟨⟨h1,h2,?_,Y.2.1,?_,?_,?_⟩,Y.1,rfl⟩
  ·show 0≤pc.getD (s.pc+1); omega
  ·show D (pc.getD (s.pc+1)).toNat=((s.stack.take (s.stack.length - k)++push.toList).length:Int)
   grind
  ·show 0≤s.fuel - 1; omega
  ·show s.fuel - 1≤32768; omega
 have hd:(Ep x.op).1≤s.stack.length:=by unfold KF at V; omega
 by_cases o1:x.op=1
 ·have he:Gi v 0 (Dk s) x=.pop 0 (some x.n) none:=by
   rw[hex]; unfold DQ;rw[if_pos o1,if_neg];have:Gr x s.stack.length=s.stack.length+1:=by unfold Gr; rw[o1]; simp[Ep]
   show ¬ (64:Int)≤0+s.stack.length
   omega
  refine .inr (E _ _ _ he (by omega) ?_ (I (by omega) (by omega) (by omega)));unfold Gr; rw[o1]; simp[Ep]
 by_cases o2:x.op=2
 ·have bb:¬ (64:Int)≤0+(Dk s).stack.length:=by
   have:Gr x s.stack.length=s.stack.length+1:=by unfold Gr; rw[o2]; simp[Ep]
   show ¬ (64:Int)≤0+s.stack.length
   omega
  by_cases b1:Pq v.1 (MD x.n)=0
  ·have he:Gi v 0 (Dk s) x=.err 181:=by
    rw[hex]; unfold DQ;grind
   grind
  by_cases b2:Ee v.2 x.n.toNat < -9007199254740992∨9007199254740992<Ee v.2 x.n.toNat
  ·have he:Gi v 0 (Dk s) x=.err 3:=by
    rw[hex]; unfold DQ;grind
   grind
  have he:Gi v 0 (Dk s) x=.pop 0 (some (Ee v.2 x.n.toNat)) none:=by
   rw[hex]; unfold DQ;grind
  refine .inr (E _ _ _ he (by omega) ?_ (I (by omega) (by omega) (by omega)));unfold Gr; rw[o2]; simp[Ep]
 by_cases J:x.op=12
 ·have he:Gi v 0 (Dk s) x=.pop 1 (some (if x.n≤Dd (Dk s) 0∧Dd (Dk s) 0≤x.m then 1 else 0)) none:=by
   rw[hex]; unfold DQ;grind
  have:(Ep x.op).1=1:=by rw[J]; rfl
  refine .inr (E _ _ _ he (by omega) ?_ (I (by omega) (by omega) (by omega)));unfold Gr; rw[J]; simp[Ep]; omega
 by_cases M:x.op=13
 ·have he:Gi v 0 (Dk s) x=.pop 1 none (if Dd (Dk s) 0=0 then some x.n else none):=by
   rw[hex]; unfold DQ;grind
  have:(Ep x.op).1=1:=by rw[M]; rfl
  refine .inr (E _ _ _ he (by omega) ?_ ?_)
  ·unfold Gr; rw[M]; simp[Ep]; omega
  ·grind
 by_cases U:x.op=14
 ·have he:Gi v 0 (Dk s) x=.set x.n s.status s.clause:=by
   rw[hex]; unfold DQ;rw[if_neg o1,if_neg o2,if_neg J,if_neg M,if_pos U]; rfl
  obtain⟨m1,m2,m3⟩:=a2 (.inr U)
  right
  rw[he];refine⟨⟨h1,h2,?_,m2,?_,?_,?_⟩,m1,rfl⟩
  ·show 0≤x.n; omega
  ·show D x.n.toNat=(s.stack.length:Int)
   rw[m3]; unfold Gr; rw[U]; simp[Ep]
  ·show 0≤s.fuel - 1; omega
  ·show s.fuel - 1≤32768; omega
 by_cases a3:x.op=15
 ·have he:Gi v 0 (Dk s) x=.set s.pc 1 x.n:=by
   rw[hex]; unfold DQ;rw[if_neg o1,if_neg o2,if_neg J,if_neg M,if_neg U,if_pos a3]; rfl
  left
  rw[he];exact⟨by simp[F4],by simp[F4],by simp[F4],hl⟩
 by_cases bg:x.op=16
 ·have he:Gi v 0 (Dk s) x=.err 180:=by
   rw[hex]; unfold DQ;grind
  grind
 by_cases b1:(Ec x.op (Dd (Dk s) 1) (Dd (Dk s) 0)).2=0
 ·have he:Gi v 0 (Dk s) x=.pop 2 (some (Ec x.op (Dd (Dk s) 1) (Dd (Dk s) 0)).1) none:=by
   rw[hex]; unfold DQ;grind
  have e2:Ep x.op=(2,1):=by
   unfold Ep;grind
  rw[e2]at hd;refine .inr (E _ _ _ he (by omega) ?_ (I (by omega) (by omega) (by omega)));unfold Gr; rw[e2]; simp; omega
 ·have he:Gi v 0 (Dk s) x=.err (Ec x.op (Dd (Dk s) 1) (Dd (Dk s) 0)).2:=by
   rw[hex]; unfold DQ;grind
  grind
def JB(c:List Ins)(v:Int×List Int):Nat→Sta→List Sta
 |0,s=>[s]
 |f+1,s=>s::if s.status=0 then JB c v f (JI c v s)else []
def HU(c:List Ins)(v:Int×List Int):List Sta:=JB c v c.length (Gl (c.length+1))
theorem Ycu{c:List Ins}{D:Nat→Int}{v:Int×List Int}(hv:(Fk c).2=0)(I:Qm c 64 0 D):∀ (f:Nat) (s:Sta),Good c D s→(c.length:Int)≤f+s.pc→
  ∃ l,JB c v f s=s::l∧RunOK c v (s::l)∧l.length≤f∧(∀ x∈s::l,Good c D x∨Last x)
 |0,s,h,hf=>absurd h.p1 (by have:=h.p1; omega)
 |f+1,s,h,hf=>by
  have J:=h.ready hv I;have E:JI c v s=E7 v 0 s (Hn c s):=if_pos J;have M:=(Nh hv).2.2.1;refine⟨JB c v f (JI c v s),by simp only[JB]; rw[if_pos h.st],?_⟩;rcases h.step (v:=v) M I with hl | ⟨U,V,_⟩
  ·rw[← E]at hl
   have e:JB c v f (JI c v s)=[JI c v s]:=by
    cases f with
    |zero=>rfl
    |succ f=>simp only[JB]; rw[if_neg hl.st]
   rw[e];refine⟨⟨h.st,J,rfl,hl.st⟩,by simp,fun x Y=>?_⟩;grind
  ·rw[← E]at U V;obtain⟨l,h1,h2,h3,h4⟩:=Ycu (v:=v) hv I f (JI c v s) U (by omega);rw[h1];refine⟨⟨h.st,J,rfl,h2⟩,by simp; omega,fun x Y=>?_⟩;grind
theorem P1(hv:(Fk c).2=0):∃ D l,Qm c 64 0 D∧HU c v=Gl (c.length+1)::l∧RunOK c v (Gl (c.length+1)::l)∧l.length≤c.length∧(∀ x∈Gl (c.length+1)::l,Good c D x∨Last x):=by
 obtain⟨D,E,I⟩:=yXa hv;obtain⟨hc,ab,_⟩:=Nh hv;have J:Gl ((c.length:Int)+1)={FX with fuel:=(c.length:Int)+1}:=if_neg (by omega)
 have M:Good c D (Gl ((c.length:Int)+1)):=by
  rw[J];exact⟨rfl,rfl,CB _,by simp only[FX]; omega,E,by simp only[]; omega,by simp only[]; omega⟩
 obtain⟨l,U,V,Y,h4⟩:=Ycu (v:=v) hv I c.length _ M (by rw[J]; simp[FX]);exact⟨D,l,I,U,V,Y,h4⟩
structure Der where
 code:List Ins
 env:Int×List Int
 am:Int
 er:Int
 lv:List Dig
 deriving Inhabited
def Dr(cs:D)(v:Int×List Int)(a e:Int)(L:D):List D:=cs::(D0 v++[.int .i64 a,.int .i64 e,L])
def H6(l:List Dig):D:=.slc (nz 32 (l.map C9)) (l.map C9) false
def Fv(d:Der):D:=.agg (Dr (Eh d.code) d.env d.am d.er (H6 d.lv))
theorem Yvx{a b:List Dig}:H6 a=H6 b↔a=b:=by
 refine⟨fun h=>?_,fun h=>by rw[h]⟩;simp only[H6,D.slc.injEq,and_true]at h;exact KM.1 h.2
theorem Ypk{cs cs':D}{I e J:Int}{L M:D}(h:Dr cs v a e L=Dr cs' v' I J M):cs=cs'∧v=v'∧a=I∧e=J∧L=M:=by
 simp only[Dr,Aa]at h;obtain⟨U,E⟩:=List.append_inj' h.2 rfl;simp only[Aa,D.int.injEq,true_and,and_true]at E;exact⟨h.1,Kn.1 (congrArg D.agg U),E.1,E.2.1,E.2.2⟩
theorem pW{a b:Der}:Fv a=Fv b↔a=b:=by
 refine⟨fun h=>?_,fun h=>by rw[h]⟩;obtain⟨a1,V,Y,a4,a5⟩:=a;obtain⟨b1,b2,b3,b4,b5⟩:=b;simp only[Fv,D.agg.injEq]at h;obtain⟨E,I,J,M,U⟩:=Ypk h;subst I; subst J; subst M;rw[Vn.1 E,Yvx.1 U]
def DZ:D:=.slc 0 [] true
def JT:Int×List Int:=(0,CQ 16 0)
theorem fA(hv:EA v)(cs:D)(a e:Int)(L:D):(Dr cs v a e L).length=21:=by simp[Dr,Ii hv]
theorem sO(v:Int×List Int){cs L:D}(hc:cs.isCell=true)(E:L.isCell=true)(a e:Int):(Dr cs v a e L).all D.isCell=true:=by
 have:(D0 v).all D.isCell=true:=by rw[TR,Uq]
 simp only[Dr,A0,Bm,hc,E,this,Ct,fh,BT]
theorem NQ:DH (.agg [.slc 0 [] true,.int .i64 0,.int .i64 0,.int .i64 0,.int .i64 0,.int .i64 0,.int .i64 0,.int .i64 0,.int .i64 0,.int .i64 0,.int .i64 0,.int .i64 0,.int .i64 0,.int .i64 0,.int .i64 0,.int .i64 0,.int .i64 0,.int .i64 0,.int .i64 0,.int .i64 0,.slc 0 [] true])=some (Dr DZ JT 0 0 DZ):=(rfl)
theorem Yx5:DN [.slc 0 [] true,.int .i64 0,.int .i64 0,.int .i64 0,.int .i64 0,.int .i64 0,.int .i64 0,.int .i64 0,.int .i64 0,.int .i64 0,.int .i64 0,.int .i64 0,.int .i64 0,.int .i64 0,.int .i64 0,.int .i64 0,.int .i64 0,.int .i64 0,.int .i64 0,.int .i64 0,.slc 0 [] true] []=some (Dr DZ JT 0 0 DZ):=(rfl)
theorem Yx3(hv:EA v)(sz:Nat)(els:List D)(t:Bool):DN [.slc 0 [] true,.int .i64 0,.int .i64 0,.int .i64 0,.int .i64 0,.int .i64 0,.int .i64 0,.int .i64 0,.int .i64 0,.int .i64 0,.int .i64 0,.int .i64 0,.int .i64 0,.int .i64 0,.int .i64 0,.int .i64 0,.int .i64 0,.int .i64 0,.int .i64 0,.int .i64 0,.slc 0 [] true] [(0,1,.slc sz els t),(1,17,EJ v)]=some (Dr (.slc sz els t) v 0 0 DZ):=by
 refine(Jo (cs:=Dr DZ JT 0 0 DZ) (cs':=Dr (.slc sz els t) JT 0 0 DZ) (A:=[]) (B:=[DZ]) (xs:=[.slc sz els t]) rfl rfl rfl rfl rfl rfl rfl).trans ?_;refine(Jo (cs:=Dr (.slc sz els t) JT 0 0 DZ) (cs':=Dr (.slc sz els t) v 0 0 DZ) (A:=[.slc sz els t]) (B:=D0 JT) (xs:=D0 v) rfl rfl rfl rfl rfl (Ii hv) ?_).trans ?_
 ·rw[TR,Uq]
 ·rfl
theorem nd(hv:EA v)(M:EA v')(cs cs':D)(hc:cs'.isCell=true)(a e E I:Int)(L J:D)(U:J.isCell=true):DT (some ⟨false,1,Dr cs v a e L,false⟩) 21 0 (.agg (Dr cs' v' E I J))=some ⟨false,1,Dr cs' v' E I J,false⟩:=
 LS 1 _ _ 21 (fA hv ..) (fA M ..) (sO v' hc U E I)
theorem nf:EA JT:=(rfl)
section
variable {v:Int×List Int} (hv:EA v) (lent:Bool) (cs L:D) (a e:Int)
include hv
theorem xK:DA (some ⟨false,1,Dr cs v a e L,lent⟩) 21 true 0=some (.agg (Dr cs v a e L)):=LQ 1 lent _ 21 (fA hv ..)
theorem Ywb:DA (some ⟨false,1,Dr cs v a e L,lent⟩) 17 true 1=some (EJ v):=MN (A:=[cs]) (B:=D0 v) (C:=[.int .i64 a,.int .i64 e,L]) rfl rfl (Ii hv)
theorem Yn0:DA (some ⟨false,1,Dr cs v a e L,lent⟩) 1 false 18=some (.int .i64 a):=Jp (A:=cs::D0 v) (C:=[.int .i64 e,L]) (by simp[Dr]) (by simp[Ii hv])
theorem iS:DA (some ⟨false,1,Dr cs v a e L,lent⟩) 1 false 20=some L:=Jp (A:=cs::(D0 v++[.int .i64 a,.int .i64 e])) (C:=[]) (by simp[Dr]) (by simp[Ii hv])
theorem rU(E:Int):DT (some ⟨false,1,Dr cs v a e L,false⟩) 1 18 (.int .i64 E)=some ⟨false,1,Dr cs v E e L,false⟩:=
 KG (A:=cs::D0 v) (B:=[.int .i64 a]) (C:=[.int .i64 e,L]) (xs:=[.int .i64 E]) (by simp[Dr]) (by simp[Dr]) (by simp[Ii hv]) rfl rfl rfl rfl
theorem rV(E:Int):DT (some ⟨false,1,Dr cs v a e L,false⟩) 1 19 (.int .i64 E)=some ⟨false,1,Dr cs v a E L,false⟩:=
 KG (A:=cs::(D0 v++[.int .i64 a])) (B:=[.int .i64 e]) (C:=[L]) (xs:=[.int .i64 E]) (by simp[Dr]) (by simp[Dr]) (by simp[Ii hv]) rfl rfl rfl rfl
theorem Yld(E:D)(I:E.cells=[E])(J:E.isCell=true):DT (some ⟨false,1,Dr cs v a e L,false⟩) 1 20 E=some ⟨false,1,Dr cs v a e E,false⟩:=
 KG (A:=cs::(D0 v++[.int .i64 a,.int .i64 e])) (B:=[L]) (C:=[]) (xs:=[E]) (by simp[Dr]) (by simp[Dr]) (by simp[Ii hv]) rfl I rfl (by simp[J])
end
theorem z0:DT (some ⟨false,1,Dr DZ JT 0 0 DZ,false⟩) 21 0 (.agg (Dr DZ JT 0 0 DZ))=some ⟨false,1,Dr DZ JT 0 0 DZ,false⟩:=(rfl)
theorem WQ:DA (some ⟨false,1,Dr DZ JT 0 0 DZ,false⟩) 21 true 0=some (.agg (Dr DZ JT 0 0 DZ)):=(rfl)
theorem tZ(hv:EA v)(cs L:D)(a e:Int)(k t o n:Nat):DT (some ⟨false,1,Dr cs v a e L,false⟩) 1 20 (.row k t o n)=some ⟨false,1,Dr cs v a e (.row k t o n),false⟩:=Yld hv cs L a e _ rfl rfl
theorem Ywc(v:Int×List Int)(lent:Bool)(cs L:D)(a e:Int):DA (some ⟨false,1,Dr cs v a e L,lent⟩) 1 false 0=some cs:=Jp (A:=[]) rfl rfl
def RM(o:Option PI.Obj):Option Int:=o.bind fun o=>if !o.row && o.sz == 1000003 then(match o.els with
  |[.int .i64 n]=>some n
  |_=>none)else none
theorem dE(st:St)(k:Nat):recAt st k=RM st[k]?:=by
 unfold recAt RM;grind
theorem bG(n:Int):RM (some (recO n))=some n:=(rfl)
structure okS (s:Sta):Prop where
 l:s.stack.length≤4294967296
 t:s.status≤1000000
def M5(c:List Ins)(v:Int×List Int)(a e:Int)(L:D)(s:Sta)(n:Int)(ex:St):St:=
 ⟨false,1,[Eh c],false⟩::⟨false,1,D0 v,false⟩::⟨false,1,Dr DZ JT 0 0 DZ,false⟩::⟨false,1,Dr (Eh c) v a e L,false⟩::⟨false,1,[Eh c],false⟩::⟨false,1,D0 v,false⟩::recO n::⟨false,1,DY s,false⟩::ex
noncomputable def LX:Tbl:=TF [(49,cN),(61,kD),(47,Sk)] [(60,Tu)] [(114,RF)]
theorem Yly(c:List Ins)(v:Int×List Int)(hc:c.length≤4096)(hv:EA v)(s:Sta)(E:okS s)(fr:Frame)(I:fr 2=.ptr 0 0)(J:fr 3=.ptr 1 0)(M:fr 8=.ptr 3 0)(m:Nat) :
  Lp (Ro.exec GG LX m) (Rp.exec GG LX m) fr [26,27] 6 [.int .i64 0,DS s] (M5 c v 0 0 DZ s 0 [])=some (.bool true,M5 c v (D4 s).1 (D4 s).2.2 (.row 9 1 0 1) s 0 (⟨false,1,DY s,false⟩::⟨true,32,[C8 (DV c v s)].map .agg,false⟩::[])):=by
 refine dF rfl rfl rfl ?_ m;have U:=jT c v s ⟨by omega,hv,E.l⟩;have V:=vW s ⟨E.l,E.t⟩;unfold Ro M5;simp (disch:=first|omega|decide) only[push_cast,↓reduceIte,CI,CJ,J4,Is,Kp];unfold Rp;have Y:=fun st=>yRo C9 st 32 0 32 (DV c v s) true (by decide) (by decide);simp (disch:=first|omega|decide) only[push_cast,↓reduceIte,CI,CJ,I,J,M,Eh,iS hv,Gq hv,IW,ET,KI,N5,U,V,DZ,Y,rU hv,rV hv,tZ hv,dE,bG,Vd,LX]
theorem Ycy(c:List Ins)(v:Int×List Int)(hc:c.length≤4096)(hv:EA v)(s:Sta)(E:okS s)(L:List Dig)(hL:L.length≤100000)(a e:Int)(x:PI.Obj)(I:St)(i:Nat)(fr:Frame)(J:fr 2=.ptr 0 0)(M:fr 3=.ptr 1 0)(U:fr 8=.ptr 3 0)(m:Nat) :
  Lp (Ro.exec GG LX m) (Rp.exec GG LX m) fr [26,27] 6 [.int .i64 (i:Int),DS s] (M5 c v a e (.row 9 L.length 0 L.length) s 0 (x::⟨true,32,L.map C9,false⟩::I))=
   some (.bool true,M5 c v (D4 s).1 (D4 s).2.2 (.row 9 (L++[DV c v s]).length 0 (L++[DV c v s]).length) s 0 (x::⟨true,32,(L++[DV c v s]).map C9,false⟩::(I++[HW s]))):=by
 refine dF rfl rfl rfl ?_ m;have V:=jT c v s ⟨by omega,hv,E.l⟩;have Y:=vW s ⟨E.l,E.t⟩;unfold Ro M5;have pf:=fun st=>yQ C9 32 32 L (DV c v s) false true st (by decide) (by omega) (by omega);simp (disch:=first|omega|decide) only[push_cast,↓reduceIte,CI,J4,Is,Kp,Fo,Sj];unfold Rp;simp (disch:=first|omega|decide) only[push_cast,↓reduceIte,CI,J,M,U,Eh,iS hv,Gq hv,IW,ET,KI,N5,V,Y,DZ,pf,rU hv,rV hv,tZ hv,dE,bG,Vd,LX,Fo];rfl
def IH(l:List Sta):Sta:=(l.getLast?).getD FX
theorem yZb(s s':Sta)(l:List Sta):IH (s::s'::l)=IH (s'::l):=(rfl)
theorem z9(c:List Ins)(v:Int×List Int)(hc:c.length≤4096)(hv:EA v)(fr:Frame)(I:fr 2=.ptr 0 0)(J:fr 3=.ptr 1 0)(M:fr 8=.ptr 3 0)(m:Nat)(x:PI.Obj):∀ (l:List Sta) (s:Sta) (L:List Dig) (a e:Int) (ex:St),
  RunOK c v (s::l)→(∀ y∈s::l,okS y)→L.length+l.length≤100000→
  RunY (Lp (Ro.exec GG LX m) (Rp.exec GG LX m) fr [26,27] 6) 7 4 5 (s::l) L.length (M5 c v a e (.row 9 L.length 0 L.length) s 0 (x::⟨true,32,L.map C9,false⟩::ex))
   (M5 c v (D4 (IH (s::l))).1 (D4 (IH (s::l))).2.2 (.row 9 (L++(s::l).map (DV c v)).length 0 (L++(s::l).map (DV c v)).length) (IH (s::l)) 0 (x::⟨true,32,(L++(s::l).map (DV c v)).map C9,false⟩::(ex++(s::l).map HW)))
 |[],s,L,a,e,ex,U,E,hl=>.last (Ycy c v hc hv s (E s (by simp)) L (by simpa using hl) a e x ex L.length fr I J M m) rfl
 |s'::l,s,L,a,e,ex,U,E,hl=>by
  have h:=z9 c v hc hv fr I J M m x l s' (L++[DV c v s]) (D4 s).1 (D4 s).2.2 (ex++[HW s]) U.2.2.2 (fun y V=>E y (by simp[V])) (by simp at hl ⊢; omega);refine .next (Ycy c v hc hv s (E s (by simp)) L (by simp at hl; omega) a e x ex L.length fr I J M m) rfl rfl rfl ?_
  rw[yZb];have Y:L++(s::s'::l).map (DV c v)=(L++[DV c v s])++(s'::l).map (DV c v):=by simp
  have e2:(L++[DV c v s]).length=L.length+1:=by simp
  have e3:ex++(s::s'::l).map HW=(ex++[HW s])++(s'::l).map HW:=by simp
  rw[Y,e3,← e2];exact h
theorem YB8(c:List Ins)(v:Int×List Int)(hc:c.length≤4096)(hv:EA v)(fr:Frame)(E:fr 2=.ptr 0 0)(I:fr 3=.ptr 1 0)(J:fr 8=.ptr 3 0)(m:Nat)(l:List Sta)(s:Sta)(V:RunOK c v (s::l))(M:∀ y∈s::l,okS y)(hl:l.length≤90000) :
  RunY (Lp (Ro.exec GG LX m) (Rp.exec GG LX m) fr [26,27] 6) 7 4 5 (s::l) 0 (M5 c v 0 0 DZ s 0 [])
   (M5 c v (D4 (IH (s::l))).1 (D4 (IH (s::l))).2.2 (.row 9 ((s::l).map (DV c v)).length 0 ((s::l).map (DV c v)).length) (IH (s::l)) 0 (⟨false,1,DY s,false⟩::⟨true,32,((s::l).map (DV c v)).map C9,false⟩::l.map HW)):=by
 have U:=Yly c v hc hv s (M s (by simp)) fr E I J m
 cases l with
 |nil=>exact .last U rfl
 |cons s' l=>exact .next U rfl rfl rfl (z9 c v hc hv fr E I J m ⟨false,1,DY s,false⟩ l s' [DV c v s] (D4 s).1 (D4 s).2.2 [] V.2.2.2 (fun y Y=>M y (by simp[Y])) (by simp at hl ⊢; omega))
def Ot:Der:=⟨[],JT,0,0,[]⟩
def Ix(c:List Ins)(v:Int×List Int):Der:=if(Fk c).2=0 then⟨c,v,(D4 (IH (HU c v))).1,(D4 (IH (HU c v))).2.2,(HU c v).map (DV c v)⟩else Ot
theorem OY(st:St):∀ {A:List D} (B:List D),A.all Es=true→D5 st (A++B)=(D5 st B).map (A++·)
 |[],B,_=>by simp
 |d::A,B,h=>by
  simp only[A0,Af]at h;rw[Ae,D5,fb st h.1,OY st B h.2];cases D5 st B <;> rfl
theorem P8(v:Int×List Int):(D0 v).all Es=true:=by
 rw[TR]; exact Ra (v.1::v.2)
theorem qu(st:St)(cs cs' L E:D)(v:Int×List Int)(a e:Int)(I:DC st cs=some cs')(J:DC st L=some E):DX st (.agg (Dr cs v a e L))=some (.agg (Dr cs' v a e E)):=by
 simp only[DX,Dr,D5,I,OY st _ (P8 v),J,iN,Ag]
theorem Yoj(st:St)(c:List Ins)(v:Int×List Int)(a e:Int)(L:List Dig)(k:Nat)(lent:Bool)(hk:st[k]?=some ⟨true,32,L.map C9,lent⟩):DX st (.agg (Dr (Eh c) v a e (.row k L.length 0 L.length)))=some (Fv ⟨c,v,a,e,L⟩):=by
 refine qu st _ _ _ _ v a e (by simp only[Eh,DC,IJ]) ?_
 have E:Ic st k L.length 0 L.length=some (32,L.map C9):=by
  rw[tV,hk]; exact zY C9 32 L lent
 simp only[DC,E,Ag];rfl
theorem Yok(st:St):DX st (.agg (Dr DZ JT 0 0 DZ))=some (Fv Ot):=(rfl)
theorem Ss(st:St)(d:Der):DX st (Fv d)=some (Fv d):=qu st _ _ _ _ _ _ _ (by simp only[Eh,DC,IJ]) (by simp only[H6,DC,IJ])
theorem Yxq{D:Nat→Int}(E:Qm c 64 0 D){x:Sta}(h:Good c D x∨Last x):okS x:=by
 rcases h with h | h
 ·exact⟨by have:=h.len E; omega,by have:=h.st; omega⟩
 ·exact⟨by have:=h.l; omega,by have:=h.s1; omega⟩
noncomputable def bU:List D→Option D:=Dl (α:=List Ins×(Int×List Int)) (fun a=>[.slc (nz 3 (a.1.map Da)) (a.1.map Da) false,EJ a.2]) (fun a=>a.1.length≤9223372036854775807∧EA a.2) (fun a=>.tup [Fv (Ix a.1 a.2),.int .i64 (Fk a.1).2])
theorem Yp0(c:List Ins)(v:Int×List Int)(h:c.length≤9223372036854775807∧EA v):bU [.slc (nz 3 (c.map Da)) (c.map Da) false,EJ v]=some (.tup [Fv (Ix c v),.int .i64 (Fk c).2]):=
 D7 (fun⟨a0,a1⟩ ⟨b0,b1⟩ h=>by simp only[Aa,D.slc.injEq,and_true,KL,Kn]at h; simp[h]) (c,v) h
theorem VK(c:List Ins)(v:Int×List Int)(h:c.length≤9223372036854775807∧EA v):@wW GG LX Zz.code (Dc [Eh c,EJ v]) [] ⟨Dq Zz.res (.tup [Fv (Ix c v),.int .i64 (Fk c).2])⟩:=by
 obtain⟨hc,hv⟩:=h;have M:=Yu c hc;have cs:=pO c v [⟨false,1,[.slc (nz 3 (c.map Da)) (c.map Da) false],false⟩,⟨false,1,D0 v,false⟩,⟨false,1,Dr DZ JT 0 0 DZ,false⟩,⟨false,1,Dr (.slc (nz 3 (c.map Da)) (c.map Da) false) v 0 0 DZ,false⟩] hv;simp only[Eh]at cs;unfold Zz
 by_cases I:(Fk c).2=0
 ·obtain⟨Dm,l,hD,ht,U,ah,hg⟩:=P1 (v:=v) I;obtain⟨J,_⟩:=Nh I;rw[show Ix c v=⟨c,v,(D4 (IH (HU c v))).1,(D4 (IH (HU c v))).2.2,(HU c v).map (DV c v)⟩from if_pos I,ht];have sd:∀ (sz:Nat) (els:List D) (t:Bool),DT (some ⟨false,1,Dr DZ JT 0 0 DZ,false⟩) 21 0 (.agg (Dr (.slc sz els t) v 0 0 DZ))=some ⟨false,1,Dr (.slc sz els t) v 0 0 DZ,false⟩:=fun sz els t=>nd nf hv DZ _ rfl 0 0 0 0 DZ DZ rfl;simp (disch:=first|omega|decide) only[push_cast,↓reduceIte,CI,CJ,LX,Eh,FV,NQ,M,I,Gq hv,Yx3 hv,sd,cs];refine gp (e:=.next) (st':=M5 c v (D4 (IH (Gl ((c.length:Int)+1)::l))).1 (D4 (IH (Gl ((c.length:Int)+1)::l))).2.2 (.row 9 ((Gl ((c.length:Int)+1)::l).map (DV c v)).length 0 ((Gl ((c.length:Int)+1)::l).map (DV c v)).length) (IH (Gl ((c.length:Int)+1)::l)) 0 (⟨false,1,DY (Gl ((c.length:Int)+1)),false⟩::⟨true,32,((Gl ((c.length:Int)+1)::l).map (DV c v)).map C9,false⟩::l.map HW)) (d:=.tup []) (by simp only[push_cast,↓reduceIte] <;> rfl) (by decide) (by rfl) (fun m=>?_) rfl ?_
  ·refine ik ⟨4,5,c,v,l,false,false,rfl,rfl,rfl,J,hv,by omega,U,rfl,?_⟩;exact YB8 c v J hv _ rfl rfl rfl m l _ U (fun y hy=>Yxq hD (hg y hy)) (by omega)
  ·unfold M5
   have V:∀ (E:List Dig) (Y o7:PI.Obj) (ex:St) (a e:Int),DX (⟨false,1,[Eh c],false⟩::⟨false,1,D0 v,false⟩::⟨false,1,Dr (Eh c) v a e (.row 9 E.length 0 E.length),false⟩::⟨false,1,Dr (Eh c) v a e (.row 9 E.length 0 E.length),false⟩::⟨false,1,[Eh c],false⟩::⟨false,1,D0 v,false⟩::recO 2::Y::o7::⟨true,32,E.map C9,false⟩::ex) (.agg (Dr (Eh c) v a e (.row 9 E.length 0 E.length)))=some (Fv ⟨c,v,a,e,E⟩):=
    fun E Y o7 ex a e=>Yoj _ c v a e E 9 false rfl
   have sr:∀ (k t o n:Nat) (a e:Int),DT (some ⟨false,1,Dr DZ JT 0 0 DZ,false⟩) 21 0 (.agg (Dr (Eh c) v a e (.row k t o n)))=some ⟨false,1,Dr (Eh c) v a e (.row k t o n),false⟩:=fun k t o n a e=>nd nf hv DZ _ rfl 0 0 _ _ DZ _ rfl;generalize (Gl ((c.length:Int)+1)::l).map (DV c v)=E;generalize D4 (IH (Gl ((c.length:Int)+1)::l))=R;simp (disch:=first|omega|decide) only[push_cast,↓reduceIte,CI,CJ,xK hv,sr,V,I]
 ·rw[show Ix c v=Ot from if_neg I];simp (disch:=first|omega|decide) only[push_cast,↓reduceIte,CI,CJ,LX,Eh,FV,NQ,M,I,Yx5,z0,WQ,Yok]
theorem XJ:Contract Tryz.prog GG 19 bU:=
 Eg (T:=LX) yIj (yd (all_cons xx (all_cons Yqd (all_cons bk all_nil))) (all_cons xB all_nil) (all_cons xD all_nil)) (fun a h=>VK a.1 a.2 h)
end Go.Proofs.YtijnglngaogdjaaGreatDoor.PI
