/-
  Merkle trees over lists of digests, in plain Lean: the laws.
  Conditions: none; these are lemmas.
-/
import Derived.Test.YtijnglngaogdjaaGreatDoorArE
import Derived.Test.YtijnglngaogdjaaGreatDoorEngHe
open BitVec renaming ofInt→CF
open Int renaming reduceAdd→CN,reduceLE→CQ,reduceLT→CH,reduceMul→CV,reduceNatCast'→CA,reduceNeg→Cz,reducePow→CO,reduceSub→CP,reduceToNat→CI
open List renaming replicate→CD
open Nat renaming reduceAdd→Cy,reduceBEq→CR,reduceEqDiff→Cx,reduceLT→CE,reduceLeDiff→CC,reduceMul→CB
open Prod renaming fst→CS,snd→CT
set_option linter.unusedVariables false
set_option linter.unusedSimpArgs false
namespace Go.Proofs.YtijnglngaogdjaaGreatDoor.PI
open Go
set_option linter.unusedSimpArgs false
set_option maxHeartbeats 8000000
set_option maxRecDepth 20000
set_option linter.unusedVariables false
def I3(op:Int):Int×Int:=if op=1∨op=13∨op=14∨op=15 then(1,9007199254740992)else if op=2 then(1,15)else if op=12 then(2,9007199254740992)else(0,0)
def D9(op:Int):Int×Int:=if op=1∨op=2 then(0,1)else if op=12 then(1,1)else if op=13∨op=15 then(1,0)else if op=14∨op=16 then(0,0)else(2,1)
def F0(x:Ins):Bool:=decide (1≤x.op∧x.op≤16∧((I3 x.op).1≤0→x.n=0)∧((I3 x.op).1≤1→x.m=0)∧0≤min x.n x.m∧max x.n x.m≤(I3 x.op).2)
theorem qC(op:Int):I3 op=(1,9007199254740992)∨I3 op=(1,15)∨I3 op=(2,9007199254740992)∨I3 op=(0,0):=by
 unfold I3
 split
 ·exact .inl rfl
 ·split
  ·exact .inr (.inl rfl)
  ·split
   ·exact .inr (.inr (.inl rfl))
   ·exact .inr (.inr (.inr rfl))
theorem yV(op:Int):0≤(D9 op).1∧(D9 op).1≤2∧0≤(D9 op).2∧(D9 op).2≤1:=by
 unfold D9
 split
 ·decide
 ·split
  ·decide
  ·split
   ·decide
   ·split <;> decide
noncomputable def dw:List D→Option D:=Dc (α:=Int) (fun a=>[.int .i64 a]) (fun a=>True) (fun a=>.tup [.int .i64 (I3 a).1,.int .i64 (I3 a).2])
theorem Ya0(op:Int):dw [.int .i64 op]=some (.tup [.int .i64 (I3 op).1,.int .i64 (I3 op).2]):=
 DW (fun a b h=>by simp only[Aa,D.int.injEq,true_and,and_true]at h; simp[h]) (op) trivial
theorem Yq9(op:Int):@wW GG (tb [] []) XW.code (C3 [.int .i64 op]) [] ⟨Df XW.res (.tup [.int .i64 (I3 op).1,.int .i64 (I3 op).2])⟩:=by
 unfold XW I3
 by_cases E:op=1
 ·subst E; simp (disch:=first|omega|decide) only[push_cast,↓reduceIte,Cx,true_or]
 ·by_cases I:op=13
  ·subst I; simp (disch:=first|omega|decide) only[push_cast,↓reduceIte,Cx,E,true_or,or_true]
  ·by_cases J:op=14
   ·subst J; simp (disch:=first|omega|decide) only[push_cast,↓reduceIte,Cx,E,I,true_or,or_true]
   ·by_cases M:op=15
    ·subst M; simp (disch:=first|omega|decide) only[push_cast,↓reduceIte,Cx,E,I,J,or_true]
    ·by_cases N:op=2
     ·subst N; simp (disch:=first|omega|decide) only[push_cast,↓reduceIte,Cx,E,I,J,M,or_self]
     ·by_cases O:op=12
      ·subst O; simp (disch:=first|omega|decide) only[push_cast,↓reduceIte,Cx,E,I,J,M,N,or_self]
      ·simp (disch:=first|omega|decide) only[push_cast,↓reduceIte,Cx,E,I,J,M,N,O,or_self]
theorem Yvl:Contract Tryz.prog GG 148 dw:=
 D8 uF (DA all_nil all_nil) (fun a h=>Yq9 a)
noncomputable def MX:List D→Option D:=Dc (α:=Int) (fun a=>[.int .i64 a]) (fun a=>True) (fun a=>.tup [.int .i64 (D9 a).1,.int .i64 (D9 a).2])
theorem Yaz(op:Int):MX [.int .i64 op]=some (.tup [.int .i64 (D9 op).1,.int .i64 (D9 op).2]):=
 DW (fun a b h=>by simp only[Aa,D.int.injEq,true_and,and_true]at h; simp[h]) (op) trivial
theorem Yq8(op:Int):@wW GG (tb [] []) XF.code (C3 [.int .i64 op]) [] ⟨Df XF.res (.tup [.int .i64 (D9 op).1,.int .i64 (D9 op).2])⟩:=by
 unfold XF D9
 by_cases E:op=1
 ·subst E; simp (disch:=first|omega|decide) only[push_cast,↓reduceIte,Cx,true_or]
 ·by_cases I:op=2
  ·subst I; simp (disch:=first|omega|decide) only[push_cast,↓reduceIte,Cx,E,or_true]
  ·by_cases J:op=12
   ·subst J; simp (disch:=first|omega|decide) only[push_cast,↓reduceIte,Cx,E,I,or_self]
   ·by_cases M:op=13
    ·subst M; simp (disch:=first|omega|decide) only[push_cast,↓reduceIte,Cx,E,I,J,or_self,true_or]
    ·by_cases N:op=15
     ·subst N; simp (disch:=first|omega|decide) only[push_cast,↓reduceIte,Cx,E,I,J,M,or_self,or_true]
     ·by_cases O:op=14
      ·subst O; simp (disch:=first|omega|decide) only[push_cast,↓reduceIte,Cx,E,I,J,M,N,or_self,true_or]
      ·by_cases U:op=16
       ·subst U; simp (disch:=first|omega|decide) only[push_cast,↓reduceIte,Cx,E,I,J,M,N,O,or_self,or_true]
       ·simp (disch:=first|omega|decide) only[push_cast,↓reduceIte,Cx,E,I,J,M,N,O,U,or_self]
theorem Yvk:Contract Tryz.prog GG 101 MX:=
 D8 tX (DA all_nil all_nil) (fun a h=>Yq8 a)
theorem cZ(a b c d:Int):DQ (some ⟨false,1,[.int .i64 a,.int .i64 b,.int .i64 c],false⟩) 1 1 (.int .i64 d)=some ⟨false,1,[.int .i64 a,.int .i64 d,.int .i64 c],false⟩:=(rfl)
theorem Ylg(a b c d:Int):DQ (some ⟨false,1,[.int .i64 a,.int .i64 b,.int .i64 c],false⟩) 1 2 (.int .i64 d)=some ⟨false,1,[.int .i64 a,.int .i64 b,.int .i64 d],false⟩:=(rfl)
theorem Nx(lent:Bool)(a b c:D):Dn (some ⟨false,1,[a,b,c],lent⟩) 3 true 0=some (.agg [a,b,c]):=(rfl)
theorem Nr(a b c:Int):DQ (some ⟨false,1,[.int .i64 0,.int .i64 0,.int .i64 0],false⟩) 3 0 (.agg [.int .i64 a,.int .i64 b,.int .i64 c])=some ⟨false,1,[.int .i64 a,.int .i64 b,.int .i64 c],false⟩:=(rfl)
theorem YN(a:Int):DD [.int .i64 0,.int .i64 0,.int .i64 0] [(0,1,.int .i64 a)]=some [.int .i64 a,.int .i64 0,.int .i64 0]:=(rfl)
theorem YO(x:Ins):Dx x=[.int .i64 x.op,.int .i64 x.n,.int .i64 x.m]:=(rfl)
theorem YK(a b c E b' c':Int):Gn [0,0,0] false (.agg [.int .i64 a,.int .i64 b,.int .i64 c]) (.agg [.int .i64 E,.int .i64 b',.int .i64 c'])=some (.bool (decide (a=E∧b=b'∧c=c'))):=by
 simp only[Gn,Ey,H6,if_true,Ag,Bool.bne_false]
 congr 2
 by_cases I:a=E <;> by_cases J:b=b' <;> by_cases M:c=c' <;> simp[I,J,M]
noncomputable def dz:List D→Option D:=Dc (α:=Ins) (fun a=>[CZ a]) (fun a=>True) (fun a=>.bool (F0 a))
theorem Yay(x:Ins):dz [CZ x]=some (.bool (F0 x)):=
 DW (fun a b h=>by simp only[Aa,and_true,Ql]at h; simp[h]) (x) trivial
theorem Yq7(x:Ins):@wW GG (tb [(148,dw)] []) XG.code (C3 [CZ x]) [] ⟨Df XG.res (.bool (F0 x))⟩:=by
 unfold XG;obtain⟨op,n,m⟩:=x
 by_cases J:op<1
 ·rw[show F0 ⟨op,n,m⟩=false from decide_eq_false (by dsimp only; omega)];simp (disch:=first|omega|decide) only[push_cast,↓reduceIte,Cx,EU,FH,J]
 ·by_cases M:17≤op
  ·rw[show F0 ⟨op,n,m⟩=false from decide_eq_false (by dsimp only; omega)];simp (disch:=first|omega|decide) only[push_cast,↓reduceIte,Cx,EU,FH,J,M]
  ·have hc:=Ya0 op
   have fin:∀ (a b:Int) (N O:Int),I3 op=(a,b)→(a≤0→N=n)→(0<a→N=0)→(a≤1→O=m)→(1<a→O=0)→F0 ⟨op,n,m⟩=(decide (op=op∧N=0∧O=0) && (decide (0≤min n m) && decide (max n m≤b))):=by
    intro a b N O e e1 e2 e3 e4;unfold F0;dsimp only;rw[e];rw[BZ];simp only[Af,decide_eq_true_eq];refine⟨fun⟨_,_,p1,U,V,Y⟩=>⟨⟨trivial,?_,?_⟩,V,Y⟩,fun⟨⟨_,p1,U⟩,V,Y⟩=>⟨by omega,by omega,?_,?_,V,Y⟩⟩
    ·by_cases ha:a≤0
     ·rw[e1 ha]; exact p1 ha
     ·exact e2 (by omega)
    ·by_cases ha:a≤1
     ·rw[e3 ha]; exact U ha
     ·exact e4 (by omega)
    ·intro ha; rw[← e1 ha]; exact p1
    ·intro ha; rw[← e3 ha]; exact U
   rcases qC op with e | e | e | e
   ·rw[fin 1 _ 0 m e (by omega) (by omega) (by omega) (by omega)];rw[e]at hc
    rcases Classical.propComplete (m=0)with I | I <;> rcases Classical.propComplete (0≤min n m)with r1 | r1 <;> rcases Classical.propComplete (max n m≤9007199254740992)with E | E <;>
     simp (disch:=first|omega|decide) only[push_cast,↓reduceIte,Cx,CH,EU,Kq,J,M,hc,Nr,YO,cZ,Nx,YN,YK,I,r1,E,and_self,and_false]
   ·rw[fin 1 _ 0 m e (by omega) (by omega) (by omega) (by omega)];rw[e]at hc
    rcases Classical.propComplete (m=0)with I | I <;> rcases Classical.propComplete (0≤min n m)with r1 | r1 <;> rcases Classical.propComplete (max n m≤15)with E | E <;>
     simp (disch:=first|omega|decide) only[push_cast,↓reduceIte,Cx,CH,EU,Kq,J,M,hc,Nr,YO,cZ,Nx,YN,YK,I,r1,E,and_self,and_false]
   ·rw[fin 2 _ 0 0 e (by omega) (by omega) (by omega) (by omega)];rw[e]at hc
    rcases Classical.propComplete (0≤min n m)with r1 | r1 <;> rcases Classical.propComplete (max n m≤9007199254740992)with E | E <;>
     simp (disch:=first|omega|decide) only[push_cast,↓reduceIte,Cx,CH,EU,Kq,J,M,hc,Nr,YO,cZ,Ylg,Nx,YN,YK,r1,E,and_self]
   ·rw[fin 0 _ n m e (by omega) (by omega) (by omega) (by omega)];rw[e]at hc
    rcases Classical.propComplete (n=0)with I | I <;> rcases Classical.propComplete (m=0)with q1 | q1 <;> rcases Classical.propComplete (0≤min n m)with r1 | r1 <;> rcases Classical.propComplete (max n m≤0)with E | E <;>
     simp (disch:=first|omega|decide) only[push_cast,↓reduceIte,Cx,CH,EU,Kq,J,M,hc,Nr,YO,Nx,YN,YK,I,q1,r1,E,and_true,and_self,and_false]
theorem Yvj:Contract Tryz.prog GG 99 dz:=
 D8 tY (DA (all_cons Yvl all_nil) all_nil) (fun a h=>Yq7 a)
noncomputable def cQ:List D→St→Option (D×St):=HH (α:=Ins) (fun x=>([CZ x],[])) (fun _=>True) (fun x=>(.bool (!F0 x),[]))
theorem nK(x:Ins):cQ [CZ x] []=some (.bool (!F0 x),[]):=
 RQ (fun a b e=>by simp only[Di,Aa,and_true,Ql]at e; rw[e]) x trivial rfl
theorem Ypa:IContract Tryz.prog GG 98 cQ:=by
 refine bj (T:=tb [(99,dz)] []) um (DA (all_cons Yvj all_nil) all_nil) ?_;intro x _;unfold jt;simp (disch:=first|omega|decide) only[push_cast,↓reduceIte,Cx,EU,MJ,Ynu,Yay];rfl
def HV:List Ins→Nat→Int
 |[],_=>-1
 |x::l,i=>if F0 x then HV l (i+1)else i
theorem tw:∀ (l:List Ins) (i:Nat),0≤HV l i↔l.all F0=false
 |[],i=>by simp[HV]
 |x::l,i=>by
  have:=tw l (i+1);unfold HV;cases h:F0 x <;> simp[h];simpa using this
noncomputable def bS:List D→St→Option (D×St):=HH (α:=List Ins) (fun c=>([.slc (nz 3 (c.map CZ)) (c.map CZ) false,.clo 98 []],[])) (fun c=>c.length≤9223372036854775807) (fun c=>(.int .i64 (HV c 0),[]))
theorem Yhs(c:List Ins)(h:c.length≤9223372036854775807):bS [.slc (nz 3 (c.map CZ)) (c.map CZ) false,.clo 98 []] []=some (.int .i64 (HV c 0),[]):=
 RQ (fun a b e=>by simp only[Di,Aa,D.slc.injEq,and_true,J2]at e; rw[e.2]) c h rfl
variable {α:Type}
theorem Wg[Inhabited α](l:List α){i:Nat}(h:i<l.length):l.drop i=l.getD i default::l.drop (i+1):=by
 rw[Bd h,Ao,An h]; rfl
theorem Yvb:IContract Tryz.prog GG 147 bS:=by
 refine bj (T:=tb [] [(98,cQ)]) vt (DA all_nil (all_cons Ypa all_nil)) ?_;intro c hc;unfold km;simp (disch:=first|omega|decide) only[push_cast,↓reduceIte,Cx,Cz]
 refine Gy (fun i:Nat=>[(0,.slc (nz 3 (c.map CZ)) (c.map CZ) false),(1,.clo 98 []),(7,.int .i64 (c.length:Int)),(8,.int .i64 (i:Int))])
  (fun i=>[]) (fun i=>i≤c.length∧HV (c.drop i) i=HV c 0) (fun i=>c.length - i) 0 (by simp only[push_cast,↓reduceIte,Cx,↓CA] <;> rfl) ⟨by omega,rfl⟩ ?_
 rintro i ⟨hi,hb⟩;unfold kj;simp (disch:=first|omega|decide) only[push_cast,↓reduceIte,Cx];refine E4 (fun N=>?_) (fun N=>?_)
 ·have E:i<c.length:=by omega
  have J:=Rx [] c false i E;have I:=Wg c E;obtain⟨x,M⟩:∃ x,c.getD i default=x:=⟨_,rfl⟩;rw[M]at J I;rw[I,HV]at hb
  cases hf:F0 x with
  |false=>
   rw[hf]at hb;have hv:=nK x;rw[hf]at hv;simp (disch:=first|omega|decide) only[push_cast,↓reduceIte,Cx,Cz,J,JM,hv];simp only[Al,if_false]at hb;rw[← hb];rfl
  |true=>
   rw[hf]at hb;have hv:=nK x;rw[hf]at hv;simp (disch:=first|omega|decide) only[push_cast,↓reduceIte,Cx,J,JM,hv,DL];refine Fb (i+1) ⟨by omega,hb⟩ (by omega) ?_;simp only[push_cast] <;> rfl
 ·obtain rfl:i=c.length:=by omega
  rw[Ba,HV]at hb;simp (disch:=first|omega|decide) only[push_cast,↓reduceIte,Cz];rw[← hb];rfl
noncomputable def ML:List D→St→Option (D×St):=HH (α:=List Ins) (fun c=>([.slc (nz 3 (c.map CZ)) (c.map CZ) false,.clo 98 []],[])) (fun c=>c.length≤9223372036854775807) (fun c=>(.bool (!c.all F0),[]))
theorem Yhv(c:List Ins)(h:c.length≤9223372036854775807):ML [.slc (nz 3 (c.map CZ)) (c.map CZ) false,.clo 98 []] []=some (.bool (!c.all F0),[]):=
 RQ (fun a b e=>by simp only[Di,Aa,D.slc.injEq,and_true,J2]at e; rw[e.2]) c h rfl
theorem Yvd:IContract Tryz.prog GG 97 ML:=by
 refine bj (T:=tb [] [(147,bS)]) vu (DA all_nil (all_cons Yvb all_nil)) ?_;intro c hc;unfold ki;have E:=Yhs c hc
 have hb:decide (0≤HV c 0)=!c.all F0:=by
  have:=tw c 0
  cases h:c.all F0 with
  |true=>rw[h]at this; simp at this ⊢; omega
  |false=>rw[h]at this; simp at this ⊢; exact this
 simp (disch:=first|omega|decide) only[push_cast,↓reduceIte,Cx,E,hb];rfl
variable {G:C9}
theorem tM{P:Program}{T:Tbl}{il:List Nat}{f:Nat}{hints:List (List Nat)}{F:PF}(E:Dq P il f hints=some F)(I:TblOK P G T){enc:α→List D×St}{pre:α→Prop}{r:α→D×St}
  (h:∀ a,pre a→@wW G T F.code (C3 (enc a).1) (enc a).2 ⟨@Gm F.res ⟨fun d st'=>(d,st')=r a⟩⟩) (J:T.y=fun _ _ _=>none:=by rfl):IContract P G f (HH enc pre r):=
 IB E I (fun ds st x M=>by
  obtain⟨a,ha,N,rfl⟩:=eE M;have:=h a N;rw[ha]at this;exact this) J
noncomputable def ZT:List D→Option D:=Dc (α:=Int×Int) (fun a=>[.int .u64 a.1,.int .u64 a.2]) (fun a=>0≤a.1∧a.1<18446744073709551616∧0≤a.2∧a.2<18446744073709551616) (fun a=>.tup [.int .u64 (a.1*a.2 / 18446744073709551616),.int .u64 (a.1*a.2 % 18446744073709551616)])
theorem yM3(x:Int)(y:Int)(h:0≤x∧x<18446744073709551616∧0≤y∧y<18446744073709551616):ZT [.int .u64 x,.int .u64 y]=some (.tup [.int .u64 (x*y / 18446744073709551616),.int .u64 (x*y % 18446744073709551616)]):=
 DW (fun⟨a0,a1⟩ ⟨b0,b1⟩ h=>by simp only[Aa,D.int.injEq,true_and,and_true]at h; simp[h]) (x,y) h
theorem Ycn(x:Int)(y:Int)(h:0≤x∧x<18446744073709551616∧0≤y∧y<18446744073709551616):@wW GG (tb [(169,Y0)] []) XQ.code (C3 [.int .u64 x,.int .u64 y]) [] ⟨Df XQ.res (.tup [.int .u64 (x*y / 18446744073709551616),.int .u64 (x*y % 18446744073709551616)])⟩:=by
 unfold XQ;simp (disch:=first|omega|decide) only[push_cast,↓reduceIte,Cx,nZ x y h]
theorem Yhz:Contract Tryz.prog GG 149 ZT:=
 D8 ud (DA (all_cons r9 all_nil) all_nil) (fun a h=>Ycn a.1 a.2 h)
noncomputable def MM:List D→St→Option (D×St):=HH (α:=Nat×Int) (fun a=>([.slc 1 [.int .i64 a.2] true,.int .i64 (a.1:Int)],[])) (fun a=>0<a.1∧a.1≤100000) (fun a=>(.row 0 a.1 0 a.1,[⟨true,1,(CD a.1 a.2).map nI,false⟩]))
theorem Yhl(n:Nat)(a:Int)(h:0<n∧n≤100000):MM [.slc 1 [.int .i64 a] true,.int .i64 (n:Int)] []=some (.row 0 n 0 n,[⟨true,1,(CD n a).map nI,false⟩]):=
 RQ (fun⟨a,b⟩ ⟨E,b'⟩ e=>by
  simp only[Di,Aa,D.slc.injEq,D.int.injEq,and_true,true_and,Int.ofNat_inj]at e;obtain⟨rfl,rfl⟩:=e;rfl) ((n,a):Nat×Int) h rfl
def FK(n j:Nat)(a:Int):List D:=(CD j a++CD (n - j) 0).map nI
variable {a:Int}{j n:Nat}
theorem aW(h:j≤n):(FK n j a).length=n:=by simp[FK]; omega
theorem iG{m:Nat}(h:j+m≤n):E8 (FK n j a) j ((CD m a).map nI)=FK n (j+m) a:=by
 have e:CD (n - j) (0:Int)=CD m 0++CD (n - (j+m)) 0:=by
  rw[B6]; congr 1; omega
 unfold FK;rw[e,Bv,Bv,ao (by simp) (by simp),← Bv,← Bv,← Ah,B6]
theorem Yo3(I:0<j)(E:j<n):Jq [⟨true,1,FK n j a,false⟩] 1 (.row 0 n j (n - j)) (.row 0 n 0 j)=some (.int .i64 (min (n - j) j:Nat),[⟨true,1,FK n (j+min (n - j) j) a,false⟩]):=by
 have hl:=aW (a:=a) (Cl E)
 have he:Hb [⟨true,1,FK n j a,false⟩] 0 n 0 j=some (1,(CD j a).map nI):=by
  simp only[Hb,AH,hl];rw[if_pos (by simp; omega),Bt]
  congr 2
  simp[FK]
 simp only[Jq,SP,AH,Gt,he,hl,IZ];rw[if_pos (by simp; omega)];simp only[Bh,List.length_replicate,Bn]
 congr 3
 rw[← B0,List.take_replicate,show min (min (n - j) j) j=min (n - j) j by omega,iG (by omega)]
theorem Yhc(I:0<n):Jq [⟨true,1,CD n (.int .i64 0),false⟩] 1 (.row 0 n 0 n) (.slc 1 [.int .i64 a] true)=some (.int .i64 1,[⟨true,1,FK n 1 a,false⟩]):=by
 have E:(CD n (D.int .i64 0))=FK n 0 a:=by simp[FK,nI]
 rw[E];have hl:=aW (a:=a) (Bf n);simp only[Jq,SP,AH,Gt,hl,IZ];rw[if_pos (by simp; omega)];have hm:min n [D.int IntKind.i64 a].length=1:=by simp; omega
 simp only[hm,Bn];have:=iG (n:=n) (j:=0) (m:=1) (a:=a) (by omega);rw[Am]at this;rw[← this];rfl
theorem fT(h:n≤100000):OE 1 8 (.int .i64 0) (.int .i64 (n:Int)) (.int .i64 (n:Int))=some (n,⟨true,1,CD n (.int .i64 0),false⟩):=by
 have E:Fk (.int .i64 (n:Int))=some n:=by simp[Fk]
 simp only[OE,E];rw[if_pos ⟨AE _,by omega,by omega,by decide,rfl,rfl⟩]
theorem Yu9:IContract Tryz.prog GG 100 MM:=by
 refine tM (T:=tb [(149,ZT)] []) vf (DA (all_cons Yhz all_nil) all_nil) ?_;rintro⟨n,a⟩ ⟨I,J⟩;dsimp only at I J;unfold j6;have hm:=yM3 1 (n:Int) ⟨by omega,by omega,by omega,by omega⟩;rw[show(1*(n:Int) / 18446744073709551616)=0 by omega,show(1*(n:Int) % 18446744073709551616)=n by omega]at hm;have hc:=Yhc (n:=n) (a:=a) I;have U:¬ ((n:Int)<0):=by omega
 have V:¬ ((9223372036854775807:Int)<(n:Int)):=by omega
 simp (disch:=first|omega|decide) only[push_cast,↓reduceIte,Cx,CH,CN,↓CA,U,YY,tI,hm,V,fT J,hc];refine Gy (fun j:Nat=>[(7,.row 0 n 0 n),(8,.int .i64 (j:Int))]) (fun j=>[⟨true,1,FK n j a,false⟩]) (fun j=>0<j∧j≤n) (fun j=>n - j) 1 (by simp only[push_cast,↓reduceIte,Cx,CE,CC,↓CA] <;> rfl) ⟨by omega,by omega⟩ ?_;rintro j ⟨M,E⟩;have hl:=aW (a:=a) E;have N:PK (some ⟨true,1,FK n j a,false⟩) n=true:=by simp[PK,hl]
 unfold j7;simp (disch:=first|omega|decide) only[push_cast,↓reduceIte,Cx,N];refine E4 (fun Y=>?_) (fun Y=>?_)
 ·have O:=Yo3 (a:=a) M (show j<n by omega)
  have s1:Ot (some ⟨true,1,FK n j a,false⟩) 1 (.row 0 n 0 n) 0 n 0 n j n=some (.row 0 n j (n - j)):=by
   simp[Ot,hl,show j≤n from E,show ¬ j=0 by omega,show ¬ j=n by omega]
  have s2:Ot (some ⟨true,1,FK n j a,false⟩) 1 (.row 0 n 0 n) 0 n 0 n 0 j=some (.row 0 n 0 j):=by
   simp[Ot,hl,show j≤n from E,show ¬ j=0 by omega,show ¬ j=n by omega,show ¬ 0=j by omega]
  simp (disch:=first|omega|decide) only[push_cast,↓reduceIte,Cx,CE,CC,s1,s2,O,DL];refine Fb (j+min (n - j) j) ⟨by omega,by omega⟩ (by omega) ?_;simp only[push_cast] <;> rfl
 ·obtain rfl:j=n:=by omega
  simp (disch:=first|omega|decide) only[push_cast,↓reduceIte,Cx];simp[FK]
abbrev Ee(x:List Int)(i:Nat):Int:=x.getD i default
theorem sN{x:List Int}{i:Nat}(h:i<x.length):Ee x i∈x:=by
 grind
theorem bI(A:List Int)(lent:Bool)(tot i:Nat)(E:A.length=tot)(h:i<tot):Uw (some ⟨true,1,A.map nI,lent⟩) 1 false tot i 0=some (.int .i64 (Ee A i)):=by
 subst E; exact Yfv nI (fun _=>rfl) 1 A lent i h
theorem Yp(A:List Int)(lent:Bool)(key tot:Nat)(j:Int)(E:A.length=tot)(I:0≤j)(J:j<(tot:Int)):Ov (some ⟨true,1,A.map nI,lent⟩) 1 key tot 0 tot j=some (.rptr key tot j.toNat 0):=by
 subst E;have:=kL nI 1 A lent key 0 A.length j I J;grind
def LU(o:Option PI.Obj)(tot i:Nat)(v:Int):Option PI.Obj:=o.bind fun o=>if o.row && !o.lent && o.els.length == tot then(o.els[i]?).bind fun el=>(SS el 0 [.int .i64 v]).map fun el'=>{o with els:=o.els.set i el'} else none
theorem eh(st:St)(key tot i:Nat)(v:Int):La st 1 (.rptr key tot i 0) (.int .i64 v)=(LU st[key]? tot i v).map fun o=>st.set key o:=by
 simp only[La,LU,kH,m4,List.isEmpty_nil,BW]
 cases st[key]? with
 |none=>rfl
 |some o=>
  simp only[Bl]
  split
  ·cases o.els[i]? with
   |none=>rfl
   |some el=>
    have hc:(D.int .i64 v).cells=[.int .i64 v]:=rfl;grind
  ·rfl
theorem m7(A:List Int)(tot i:Nat)(v:Int)(E:A.length=tot)(h:i<tot):LU (some ⟨true,1,A.map nI,false⟩) tot i v=some ⟨true,1,(A.set i v).map nI,false⟩:=by
 subst E;have I:SS (nI A[i]) 0 [.int .i64 v]=some (nI v):=rfl;simp[LU,h,I,List.map_set]
def RA(len i after n:Int)(dep:List Int):Prop:=n≤i∨len≤n∨(0≤Ee dep n.toNat∧Ee dep n.toNat≠after)
instance (len i after n:Int) (dep:List Int):Decidable (RA len i after n dep):=by unfold RA; infer_instance
def Oh(len i after:Int):List Int→List Int→Option (List Int)
 |[],dep=>some dep
 |n::l,dep=>if RA len i after n dep then none else Oh len i after l (dep.set n.toNat after)
def JW(x:Ins)(i:Int):List Int:=(if x.op=13∨x.op=14 then [x.n]else [])++(if x.op≠14∧x.op≠15∧x.op≠16 then [i+1]else [])
def JK(x:Ins)(d:Int):Prop:=d<(D9 x.op).1∨(x.op=15∧d≠1)∨(x.op=16∧d≠0)
instance (x:Ins) (d:Int):Decidable (JK x d):=by unfold JK; infer_instance
def FI(x:Ins)(d:Int):Int:=d - (D9 x.op).1+(D9 x.op).2
def Gl(len:Int):List Ins→Nat→List Int→Int→Option Int
 |[],_,_,s=>some s
 |x::r,i,dep,s=>if Ee dep i<0 then Gl len r (i+1) dep s else if JK x (Ee dep i)then none else
  match Oh len i (FI x (Ee dep i)) (JW x i) dep with
  |none=>none
  |some dep'=>Gl len r (i+1) dep' (max (max s (Ee dep i)) (FI x (Ee dep i)))
def KF:Option Int→Int×Int
 |none=>(0,200)
 |some s=>if 64<s then(0,2)else(s,0)
def G0(n:Nat):List Int:=(CD n (-1)).set 0 0
def G5(c:List Ins):Int×Int:=if 4096<c.length then(0,2)else if c.length=0∨c.all F0=false then(0,200)else KF (Gl c.length c 0 (G0 c.length) 0)
theorem rb(sz:Nat)(a:D)(l:Bool):PK (some ⟨true,sz,[a],l⟩) 1=true:=(rfl)
theorem li2(sz:Nat)(a b:D)(l:Bool):PK (some ⟨true,sz,[a,b],l⟩) 2=true:=(rfl)
variable {st:St}
theorem gO{T:Tbl}{c:PC}{fr:Frame}{st':St}{Q:QC}(e:st=st')(h:@wW G T c fr st' Q):@wW G T c fr st Q:=by rw[e]; exact h
/- what follows an instruction -/
def Pn(N:Nat)(i:Int)(dp:List Int):Prop:=dp.length=N∧∀ y∈dp,-1≤y∧y≤i
theorem nP{N:Nat}{i:Int}{I:List Int}(h:Pn N i I)(k:Nat){v:Int}(J:-1≤v)(M:v≤i):Pn N i (I.set k v):=by
 refine⟨by rw[B5]; exact h.1,fun y E=>?_⟩;rcases BP E with E | rfl
 ·exact h.2 y E
 ·omega
set_option maxHeartbeats 4000000 in
set_option maxRecDepth 20000 in
theorem RI(T:Tbl)(c:List Ins)(x:Ins)(i:Nat)(hi:i<c.length)(hc:c.length≤4096)(s after:Int)(a0:-1≤after)(a1:after≤(i:Int)+1)(E:List Int)(ce:E.length≤2)(N:List Int)(a3:Pn c.length ((i:Int)+1) N)(fr:Frame)(Q:Ex→Frame→St→Prop)
  (f0:fr 0=.slc (nz 3 (c.map CZ)) (c.map CZ) false) (f2:fr 2=.int .i64 s) (f4:fr 4=.row 0 c.length 0 c.length) (f5:fr 5=.int .i64 (i:Int)) (bb:fr 10=.int .i64 after)
  (bc:fr 30=.slc (nz 3 (c.map CZ)) (c.map CZ) false) (bd:fr 31=.int .i64 (c.length:Int)) (be:fr 32=.int .i64 (i:Int)) (a4:fr 110=DV 0 2 (E.map nI)) (a5:fr 111=.int .i64 (E.length:Int)) (a6:fr 112=.int .i64 0)
  (V:Oh c.length i after E N=none→∀ J st',J 2=.int .i64 0→J 3=.int .i64 200→Q .ret J st')
  (a7:∀ I,Oh c.length i after E N=some I→Pn c.length ((i:Int)+1) I→∀ J,J 0=.slc (nz 3 (c.map CZ)) (c.map CZ) false→J 2=.int .i64 s→J 4=.row 0 c.length 0 c.length→J 30=.slc (nz 3 (c.map CZ)) (c.map CZ) false→J 31=.int .i64 (c.length:Int)→J 32=.int .i64 (i:Int)→
   Q (.exit 2) J (⟨true,1,I.map nI,false⟩::⟨false,1,Dx x,false⟩::Dp 1 (E.map nI))) :
  @wW GG T (.loop [0,2,4,5,10,30,31,32,110,111,112] bu) fr (⟨true,1,N.map nI,false⟩::⟨false,1,Dx x,false⟩::Dp 1 (E.map nI)) ⟨Q⟩:=by
 have hB:Ed ((Dp 1 (E.map nI)).length+1+1) [] (DV 0 2 (E.map nI))=DV 0 2 (E.map nI):=by
  cases E <;> rfl
 have bf:∀ I:List Int,StOK (⟨true,1,I.map nI,false⟩::⟨false,1,Dx x,false⟩::Dp 1 (E.map nI)):=by
  intro I o Y hr y hy;simp only[Aw]at Y;rcases Y with rfl | rfl | Y
  ·cases hr
  ·simp only[Dx,Aw,AB,or_false]at hy;rcases hy with rfl | rfl | rfl <;> rfl
  ·cases E with
   |nil=>cases Y
   |cons a l=>
    rw[show Dp 1 ((a::l).map nI)=[⟨true,1,(a::l).map nI,false⟩]from rfl,AM]at Y;grind
 have hR:∀ (fr:Frame) (I:List Int),restrict [0,2,4,5,10,30,31,32,110,111,112] ((Dp 1 (E.map nI)).length+1+1) ⟨fr,⟨true,1,I.map nI,false⟩::⟨false,1,Dx x,false⟩::Dp 1 (E.map nI)⟩=
   ⟨GC (IY fr ((Dp 1 (E.map nI)).length+1+1) [] [0,2,4,5,10,30,31,32,110,111,112]),⟨true,1,I.map nI,false⟩::⟨false,1,Dx x,false⟩::Dp 1 (E.map nI)⟩:=fun fr I=>Xi (bf I) rfl
 have aa:Eu ((Dp 1 (E.map nI)).length+1+1) [] 0=some 0:=OP (by omega)
 refine Gy (fun p:Nat×List Int=>[(0,.slc (nz 3 (c.map CZ)) (c.map CZ) false),(2,.int .i64 s),(4,.row 0 c.length 0 c.length),(5,.int .i64 (i:Int)),(10,.int .i64 after),(30,.slc (nz 3 (c.map CZ)) (c.map CZ) false),(31,.int .i64 (c.length:Int)),(32,.int .i64 (i:Int)),
   (110,DV 0 2 (E.map nI)),(111,.int .i64 (E.length:Int)),(112,.int .i64 (p.1:Int))])
  (fun p=>⟨true,1,p.2.map nI,false⟩::⟨false,1,Dx x,false⟩::Dp 1 (E.map nI)) (fun p=>p.1≤E.length∧Pn c.length ((i:Int)+1) p.2∧Oh c.length i after (E.drop p.1) p.2=Oh c.length i after E N) (fun p=>E.length - p.1) (0,N)
  ((hR fr N).trans (by simp only[push_cast,f0,f2,f4,f5,bb,bc,bd,be,a4,a5,a6,hB,↓aa] <;> rfl)) ⟨Bf _,a3,rfl⟩ ?_
 rintro⟨j,I⟩ ⟨hj,M,hn⟩;dsimp only at hj M hn;unfold bu;simp (disch:=first|omega|decide) only[push_cast,↓reduceIte,Cx];refine E4 (fun h2=>?_) (fun h2=>?_)
 ·have a2:j<E.length:=by omega
  have bh:=Wg E a2
  have ab:E.map nI≠[]:=by
   intro e;have:=congrArg List.length e;grind
  obtain⟨n,ac⟩:∃ n,E.getD j default=n:=⟨_,rfl⟩;have b5:Ov (some ⟨true,1,E.map nI,false⟩) 1 2 E.length 0 E.length (j:Int)=some (.rptr 2 E.length j 0):=Yp E false 2 E.length j rfl (by omega) (by omega);have b6:Uw (some ⟨true,1,E.map nI,false⟩) 1 false E.length j 0=some (.int .i64 n):=by rw[← ac]; exact bI E false E.length j rfl a2
  have U:∀ I:List Int,FY (⟨true,1,I.map nI,false⟩::⟨false,1,Dx x,false⟩::Dp 1 (E.map nI)) 1 (DV 0 2 (E.map nI)) (.int .i64 (j:Int))=some (.rptr 2 E.length j 0):=by
   intro I;rw[Qg _ _ _ ab,OH _ _ ab,Bh,mh];exact b5
  have O:∀ I:List Int,EV (⟨true,1,I.map nI,false⟩::⟨false,1,Dx x,false⟩::Dp 1 (E.map nI)) 1 false (.rptr 2 E.length j 0)=some (.int .i64 n):=by
   intro I;rw[OH _ _ ab,iF];exact b6
  rw[bh,ac,Oh]at hn
  by_cases b1:n≤(i:Int)
  ·rw[if_pos (.inl b1)]at hn;simp (disch:=first|omega|decide) only[push_cast,↓reduceIte,Cx,U,O,  b1];exact V hn.symm _ _ rfl rfl
  ·by_cases b2:(c.length:Int)≤n
   ·rw[if_pos (.inr (.inl b2))]at hn;simp (disch:=first|omega|decide) only[push_cast,↓reduceIte,Cx,U,O,  b1,b2];exact V hn.symm _ _ rfl rfl
   ·have ae:=Yp I false 0 c.length n M.1 (by omega) (by omega);have af:=bI I false c.length n.toNat M.1 (by omega);have cf:=M.2 _ (sN (x:=I) (i:=n.toNat) (by rw[M.1]; omega));have hs:=m7 I c.length n.toNat after M.1 (by omega)
    by_cases b3:0≤Ee I n.toNat
    ·by_cases b4:Ee I n.toNat=after
     ·have b8:(Ee I n.toNat=after)=True:=eq_true b4;rw[if_neg (by unfold RA; omega)]at hn;simp (disch:=first|omega|decide) only[push_cast,↓reduceIte,Cx,U,O,  b1,b2,ae,af,b3,b8,eh,hs,DL,↓hR,↓aa,hB];refine Fb (j+1,I.set n.toNat after) ⟨by dsimp only; omega,nP M _ a0 a1,hn⟩ (by dsimp only; omega) ?_;rfl
     ·rw[if_pos (.inr (.inr ⟨b3,b4⟩))]at hn;simp (disch:=first|omega|decide) only[push_cast,↓reduceIte,Cx,U,O,  b1,b2,ae,af,b3,b4];exact V hn.symm _ _ rfl rfl
    ·rw[if_neg (by unfold RA; omega)]at hn;simp (disch:=first|omega|decide) only[push_cast,↓reduceIte,Cx,U,O,  b1,b2,ae,af,b3,eh,hs,DL,↓hR,↓aa,hB];refine Fb (j+1,I.set n.toNat after) ⟨by dsimp only; omega,nP M _ a0 a1,hn⟩ (by dsimp only; omega) ?_;rfl
 ·obtain rfl:j=E.length:=by omega
  rw[Ba,Oh]at hn;simp (disch:=first|omega|decide) only[push_cast];exact a7 I hn.symm M _ rfl rfl rfl rfl rfl rfl
noncomputable def Zb:List D→Option D:=Dc (α:=List Ins) (fun a=>[.slc (nz 3 (a.map CZ)) (a.map CZ) false]) (fun a=>a.length≤9223372036854775807) (fun a=>.tup [.int .i64 (G5 a).1,.int .i64 (G5 a).2])
theorem nH(c:List Ins)(h:c.length≤9223372036854775807):Zb [.slc (nz 3 (c.map CZ)) (c.map CZ) false]=some (.tup [.int .i64 (G5 c).1,.int .i64 (G5 c).2]):=
 DW (fun a b h=>by simp only[Aa,D.slc.injEq,and_true,J2]at h; simp[h]) (c) h
set_option maxHeartbeats 4000000 in
set_option maxRecDepth 20000 in
theorem Yq6(c:List Ins)(h:c.length≤9223372036854775807):@wW GG (tb [(101,MX)] [(97,ML),(100,MM)]) XE.code (C3 [.slc (nz 3 (c.map CZ)) (c.map CZ) false]) [] ⟨Df XE.res (.tup [.int .i64 (G5 c).1,.int .i64 (G5 c).2])⟩:=by
 unfold XE
 by_cases h1:4096<c.length
 ·rw[show G5 c=(0,2)from if_pos h1];simp (disch:=first|omega|decide) only[push_cast,↓reduceIte,Cx,Cz,show((4096:Int)<(c.length:Int)) by omega]
 by_cases h2:c.length=0
 ·rw[show G5 c=(0,200) by unfold G5; rw[if_neg h1,if_pos (.inl h2)]];simp (disch:=first|omega|decide) only[push_cast,↓reduceIte,Cx,CH,Cz,show ¬ ((4096:Int)<(c.length:Int)) by omega,show((c.length:Int)=0) by omega]
 have bf:=Yhv c h;have h3:¬ ((4096:Int)<(c.length:Int)):=by omega
 have h4:¬ ((c.length:Int)=0):=by omega
 cases a6:c.all F0 with
 |false=>
  rw[a6]at bf;rw[show G5 c=(0,200) by unfold G5; rw[if_neg h1,if_pos (.inr a6)]];simp (disch:=first|omega|decide) only[push_cast,↓reduceIte,Cx,Cz,h3,h4,bf]
 |true=>
  rw[a6]at bf;rw[show G5 c=KF (Gl c.length c 0 (G0 c.length) 0) by unfold G5; rw[if_neg h1,if_neg (by rw[a6]; simp[h2])]];have b8:=Yhl c.length (-1) ⟨by omega,by omega⟩;have b9:Ov (some ⟨true,1,(CD c.length (-1)).map nI,false⟩) 1 0 c.length 0 c.length 0=some (.rptr 0 c.length 0 0):=Yp _ false 0 c.length 0 (by simp) (by omega) (by omega);have hs0:LU (some ⟨true,1,(CD c.length (-1)).map nI,false⟩) c.length 0 0=some ⟨true,1,(G0 c.length).map nI,false⟩:=m7 _ c.length 0 0 (by simp) (by omega);simp (disch:=first|omega|decide) only[push_cast,↓reduceIte,Cx,Cz,h3,h4,bf,Fp,b8,b9,eh,hs0]
  refine Gy (fun p:Nat×List Int×Int=>[(0,.slc (nz 3 (c.map CZ)) (c.map CZ) false),(2,.int .i64 p.2.2),(4,.row 0 c.length 0 c.length),(30,.slc (nz 3 (c.map CZ)) (c.map CZ) false),(31,.int .i64 (c.length:Int)),(32,.int .i64 (p.1:Int))])
   (fun p=>[⟨true,1,p.2.1.map nI,false⟩]) (fun p=>p.1≤c.length∧Pn c.length p.1 p.2.1∧KF (Gl c.length (c.drop p.1) p.1 p.2.1 p.2.2)=KF (Gl c.length c 0 (G0 c.length) 0)) (fun p=>c.length - p.1) (0,G0 c.length,0)
   (by simp only[push_cast,↓reduceIte,Cx,CE,CC,Cz] <;> rfl) ⟨Bf _,?_,rfl⟩ ?_
  ·refine⟨by simp[G0],fun y hy=>?_⟩;rcases BP hy with hy | rfl
   ·grind
   ·omega
  rintro⟨i,dep,s⟩ ⟨hi,ae,hv⟩;dsimp only at hi ae hv;unfold jD;simp (disch:=first|omega|decide) only[push_cast,↓reduceIte,Cx];refine E4 (fun h5=>?_) (fun h5=>?_)
  ·have af:i<c.length:=by omega
   have ba:c.length≤4096:=by omega
   have ah:Pn c.length ((i:Int)+1) dep:=⟨ae.1,fun y hy=>⟨(ae.2 y hy).1,by have:=(ae.2 y hy).2; omega⟩⟩;have hx:=fun st=>Rx st c false i af;have b4:=Wg c af;obtain⟨x,ca⟩:∃ x,c.getD i default=x:=⟨_,rfl⟩;rw[ca]at hx b4;rw[b4,Gl]at hv;have J:Ov (some ⟨true,1,dep.map nI,false⟩) 1 0 c.length 0 c.length (i:Int)=some (.rptr 0 c.length i 0):=Yp dep false 0 c.length i ah.1 (by omega) (by omega);have M:=bI dep false c.length i ah.1 af;have cg:=ae.2 _ (sN (x:=dep) (i:=i) (by rw[ae.1]; omega));have he:=Yaz x.op;have ch:=yV x.op
   by_cases h0:Ee dep i<0
   ·rw[if_pos h0]at hv;simp (disch:=first|omega|decide) only[push_cast,↓reduceIte,Cx,CE,CC,Cy,hx,JM,Kq,Mg,J,M,h0,DL];refine Fb (i+1,dep,s) ⟨by dsimp only; omega,ah,hv⟩ (by dsimp only; omega) ?_;rfl
   rw[if_neg h0]at hv;have bb:FI x (Ee dep i)=Ee dep i - (D9 x.op).1+(D9 x.op).2:=rfl
   by_cases E:Ee dep i<(D9 x.op).1
   ·rw[if_pos (.inl E)]at hv;simp (disch:=first|omega|decide) only[push_cast,↓reduceIte,Cx,hx,JM,Kq,Mg,J,M,h0,FH,he,Fa,DL,E];rw[← hv];rfl
   have cb:(Ee dep i<(D9 x.op).1)=False:=eq_false E
   by_cases a3:x.op=15
   ·have N:(x.op=15)=True:=eq_true a3;have a0:(x.op=14)=False:=eq_false (by omega);have O:(x.op=13)=False:=eq_false (by omega);have cd:D9 x.op=(1,0):=by rw[a3]; rfl
    by_cases hd:Ee dep i=1
    ·have ed:(Ee dep i=1)=True:=eq_true hd;have a1:(x.op=16)=False:=eq_false (by omega);have c0:¬ Ee dep i<(D9 x.op).1:=E;have U:JW x (i:Int)=[]:=by simp[JW,a3]
     have I:¬ JK x (Ee dep i):=by unfold JK; omega
     rw[if_neg I,U]at hv;simp (disch:=first|omega|decide) only[push_cast,↓reduceIte,Cx,hx,JM,Kq,Mg,J,M,h0,FH,he,Fa,DL,E,N,a0,O,a1,ed,bb.symm];have hl:=RI (tb [(101,MX)] [(97,ML),(100,MM)]) c x i af ba (max (max s (Ee dep i)) (FI x (Ee dep i))) (FI x (Ee dep i)) (by omega) (by omega) [] (by simp) dep ah;refine hl _ _ rfl rfl rfl rfl rfl rfl rfl rfl rfl rfl rfl (fun hn V st' g2 g3=>?_) (fun dp hn Y V g0 g2 g4 aa ab ac=>?_)
     ·rw[hn]at hv;have ad:((0,200):Int×Int)=KF (Gl c.length c 0 (G0 c.length) 0):=hv;simp (disch:=first|omega|decide) only[push_cast,g2,g3];rw[← ad]
     ·rw[hn]at hv;simp (disch:=first|omega|decide) only[push_cast,↓reduceIte,Cx,ac,DL];refine Fb (i+1,dp,max (max s (Ee dep i)) (FI x (Ee dep i))) ⟨by dsimp only; omega,Y,hv⟩ (by dsimp only; omega) ?_;simp only[push_cast,↓reduceIte,CE,CC,g0,g2,g4,aa,ab] <;> rfl
    ·have ed:(Ee dep i=1)=False:=eq_false hd;rw[if_pos (.inr (.inl ⟨a3,hd⟩))]at hv;simp (disch:=first|omega|decide) only[push_cast,↓reduceIte,Cx,hx,JM,Kq,Mg,J,M,h0,FH,he,Fa,DL,E,N,ed];rw[← hv];rfl
   by_cases a5:x.op=16
   ·have a1:(x.op=16)=True:=eq_true a5;have N:(x.op=15)=False:=eq_false a3;have a0:(x.op=14)=False:=eq_false (by omega);have O:(x.op=13)=False:=eq_false (by omega);have ce:D9 x.op=(0,0):=by rw[a5]; rfl
    by_cases hd:Ee dep i=0
    ·have ed:(Ee dep i=0)=True:=eq_true hd;have U:JW x (i:Int)=[]:=by simp[JW,a5]
     have I:¬ JK x (Ee dep i):=by unfold JK; omega
     rw[if_neg I,U]at hv;simp (disch:=first|omega|decide) only[push_cast,↓reduceIte,Cx,hx,JM,Kq,Mg,J,M,h0,FH,he,Fa,DL,E,N,a0,O,a1,ed,bb.symm];have hl:=RI (tb [(101,MX)] [(97,ML),(100,MM)]) c x i af ba (max (max s (Ee dep i)) (FI x (Ee dep i))) (FI x (Ee dep i)) (by omega) (by omega) [] (by simp) dep ah;refine hl _ _ rfl rfl rfl rfl rfl rfl rfl rfl rfl rfl rfl (fun hn V st' g2 g3=>?_) (fun dp hn Y V g0 g2 g4 aa ab ac=>?_)
     ·rw[hn]at hv;have ad:((0,200):Int×Int)=KF (Gl c.length c 0 (G0 c.length) 0):=hv;simp (disch:=first|omega|decide) only[push_cast,g2,g3];rw[← ad]
     ·rw[hn]at hv;simp (disch:=first|omega|decide) only[push_cast,↓reduceIte,Cx,ac,DL];refine Fb (i+1,dp,max (max s (Ee dep i)) (FI x (Ee dep i))) ⟨by dsimp only; omega,Y,hv⟩ (by dsimp only; omega) ?_;simp only[push_cast,↓reduceIte,CE,CC,g0,g2,g4,aa,ab] <;> rfl
    ·have ed:(Ee dep i=0)=False:=eq_false hd;rw[if_pos (.inr (.inr ⟨a5,hd⟩))]at hv;simp (disch:=first|omega|decide) only[push_cast,↓reduceIte,Cx,hx,JM,Kq,Mg,J,M,h0,FH,he,Fa,DL,E,N,a1,ed];rw[← hv];rfl
   have N:(x.op=15)=False:=eq_false a3;have a1:(x.op=16)=False:=eq_false a5
   by_cases bg:x.op=14
   ·have a0:(x.op=14)=True:=eq_true bg;have O:(x.op=13)=False:=eq_false (by omega);have U:JW x (i:Int)=[x.n]:=by simp[JW,bg]
    have I:¬ JK x (Ee dep i):=by unfold JK; omega
    rw[if_neg I,U]at hv;have bc:D7 [⟨true,1,dep.map nI,false⟩,⟨false,1,Dx x,false⟩] 1 8 (.slc 0 [] true) (.slc 1 [.int .i64 x.n] true)=some (.row 2 1 0 1,[⟨true,1,dep.map nI,false⟩,⟨false,1,Dx x,false⟩,⟨true,1,[.int .i64 x.n],false⟩]):=(rfl);simp (disch:=first|omega|decide) only[push_cast,↓reduceIte,Cx,↓CA,hx,JM,Kq,Mg,J,M,h0,FH,Kn,he,Fa,DL,E,Fp,N,a0,O,a1,bb.symm,bc,rb];have hl:=RI (tb [(101,MX)] [(97,ML),(100,MM)]) c x i af ba (max (max s (Ee dep i)) (FI x (Ee dep i))) (FI x (Ee dep i)) (by omega) (by omega) [x.n] (by simp) dep ah;refine gO (st':=(⟨true,1,dep.map nI,false⟩::⟨false,1,Dx x,false⟩::Dp 1 (([x.n]:List Int).map nI))) rfl ?_;refine hl _ _ rfl rfl rfl rfl rfl rfl rfl rfl rfl rfl rfl (fun hn V st' g2 g3=>?_) (fun dp hn Y V g0 g2 g4 aa ab ac=>?_)
    ·rw[hn]at hv;have ad:((0,200):Int×Int)=KF (Gl c.length c 0 (G0 c.length) 0):=hv;simp (disch:=first|omega|decide) only[push_cast,g2,g3];rw[← ad]
    ·rw[hn]at hv;simp (disch:=first|omega|decide) only[push_cast,↓reduceIte,Cx,ac,DL];refine Fb (i+1,dp,max (max s (Ee dep i)) (FI x (Ee dep i))) ⟨by dsimp only; omega,Y,hv⟩ (by dsimp only; omega) ?_;simp only[push_cast,↓reduceIte,CE,CC,g0,g2,g4,aa,ab] <;> rfl
   have a0:(x.op=14)=False:=eq_false bg
   by_cases bh:x.op=13
   ·have O:(x.op=13)=True:=eq_true bh;have U:JW x (i:Int)=[x.n,(i:Int)+1]:=by simp[JW,bh]
    have I:¬ JK x (Ee dep i):=by unfold JK; omega
    rw[if_neg I,U]at hv;have bc:D7 [⟨true,1,dep.map nI,false⟩,⟨false,1,Dx x,false⟩] 1 8 (.slc 0 [] true) (.slc 1 [.int .i64 x.n] true)=some (.row 2 1 0 1,[⟨true,1,dep.map nI,false⟩,⟨false,1,Dx x,false⟩,⟨true,1,[.int .i64 x.n],false⟩]):=(rfl);have cc:D7 [⟨true,1,dep.map nI,false⟩,⟨false,1,Dx x,false⟩,⟨true,1,[.int .i64 x.n],false⟩] 1 8 (.row 2 1 0 1) (.slc 1 [.int .i64 ((i:Int)+1)] true)=some (.row 2 2 0 2,[⟨true,1,dep.map nI,false⟩,⟨false,1,Dx x,false⟩,⟨true,1,[.int .i64 x.n,.int .i64 ((i:Int)+1)],false⟩]):=(rfl);simp (disch:=first|omega|decide) only[push_cast,↓reduceIte,Cx,↓CA,hx,JM,Kq,Mg,J,M,h0,FH,Kn,he,Fa,DL,E,Fp,N,a0,O,a1,bb.symm,bc,cc,li2];have hl:=RI (tb [(101,MX)] [(97,ML),(100,MM)]) c x i af ba (max (max s (Ee dep i)) (FI x (Ee dep i))) (FI x (Ee dep i)) (by omega) (by omega) [x.n,(i:Int)+1] (by simp) dep ah;refine gO (st':=(⟨true,1,dep.map nI,false⟩::⟨false,1,Dx x,false⟩::Dp 1 (([x.n,(i:Int)+1]:List Int).map nI))) rfl ?_;refine hl _ _ rfl rfl rfl rfl rfl rfl rfl rfl rfl rfl rfl (fun hn V st' g2 g3=>?_) (fun dp hn Y V g0 g2 g4 aa ab ac=>?_)
    ·rw[hn]at hv;have ad:((0,200):Int×Int)=KF (Gl c.length c 0 (G0 c.length) 0):=hv;simp (disch:=first|omega|decide) only[push_cast,g2,g3];rw[← ad]
    ·rw[hn]at hv;simp (disch:=first|omega|decide) only[push_cast,↓reduceIte,Cx,ac,DL];refine Fb (i+1,dp,max (max s (Ee dep i)) (FI x (Ee dep i))) ⟨by dsimp only; omega,Y,hv⟩ (by dsimp only; omega) ?_;simp only[push_cast,↓reduceIte,CE,CC,g0,g2,g4,aa,ab] <;> rfl
   ·have O:(x.op=13)=False:=eq_false bh;have U:JW x (i:Int)=[(i:Int)+1]:=by simp[JW,bh,bg,a3,a5]
    have I:¬ JK x (Ee dep i):=by unfold JK; omega
    rw[if_neg I,U]at hv;have bc:D7 [⟨true,1,dep.map nI,false⟩,⟨false,1,Dx x,false⟩] 1 8 (.slc 0 [] true) (.slc 1 [.int .i64 ((i:Int)+1)] true)=some (.row 2 1 0 1,[⟨true,1,dep.map nI,false⟩,⟨false,1,Dx x,false⟩,⟨true,1,[.int .i64 ((i:Int)+1)],false⟩]):=(rfl);simp (disch:=first|omega|decide) only[push_cast,↓reduceIte,Cx,↓CA,hx,JM,Kq,Mg,J,M,h0,FH,he,Fa,DL,E,Fp,N,a0,O,a1,bb.symm,bc,rb];have hl:=RI (tb [(101,MX)] [(97,ML),(100,MM)]) c x i af ba (max (max s (Ee dep i)) (FI x (Ee dep i))) (FI x (Ee dep i)) (by omega) (by omega) [(i:Int)+1] (by simp) dep ah;refine gO (st':=(⟨true,1,dep.map nI,false⟩::⟨false,1,Dx x,false⟩::Dp 1 (([(i:Int)+1]:List Int).map nI))) rfl ?_;refine hl _ _ rfl rfl rfl rfl rfl rfl rfl rfl rfl rfl rfl (fun hn V st' g2 g3=>?_) (fun dp hn Y V g0 g2 g4 aa ab ac=>?_)
    ·rw[hn]at hv;have ad:((0,200):Int×Int)=KF (Gl c.length c 0 (G0 c.length) 0):=hv;simp (disch:=first|omega|decide) only[push_cast,g2,g3];rw[← ad]
    ·rw[hn]at hv;simp (disch:=first|omega|decide) only[push_cast,↓reduceIte,Cx,ac,DL];refine Fb (i+1,dp,max (max s (Ee dep i)) (FI x (Ee dep i))) ⟨by dsimp only; omega,Y,hv⟩ (by dsimp only; omega) ?_;simp only[push_cast,↓reduceIte,CE,CC,g0,g2,g4,aa,ab] <;> rfl
  ·obtain rfl:i=c.length:=by omega
   rw[Ba,Gl]at hv;rw[← hv]
   by_cases h6:64<s
   ·rw[show KF (some s)=(0,2)from if_pos h6];simp (disch:=first|omega|decide) only[push_cast,↓reduceIte,Cx,h6]
   ·rw[show KF (some s)=(s,0)from if_neg h6];simp (disch:=first|omega|decide) only[push_cast,↓reduceIte,Cx,h6]
set_option maxRecDepth 20000 in
theorem se:Contract Tryz.prog GG 47 Zb:=
 D8 (T:=tb [(101,MX)] [(97,ML),(100,MM)]) tW (DA (all_cons Yvk all_nil) (all_cons Yvd (all_cons Yu9 all_nil))) (fun a h=>Yq6 a h)
def Ew(v:Int×List Int)(p f t c:Int)(S:D)(b:Int):List D:=Ef v++[.int .i64 p,.int .i64 f,.int .i64 t,.int .i64 c,S,.int .i64 b]
def Fe(v:Int×List Int):Prop:=v.2.length=16
variable {v:Int×List Int}
theorem Je(hv:Fe v):(Ef v).length=17:=by simp[Ef,show v.2.length=16 from hv]
section
variable {v:Int×List Int} (hv:Fe v) (lent:Bool) (p f t c:Int) (S:D) (b:Int)
include hv
theorem sV:Dn (some ⟨false,1,Ew v p f t c S b,lent⟩) 1 false 17=some (.int .i64 p):=IK (A:=Ef v) rfl (Je hv)
theorem IH:Dn (some ⟨false,1,Ew v p f t c S b,lent⟩) 1 false 21=some S:=IK (A:=Ef v++[.int .i64 p,.int .i64 f,.int .i64 t,.int .i64 c]) (by simp[Ew]; rfl) (by simp[Je hv])
theorem OB:Dn (some ⟨false,1,Ew v p f t c S b,lent⟩) 1 false 22=some (.int .i64 b):=IK (A:=Ef v++[.int .i64 p,.int .i64 f,.int .i64 t,.int .i64 c,S]) (C:=[]) (by simp[Ew]) (by simp[Je hv])
omit hv in
theorem Zp:Dn (some ⟨false,1,Ew v p f t c S b,lent⟩) 1 false 0=some (.int .i64 v.1):=IK (A:=[]) (C:=v.2.map nI++[.int .i64 p,.int .i64 f,.int .i64 t,.int .i64 c,S,.int .i64 b]) (by simp[Ew,Ef]) rfl
theorem Uv(i:Nat)(h:i<16):Dn (some ⟨false,1,Ew v p f t c S b,lent⟩) 1 false (1+i)=some (.int .i64 (Ee v.2 i)):=by
 have hi:i<v.2.length:=by rw[show v.2.length=16 from hv]; exact h
 have e:v.2=v.2.take i++(Ee v.2 i::v.2.drop (i+1)):=by
  rw[Ee,← Wg v.2 hi,BA]
 refine IK (A:=.int .i64 v.1::(v.2.take i).map nI) (C:=(v.2.drop (i+1)).map nI++[.int .i64 p,.int .i64 f,.int .i64 t,.int .i64 c,S,.int .i64 b]) ?_ (by simp; omega);have E:=congrArg (List.map nI) e;rw[Bv,Ax]at E;simp only[Ew,Ef];rw[E];simp[nI]
theorem gI:Dn (some ⟨false,1,Ew v p f t c S b,lent⟩) 5 true 17=some (.agg [.int .i64 p,.int .i64 f,.int .i64 t,.int .i64 c,S]):=LD (A:=Ef v) (B:=[.int .i64 p,.int .i64 f,.int .i64 t,.int .i64 c,S]) (C:=[.int .i64 b]) (by simp[Ew]) (Je hv) rfl
theorem YG(p':Int):DQ (some ⟨false,1,Ew v p f t c S b,false⟩) 1 17 (.int .i64 p')=some ⟨false,1,Ew v p' f t c S b,false⟩:=Ko (A:=Ef v) (B:=[.int .i64 p]) (C:=[.int .i64 f,.int .i64 t,.int .i64 c,S,.int .i64 b]) (xs:=[.int .i64 p']) rfl rfl (Je hv) rfl rfl rfl rfl
theorem Yr0(t':Int):DQ (some ⟨false,1,Ew v p f t c S b,false⟩) 1 19 (.int .i64 t')=some ⟨false,1,Ew v p f t' c S b,false⟩:=Ko (A:=Ef v++[.int .i64 p,.int .i64 f]) (B:=[.int .i64 t]) (C:=[.int .i64 c,S,.int .i64 b]) (xs:=[.int .i64 t']) (by simp[Ew]) (by simp[Ew]) (by simp[Je hv]) rfl rfl rfl rfl
theorem Yrz(c':Int):DQ (some ⟨false,1,Ew v p f t c S b,false⟩) 1 20 (.int .i64 c')=some ⟨false,1,Ew v p f t c' S b,false⟩:=Ko (A:=Ef v++[.int .i64 p,.int .i64 f,.int .i64 t]) (B:=[.int .i64 c]) (C:=[S,.int .i64 b]) (xs:=[.int .i64 c']) (by simp[Ew]) (by simp[Ew]) (by simp[Je hv]) rfl rfl rfl rfl
theorem Yle(sz:Nat)(els:List D)(E:Bool):DQ (some ⟨false,1,Ew v p f t c S b,false⟩) 1 21 (.slc sz els E)=some ⟨false,1,Ew v p f t c (.slc sz els E) b,false⟩:=Ko (A:=Ef v++[.int .i64 p,.int .i64 f,.int .i64 t,.int .i64 c]) (B:=[S]) (C:=[.int .i64 b]) (xs:=[.slc sz els E]) (by simp[Ew]) (by simp[Ew]) (by simp[Je hv]) rfl rfl rfl rfl
theorem Ylf(k to of E:Nat):DQ (some ⟨false,1,Ew v p f t c S b,false⟩) 1 21 (.row k to of E)=some ⟨false,1,Ew v p f t c (.row k to of E) b,false⟩:=Ko (A:=Ef v++[.int .i64 p,.int .i64 f,.int .i64 t,.int .i64 c]) (B:=[S]) (C:=[.int .i64 b]) (xs:=[.row k to of E]) (by simp[Ew]) (by simp[Ew]) (by simp[Je hv]) rfl rfl rfl rfl
end
variable {S:D}{b b' c' f f' p p' t t':Int}{v':Int×List Int}
theorem oh(hv:Fe v)(E:Fe v'){c:Int}{I:D}(h:Ew v p f t c S b=Ew v' p' f' t' c' I b'):v=v'∧p=p'∧f=f'∧t=t'∧c=c'∧S=I∧b=b':=by
 unfold Ew at h;obtain⟨M,J⟩:=A2 h ((Je hv).trans (Je E).symm);simp only[Aa,D.int.injEq,true_and,and_true]at J;refine⟨?_,J⟩;have:Ev v=Ev v':=by rw[Ev,Ev,M]
 exact KI.1 this
def Ds(st:St)(key:Nat)(C:List D):St:=st.set key ⟨false,1,C,false⟩
theorem aT(st:St)(key:Nat)(C:List D):(Ds st key C).length=st.length:=B5
variable {key:Nat}
theorem LI(h:key<st.length)(C:List D):(Ds st key C)[key]?=some ⟨false,1,C,false⟩:=by simp[Ds,h]
theorem H8(st:St)(key:Nat)(C:List D):List.set st key (⟨false,1,C,false⟩:PI.Obj)=Ds st key C:=(rfl)
theorem KP(st:St)(key:Nat)(C E:List D):Ds (Ds st key C) key E=Ds st key E:=by simp[Ds]
theorem Hx(h:key<st.length)(m:St)(C:List D):Ds (st++m) key C=Ds st key C++m:=by
 unfold Ds; exact BN _ _ h
theorem HE(h:key<st.length)(m:St):(st++m)[key]?=st[key]?:=At h
theorem OU(h:key<st.length)(C:List D)(m:St):(Ds st key C++m)[key]?=some ⟨false,1,C,false⟩:=by
 rw[HE (by rw[aT]; exact h),LI h]
theorem Mq(h:key<st.length)(m:St)(C E:List D):Ds (Ds st key C++m) key E=Ds st key E++m:=by
 rw[Hx (by rw[aT]; exact h),KP]
theorem Li(st:St)(o:PI.Obj):(st++[o]).length=st.length+1:=by simp
def GQ(st:St)(key:Nat)(v:Int×List Int)(p f t c:Int)(S:D)(b:Int):Prop:=st[key]?=some ⟨false,1,Ew v p f t c S b,false⟩
theorem Ln{c:Int}(h:GQ st key v p f t c S b):key<st.length:=(Ac.1 h).1
theorem Pc{c:Int}(h:GQ st key v p f t c S b)(m:St):GQ (st++m) key v p f t c S b:=by
 unfold GQ; rw[HE (Ln h)]; exact h
theorem Z8{c:Int}{I:D}(hv:Fe v)(J:Fe v')(h:GQ st key v p f t c S b)(E:GQ st key v' p' f' t' c' I b'):v=v'∧p=p'∧f=f'∧t=t'∧c=c'∧S=I∧b=b':=by
 unfold GQ at h E;rw[h]at E;simp only[CX,PI.Obj.mk.injEq,true_and,and_true]at E;exact oh hv J E
theorem Dw(st:St)(key off:Nat):gA st (.ptr key off)=some (.ptr key off):=(rfl)
def Nm(l:List Int)(i:Nat):Int:=Ee l (l.length - 1 - i)
def KR(ds:List D)(os:List (Option (Bool×Nat×List D)))(d:D):Prop:=∃ (key:Nat) (v:Int×List Int) (p f t c:Int) (l:List Int) (b:Int) (i:Nat),Fe v∧i<l.length∧l.length≤4294967296∧ds=[.ptr key 0,.int .i64 (i:Int)]∧os=[some (false,1,Ew v p f t c (Eo l) b)]∧d=.int .i64 (Nm l i)
noncomputable def KE:List D→List (Option (Bool×Nat×List D))→Option D:=fun ds os=>@dite _ (∃ d,KR ds os d) (Classical.propDecidable _) (fun h=>some h.choose) (fun _=>none)
variable {d:D}{os:List (Option (Bool×Nat×List D))}{ds:List D}
theorem Yc3{E:D}(h:KR ds os d)(N:KR ds os E):d=E:=by
 obtain⟨key,v,p,f,t,c,l,b,i,hv,_,_,rfl,rfl,rfl⟩:=h;obtain⟨O,v',p',f',t',c',V,b',Y,I,_,_,J,M,rfl⟩:=N;simp only[Aa,D.int.injEq,true_and,and_true,Int.ofNat_inj,CX,Di]at J M;obtain⟨_,rfl⟩:=J;obtain⟨_,_,_,_,_,U,_⟩:=oh hv I M;rw[Qv.1 U]
theorem xP(h:KR ds os d):KE ds os=some d:=by
 have E:∃ d,KR ds os d:=⟨d,h⟩;unfold KE;rw[dif_pos E,Yc3 E.choose_spec h]
theorem yQ1(h:KE ds os=some d):KR ds os d:=by
 unfold KE at h
 split at h
 ·rename_i E;simp only[CX]at h;rw[← h]; exact E.choose_spec
 ·cases h
variable {l:List Int}
theorem VH{c:Int}(hv:Fe v)(h:GQ st key v p f t c (Eo l) b)(i:Nat)(hi:i<l.length)(hl:l.length≤4294967296):H5 KE [.ptr key 0,.int .i64 (i:Int)] st=some (.int .i64 (Nm l i)):=by
 unfold H5;have e:([D.ptr key 0,.int .i64 (i:Int)]).flatMap hk=[key]:=rfl;unfold GQ at h;rw[e];simp only[A3,Cw,BW,h,BY,if_true,GF,Ag,PI.Obj.see];exact xP ⟨key,v,p,f,t,c,l,b,i,hv,hi,hl,rfl,rfl,rfl⟩
theorem Yds{r:Bool×Nat×List D}(h:GF st [key]=[some r]):∃ lent,st[key]?=some ⟨r.1,r.2.1,r.2.2,lent⟩:=by
 simp only[GF,Aa,and_true]at h
 cases hk:st[key]? with
 |none=>simp[hk]at h
 |some o=>
  rw[hk]at h;simp only[Ag,CX,PI.Obj.see]at h;subst h;exact⟨o.lent,rfl⟩
set_option maxHeartbeats 4000000 in
set_option maxRecDepth 20000 in
theorem gX:IContract Tryz.prog GG 197 (fun ds st=>(H5 KE ds st).map (·,st)):=by
 refine IB (T:=tb [] []) uI (DA all_nil all_nil) ?_;intro ds st r I;simp only[Dt]at I;obtain⟨d,E,rfl⟩:=I;unfold H5 at E
 split at E
 case isFalse=>cases E
 obtain⟨key,v,p,f,t,c,l,b,i,hv,hi,hl,rfl,J,rfl⟩:=yQ1 E;obtain⟨lent,hk⟩:=Yds J;dsimp only at hk
 have M:FY st 1 (Eo l) (.int .i64 ((l.length:Int) - 1 - (i:Int)))=some (.eptr (nI (Nm l i)) 0):=by
  have:=Yn st l false (l.length - 1 - i) (by omega);rw[show((l.length - 1 - i:Nat):Int)=(l.length:Int) - 1 - (i:Int) by omega]at this;exact this
 have hle:EH st false (Eo l)=some (.int .i64 (l.length:Int)):=by simp[EH,IZ,Eo,EK]
 unfold jG;simp (disch:=first|omega|decide) only[push_cast,↓reduceIte,Cx,Cy,Dw,hk,IH hv,hle,Fa,M,Yu]
def KD:Option Int→D
 |none=>.slc 0 [] true
 |some a=>.slc 1 [.int .i64 a] true
def Jo(n:Nat)(l:List Int)(k:Nat):Option Int→D
 |none=>.slc (nz 1 (l.map nI)) ((l.take (l.length - k)).map nI) true
 |some _=>.row n (l.length - k+1) 0 (l.length - k+1)
def HG(l:List Int)(k:Nat):Option Int→St
 |none=>[]
 |some a=>[⟨true,1,(l.take (l.length - k)++[a]).map nI,false⟩]
def Ud(ds:List D)(st:St)(r:D×St):Prop:=∃ (key:Nat) (v:Int×List Int) (p f t c:Int) (l:List Int) (b:Int) (k:Nat) (push:Option Int),Fe v∧GQ st key v p f t c (Eo l) b∧k≤l.length∧l.length≤100000∧-1000000≤p∧p≤1000000∧
 ds=[.ptr key 0,.int .i64 (k:Int),KD push]∧r=(.int .i64 0,Ds st key (Ew v (p+1) f t c (Jo st.length l k push) b)++HG l k push)
noncomputable def NO:List D→St→Option (D×St):=EY Ud
theorem xn{a b:Option Int}(h:KD a=KD b):a=b:=by
 cases a <;> cases b <;> simp_all [KD]
theorem Yl9:Hs Ud:=by
 rintro ds st r U ⟨key,v,p,f,t,c,l,b,k,push,hv,hm,_,_,_,_,rfl,rfl⟩ ⟨M,v',p',f',t',c',V,b',k',J,E,I,_,_,_,_,h,rfl⟩;simp only[Aa,D.ptr.injEq,D.int.injEq,true_and,and_true,Int.ofNat_inj]at h;obtain⟨rfl,rfl,N⟩:=h;obtain rfl:=xn N;obtain⟨rfl,rfl,rfl,rfl,rfl,O,rfl⟩:=Z8 hv E hm I;rw[Qv.1 O]
theorem Yhm{c:Int}(hv:Fe v)(M:GQ st key v p f t c (Eo l) b)(k:Nat)(E:Option Int)(hk:k≤l.length)(hl:l.length≤100000)(I:-1000000≤p)(J:p≤1000000) :
  NO [.ptr key 0,.int .i64 (k:Int),KD E] st=some (.int .i64 0,Ds st key (Ew v (p+1) f t c (Jo st.length l k E) b)++HG l k E):=
 KK Yl9 ⟨key,v,p,f,t,c,l,b,k,E,hv,M,hk,hl,I,J,rfl,rfl⟩
set_option maxHeartbeats 4000000 in
set_option maxRecDepth 20000 in
theorem SZ:IContract Tryz.prog GG 195 NO:=by
 refine IB (T:=tb [] []) uH (DA all_nil all_nil) ?_;intro ds st r N;obtain⟨key,v,p,f,t,c,l,b,k,push,hv,hm,hk,hl,O,U,rfl,rfl⟩:=Ii N;have E:=Ln hm;unfold GQ at hm;have hle:EH st false (Eo l)=some (.int .i64 (l.length:Int)):=by simp[EH,IZ,Eo,EK]
 have J:Gh st 1 (Eo l) none (some (.int .i64 ((l.length:Int) - (k:Int)))) (some (.int .i64 ((l.length:Int) - (k:Int))))=some (.slc (nz 1 (l.map nI)) ((l.take (l.length - k)).map nI) true):=by
  have:=Ysc st l false (k:=l.length - k) (by omega);rwa [show((l.length - k:Nat):Int)=(l.length:Int) - (k:Int) by omega]at this
 have M:(l.take (l.length - k)).length=l.length - k:=by rw[AQ]; omega
 unfold jF
 cases push with
 |none=>
  have I:D7 st 1 8 (.slc (nz 1 (l.map nI)) ((l.take (l.length - k)).map nI) true) (.slc 0 [] true)=some (.slc (nz 1 (l.map nI)) ((l.take (l.length - k)).map nI) true,st):=oK st 1 8 _ 0 _ true (by decide);simp (disch:=first|omega|decide) only[push_cast,↓reduceIte,Cx,Cy,KD,Dw,hm,IH hv,sV hv,hle,Fa,J,I,Yle hv,YG hv,H8,LI E,KP,DL,Jo,HG]
 |some a=>
  have I:D7 st 1 8 (.slc (nz 1 (l.map nI)) ((l.take (l.length - k)).map nI) true) (.slc 1 [.int .i64 a] true)=some (.row st.length (l.length - k+1) 0 (l.length - k+1),st++[⟨true,1,(l.take (l.length - k)++[a]).map nI,false⟩]):=by
   have:=mN st 1 8 (nz 1 (l.map nI)) ((l.take (l.length - k)).map nI) (.slc 1 [.int .i64 a] true) [.int .i64 a] 1 rfl (.inl rfl) (by
    cases l with
    |nil=>right; simp
    |cons x r=>left; rfl) (by decide) (by simp) (by simp[M]; omega) (by simp[M]; omega)
   rw[this];simp[nI]
  simp (disch:=first|omega|decide) only[push_cast,↓reduceIte,Cx,Cy,KD,Dw,hm,IH hv,sV hv,hle,Fa,J,I,HE E,Ylf hv,YG hv,H8,Hx E,OU E,Mq E,DL,Jo,HG]
def DP(op a b:Int):Int×Int:=
 if op=3 then Hp a b else if op=4 then Hf a b else if op=5 then Hi a b else if op=6 then(min a b,0)else if op=7 then(max a b,0)else
 if op=8 then Ec a b 8 else if op=9 then Ec a b 9 else if op=10 then Ec a b 10 else if op=11 then(if a<b then 1 else 0,0)else(0,0)
noncomputable def V1:List D→Option D:=Dc (α:=Bool) (fun a=>[.bool a]) (fun a=>True) (fun a=>.int .i64 (if a=true then 1 else 0))
theorem pO(x:Bool):V1 [.bool x]=some (.int .i64 (if x=true then 1 else 0)):=
 DW (fun a b h=>by simp only[Aa,D.bool.injEq,and_true]at h; simp[h]) (x) trivial
theorem Yj8(x:Bool):@wW GG (tb [] []) WR.code (C3 [.bool x]) [] ⟨Df WR.res (.int .i64 (if x=true then 1 else 0))⟩:=by
 unfold WR;cases x <;> simp (disch:=first|omega|decide) only[push_cast,↓reduceIte,Cx]
theorem tu:Contract Tryz.prog GG 196 V1:=
 D8 yGv (DA all_nil all_nil) (fun a h=>Yj8 a)
noncomputable def Y1:List D→Option D:=Dc (α:=Int×Int) (fun a=>[.int .i64 a.1,.int .i64 a.2]) (fun a=>True) (fun a=>.tup [.int .i64 (min a.1 a.2),.int .i64 0])
theorem Ya8(a:Int)(b:Int):Y1 [.int .i64 a,.int .i64 b]=some (.tup [.int .i64 (min a b),.int .i64 0]):=
 DW (fun⟨a0,a1⟩ ⟨b0,b1⟩ h=>by simp only[Aa,D.int.injEq,true_and,and_true]at h; simp[h]) (a,b) trivial
theorem Yrj(a:Int)(b:Int):@wW GG (tb [] []) XJ.code (C3 [.int .i64 a,.int .i64 b]) [] ⟨Df XJ.res (.tup [.int .i64 (min a b),.int .i64 0])⟩:=by
 unfold XJ;simp (disch:=first|omega|decide) only[push_cast,↓reduceIte,Cx]
theorem Yvs:Contract Tryz.prog GG 234 Y1:=
 D8 uo (DA all_nil all_nil) (fun a h=>Yrj a.1 a.2)
noncomputable def Y2:List D→Option D:=Dc (α:=Int×Int) (fun a=>[.int .i64 a.1,.int .i64 a.2]) (fun a=>True) (fun a=>.tup [.int .i64 (max a.1 a.2),.int .i64 0])
theorem Ya7(a:Int)(b:Int):Y2 [.int .i64 a,.int .i64 b]=some (.tup [.int .i64 (max a b),.int .i64 0]):=
 DW (fun⟨a0,a1⟩ ⟨b0,b1⟩ h=>by simp only[Aa,D.int.injEq,true_and,and_true]at h; simp[h]) (a,b) trivial
theorem Yri(a:Int)(b:Int):@wW GG (tb [] []) XK.code (C3 [.int .i64 a,.int .i64 b]) [] ⟨Df XK.res (.tup [.int .i64 (max a b),.int .i64 0])⟩:=by
 unfold XK;simp (disch:=first|omega|decide) only[push_cast,↓reduceIte,Cx]
theorem Yvr:Contract Tryz.prog GG 235 Y2:=
 D8 uq (DA all_nil all_nil) (fun a h=>Yri a.1 a.2)
noncomputable def Y3:List D→Option D:=Dc (α:=Int×Int) (fun a=>[.int .i64 a.1,.int .i64 a.2]) (fun a=>True) (fun a=>.tup [.int .i64 (Ec a.1 a.2 8).1,.int .i64 (Ec a.1 a.2 8).2])
theorem Ya6(a:Int)(b:Int):Y3 [.int .i64 a,.int .i64 b]=some (.tup [.int .i64 (Ec a b 8).1,.int .i64 (Ec a b 8).2]):=
 DW (fun⟨a0,a1⟩ ⟨b0,b1⟩ h=>by simp only[Aa,D.int.injEq,true_and,and_true]at h; simp[h]) (a,b) trivial
theorem Yrh(a:Int)(b:Int):@wW GG (tb [(237,RX)] []) XL.code (C3 [.int .i64 a,.int .i64 b]) [] ⟨Df XL.res (.tup [.int .i64 (Ec a b 8).1,.int .i64 (Ec a b 8).2])⟩:=by
 unfold XL;simp (disch:=first|omega|decide) only[push_cast,↓reduceIte,Cx,ay a b 8 (.inl rfl)]
theorem Yvq:Contract Tryz.prog GG 236 Y3:=
 D8 ur (DA (all_cons cH all_nil) all_nil) (fun a h=>Yrh a.1 a.2)
noncomputable def Y4:List D→Option D:=Dc (α:=Int×Int) (fun a=>[.int .i64 a.1,.int .i64 a.2]) (fun a=>True) (fun a=>.tup [.int .i64 (Ec a.1 a.2 9).1,.int .i64 (Ec a.1 a.2 9).2])
theorem Ya5(a:Int)(b:Int):Y4 [.int .i64 a,.int .i64 b]=some (.tup [.int .i64 (Ec a b 9).1,.int .i64 (Ec a b 9).2]):=
 DW (fun⟨a0,a1⟩ ⟨b0,b1⟩ h=>by simp only[Aa,D.int.injEq,true_and,and_true]at h; simp[h]) (a,b) trivial
theorem Yrg(a:Int)(b:Int):@wW GG (tb [(237,RX)] []) XM.code (C3 [.int .i64 a,.int .i64 b]) [] ⟨Df XM.res (.tup [.int .i64 (Ec a b 9).1,.int .i64 (Ec a b 9).2])⟩:=by
 unfold XM;simp (disch:=first|omega|decide) only[push_cast,↓reduceIte,Cx,ay a b 9 (.inr (.inl rfl))]
theorem Yvp:Contract Tryz.prog GG 238 Y4:=
 D8 uu (DA (all_cons cH all_nil) all_nil) (fun a h=>Yrg a.1 a.2)
noncomputable def Y5:List D→Option D:=Dc (α:=Int×Int) (fun a=>[.int .i64 a.1,.int .i64 a.2]) (fun a=>True) (fun a=>.tup [.int .i64 (Ec a.1 a.2 10).1,.int .i64 (Ec a.1 a.2 10).2])
theorem Ya4(a:Int)(b:Int):Y5 [.int .i64 a,.int .i64 b]=some (.tup [.int .i64 (Ec a b 10).1,.int .i64 (Ec a b 10).2]):=
 DW (fun⟨a0,a1⟩ ⟨b0,b1⟩ h=>by simp only[Aa,D.int.injEq,true_and,and_true]at h; simp[h]) (a,b) trivial
theorem Yrf(a:Int)(b:Int):@wW GG (tb [(237,RX)] []) XX.code (C3 [.int .i64 a,.int .i64 b]) [] ⟨Df XX.res (.tup [.int .i64 (Ec a b 10).1,.int .i64 (Ec a b 10).2])⟩:=by
 unfold XX;simp (disch:=first|omega|decide) only[push_cast,↓reduceIte,Cx,ay a b 10 (.inr (.inr rfl))]
theorem Yvo:Contract Tryz.prog GG 239 Y5:=
 D8 uv (DA (all_cons cH all_nil) all_nil) (fun a h=>Yrf a.1 a.2)
noncomputable def Y6:List D→Option D:=Dc (α:=Int×Int) (fun a=>[.int .i64 a.1,.int .i64 a.2]) (fun a=>True) (fun a=>.tup [.int .i64 (if a.1<a.2 then 1 else 0),.int .i64 0])
theorem Ya3(a:Int)(b:Int):Y6 [.int .i64 a,.int .i64 b]=some (.tup [.int .i64 (if a<b then 1 else 0),.int .i64 0]):=
 DW (fun⟨a0,a1⟩ ⟨b0,b1⟩ h=>by simp only[Aa,D.int.injEq,true_and,and_true]at h; simp[h]) (a,b) trivial
theorem Yre(a:Int)(b:Int):@wW GG (tb [(196,V1)] []) XZ.code (C3 [.int .i64 a,.int .i64 b]) [] ⟨Df XZ.res (.tup [.int .i64 (if a<b then 1 else 0),.int .i64 0])⟩:=by
 unfold XZ;have hc:=pO (decide (a<b))
 by_cases h:a<b
 ·rw[decide_eq_true h]at hc;simp (disch:=first|omega|decide) only[push_cast,↓reduceIte,Cx,h,hc]
 ·rw[decide_eq_false h]at hc;simp (disch:=first|omega|decide) only[push_cast,↓reduceIte,Cx,h,hc]
theorem Yvn:Contract Tryz.prog GG 240 Y6:=
 D8 uw (DA (all_cons tu all_nil) all_nil) (fun a h=>Yre a.1 a.2)
theorem Nb{sp:List D→Option D}{x y:Int}(h:sp [.int .i64 a,.int .i64 b]=some (.tup [.int .i64 x,.int .i64 y]))(st:St):H4 sp [.int .i64 a,.int .i64 b] st=some (.tup [.int .i64 x,.int .i64 y],st):=by
 have E:DZ st [.int .i64 a,.int .i64 b]=some [.int .i64 a,.int .i64 b]:=(rfl);simp only[H4,E,h];rfl
def IG(op:Int):Int:=if op=12∨op=13∨op=15 then 1 else if 3≤op∧op≤11 then 2 else 0
theorem Yuq(op:Int)(h:3≤op∧op≤11):∃ f,Fv op EP=some f:=by
 obtain⟨E,I⟩:=h;have:op=3∨op=4∨op=5∨op=6∨op=7∨op=8∨op=9∨op=10∨op=11:=by omega
 rcases this with rfl | rfl | rfl | rfl | rfl | rfl | rfl | rfl | rfl <;> exact⟨_,rfl⟩
theorem Yok(op:Int)(h:¬ (3≤op∧op≤11)):Fv op EP=none:=by
 simp only[EP,Fv];rw[if_neg (by omega),if_neg (by omega),if_neg (by omega),if_neg (by omega),if_neg (by omega),if_neg (by omega),if_neg (by omega),if_neg (by omega),if_neg (by omega)]
theorem eJ(st:St)(op:Int)(ok:Bool)(E:D):Iz st 0 [] ok E (.gmap EP) (.int .i64 op)=some (match Fv op EP with
  |some f=>if ok then .tup [.agg [.clo f []],.bool true]else .agg [.clo f []]
  |none=>if ok then .tup [E,.bool false]else E):=(rfl)
theorem r7:Dv (.agg [.nilf])=some [.nilf]:=(rfl)
theorem TV(f:Nat):DQ (some ⟨false,1,[.nilf],false⟩) 1 0 (.agg [.clo f []])=some ⟨false,1,[.clo f []],false⟩:=(rfl)
theorem TU:DQ (some ⟨false,1,[.nilf],false⟩) 1 0 (.agg [.nilf])=some ⟨false,1,[.nilf],false⟩:=(rfl)
theorem Jj(st:St):EV st 1 false (.eptr (.gmap EP) 0)=some (.gmap EP):=(rfl)
noncomputable def VZ:List D→Option D:=Dc (α:=Int) (fun a=>[.int .i64 a]) (fun a=>True) (fun a=>.int .i64 (IG a))
theorem pM(op:Int):VZ [.int .i64 op]=some (.int .i64 (IG op)):=
 DW (fun a b h=>by simp only[Aa,D.int.injEq,true_and,and_true]at h; simp[h]) (op) trivial
theorem Ykc(op:Int):@wW GG (tb [] []) W5.code (C3 [.int .i64 op]) [] ⟨Df W5.res (.int .i64 (IG op))⟩:=by
 unfold W5 IG
 by_cases E:op=12
 ·subst E; simp (disch:=first|omega|decide) only[push_cast,↓reduceIte,Cx,true_or]
 ·by_cases J:op=13
  ·subst J; simp (disch:=first|omega|decide) only[push_cast,↓reduceIte,Cx,E,true_or,or_true]
  ·by_cases N:op=15
   ·subst N; simp (disch:=first|omega|decide) only[push_cast,↓reduceIte,Cx,E,J,or_true]
   ·have hn:¬ (op=12∨op=13∨op=15):=by omega
    rw[if_neg hn]
    by_cases M:3≤op∧op≤11
    ·obtain⟨f,hf⟩:=Yuq op M;have I:=eJ [] op true (.agg [.nilf]);rw[hf]at I;simp (disch:=first|omega|decide) only[push_cast,↓reduceIte,Cx,E,J,N,M,I2 _ _ _ _ FQ,Jj,I,r7,TV]
    ·have hf:=Yok op M;have I:=eJ [] op true (.agg [.nilf]);rw[hf]at I;simp (disch:=first|omega|decide) only[push_cast,↓reduceIte,Cx,E,J,N,M,I2 _ _ _ _ FQ,Jj,I,r7,TU]
theorem tr:Contract Tryz.prog GG 109 VZ:=
 D8 yGx (DA all_nil all_nil) (fun a h=>Ykc a)
inductive Out where
 |err (e:Int)
 |pop (k:Nat) (push:Option Int) (pc:Option Int)
 |set (p t c:Int)
def NF(a b:Int):Int:=IntKind.wrap .i64 ((CF 64 a &&& CF 64 b).toNat:Int)
def K3(n:Int):Int:=IntKind.wrap .i64 (1*2 ^ (min n.toNat 64))
def C5(s:Sta)(i:Nat):Int:=Nm s.stack i
def DE(v:Int×List Int)(b:Int)(s:Sta)(x:Ins):Out:=
 if x.op=1 then(if 64≤b+s.stack.length then .err 200 else .pop 0 (some x.n) none)
 else if x.op=2 then(if 64≤b+s.stack.length then .err 200 else if NF v.1 (K3 x.n)=0 then .err 181 else if Ee v.2 x.n.toNat < -9007199254740992∨9007199254740992<Ee v.2 x.n.toNat then .err 3 else .pop 0 (some (Ee v.2 x.n.toNat)) none)
 else if x.op=12 then .pop 1 (some (if x.n≤C5 s 0∧C5 s 0≤x.m then 1 else 0)) none
 else if x.op=13 then .pop 1 none (if C5 s 0=0 then some x.n else none)
 else if x.op=14 then .set x.n s.status s.clause
 else if x.op=15 then .set s.pc 1 x.n
 else if x.op=16 then .err 180
 else if(DP x.op (C5 s 1) (C5 s 0)).2=0 then .pop 2 (some (DP x.op (C5 s 1) (C5 s 0)).1) none else .err (DP x.op (C5 s 1) (C5 s 0)).2
def DR(st:St)(key:Nat)(v:Int×List Int)(b:Int)(s:Sta)(x:Ins):Out→D×St
 |.err e=>(.int .i64 e,st++[⟨false,1,Dx x,false⟩])
 |.pop k push pc=>(.int .i64 0,Ds st key (Ew v (pc.getD (s.pc+1)) s.fuel s.status s.clause (Jo (st.length+1) s.stack k push) b)++[⟨false,1,Dx x,false⟩]++HG s.stack k push)
 |.set p t c=>(.int .i64 0,Ds st key (Ew v p s.fuel t c (Eo s.stack) b)++[⟨false,1,Dx x,false⟩])
structure mOK (v:Int×List Int) (b:Int) (s:Sta) (x:Ins):Prop where
 v:Fe v
 b0:0≤b
 b1:b≤64
 l:s.stack.length≤64
 p0:0≤s.pc
 p1:s.pc≤100000
 f:F0 x=true
 n:IG x.op≤s.stack.length
def Up(P:Int→Prop)(ds:List D)(st:St)(r:D×St):Prop:=∃ (key:Nat) (v:Int×List Int) (b:Int) (s:Sta) (x:Ins),mOK v b s x∧P x.op∧GQ st key v s.pc s.fuel s.status s.clause (Eo s.stack) b∧ds=[.ptr key 0,CZ x]∧r=DR st key v b s x (DE v b s x)
noncomputable def I6(P:Int→Prop):List D→St→Option (D×St):=EY (Up P)
theorem Ymo(P:Int→Prop):Hs (Up P):=by
 rintro ds st r r' ⟨key,v,b,s,x,hm,_,hk,rfl,rfl⟩ ⟨V,v',b',s',x',E,_,I,h,rfl⟩;simp only[Aa,D.ptr.injEq,and_true,Ql]at h;obtain⟨rfl,rfl⟩:=h;obtain⟨rfl,J,M,N,O,Y,rfl⟩:=Z8 hm.v E.v hk I;have U:=Qv.1 Y;obtain⟨a1,a2,a3,a4,a5⟩:=s;obtain⟨b1,b2,b3,b4,b5⟩:=s';dsimp only at J M N O U;subst J; subst M; subst N; subst O; subst U;rfl
variable {x:Ins}{s:Sta}
theorem Yhn{P:Int→Prop}(E:mOK v b s x)(I:P x.op)(hk:GQ st key v s.pc s.fuel s.status s.clause (Eo s.stack) b):I6 P [.ptr key 0,CZ x] st=some (DR st key v b s x (DE v b s x)):=
 KK (Ymo P) ⟨key,v,b,s,x,E,I,hk,rfl,rfl⟩
theorem Ygu(h:F0 x=true):0≤x.n∧x.n≤9007199254740992∧(x.op=2→x.n<16):=by
 have:=of_decide_eq_true h;obtain⟨J,M,N,O,U,E⟩:=this;have hm:(I3 x.op).2≤9007199254740992:=by rcases qC x.op with e | e | e | e <;> rw[e] <;> decide
 refine⟨by omega,by omega,fun I=>?_⟩;have:I3 x.op=(1,15):=by rw[I]; rfl
 rw[this]at E;dsimp only at E;omega
theorem vJ(h:F0 x=true):1≤x.op∧x.op≤16:=⟨(of_decide_eq_true h).1,(of_decide_eq_true h).2.1⟩
theorem YL(a b:Int):Dd .and (.int .i64 a) (.int .i64 b)=some (.int .i64 (NF a b)):=(rfl)
theorem SU{n:Int}(h:0≤n):Dd .shl (.int .i64 1) (.int .i64 n)=some (.int .i64 (K3 n)):=by
 simp only[Dd,Le,show ¬ n<0 by omega,if_false,Ag,K3];rfl
theorem Hw(st:St)(l:List Int):EH st false (Eo l)=some (.int .i64 (l.length:Int)):=by simp[EH,IZ,Eo,EK]
theorem R8{c:Int}(hv:Fe v)(I:GQ st key v p f t c (Eo l) b)(x:Ins)(k:Nat)(J:Int)(M:J=(k:Int))(E:Option Int)(hk:k≤l.length)(hl:l.length≤64)(N:0≤p)(O:p≤100000) :
  NO [.ptr key 0,.int .i64 J,KD E] (st++[⟨false,1,Dx x,false⟩])=some (.int .i64 0,Ds st key (Ew v (p+1) f t c (Jo (st.length+1) l k E) b)++[⟨false,1,Dx x,false⟩]++HG l k E):=by
 subst M;have:=Yhm hv (Pc I [⟨false,1,Dx x,false⟩]) k E hk (by omega) (by omega) (by omega);rwa [Hx (Ln I),Li]at this
theorem Ypc:IContract Tryz.prog GG 177 (I6 (·=1)):=by
 refine IB (T:=tb [] [(195,NO)]) uO (DA all_nil (all_cons SZ all_nil)) ?_;intro ds st r V;obtain⟨key,v,b,s,x,hm,J,hk,rfl,rfl⟩:=Ii V;obtain⟨hv,Y,aa,hl,O,U,hf,hn⟩:=hm;have M:=Ln hk;have N:=R8 hv hk x 0 0 rfl (some x.n) (Bf _) hl O U;simp only[KD]at N;have E:=hk;unfold GQ at E;unfold jL
 by_cases I:64≤b+(s.stack.length:Int)
 ·rw[show DE v b s x=.err 200 by unfold DE; rw[if_pos J,if_pos I]];simp (disch:=first|omega|decide) only[push_cast,↓reduceIte,Cx,Cy,EU,Dw,HE M,E,OB hv,IH hv,Hw,DL,I,DR]
 ·rw[show DE v b s x=.pop 0 (some x.n) none by unfold DE; rw[if_pos J,if_neg I]];simp (disch:=first|omega|decide) only[push_cast,↓reduceIte,Cx,Cy,EU,Dw,HE M,E,OB hv,IH hv,Hw,DL,I,E2,Kn,Fp,N,DR,AT]
theorem Ype:IContract Tryz.prog GG 178 (I6 (·=2)):=by
 refine IB (T:=tb [] [(195,NO)]) uM (DA all_nil (all_cons SZ all_nil)) ?_;intro ds st r hr;obtain⟨key,v,b,s,x,hm,I,hk,rfl,rfl⟩:=Ii hr;obtain⟨hv,ah,a0,hl,ad,ae,hf,hn⟩:=hm;have M:=Ln hk;have J:=hk;unfold GQ at J;obtain⟨O,_,U⟩:=Ygu hf;have U:=U I;have a1:v.2.length=16:=hv;have V:=fun lent=>Uv hv lent s.pc s.fuel s.status s.clause (Eo s.stack) b x.n.toNat (by omega);have ab:=R8 hv hk x 0 0 rfl (some (Ee v.2 x.n.toNat)) (Bf _) hl ad ae;simp only[KD]at ab;have Y:¬ x.op=1:=by omega
 unfold jR
 by_cases E:64≤b+(s.stack.length:Int)
 ·rw[show DE v b s x=.err 200 by unfold DE; rw[if_neg Y,if_pos I,if_pos E]];simp (disch:=first|omega|decide) only[push_cast,↓reduceIte,Cx,Cy,Cz,EU,Dw,HE M,J,OB hv,IH hv,Hw,DL,DR,E]
 ·by_cases N:NF v.1 (K3 x.n)=0
  ·rw[show DE v b s x=.err 181 by unfold DE; rw[if_neg Y,if_pos I,if_neg E,if_pos N]];simp (disch:=first|omega|decide) only[push_cast,↓reduceIte,Cx,Cy,Cz,EU,Dw,HE M,J,OB hv,IH hv,Zp,Hw,DL,E2,Kn,DR,E,SU O,YL,N]
  ·by_cases h3:Ee v.2 x.n.toNat < -9007199254740992
   ·rw[show DE v b s x=.err 3 by unfold DE; rw[if_neg Y,if_pos I,if_neg E,if_neg N,if_pos (.inl h3)]];simp (disch:=first|omega|decide) only[push_cast,↓reduceIte,Cx,Cy,Cz,EU,Dw,HE M,J,OB hv,IH hv,Zp,Hw,DL,E2,Kn,DR,E,SU O,YL,N,NW,V,h3]
   ·by_cases h4:9007199254740992<Ee v.2 x.n.toNat
    ·rw[show DE v b s x=.err 3 by unfold DE; rw[if_neg Y,if_pos I,if_neg E,if_neg N,if_pos (.inr h4)]];simp (disch:=first|omega|decide) only[push_cast,↓reduceIte,Cx,Cy,Cz,EU,Dw,HE M,J,OB hv,IH hv,Zp,Hw,DL,E2,Kn,DR,E,SU O,YL,N,NW,V,h3,h4]
    ·rw[show DE v b s x=.pop 0 (some (Ee v.2 x.n.toNat)) none by unfold DE; rw[if_neg Y,if_pos I,if_neg E,if_neg N,if_neg (by omega)]];simp (disch:=first|omega|decide) only[push_cast,↓reduceIte,Cx,Cy,Cz,EU,Dw,HE M,J,OB hv,IH hv,Zp,Hw,DL,E2,Kn,Fp,DR,AT,E,SU O,YL,N,NW,V,h3,h4,ab]
theorem yP:IContract Tryz.prog GG 179 (I6 (·=12)):=by
 refine IB (T:=Px [(196,V1)] [(195,NO)] [(197,KE)]) uZ (ck (all_cons tu all_nil) (all_cons SZ all_nil) (all_cons gX all_nil)) ?_;intro ds st r Y;obtain⟨key,v,b,s,x,hm,M,hk,rfl,rfl⟩:=Ii Y;obtain⟨hv,aa,ab,hl,O,U,hf,hn⟩:=hm;have ac:=Ln hk;have V:=hk;unfold GQ at V;have ad:IG x.op=1:=by rw[M]; rfl
 have N:H5 KE [.ptr key 0,.int .i64 0] (st++[⟨false,1,Dx x,false⟩])=some (.int .i64 (C5 s 0)):=VH hv (Pc hk _) 0 (by omega) (by omega);have E:=R8 hv hk x 1 1 rfl (some (if x.n≤C5 s 0∧C5 s 0≤x.m then 1 else 0)) (by omega) hl O U;simp only[KD]at E;rw[show DE v b s x=.pop 1 (some (if x.n≤C5 s 0∧C5 s 0≤x.m then 1 else 0)) none by unfold DE; rw[if_neg (by omega),if_neg (by omega),if_pos M]];have hc:=pO (decide (x.n≤C5 s 0∧C5 s 0≤x.m));simp only[decide_eq_true_eq]at hc;unfold j3
 by_cases I:x.n≤C5 s 0
 ·by_cases J:C5 s 0≤x.m
  ·have hw:(if x.n≤C5 s 0∧C5 s 0≤x.m then(1:Int)else 0)=1:=if_pos ⟨I,J⟩;rw[hw]at E ⊢;rw[decide_eq_true ⟨I,J⟩]at hc;simp (disch:=first|omega|decide) only[push_cast,↓reduceIte,Cx,EU,E2,Kn,cF,Fp,DR,AT,I,J,N,hc,E]
  ·have hw:(if x.n≤C5 s 0∧C5 s 0≤x.m then(1:Int)else 0)=0:=if_neg (by omega);rw[hw]at E ⊢;rw[decide_eq_false (by omega)]at hc;simp (disch:=first|omega|decide) only[push_cast,↓reduceIte,Cx,EU,E2,Kn,cF,Fp,DR,AT,I,J,N,hc,E]
 ·have hw:(if x.n≤C5 s 0∧C5 s 0≤x.m then(1:Int)else 0)=0:=if_neg (by omega);rw[hw]at E ⊢;rw[decide_eq_false (by omega)]at hc;simp (disch:=first|omega|decide) only[push_cast,↓reduceIte,Cx,EU,E2,Kn,Fp,DR,AT,I,N,hc,E]
theorem Ypf:IContract Tryz.prog GG 181 (I6 (·=14)):=by
 refine IB (T:=tb [] []) uL (DA all_nil all_nil) ?_;intro ds st r M;obtain⟨key,v,b,s,x,hm,J,hk,rfl,rfl⟩:=Ii M;obtain⟨hv,N,O,hl,U,V,hf,hn⟩:=hm;have E:=Ln hk;have I:=hk;unfold GQ at I;rw[show DE v b s x=.set x.n s.status s.clause by unfold DE; rw[if_neg (by omega),if_neg (by omega),if_neg (by omega),if_neg (by omega),if_pos J]];unfold jQ;simp (disch:=first|omega|decide) only[push_cast,↓reduceIte,Cx,EU,Dw,HE E,I,E2,Kn,DR,YG hv,H8,Hx E]
theorem Ypd:IContract Tryz.prog GG 183 (I6 (·=16)):=by
 refine IB (T:=tb [] []) uN (DA all_nil all_nil) ?_;intro ds st r J;obtain⟨key,v,b,s,x,hm,E,hk,rfl,rfl⟩:=Ii J;obtain⟨hv,M,N,hl,O,U,hf,hn⟩:=hm;have V:=Ln hk;have I:=hk;unfold GQ at I;rw[show DE v b s x=.err 180 by unfold DE; rw[if_neg (by omega),if_neg (by omega),if_neg (by omega),if_neg (by omega),if_neg (by omega),if_neg (by omega),if_pos E]];unfold jS;simp (disch:=first|omega|decide) only[push_cast,↓reduceIte,EU,DR]
theorem Ygr(st:St)(key:Nat)(C:List D)(o:PI.Obj):(Ds st key C++[o])[st.length]?=some o:=by
 have:=E2 (Ds st key C) o;rwa [aT]at this
theorem Yo9:IContract Tryz.prog GG 180 (I6 (·=13)):=by
 refine IB (T:=Px [] [(195,NO)] [(197,KE)]) uP (ck all_nil (all_cons SZ all_nil) (all_cons gX all_nil)) ?_;intro ds st r Y;obtain⟨key,v,b,s,x,hm,E,hk,rfl,rfl⟩:=Ii Y;obtain⟨hv,aa,ab,hl,N,O,hf,hn⟩:=hm;have M:=Ln hk;have U:=hk;unfold GQ at U;have ac:IG x.op=1:=by rw[E]; rfl
 have V:H5 KE [.ptr key 0,.int .i64 0] (st++[⟨false,1,Dx x,false⟩])=some (.int .i64 (C5 s 0)):=VH hv (Pc hk _) 0 (by omega) (by omega);have I:=R8 hv hk x 1 1 rfl none (by omega) hl N O;simp only[KD,HG,Ad]at I;unfold jM
 by_cases J:C5 s 0=0
 ·rw[show DE v b s x=.pop 1 none (some x.n) by unfold DE; rw[if_neg (by omega),if_neg (by omega),if_neg (by omega),if_pos E,if_pos J]];simp (disch:=first|omega|decide) only[push_cast,↓reduceIte,Cx,EU,Dw,Kn,DR,Cd,V,J,I,Ygr,OU M,YG hv,H8,Mq M,HG]
 ·rw[show DE v b s x=.pop 1 none none by unfold DE; rw[if_neg (by omega),if_neg (by omega),if_neg (by omega),if_pos E,if_neg J]];simp (disch:=first|omega|decide) only[push_cast,↓reduceIte,Cx,EU,DR,AT,V,J,I,HG]
theorem Yva:IContract Tryz.prog GG 182 (I6 (·=15)):=by
 refine IB (T:=tb [] []) uG (DA all_nil all_nil) ?_;intro ds st r N;obtain⟨key,v,b,s,x,hm,J,hk,rfl,rfl⟩:=Ii N;obtain⟨hv,O,U,hl,V,Y,hf,hn⟩:=hm;have E:=Ln hk;have I:=hk;unfold GQ at I;rw[show DE v b s x=.set s.pc 1 x.n by unfold DE; rw[if_neg (by omega),if_neg (by omega),if_neg (by omega),if_neg (by omega),if_neg (by omega),if_pos J]];have M:(key == st.length)=false:=by rw[beq_eq_false_iff_ne]; omega
 unfold jE;simp (disch:=first|omega|decide) only[push_cast,↓EC,↓reduceIte,Cx,Cy,EU,Dw,HE E,I,E2,Kn,DR,Yr0 hv,Yrz hv,H8,Hx E,OU E,Mq E,M]
theorem Yc7:IContract Tryz.prog GG 231 (H4 VW):=Ypn.toI Tryz.func231 (by kernel_rfl) (by kernel_rfl)
theorem Yc5:IContract Tryz.prog GG 232 (H4 VY):=Ypl.toI Tryz.func232 (by kernel_rfl) (by kernel_rfl)
theorem Yc6:IContract Tryz.prog GG 233 (H4 VX):=Ypm.toI Tryz.func233 (by kernel_rfl) (by kernel_rfl)
theorem Ylb:IContract Tryz.prog GG 234 (H4 Y1):=Yvs.toI Tryz.func234 (by kernel_rfl) (by kernel_rfl)
theorem Yla:IContract Tryz.prog GG 235 (H4 Y2):=Yvr.toI Tryz.func235 (by kernel_rfl) (by kernel_rfl)
theorem Yk9:IContract Tryz.prog GG 236 (H4 Y3):=Yvq.toI Tryz.func236 (by kernel_rfl) (by kernel_rfl)
theorem Yk8:IContract Tryz.prog GG 238 (H4 Y4):=Yvp.toI Tryz.func238 (by kernel_rfl) (by kernel_rfl)
theorem Yk7:IContract Tryz.prog GG 239 (H4 Y5):=Yvo.toI Tryz.func239 (by kernel_rfl) (by kernel_rfl)
theorem Yk6:IContract Tryz.prog GG 240 (H4 Y6):=Yvn.toI Tryz.func240 (by kernel_rfl) (by kernel_rfl)
theorem yO:IContract Tryz.prog GG 184 (I6 (fun o=>3≤o∧o≤11)):=by
 refine IB (T:=Px [] [(195,NO),(231,H4 VW),(232,H4 VY),(233,H4 VX),(234,H4 Y1),(235,H4 Y2),(236,H4 Y3),(238,H4 Y4),(239,H4 Y5),(240,H4 Y6)] [(197,KE)]) uX (ck all_nil (all_cons SZ (all_cons Yc7 (all_cons Yc5 (all_cons Yc6 (all_cons Ylb (all_cons Yla (all_cons Yk9 (all_cons Yk8 (all_cons Yk7 (all_cons Yk6 all_nil)))))))))) (all_cons gX all_nil)) ?_;intro ds st r hr;obtain⟨key,v,b,s,x,hm,Y,hk,rfl,rfl⟩:=Ii hr;obtain⟨hv,ae,af,hl,aa,ab,hf,hn⟩:=hm;have ah:=Ln hk;have ac:=hk;unfold GQ at ac;have a0:IG x.op=2:=by unfold IG; rw[if_neg (by omega),if_pos Y]
 have M:H5 KE [.ptr key 0,.int .i64 0] (st++[⟨false,1,Dx x,false⟩])=some (.int .i64 (C5 s 0)):=VH hv (Pc hk _) 0 (by omega) (by omega);have N:H5 KE [.ptr key 0,.int .i64 1] (st++[⟨false,1,Dx x,false⟩])=some (.int .i64 (C5 s 1)):=VH hv (Pc hk _) 1 (by omega) (by omega);have I:=R8 hv hk x 2 2 rfl (some (DP x.op (C5 s 1) (C5 s 0)).1) (by omega) hl aa ab;simp only[KD]at I;have O:∀ f:Nat,Lw 0 1 false (.agg [.clo f []])=some (.clo f []):=fun f=>(rfl)
 have U:DE v b s x=if(DP x.op (C5 s 1) (C5 s 0)).2=0 then .pop 2 (some (DP x.op (C5 s 1) (C5 s 0)).1) none else .err (DP x.op (C5 s 1) (C5 s 0)).2:=by
  unfold DE; rw[if_neg (by omega),if_neg (by omega),if_neg (by omega),if_neg (by omega),if_neg (by omega),if_neg (by omega),if_neg (by omega)]
 have J:=eJ (st++[⟨false,1,Dx x,false⟩]) x.op false (.agg [.nilf]);have V:x.op=3∨x.op=4∨x.op=5∨x.op=6∨x.op=7∨x.op=8∨x.op=9∨x.op=10∨x.op=11:=by omega
 unfold j1;rcases V with e | e | e | e | e | e | e | e | e
 ·have hb:=Nb (zt (C5 s 1) (C5 s 0)) (st++[⟨false,1,Dx x,false⟩]);have E:DP x.op (C5 s 1) (C5 s 0)=Hp (C5 s 1) (C5 s 0):=by unfold DP; rw[if_pos e]
  rw[show Fv x.op EP=some 231 by rw[e]; rfl]at J
  by_cases he:(DP x.op (C5 s 1) (C5 s 0)).2=0
  ·rw[U,if_pos he];rw[E]at he I;rw[E];simp (disch:=first|omega|decide) only[push_cast,↓reduceIte,Cx,EU,E2,Fp,DR,AT,I2 _ _ _ _ FQ,Jj,FH,J,O,M,N,hb,he,I]
  ·rw[U,if_neg he];rw[E]at he;rw[E];simp (disch:=first|omega|decide) only[push_cast,↓reduceIte,Cx,EU,E2,DR,I2 _ _ _ _ FQ,Jj,FH,J,O,M,N,hb,he]
 ·have hb:=Nb (zv (C5 s 1) (C5 s 0)) (st++[⟨false,1,Dx x,false⟩]);have E:DP x.op (C5 s 1) (C5 s 0)=Hf (C5 s 1) (C5 s 0):=by unfold DP; rw[if_neg (by omega),if_pos e]
  rw[show Fv x.op EP=some 232 by rw[e]; rfl]at J
  by_cases he:(DP x.op (C5 s 1) (C5 s 0)).2=0
  ·rw[U,if_pos he];rw[E]at he I;rw[E];simp (disch:=first|omega|decide) only[push_cast,↓reduceIte,Cx,EU,E2,Fp,DR,AT,I2 _ _ _ _ FQ,Jj,FH,J,O,M,N,hb,he,I]
  ·rw[U,if_neg he];rw[E]at he;rw[E];simp (disch:=first|omega|decide) only[push_cast,↓reduceIte,Cx,EU,E2,DR,I2 _ _ _ _ FQ,Jj,FH,J,O,M,N,hb,he]
 ·have hb:=Nb (zu (C5 s 1) (C5 s 0)) (st++[⟨false,1,Dx x,false⟩]);have E:DP x.op (C5 s 1) (C5 s 0)=Hi (C5 s 1) (C5 s 0):=by unfold DP; rw[if_neg (by omega),if_neg (by omega),if_pos e]
  rw[show Fv x.op EP=some 233 by rw[e]; rfl]at J
  by_cases he:(DP x.op (C5 s 1) (C5 s 0)).2=0
  ·rw[U,if_pos he];rw[E]at he I;rw[E];simp (disch:=first|omega|decide) only[push_cast,↓reduceIte,Cx,EU,E2,Fp,DR,AT,I2 _ _ _ _ FQ,Jj,FH,J,O,M,N,hb,he,I]
  ·rw[U,if_neg he];rw[E]at he;rw[E];simp (disch:=first|omega|decide) only[push_cast,↓reduceIte,Cx,EU,E2,DR,I2 _ _ _ _ FQ,Jj,FH,J,O,M,N,hb,he]
 ·have hb:=Nb (Ya8 (C5 s 1) (C5 s 0)) (st++[⟨false,1,Dx x,false⟩]);have E:DP x.op (C5 s 1) (C5 s 0)=(min (C5 s 1) (C5 s 0),0):=by unfold DP; rw[if_neg (by omega),if_neg (by omega),if_neg (by omega),if_pos e]
  rw[show Fv x.op EP=some 234 by rw[e]; rfl]at J
  by_cases he:(DP x.op (C5 s 1) (C5 s 0)).2=0
  ·rw[U,if_pos he];rw[E]at he I;rw[E];simp (disch:=first|omega|decide) only[push_cast,↓reduceIte,Cx,EU,E2,Fp,DR,AT,I2 _ _ _ _ FQ,Jj,FH,J,O,M,N,hb,I]
  ·rw[E]at he;exact absurd rfl he
 ·have hb:=Nb (Ya7 (C5 s 1) (C5 s 0)) (st++[⟨false,1,Dx x,false⟩]);have E:DP x.op (C5 s 1) (C5 s 0)=(max (C5 s 1) (C5 s 0),0):=by unfold DP; rw[if_neg (by omega),if_neg (by omega),if_neg (by omega),if_neg (by omega),if_pos e]
  rw[show Fv x.op EP=some 235 by rw[e]; rfl]at J
  by_cases he:(DP x.op (C5 s 1) (C5 s 0)).2=0
  ·rw[U,if_pos he];rw[E]at he I;rw[E];simp (disch:=first|omega|decide) only[push_cast,↓reduceIte,Cx,EU,E2,Fp,DR,AT,I2 _ _ _ _ FQ,Jj,FH,J,O,M,N,hb,I]
  ·rw[E]at he;exact absurd rfl he
 ·have hb:=Nb (Ya6 (C5 s 1) (C5 s 0)) (st++[⟨false,1,Dx x,false⟩]);have E:DP x.op (C5 s 1) (C5 s 0)=Ec (C5 s 1) (C5 s 0) 8:=by unfold DP; rw[if_neg (by omega),if_neg (by omega),if_neg (by omega),if_neg (by omega),if_neg (by omega),if_pos e]
  rw[show Fv x.op EP=some 236 by rw[e]; rfl]at J
  by_cases he:(DP x.op (C5 s 1) (C5 s 0)).2=0
  ·rw[U,if_pos he];rw[E]at he I;rw[E];simp (disch:=first|omega|decide) only[push_cast,↓reduceIte,Cx,EU,E2,Fp,DR,AT,I2 _ _ _ _ FQ,Jj,FH,J,O,M,N,hb,he,I]
  ·rw[U,if_neg he];rw[E]at he;rw[E];simp (disch:=first|omega|decide) only[push_cast,↓reduceIte,Cx,EU,E2,DR,I2 _ _ _ _ FQ,Jj,FH,J,O,M,N,hb,he]
 ·have hb:=Nb (Ya5 (C5 s 1) (C5 s 0)) (st++[⟨false,1,Dx x,false⟩]);have E:DP x.op (C5 s 1) (C5 s 0)=Ec (C5 s 1) (C5 s 0) 9:=by unfold DP; rw[if_neg (by omega),if_neg (by omega),if_neg (by omega),if_neg (by omega),if_neg (by omega),if_neg (by omega),if_pos e]
  rw[show Fv x.op EP=some 238 by rw[e]; rfl]at J
  by_cases he:(DP x.op (C5 s 1) (C5 s 0)).2=0
  ·rw[U,if_pos he];rw[E]at he I;rw[E];simp (disch:=first|omega|decide) only[push_cast,↓reduceIte,Cx,EU,E2,Fp,DR,AT,I2 _ _ _ _ FQ,Jj,FH,J,O,M,N,hb,he,I]
  ·rw[U,if_neg he];rw[E]at he;rw[E];simp (disch:=first|omega|decide) only[push_cast,↓reduceIte,Cx,EU,E2,DR,I2 _ _ _ _ FQ,Jj,FH,J,O,M,N,hb,he]
 ·have hb:=Nb (Ya4 (C5 s 1) (C5 s 0)) (st++[⟨false,1,Dx x,false⟩]);have E:DP x.op (C5 s 1) (C5 s 0)=Ec (C5 s 1) (C5 s 0) 10:=by unfold DP; rw[if_neg (by omega),if_neg (by omega),if_neg (by omega),if_neg (by omega),if_neg (by omega),if_neg (by omega),if_neg (by omega),if_pos e]
  rw[show Fv x.op EP=some 239 by rw[e]; rfl]at J
  by_cases he:(DP x.op (C5 s 1) (C5 s 0)).2=0
  ·rw[U,if_pos he];rw[E]at he I;rw[E];simp (disch:=first|omega|decide) only[push_cast,↓reduceIte,Cx,EU,E2,Fp,DR,AT,I2 _ _ _ _ FQ,Jj,FH,J,O,M,N,hb,he,I]
  ·rw[U,if_neg he];rw[E]at he;rw[E];simp (disch:=first|omega|decide) only[push_cast,↓reduceIte,Cx,EU,E2,DR,I2 _ _ _ _ FQ,Jj,FH,J,O,M,N,hb,he]
 ·have hb:=Nb (Ya3 (C5 s 1) (C5 s 0)) (st++[⟨false,1,Dx x,false⟩]);have E:DP x.op (C5 s 1) (C5 s 0)=(if C5 s 1<C5 s 0 then 1 else 0,0):=by unfold DP; rw[if_neg (by omega),if_neg (by omega),if_neg (by omega),if_neg (by omega),if_neg (by omega),if_neg (by omega),if_neg (by omega),if_neg (by omega),if_pos e]
  rw[show Fv x.op EP=some 240 by rw[e]; rfl]at J
  by_cases he:(DP x.op (C5 s 1) (C5 s 0)).2=0
  ·rw[U,if_pos he];rw[E]at he I;rw[E];simp (disch:=first|omega|decide) only[push_cast,↓reduceIte,Cx,EU,E2,Fp,DR,AT,I2 _ _ _ _ FQ,Jj,FH,J,O,M,N,hb,I]
  ·rw[E]at he;exact absurd rfl he
def KZ(o:Option PI.Obj)(sz:Nat)(ks:List Nat)(ok:Bool)(zero k:D):Option D:=match o with
 |some o=>if o.isMap && o.sz == sz && (HC sz ks k k).isSome then match Ki sz ks k o.els 0 with
   |some (some i)=>match o.els[i]? with
    |some el=>some (if ok then .tup [GY sz el,.bool true]else GY sz el)
    |none=>none
   |some none=>some (if ok then .tup [zero,.bool false]else zero)
   |none=>none
  else none
 |none=>none
theorem Jd(st:St)(sz:Nat)(ks:List Nat)(ok:Bool)(E k:D)(key:Nat):Iz st sz ks ok E (.mapv key) k=KZ st[key]? sz ks ok E k:=(rfl)
def JR(o:Option PI.Obj)(sz:Nat)(ks:List Nat)(k v:D):Option PI.Obj:=match o with
 |some o=>if o.isMap && o.sz == sz && !o.lent && v.isCell && k.cells.length+1 == sz && k.cells.all D.isCell && HC sz ks k k == some true then match Ki sz ks k o.els 0 with
   |some (some i)=>some {o with els:=o.els.set i (.agg (k.cells++[v]))}
   |some none=>some {o with els:=o.els++[.agg (k.cells++[v])]}
   |none=>none
  else none
 |none=>none
theorem IL(st:St)(sz:Nat)(ks:List Nat)(k v:D)(key:Nat):Ro st sz ks (.mapv key) k v=(JR st[key]? sz ks k v).map fun o=>st.set key o:=by
 simp only[Ro,JR]
 cases st[key]? with
 |none=>rfl
 |some o=>
  simp only
  split
  ·cases Ki sz ks k o.els 0 with
   |none=>rfl
   |some r=>cases r <;> rfl
  ·rfl
def MB:List (Int×Nat):=[(1,5000177),(2,5000178),(12,5000179),(13,5000180),(14,5000181),(15,5000182),(16,5000183)]
def U9(k:Nat)(p:Int×Nat):D:=.agg [.int .i64 p.1,.clo p.2 [.ptr k 0]]
def IU(k i:Nat):List D:=(MB.take i).map (U9 k)
theorem Jx(k:Nat):JR (some ⟨false,2,[],false⟩) 2 [0] (.int .i64 1) (.clo 5000177 [.ptr k 0])=some ⟨false,2,IU k 1,false⟩:=(rfl)
theorem Jw(k:Nat):JR (some ⟨false,2,IU k 1,false⟩) 2 [0] (.int .i64 2) (.clo 5000178 [.ptr k 0])=some ⟨false,2,IU k 2,false⟩:=(rfl)
theorem Jv(k:Nat):JR (some ⟨false,2,IU k 2,false⟩) 2 [0] (.int .i64 12) (.clo 5000179 [.ptr k 0])=some ⟨false,2,IU k 3,false⟩:=(rfl)
theorem Ju(k:Nat):JR (some ⟨false,2,IU k 3,false⟩) 2 [0] (.int .i64 13) (.clo 5000180 [.ptr k 0])=some ⟨false,2,IU k 4,false⟩:=(rfl)
theorem Jt(k:Nat):JR (some ⟨false,2,IU k 4,false⟩) 2 [0] (.int .i64 14) (.clo 5000181 [.ptr k 0])=some ⟨false,2,IU k 5,false⟩:=(rfl)
theorem Js(k:Nat):JR (some ⟨false,2,IU k 5,false⟩) 2 [0] (.int .i64 15) (.clo 5000182 [.ptr k 0])=some ⟨false,2,IU k 6,false⟩:=(rfl)
theorem Jr(k:Nat):JR (some ⟨false,2,IU k 6,false⟩) 2 [0] (.int .i64 16) (.clo 5000183 [.ptr k 0])=some ⟨false,2,IU k 7,false⟩:=(rfl)
theorem OD(k:Nat)(op:Int)(f:Nat)(h:Fv op MB=some f):KZ (some ⟨false,2,IU k 7,false⟩) 2 [0] true .nilf (.int .i64 op)=some (.tup [.clo f [.ptr k 0],.bool true]):=by
 simp only[MB,Fv]at h
 split at h
 ·simp only[CX]at h; subst h; rename_i e; subst e; rfl
 split at h
 ·simp only[CX]at h; subst h; rename_i e; subst e; rfl
 split at h
 ·simp only[CX]at h; subst h; rename_i e; subst e; rfl
 split at h
 ·simp only[CX]at h; subst h; rename_i e; subst e; rfl
 split at h
 ·simp only[CX]at h; subst h; rename_i e; subst e; rfl
 split at h
 ·simp only[CX]at h; subst h; rename_i e; subst e; rfl
 split at h
 ·simp only[CX]at h; subst h; rename_i e; subst e; rfl
 cases h
theorem Ymr(k:Nat)(op:Int)(h:3≤op∧op≤11):KZ (some ⟨false,2,IU k 7,false⟩) 2 [0] true .nilf (.int .i64 op)=some (.tup [.nilf,.bool false]):=by
 have:op=3∨op=4∨op=5∨op=6∨op=7∨op=8∨op=9∨op=10∨op=11:=by omega
 rcases this with rfl | rfl | rfl | rfl | rfl | rfl | rfl | rfl | rfl <;> rfl
theorem NM(st:St)(a b:PI.Obj):(st++[a]++[b])[st.length+1]?=some b:=by
 have:=E2 (st++[a]) b;rwa [Li]at this
theorem NL(st:St)(a b:PI.Obj):(st++[a]++[b])[st.length]?=some a:=by
 rw[HE (by rw[Li]; omega),E2]
theorem NN(st:St)(a b b':PI.Obj):(st++[a]++[b]).set (st.length+1) b'=st++[a]++[b']:=by
 have:=lz (st++[a]) b b';rwa [Li]at this
structure eOK (v:Int×List Int) (b:Int) (s:Sta) (x:Ins):Prop where
 v:Fe v
 b0:0≤b
 b1:b≤64
 l:s.stack.length≤64
 p0:0≤s.pc
 p1:s.pc≤100000
 f:F0 x=true
def Gp(v:Int×List Int)(b:Int)(s:Sta)(x:Ins):Out:=if(s.stack.length:Int)<IG x.op then .err 200 else DE v b s x
def JA(st:St)(key:Nat)(s:Sta)(x:Ins):St:=if(s.stack.length:Int)<IG x.op then st else st++[⟨false,1,Dx x,false⟩]++[⟨false,2,IU key 7,false⟩]
def U8(ds:List D)(st:St)(r:D×St):Prop:=∃ (key:Nat) (v:Int×List Int) (b:Int) (s:Sta) (x:Ins),eOK v b s x∧GQ st key v s.pc s.fuel s.status s.clause (Eo s.stack) b∧ds=[.ptr key 0,CZ x]∧r=DR (JA st key s x) key v b s x (Gp v b s x)
noncomputable def YC:List D→St→Option (D×St):=EY U8
theorem Yow:Hs U8:=by
 rintro ds st r r' ⟨key,v,b,s,x,hm,hk,rfl,rfl⟩ ⟨V,v',b',s',x',E,I,h,rfl⟩;simp only[Aa,D.ptr.injEq,and_true,Ql]at h;obtain⟨rfl,rfl⟩:=h;obtain⟨rfl,J,M,N,O,Y,rfl⟩:=Z8 hm.v E.v hk I;have U:=Qv.1 Y;obtain⟨a1,a2,a3,a4,a5⟩:=s;obtain⟨b1,b2,b3,b4,b5⟩:=s';dsimp only at J M N O U;subst J; subst M; subst N; subst O; subst U;rfl
theorem Yht(E:eOK v b s x)(hk:GQ st key v s.pc s.fuel s.status s.clause (Eo s.stack) b):YC [.ptr key 0,CZ x] st=some (DR (JA st key s x) key v b s x (Gp v b s x)):=
 KK Yow ⟨key,v,b,s,x,E,hk,rfl,rfl⟩
theorem II:bO 2=some ⟨false,2,[],false⟩:=(rfl)
set_option maxHeartbeats 8000000 in
set_option maxRecDepth 20000 in
theorem Yvc:IContract Tryz.prog GG 157 YC:=by
 refine IB (T:=tb [(109,VZ)] [(177,I6 (·=1)),(178,I6 (·=2)),(179,I6 (·=12)),(180,I6 (·=13)),(181,I6 (·=14)),(182,I6 (·=15)),(183,I6 (·=16)),(184,I6 (fun o=>3≤o∧o≤11))])
  uY (DA (all_cons tr all_nil) (all_cons Ypc (all_cons Ype (all_cons yP (all_cons Yo9 (all_cons Ypf (all_cons Yva (all_cons Ypd (all_cons yO all_nil))))))))) ?_
 intro ds st r hr;obtain⟨key,v,b,s,x,⟨hv,Y,aa,hl,ab,ac,hf⟩,hk,rfl,rfl⟩:=Ii hr;have N:=Ln hk;have E:=hk;unfold GQ at E;have O:=pM x.op;have af:=vJ hf;unfold j2
 by_cases U:(s.stack.length:Int)<IG x.op
 ·rw[show Gp v b s x=.err 200 from if_pos U,show JA st key s x=st from if_pos U];simp (disch:=first|omega|decide) only[push_cast,↓reduceIte,Cx,Cy,EU,Dw,HE N,E,IH hv,Hw,E2,FH,O,U,DR]
 ·rw[show Gp v b s x=DE v b s x from if_neg U,show JA st key s x=_ from if_neg U];have hm:mOK v b s x:=⟨hv,Y,aa,hl,ab,ac,hf,by omega⟩;have ad:GQ (st++[⟨false,1,Dx x,false⟩]++[⟨false,2,IU key 7,false⟩]) key v s.pc s.fuel s.status s.clause (Eo s.stack) b:=Pc (Pc hk _) _
  have fin:∀ (P:Int→Prop),P x.op→∃ d st',I6 P [.ptr key 0,CZ x] (st++[⟨false,1,Dx x,false⟩]++[⟨false,2,IU key 7,false⟩])=some (d,st')∧DR (st++[⟨false,1,Dx x,false⟩]++[⟨false,2,IU key 7,false⟩]) key v b s x (DE v b s x)=(d,st'):=
   fun P hP=>⟨_,_,Yhn hm hP ad,rfl⟩
  have V:x.op=1∨x.op=2∨x.op=12∨x.op=13∨x.op=14∨x.op=15∨x.op=16∨(3≤x.op∧x.op≤11):=by omega
  rcases V with e | e | e | e | e | e | e | e
  ·obtain⟨d,st',I,J⟩:=fin (·=1) e;have M:=OD key x.op _ (show Fv x.op MB=some 5000177 by rw[e]; rfl);rw[J];simp (disch:=first|omega|decide) only[push_cast,↓reduceIte,Cx,Cy,EU,Dw,HE N,E,IH hv,Hw,E2,FH,O,U,Li,IL,Jd,NM,NN,NL,II,Jx,Jw,Jv,Ju,Jt,Js,Jr,M,MJ,N5 _ 5000177 177 _ rfl (by decide),I]
  ·obtain⟨d,st',I,J⟩:=fin (·=2) e;have M:=OD key x.op _ (show Fv x.op MB=some 5000178 by rw[e]; rfl);rw[J];simp (disch:=first|omega|decide) only[push_cast,↓reduceIte,Cx,Cy,EU,Dw,HE N,E,IH hv,Hw,E2,FH,O,U,Li,IL,Jd,NM,NN,NL,II,Jx,Jw,Jv,Ju,Jt,Js,Jr,M,MJ,N5 _ 5000178 178 _ rfl (by decide),I]
  ·obtain⟨d,st',I,J⟩:=fin (·=12) e;have M:=OD key x.op _ (show Fv x.op MB=some 5000179 by rw[e]; rfl);rw[J];simp (disch:=first|omega|decide) only[push_cast,↓reduceIte,Cx,Cy,EU,Dw,HE N,E,IH hv,Hw,E2,FH,O,U,Li,IL,Jd,NM,NN,NL,II,Jx,Jw,Jv,Ju,Jt,Js,Jr,M,MJ,N5 _ 5000179 179 _ rfl (by decide),I]
  ·obtain⟨d,st',I,J⟩:=fin (·=13) e;have M:=OD key x.op _ (show Fv x.op MB=some 5000180 by rw[e]; rfl);rw[J];simp (disch:=first|omega|decide) only[push_cast,↓reduceIte,Cx,Cy,EU,Dw,HE N,E,IH hv,Hw,E2,FH,O,U,Li,IL,Jd,NM,NN,NL,II,Jx,Jw,Jv,Ju,Jt,Js,Jr,M,MJ,N5 _ 5000180 180 _ rfl (by decide),I]
  ·obtain⟨d,st',I,J⟩:=fin (·=14) e;have M:=OD key x.op _ (show Fv x.op MB=some 5000181 by rw[e]; rfl);rw[J];simp (disch:=first|omega|decide) only[push_cast,↓reduceIte,Cx,Cy,EU,Dw,HE N,E,IH hv,Hw,E2,FH,O,U,Li,IL,Jd,NM,NN,NL,II,Jx,Jw,Jv,Ju,Jt,Js,Jr,M,MJ,N5 _ 5000181 181 _ rfl (by decide),I]
  ·obtain⟨d,st',I,J⟩:=fin (·=15) e;have M:=OD key x.op _ (show Fv x.op MB=some 5000182 by rw[e]; rfl);rw[J];simp (disch:=first|omega|decide) only[push_cast,↓reduceIte,Cx,Cy,EU,Dw,HE N,E,IH hv,Hw,E2,FH,O,U,Li,IL,Jd,NM,NN,NL,II,Jx,Jw,Jv,Ju,Jt,Js,Jr,M,MJ,N5 _ 5000182 182 _ rfl (by decide),I]
  ·obtain⟨d,st',I,J⟩:=fin (·=16) e;have M:=OD key x.op _ (show Fv x.op MB=some 5000183 by rw[e]; rfl);rw[J];simp (disch:=first|omega|decide) only[push_cast,↓reduceIte,Cx,Cy,EU,Dw,HE N,E,IH hv,Hw,E2,FH,O,U,Li,IL,Jd,NM,NN,NL,II,Jx,Jw,Jv,Ju,Jt,Js,Jr,M,MJ,N5 _ 5000183 183 _ rfl (by decide),I]
  ·obtain⟨d,st',I,J⟩:=fin (fun o=>3≤o∧o≤11) e;have M:=Ymr key x.op e;rw[J];simp (disch:=first|omega|decide) only[push_cast,↓reduceIte,Cx,Cy,EU,Dw,HE N,E,IH hv,Hw,E2,FH,O,U,Li,IL,Jd,NM,NN,NL,II,Jx,Jw,Jv,Ju,Jt,Js,Jr,M,MJ,I]
def FL(s:Sta):Out→Sta
 |.err e=>{s with status:=10+e}
 |.pop k push pc=>{s with pc:=pc.getD (s.pc+1),stack:=s.stack.take (s.stack.length - k)++push.toList}
 |.set p t c=>{s with pc:=p,status:=t,clause:=c}
def Dh(s:Sta):Sta:={s with fuel:=s.fuel - 1}
def Gs(v:Int×List Int)(b:Int)(s:Sta)(x:Ins):Sta:=if s.fuel=0 then {s with status:=220} else FL (Dh s) (Gp v b (Dh s) x)
structure aOK (c:List Ins) (v:Int×List Int) (s:Sta) (b:Int):Prop where
 v:Fe v
 b0:0≤b
 b1:b≤64
 l:s.stack.length≤64
 p0:0≤s.pc
 p1:s.pc<c.length
 cl:c.length≤4096
 f:c.all F0=true
 u0:0≤s.fuel
 u1:s.fuel≤32768
theorem Yic(op a b:Int):0≤(DP op a b).2∧(DP op a b).2≤100:=by
 have I:∀ c,0≤(Kv c).2∧(Kv c).2≤100:=fun c=>by unfold Kv; split <;> exact⟨by simp,by simp⟩
 have J:∀ a b m,0≤(Ec a b m).2∧(Ec a b m).2≤100:=fun a b m=>by
  unfold Ec
  split
  ·split <;> exact⟨by simp,by simp⟩
  ·exact⟨by simp,by simp⟩
 have ha:0≤(Hp a b).2∧(Hp a b).2≤100:=by unfold Hp; split <;> first | exact I _ | exact⟨by simp,by simp⟩
 have M:0≤(Hf a b).2∧(Hf a b).2≤100:=by unfold Hf; split <;> first | exact I _ | exact⟨by simp,by simp⟩
 have hm:0≤(Hi a b).2∧(Hi a b).2≤100:=by unfold Hi; split <;> first | exact I _ | exact⟨by simp,by simp⟩
 have E:∀ n:Int,0≤((n,0):Int×Int).2∧((n,0):Int×Int).2≤100:=fun n=>⟨by simp,by simp⟩;unfold DP
 split; · exact ha
 split; · exact M
 split; · exact hm
 split; · exact E _
 split; · exact E _
 split; · exact J _ _ _
 split; · exact J _ _ _
 split; · exact J _ _ _
 split; · exact E _
 exact E _
theorem kD{e:Int}(h:Gp v b s x=.err e):1≤e∧e≤1000:=by
 have E:=Yic x.op (C5 s 1) (C5 s 0);unfold Gp DE at h
 repeat' split at h
 all_goals first | (cases h; done) | (simp only[Out.err.injEq]at h; omega)
theorem Yoy{k:Nat}{E pc:Option Int}(h:Gp v b s x=.pop k E pc):¬ (s.stack.length:Int)<IG x.op:=by
 intro I;unfold Gp at h;rw[if_pos I]at h;cases h
theorem Yox{c:Int}(h:Gp v b s x=.set p t c):¬ (s.stack.length:Int)<IG x.op:=by
 intro E;unfold Gp at h;rw[if_pos E]at h;cases h
theorem vw(v:Int×List Int)(hv:Fe v)(s:Sta)(b:Int):DD [.int .i64 0,.int .i64 0,.int .i64 0,.int .i64 0,.int .i64 0,.int .i64 0,.int .i64 0,.int .i64 0,.int .i64 0,.int .i64 0,.int .i64 0,.int .i64 0,.int .i64 0,.int .i64 0,.int .i64 0,.int .i64 0,.int .i64 0,.int .i64 0,.int .i64 0,.int .i64 0,.int .i64 0,.slc 0 [] true,.int .i64 0]
  [(0,17,Ev v),(17,5,Eb s),(22,1,.int .i64 b)]=some (Ew v s.pc s.fuel s.status s.clause (Eo s.stack) b):=by
 refine(IA (cs':=Ef v++([.int .i64 0,.int .i64 0,.int .i64 0,.int .i64 0,.slc 0 [] true]++[.int .i64 0])) (A:=[]) (B:=CD 17 (.int .i64 0)) (C:=[.int .i64 0,.int .i64 0,.int .i64 0,.int .i64 0,.slc 0 [] true,.int .i64 0]) (xs:=Ef v) rfl rfl rfl rfl rfl (Je hv) (ZF (v.1::v.2))).trans ?_;refine(IA (cs':=Ef v++(Em s++[.int .i64 0])) (A:=Ef v) (B:=[.int .i64 0,.int .i64 0,.int .i64 0,.int .i64 0,.slc 0 [] true]) (C:=[.int .i64 0]) (xs:=Em s) rfl rfl (Je hv) rfl rfl rfl (Ydc s)).trans ?_;refine(IA (cs':=Ew v s.pc s.fuel s.status s.clause (Eo s.stack) b) (A:=Ef v++Em s) (B:=[.int .i64 0]) (C:=[]) (xs:=[.int .i64 b]) (by simp) (by simp[Ew,Em]) (by simp[Je hv,Em]) rfl rfl rfl rfl).trans ?_;rfl
theorem Yh5(v:Int×List Int)(p f t c:Int)(sz:Nat)(els:List D)(E:Bool)(b:Int):Dv (.agg (Ew v p f t c (.slc sz els E) b))=some (Ew v p f t c (.slc sz els E) b):=by
 have h:(Ew v p f t c (.slc sz els E) b).all D.isCell=true:=by
  rw[Ew,Bw,eg,ZF];rfl
 rw[show Dv (.agg (Ew v p f t c (.slc sz els E) b))=if(Ew v p f t c (.slc sz els E) b).all D.isCell then some (Ew v p f t c (.slc sz els E) b)else none from rfl,if_pos h]
theorem V9(v:Int×List Int)(p f t c:Int)(l:List Int)(b:Int):Dv (.agg (Ew v p f t c (Eo l) b))=some (Ew v p f t c (Eo l) b):=Yh5 v p f t c _ _ _ b
theorem yMo(l:List Int):(Eo l).isCell=true:=(rfl)
theorem wm(st:St)(l:List Int):Du st (Eo l)=some (Eo l):=by simp only[Eo,dL,Kj]
theorem Yub(E o1 o2 I J M N:PI.Obj)(A:List Int)(m:Nat)(h:A.length=m):Du [E,o1,o2,I,J,M,N,⟨true,1,A.map nI,false⟩] (.row 7 m 0 m)=some (Eo A):=by
 have O:Hb [E,o1,o2,I,J,M,N,⟨true,1,A.map nI,false⟩] 7 m 0 m=some (1,A.map nI):=by
  simp only[Hb,Bo,AH];rw[if_pos (by simp[h]),Bt,AU (by simp[h])]
 simp only[Du,O,Ag];rfl
theorem Zx(s:Sta)(n:Int):DQ (some ⟨false,1,Em s,false⟩) 1 1 (.int .i64 n)=some ⟨false,1,Em {s with fuel:=n},false⟩:=(rfl)
theorem rY(s:Sta)(n:Int):DQ (some ⟨false,1,Em s,false⟩) 1 2 (.int .i64 n)=some ⟨false,1,Em {s with status:=n},false⟩:=(rfl)
theorem KS(a b c d S:D):DQ (some ⟨false,1,[.int .i64 0,.int .i64 0,.int .i64 0,.int .i64 0,.slc 0 [] true],false⟩) 5 0 (.agg [a,b,c,d,S])=if [a,b,c,d,S].all D.isCell then some ⟨false,1,[a,b,c,d,S],false⟩else none:=by
 simp only[DQ]; rfl
theorem K0(lent:Bool)(a b c d S:D):Dn (some ⟨false,1,[a,b,c,d,S],lent⟩) 5 true 0=some (.agg [a,b,c,d,S]):=(rfl)
noncomputable def bT:List D→Option D:=Dc (α:=List Ins×(Int×List Int)×Sta×Int) (fun a=>[.slc (nz 3 (a.1.map CZ)) (a.1.map CZ) false,Ev a.2.1,Eb a.2.2.1,.int .i64 a.2.2.2]) (fun a=>aOK a.1 a.2.1 a.2.2.1 a.2.2.2) (fun a=>Eb (Gs a.2.1 a.2.2.2 a.2.2.1 (a.1.getD a.2.2.1.pc.toNat default)))
theorem Yhx(c:List Ins)(v:Int×List Int)(s:Sta)(b:Int)(h:aOK c v s b):bT [.slc (nz 3 (c.map CZ)) (c.map CZ) false,Ev v,Eb s,.int .i64 b]=some (Eb (Gs v b s (c.getD s.pc.toNat default))):=
 DW (fun⟨a0,a1,E,I⟩ ⟨b0,b1,J,M⟩ h=>by simp only[Aa,D.slc.injEq,D.int.injEq,true_and,and_true,J2,V3,KI]at h; simp[h]) (c,v,s,b) h
set_option maxHeartbeats 4000000 in
set_option maxRecDepth 20000 in
theorem Tv(c:List Ins)(v:Int×List Int)(s:Sta)(b:Int)(h:aOK c v s b):@wW GG (tb [] [(157,YC)]) Xp.code (C3 [.slc (nz 3 (c.map CZ)) (c.map CZ) false,Ev v,Eb s,.int .i64 b]) [] ⟨Df Xp.res (Eb (Gs v b s (c.getD s.pc.toNat default)))⟩:=by
 obtain⟨hv,aa,ab,hl,ac,a3,hc,hf,a4,a5⟩:=h;have V:s.pc.toNat<c.length:=by omega
 unfold Xp
 by_cases M:s.fuel=0
 ·rw[show Gs v b s (c.getD s.pc.toNat default)={s with status:=220} from if_pos M];simp (disch:=first|omega|decide) only[push_cast,↓reduceIte,Cx,Cy,GD,I7,Ks,JL,M,rY,Lf,NT,MR]
 ·rw[show Gs v b s (c.getD s.pc.toNat default)=FL (Dh s) (Gp v b (Dh s) (c.getD s.pc.toNat default))from if_neg M];have J:=fun st=>Rx st c false s.pc.toNat V;rw[show((s.pc.toNat:Nat):Int)=s.pc by omega]at J
  have Y:F0 (c.getD s.pc.toNat default)=true:=by
   rw[Ao,An V];exact Aj.1 hf _ (By V)
  obtain⟨x,ad⟩:∃ x,c.getD s.pc.toNat default=x:=⟨_,rfl⟩;rw[ad]at J Y ⊢;have J:∀ st:St,FY st 3 (.slc (nz 3 (c.map CZ)) (c.map CZ) false) (.int .i64 (Dh s).pc)=some (.eptr (CZ x) 0):=J;have he:eOK v b (Dh s) x:=⟨hv,aa,ab,hl,ac,by show s.pc≤100000; omega,Y⟩;have E:=Yht (st:=[⟨false,1,Ef v,false⟩,⟨false,1,Em (Dh s),false⟩,⟨false,1,[.int .i64 0,.int .i64 0,.int .i64 0,.int .i64 0,.slc 0 [] true],false⟩,⟨false,1,Ew v (Dh s).pc (Dh s).fuel (Dh s).status (Dh s).clause (Eo (Dh s).stack) b,false⟩]) (key:=3) he rfl;have N:=vw v hv (Dh s) b;have O:(⟨s.pc,s.fuel - 1,s.status,s.clause,s.stack⟩:Sta)=Dh s:=rfl
  cases U:Gp v b (Dh s) x with
  |err e=>
   have a6:=kD U;rw[U]at E
   have I:∃ l,JA [⟨false,1,Ef v,false⟩,⟨false,1,Em (Dh s),false⟩,⟨false,1,[.int .i64 0,.int .i64 0,.int .i64 0,.int .i64 0,.slc 0 [] true],false⟩,⟨false,1,Ew v (Dh s).pc (Dh s).fuel (Dh s).status (Dh s).clause (Eo (Dh s).stack) b,false⟩] 3 (Dh s) x=⟨false,1,Ef v,false⟩::⟨false,1,Em (Dh s),false⟩::⟨false,1,[.int .i64 0,.int .i64 0,.int .i64 0,.int .i64 0,.slc 0 [] true],false⟩::l:=by
    unfold JA; split <;> exact⟨_,rfl⟩
   obtain⟨l,I⟩:=I;rw[I]at E;simp only[DR,Ae]at E;have ae:¬ e=0:=by omega
   simp (disch:=first|omega|decide) only[push_cast,↓reduceIte,Cx,Cy,GD,I7,Ks,JL,M,Fa,Zx,O,I0 hv,Lf,N,V9,Jl,J,JM,E,ae,DL,rY,NT,MR,FL]
  |pop k push pc=>
   rw[U]at E;have I:=Yoy U;rw[show JA [⟨false,1,Ef v,false⟩,⟨false,1,Em (Dh s),false⟩,⟨false,1,[.int .i64 0,.int .i64 0,.int .i64 0,.int .i64 0,.slc 0 [] true],false⟩,⟨false,1,Ew v (Dh s).pc (Dh s).fuel (Dh s).status (Dh s).clause (Eo (Dh s).stack) b,false⟩] 3 (Dh s) x=_ from if_neg I]at E;simp only[DR]at E
   cases push with
   |none=>
    simp only[Jo,HG,Ds,Ae,Ai,Ad,Cm,Bn]at E;simp (disch:=first|omega|decide) only[push_cast,↓reduceIte,Cx,Cy,GD,I7,Ks,JL,M,Fa,Zx,O,I0 hv,Lf,N,V9,Jl,J,JM,E,Dw,gI hv,KS,K0,FL];simp only[Option.toList_none,Ad];rfl
   |some a=>
    have hi:=fun o0 o1 o2 o3 o4 o5 o6=>Yub o0 o1 o2 o3 o4 o5 o6 ((Dh s).stack.take ((Dh s).stack.length - k)++[a]) ((Dh s).stack.length - k+1) (by rw[Ab,AQ]; simp);simp only[Jo,HG,Ds,Ae,Ai,Cm,Bn,Ak,Ap]at E;simp (disch:=first|omega|decide) only[push_cast,↓reduceIte,Cx,Cy,GD,I7,Ks,JL,M,Fa,Zx,O,I0 hv,Lf,N,V9,Jl,J,JM,E,Dw,gI hv,KS,K0,FL,hi];rfl
  |set p t cl=>
   rw[U]at E;have I:=Yox U;rw[show JA [⟨false,1,Ef v,false⟩,⟨false,1,Em (Dh s),false⟩,⟨false,1,[.int .i64 0,.int .i64 0,.int .i64 0,.int .i64 0,.slc 0 [] true],false⟩,⟨false,1,Ew v (Dh s).pc (Dh s).fuel (Dh s).status (Dh s).clause (Eo (Dh s).stack) b,false⟩] 3 (Dh s) x=_ from if_neg I]at E;simp only[DR,Ds,Ae,Ai,Cm,Bn]at E;simp (disch:=first|omega|decide) only[push_cast,↓reduceIte,Cx,Cy,GD,I7,Ks,JL,M,Fa,Zx,O,I0 hv,Lf,N,V9,Jl,J,JM,E,Dw,gI hv,KS,K0,yMo,wm,FL];rfl
theorem Vn:Contract Tryz.prog GG 110 bT:=
 D8 (T:=tb [] [(157,YC)]) yBc (DA all_nil (all_cons Yvc all_nil)) (fun a h=>Tv a.1 a.2.1 a.2.2.1 a.2.2.2 h)
def Kd(c:List Ins)(s:Sta)(b:Int):Prop:=s.pc<0∨(c.length:Int)≤s.pc∨s.fuel<0∨32768<s.fuel∨s.clause≠0∨b<0∨64<b∨64 - b<(s.stack.length:Int)
instance (c:List Ins) (s:Sta) (b:Int):Decidable (Kd c s b):=by unfold Kd; infer_instance
def JJ(c:List Ins)(s:Sta)(b:Int):Int:=if s.status≠0 then 211 else if(G5 c).2≠0 then(G5 c).2 else if Kd c s b then 1 else 0
noncomputable def eZ:List D→Option D:=Dc (α:=List Ins×Sta×Int) (fun a=>[.slc (nz 3 (a.1.map CZ)) (a.1.map CZ) false,Eb a.2.1,.int .i64 a.2.2]) (fun a=>a.1.length≤4294967296) (fun a=>.int .i64 (JJ a.1 a.2.1 a.2.2))
theorem yI(c:List Ins)(s:Sta)(b:Int)(h:c.length≤4294967296):eZ [.slc (nz 3 (c.map CZ)) (c.map CZ) false,Eb s,.int .i64 b]=some (.int .i64 (JJ c s b)):=
 DW (fun⟨a0,a1,E⟩ ⟨b0,b1,I⟩ h=>by simp only[Aa,D.slc.injEq,D.int.injEq,true_and,and_true,J2,V3]at h; simp[h]) (c,s,b) h
theorem Ykb(c:List Ins)(s:Sta)(b:Int)(h:c.length≤4294967296):@wW GG (tb [(47,Zb)] []) WQ.code (C3 [.slc (nz 3 (c.map CZ)) (c.map CZ) false,Eb s,.int .i64 b]) [] ⟨Df WQ.res (.int .i64 (JJ c s b))⟩:=by
 have hv:=nH c (by omega);unfold WQ
 by_cases E:s.status=0
 ·by_cases I:(G5 c).2=0
  ·have e:JJ c s b=if Kd c s b then 1 else 0:=by unfold JJ; rw[if_neg (by simp[E]),if_neg (by simp[I])]
   rw[e]
   by_cases J:s.pc<0
   ·rw[if_pos (.inl J)];simp (disch:=first|omega|decide) only[push_cast,↓reduceIte,Cx,I7,Jl,J1,E,hv,I,J]
   by_cases M:(c.length:Int)≤s.pc
   ·rw[if_pos (.inr (.inl M))];simp (disch:=first|omega|decide) only[push_cast,↓reduceIte,Cx,I7,Jl,J1,E,hv,I,J,M]
   by_cases N:s.fuel<0
   ·rw[if_pos (.inr (.inr (.inl N)))];simp (disch:=first|omega|decide) only[push_cast,↓reduceIte,Cx,I7,Jl,JL,J1,E,hv,I,J,M,N]
   by_cases O:32768<s.fuel
   ·rw[if_pos (.inr (.inr (.inr (.inl O))))];simp (disch:=first|omega|decide) only[push_cast,↓reduceIte,Cx,I7,Jl,JL,J1,E,hv,I,J,M,N,O]
   by_cases U:s.clause=0
   ·by_cases V:b<0
    ·rw[if_pos (.inr (.inr (.inr (.inr (.inr (.inl V))))))];simp (disch:=first|omega|decide) only[push_cast,↓reduceIte,Cx,I7,Jl,JL,J1,MS,E,hv,I,J,M,N,O,U,V]
    by_cases Y:64<b
    ·rw[if_pos (.inr (.inr (.inr (.inr (.inr (.inr (.inl Y)))))))];simp (disch:=first|omega|decide) only[push_cast,↓reduceIte,Cx,I7,Jl,JL,J1,MS,E,hv,I,J,M,N,O,U,V,Y]
    by_cases q8:64 - b<(s.stack.length:Int)
    ·rw[if_pos (.inr (.inr (.inr (.inr (.inr (.inr (.inr q8)))))))];simp (disch:=first|omega|decide) only[push_cast,↓reduceIte,Cx,I7,Jl,JL,J1,MS,OL,Hw,Fa,E,hv,I,J,M,N,O,U,V,Y,q8]
    ·rw[if_neg (by unfold Kd; omega)];simp (disch:=first|omega|decide) only[push_cast,↓reduceIte,Cx,I7,Jl,JL,J1,MS,OL,Hw,Fa,E,hv,I,J,M,N,O,U,V,Y,q8]
   ·rw[if_pos (.inr (.inr (.inr (.inr (.inl U)))))];simp (disch:=first|omega|decide) only[push_cast,↓reduceIte,Cx,I7,Jl,JL,J1,MS,E,hv,I,J,M,N,O,U]
  ·rw[show JJ c s b=(G5 c).2 by unfold JJ; rw[if_neg (by simp[E]),if_pos I]];simp (disch:=first|omega|decide) only[push_cast,↓reduceIte,Cx,I7,J1,E,hv,I]
 ·rw[show JJ c s b=211 from if_pos E];simp (disch:=first|omega|decide) only[push_cast,↓reduceIte,Cx,I7,J1,E]
theorem Ypk:Contract Tryz.prog GG 108 eZ:=
 D8 yGw (DA (all_cons se all_nil) all_nil) (fun a h=>Ykb a.1 a.2.1 a.2.2 h)
variable {c:List Ins}
theorem oU(h:(G5 c).2=0):c.length≤4096∧0<c.length∧c.all F0=true∧∃ s,Gl c.length c 0 (G0 c.length) 0=some s∧s≤64:=by
 unfold G5 at h
 split at h
 ·simp at h
 split at h
 ·simp at h
 rename_i J E;have M:¬ c.length=0:=fun e=>E (.inl e)
 have I:c.all F0=true:=by
  cases hb:c.all F0 with
  |true=>rfl
  |false=>exact absurd (.inr hb) E
 cases hv:Gl c.length c 0 (G0 c.length) 0 with
 |none=>rw[hv]at h; simp[KF]at h
 |some s=>
  rw[hv]at h;simp only[KF]at h
  split at h
  ·simp at h
  ·exact⟨by omega,by omega,I,s,rfl,by omega⟩
theorem Yeg(hv:Fe v)(h:JJ c s b=0):aOK c v s b∧s.status=0∧s.clause=0∧(G5 c).2=0:=by
 unfold JJ at h
 split at h
 ·simp at h
 split at h
 ·rename_i I; exact absurd h I
 split at h
 ·simp at h
 rename_i O I M;have J:s.status=0:=by omega
 have E:(G5 c).2=0:=by omega
 obtain⟨a1,U,N,_⟩:=oU E;unfold Kd at M;exact⟨⟨hv,by omega,by omega,by omega,by omega,by omega,by omega,N,by omega,by omega⟩,J,by omega,E⟩
def Kx:Sta:=⟨0,0,0,0,[]⟩
def Mh(f:Int):Sta:=if f<0∨32768<f then Kx else {Kx with fuel:=f}
def OF(f:Int):Int:=if f<0∨32768<f then 1 else 0
theorem kr:DD [.int .i64 0,.int .i64 0,.int .i64 0,.int .i64 0,.slc 0 [] true] []=some [.int .i64 0,.int .i64 0,.int .i64 0,.int .i64 0,.slc 0 [] true]:=(rfl)
theorem Yoq(f:Int):DD [.int .i64 0,.int .i64 0,.int .i64 0,.int .i64 0,.slc 0 [] true] [(1,1,.int .i64 f)]=some [.int .i64 0,.int .i64 f,.int .i64 0,.int .i64 0,.slc 0 [] true]:=(rfl)
noncomputable def e9:List D→Option D:=Dc (α:=Int) (fun a=>[.int .i64 a]) (fun a=>True) (fun a=>.tup [Eb (Mh a),.int .i64 (OF a)])
theorem yK(f:Int):e9 [.int .i64 f]=some (.tup [Eb (Mh f),.int .i64 (OF f)]):=
 DW (fun a b h=>by simp only[Aa,D.int.injEq,true_and,and_true]at h; simp[h]) (f) trivial
theorem Yka(f:Int):@wW GG (tb [] []) W3.code (C3 [.int .i64 f]) [] ⟨Df W3.res (.tup [Eb (Mh f),.int .i64 (OF f)])⟩:=by
 unfold W3
 by_cases E:f<0
 ·rw[show Mh f=Kx from if_pos (.inl E),show OF f=1 from if_pos (.inl E)];simp (disch:=first|omega|decide) only[push_cast,↓reduceIte,Cx,Ks,E,kr,KS,K0];rfl
 ·by_cases I:32768<f
  ·rw[show Mh f=Kx from if_pos (.inr I),show OF f=1 from if_pos (.inr I)];simp (disch:=first|omega|decide) only[push_cast,↓reduceIte,Cx,Ks,E,I,kr,KS,K0];rfl
  ·rw[show Mh f={Kx with fuel:=f} from if_neg (by omega),show OF f=0 from if_neg (by omega)];simp (disch:=first|omega|decide) only[push_cast,↓reduceIte,Cx,Ks,E,I,Yoq,KS,K0];rfl
theorem Ypj:Contract Tryz.prog GG 48 e9:=
 D8 yGz (DA all_nil all_nil) (fun a h=>Yka a)
def JS(c:List Ins)(s:Sta):Ins:=c.getD s.pc.toNat default
def H9(o:Opn):Sta:=⟨o.pc,o.fuel,o.status,o.clause,o.top⟩
def MD:Opn:=⟨0,0,0,0,[],0,Dl⟩
def Zl(c:List Ins)(o:Opn):Prop:=0<o.fuel∧0<o.depth∧(o.top.length:Int)<IG (JS c (H9 o)).op
instance (c:List Ins) (o:Opn):Decidable (Zl c o):=by unfold Zl; infer_instance
def PB(s:Sta)(o:Opn):Opn:=⟨s.pc,s.fuel,s.status,s.clause,s.stack,o.depth,o.rest⟩
def LB(c:List Ins)(o:Opn):Int:=if JJ c (H9 o) o.depth=0 then(if Zl c o then 390 else 0)else JJ c (H9 o) o.depth
def LC(c:List Ins)(v:Int×List Int)(o:Opn):Opn:=if LB c o=0 then PB (Gs v o.depth (H9 o) (JS c (H9 o))) o else MD
theorem Tl(cs:List D):DD cs []=some cs:=(rfl)
theorem Tm(o:Opn):DD [.int .i64 0,.int .i64 0,.int .i64 0,.int .i64 0,.slc 0 [] true] [(0,1,.int .i64 o.pc),(1,1,.int .i64 o.fuel),(2,1,.int .i64 o.status),(3,1,.int .i64 o.clause),(4,1,Eo o.top)]=some (Em (H9 o)):=(rfl)
theorem To(s:Sta):D.agg (Em s)=Eb s:=(rfl)
theorem kx(x:Ins)(st:St):EZ st 0 (.eptr (CZ x) 0)=some (.eptr (CZ x) 0):=(rfl)
theorem mU(st:St)(x:Ins):EV st 1 false (.eptr (CZ x) 0)=some (.int .i64 x.op):=(rfl)
theorem dH(s:Sta)(o:Opn):DD (Es 0 0 0 0 (.slc 0 [] true) 0 Dl) [(0,1,.int .i64 s.pc),(1,1,.int .i64 s.fuel),(2,1,.int .i64 s.status),(3,1,.int .i64 s.clause),(4,1,Eo s.stack),(5,1,.int .i64 o.depth),(6,32,CY o.rest)]=some (EG (PB s o)):=lY ..
theorem bV(a b c d:Int)(t:D)(k:Int)(r:Dig)(o:Opn):DQ (some ⟨false,1,Es a b c d t k r,false⟩) 38 0 (.agg (EG o))=some ⟨false,1,EG o,false⟩:=Te ..
theorem bL(lent:Bool)(o:Opn):Dn (some ⟨false,1,EG o,lent⟩) 38 true 0=some (DS o):=QQ ..
noncomputable def fb:List D→Option D:=Dc (α:=List Ins×(Int×List Int)×Opn) (fun a=>[.slc (nz 3 (a.1.map CZ)) (a.1.map CZ) false,Ev a.2.1,DS a.2.2]) (fun a=>a.1.length≤4294967296∧Fe a.2.1) (fun a=>.tup [DS (LC a.1 a.2.1 a.2.2),.int .i64 (LB a.1 a.2.2)])
theorem yL(c:List Ins)(v:Int×List Int)(o:Opn)(h:c.length≤4294967296∧Fe v):fb [.slc (nz 3 (c.map CZ)) (c.map CZ) false,Ev v,DS o]=some (.tup [DS (LC c v o),.int .i64 (LB c o)]):=
 DW (fun⟨a0,a1,E⟩ ⟨b0,b1,I⟩ h=>by simp only[Aa,D.slc.injEq,and_true,J2,Qn,KI]at h; simp[h]) (c,v,o) h
theorem Yj9(c:List Ins)(v:Int×List Int)(o:Opn)(h:c.length≤4294967296∧Fe v):@wW GG (tb [(108,eZ),(109,VZ),(110,bT)] []) XH.code (C3 [.slc (nz 3 (c.map CZ)) (c.map CZ) false,Ev v,DS o]) [] ⟨Df XH.res (.tup [DS (LC c v o),.int .i64 (LB c o)])⟩:=by
 obtain⟨hc,hv⟩:=h;have J:=yI c (H9 o) o.depth hc;unfold XH;have l0:=sE false o.pc o.fuel o.status o.clause (Eo o.top) o.depth o.rest;have l1:=sF false o.pc o.fuel o.status o.clause (Eo o.top) o.depth o.rest;have M:=bJ false o.pc o.fuel o.status o.clause (Eo o.top) o.depth o.rest;have N:=sG false o.pc o.fuel o.status o.clause (Eo o.top) o.depth o.rest;have O:=bK false o.pc o.fuel o.status o.clause (Eo o.top) o.depth o.rest;have U:=S5 false o.pc o.fuel o.status o.clause (Eo o.top) o.depth o.rest;have l6:=sH false o.pc o.fuel o.status o.clause (Eo o.top) o.depth o.rest;rw[← JY]at l0 l1 M N O U l6
 by_cases I:JJ c (H9 o) o.depth=0
 ·obtain⟨ha,hs,af,ah⟩:=Yeg hv I;have ae:o.pc.toNat<c.length:=by have:=ha.p0; have:=ha.p1; simp only[H9]at *; omega
  have Y:=fun st=>Rx st c false o.pc.toNat ae;rw[show((o.pc.toNat:Nat):Int)=o.pc by have:=ha.p0; simp only[H9]at *; omega]at Y;have Y:∀ st:St,FY st 3 (.slc (nz 3 (c.map CZ)) (c.map CZ) false) (.int .i64 o.pc)=some (.eptr (CZ (JS c (H9 o))) 0):=Y;have hn:=pM (JS c (H9 o)).op;rw[I]at J
  by_cases h2:Zl c o
  ·have e:LB c o=390:=by unfold LB; rw[if_pos I,if_pos h2]
   rw[show LC c v o=MD from if_neg (by rw[e]; decide),e];obtain⟨V,q2,q3⟩:=h2;simp (disch:=first|omega|decide) only[push_cast,↓reduceIte,Cx,Cy,GD,Mi,ON,Fx,Ks,l0,l1,M,N,O,U,Tm,To,NT,Lf,MR,J,V,q2,Hw,Y,kx,mU,hn,q3,Tl,Te,QQ,Yo];rfl
  ·have e:LB c o=0:=by unfold LB; rw[if_pos I,if_neg h2]
   rw[show LC c v o=PB (Gs v o.depth (H9 o) (JS c (H9 o))) o from if_pos e,e];have E:=Yhx c v (H9 o) o.depth ha;rw[show c.getD (H9 o).pc.toNat default=JS c (H9 o)from rfl]at E;generalize Gs v o.depth (H9 o) (JS c (H9 o))=s at*
   by_cases V:0<o.fuel
   ·by_cases q2:0<o.depth
    ·have q3:¬ (o.top.length:Int)<IG (JS c (H9 o)).op:=fun q=>h2 ⟨V,q2,q⟩;simp (disch:=first|omega|decide) only[push_cast,↓reduceIte,Cx,Cy,GD,Mi,ON,Fx,Ks,l0,l1,M,N,O,U,l6,Tm,To,NT,Lf,MR,VP,J,V,q2,Hw,Y,kx,mU,hn,q3,I0 hv,EW,Hc,E,bW,Jl,JL,J1,MS,OL,dH,bV,bL,Ft]
    ·simp (disch:=first|omega|decide) only[push_cast,↓reduceIte,Cx,Cy,GD,Mi,ON,Fx,Ks,l0,l1,M,N,O,U,l6,Tm,To,NT,Lf,MR,VP,J,V,q2,I0 hv,EW,Hc,E,bW,Jl,JL,J1,MS,OL,dH,bV,bL,Ft]
   ·simp (disch:=first|omega|decide) only[push_cast,↓reduceIte,Cx,Cy,GD,Mi,ON,Fx,Ks,l0,l1,M,N,O,U,l6,Tm,To,NT,Lf,MR,VP,J,V,I0 hv,EW,Hc,E,bW,Jl,JL,J1,MS,OL,dH,bV,bL,Ft]
 ·have e:LB c o=JJ c (H9 o) o.depth:=if_neg I;rw[show LC c v o=MD from if_neg (by rw[e]; exact I),e];simp (disch:=first|omega|decide) only[push_cast,↓reduceIte,Cx,Cy,GD,Mi,ON,Fx,Ks,l0,l1,M,N,O,U,Tm,To,NT,Lf,MR,J,I,Tl,Te,QQ,Yo];rfl
theorem Ypi:Contract Tryz.prog GG 55 fb:=
 D8 tZ (DA (all_cons Ypk (all_cons tr (all_cons Vn all_nil))) all_nil) (fun a h=>Yj9 a.1 a.2.1 a.2.2 h)
def Gr(c:List Ins):D:=.slc (nz 3 (c.map CZ)) (c.map CZ) false
theorem tF{a b:List Ins}:Gr a=Gr b↔a=b:=by
 refine⟨fun h=>?_,fun h=>by rw[h]⟩;simp only[Gr,D.slc.injEq,and_true]at h;exact(List.map_inj_right (fun x y h=>Ql.1 h)).1 h.2
def fK(s:Sta):PI.Obj:=⟨false,1,Em s,false⟩
inductive RunY (y:List D→St→Option (D×St)) (k kc kv:Nat):List Sta→Nat→St→St→Prop
 |stop {s:Sta} {l:List Sta} {i:Nat} {st st1:St} (h:y [.int .i64 (i:Int),Eb s] st=some (.bool false,st1)):RunY y k kc kv (s::l) i st st1
 |last {s:Sta} {i:Nat} {st st1:St} (h:y [.int .i64 (i:Int),Eb s] st=some (.bool true,st1)) (hk:st1[k]?=some (fK s)):RunY y k kc kv [s] i st st1
 |next {s s':Sta} {l:List Sta} {i:Nat} {st st1 st2:St} (h:y [.int .i64 (i:Int),Eb s] st=some (.bool true,st1)) (hk:st1[k]?=some (fK s)) (hc:st1[kc]?=st[kc]?) (hv:st1[kv]?=st[kv]?)
   (hl:RunY y k kc kv (s'::l) (i+1) (st1.set k (fK s')) st2):RunY y k kc kv (s::s'::l) i st st2
def gm(c:List Ins)(out:Int)(i:Nat)(D:Nat→Int):Prop:=
 ∀ j,i≤j→j<c.length→0≤D j→¬ JK (c.getD j default) (D j)∧D j≤out∧FI (c.getD j default) (D j)≤out∧
  ∀ n∈JW (c.getD j default) j,(j:Int)<n∧n<c.length∧D n.toNat=FI (c.getD j default) (D j)
structure Good (c:List Ins) (D:Nat→Int) (s:Sta):Prop where
 st:s.status=0
 cl:s.clause=0
 p0:0≤s.pc
 p1:s.pc<c.length
 d:D s.pc.toNat=s.stack.length
 u0:0≤s.fuel
 u1:s.fuel≤32768
structure Last (s:Sta):Prop where
 st:s.status≠0
 s0:0≤s.status
 s1:s.status≤100000
 l:s.stack.length≤64
theorem Good.len{D:Nat→Int}(E:gm c 64 0 D)(h:Good c D s):s.stack.length≤64:=by
 have I:=h.d;have J:=h.p0;have M:=h.p1;have:=(E s.pc.toNat (by omega) (by omega) (by omega)).2.1;omega
theorem Good.ready{D:Nat→Int}(hv:(G5 c).2=0)(E:gm c 64 0 D)(h:Good c D s):JJ c s 0=0:=by
 unfold JJ;have hl:=h.len E;have I:=h.st;have J:=h.p0;have M:=h.p1;have N:=h.u0;have O:=h.u1;have U:=h.cl;rw[if_neg (by omega),if_neg (by omega),if_neg (by unfold Kd; omega)]
theorem Yb8(h:c.all F0=true)(hj:j<c.length):F0 (c.getD j default)=true:=by
 grind
theorem zg(h:F0 x=true):1≤x.op∧x.op≤16:=⟨(of_decide_eq_true h).1,(of_decide_eq_true h).2.1⟩
theorem Yfa{op:Int}(h:1≤op∧op≤16):IG op=(D9 op).1:=by
 have:op=1∨op=2∨op=3∨op=4∨op=5∨op=6∨op=7∨op=8∨op=9∨op=10∨op=11∨op=12∨op=13∨op=14∨op=15∨op=16:=by omega
 rcases this with rfl | rfl | rfl | rfl | rfl | rfl | rfl | rfl | rfl | rfl | rfl | rfl | rfl | rfl | rfl | rfl <;> rfl
theorem Good.step{D:Nat→Int}(hf:c.all F0=true)(V:gm c 64 0 D)(h:Good c D s) :
  Last (Gs v 0 s (JS c s))∨(Good c D (Gs v 0 s (JS c s))∧s.pc<(Gs v 0 s (JS c s)).pc∧(Gs v 0 s (JS c s)).fuel=s.fuel - 1):=by
 have hl:=h.len V;obtain⟨Y,h2,h3,h4,h5,h6,h7⟩:=h;have hj:s.pc.toNat<c.length:=by omega
 have ab:F0 (JS c s)=true:=Yb8 hf hj;have ac:=zg ab;obtain⟨O,q2,q3,q4⟩:=V s.pc.toNat (by omega) hj (by omega);rw[show c.getD s.pc.toNat default=JS c s from rfl]at O q3 q4;generalize JS c s=x at*;rw[h5]at O q3 q4;have a3:=Yfa ac;unfold Gs
 by_cases hu:s.fuel=0
 ·rw[if_pos hu];exact .inl ⟨by simp,by simp,by simp,hl⟩
 rw[if_neg hu]
 have af:¬ ((Dh s).stack.length:Int)<IG x.op:=by
  unfold JK at O
  show ¬ ((s.stack.length:Int)<IG x.op)
  omega
 have hex:Gp v 0 (Dh s) x=DE v 0 (Dh s) x:=if_neg af
 have nx:∀ (n:Int),n∈JW x s.pc.toNat→s.pc<n∧n<c.length∧D n.toNat=FI x s.stack.length:=fun n hn=>by
  grind
 have I:x.op≠14→x.op≠15→x.op≠16→s.pc<s.pc+1∧s.pc+1<c.length∧D (s.pc+1).toNat=FI x s.stack.length:=fun a b d=>by
  refine nx (s.pc+1) ?_;unfold JW;grind
 have a0:x.op=13∨x.op=14→s.pc<x.n∧x.n<c.length∧D x.n.toNat=FI x s.stack.length:=fun a=>by
  refine nx x.n ?_;unfold JW;grind
 -- a6 each outcome comes to
 have a7:∀ e,Gp v 0 (Dh s) x=.err e→Last (FL (Dh s) (Gp v 0 (Dh s) x)):=fun e he=>by
  have:=kD he;rw[he];exact⟨by simp only[FL]; omega,by simp only[FL]; omega,by simp only[FL]; omega,hl⟩
 have E:∀ k push pc,Gp v 0 (Dh s) x=.pop k push pc→k≤s.stack.length→((s.stack.length - k+push.toList.length:Nat):Int)=FI x s.stack.length→(s.pc<pc.getD (s.pc+1)∧pc.getD (s.pc+1)<c.length∧D (pc.getD (s.pc+1)).toNat=FI x s.stack.length)→
   Good c D (FL (Dh s) (Gp v 0 (Dh s) x))∧s.pc<(FL (Dh s) (Gp v 0 (Dh s) x)).pc∧(FL (Dh s) (Gp v 0 (Dh s) x)).fuel=s.fuel - 1:=fun k push pc he hk bd U=>by
  rw[he];refine⟨⟨Y,h2,?_,U.2.1,?_,?_,?_⟩,U.1,rfl⟩
  ·show 0≤pc.getD (s.pc+1); omega
  ·show D (pc.getD (s.pc+1)).toNat=((s.stack.take (s.stack.length - k)++push.toList).length:Int)
   grind
  ·show 0≤s.fuel - 1; omega
  ·show s.fuel - 1≤32768; omega
 have hd:(D9 x.op).1≤s.stack.length:=by unfold JK at O; omega
 by_cases o1:x.op=1
 ·have he:Gp v 0 (Dh s) x=.pop 0 (some x.n) none:=by
   rw[hex]; unfold DE;rw[if_pos o1,if_neg];have:FI x s.stack.length=s.stack.length+1:=by unfold FI; rw[o1]; simp[D9]
   show ¬ (64:Int)≤0+s.stack.length
   omega
  refine .inr (E _ _ _ he (by omega) ?_ (I (by omega) (by omega) (by omega)));unfold FI; rw[o1]; simp[D9]
 by_cases o2:x.op=2
 ·have a9:¬ (64:Int)≤0+(Dh s).stack.length:=by
   have:FI x s.stack.length=s.stack.length+1:=by unfold FI; rw[o2]; simp[D9]
   show ¬ (64:Int)≤0+s.stack.length
   omega
  by_cases b1:NF v.1 (K3 x.n)=0
  ·have he:Gp v 0 (Dh s) x=.err 181:=by
    rw[hex]; unfold DE;grind
   grind
  by_cases b2:Ee v.2 x.n.toNat < -9007199254740992∨9007199254740992<Ee v.2 x.n.toNat
  ·have he:Gp v 0 (Dh s) x=.err 3:=by
    rw[hex]; unfold DE;grind
   grind
  have he:Gp v 0 (Dh s) x=.pop 0 (some (Ee v.2 x.n.toNat)) none:=by
   rw[hex]; unfold DE;grind
  refine .inr (E _ _ _ he (by omega) ?_ (I (by omega) (by omega) (by omega)));unfold FI; rw[o2]; simp[D9]
 by_cases J:x.op=12
 ·have he:Gp v 0 (Dh s) x=.pop 1 (some (if x.n≤C5 (Dh s) 0∧C5 (Dh s) 0≤x.m then 1 else 0)) none:=by
   rw[hex]; unfold DE;grind
  have:(D9 x.op).1=1:=by rw[J]; rfl
  refine .inr (E _ _ _ he (by omega) ?_ (I (by omega) (by omega) (by omega)));unfold FI; rw[J]; simp[D9]; omega
 by_cases M:x.op=13
 ·have he:Gp v 0 (Dh s) x=.pop 1 none (if C5 (Dh s) 0=0 then some x.n else none):=by
   rw[hex]; unfold DE;grind
  have:(D9 x.op).1=1:=by rw[M]; rfl
  refine .inr (E _ _ _ he (by omega) ?_ ?_)
  ·unfold FI; rw[M]; simp[D9]; omega
  ·grind
 by_cases N:x.op=14
 ·have he:Gp v 0 (Dh s) x=.set x.n s.status s.clause:=by
   rw[hex]; unfold DE;rw[if_neg o1,if_neg o2,if_neg J,if_neg M,if_pos N]; rfl
  obtain⟨m1,m2,m3⟩:=a0 (.inr N)
  right
  rw[he];refine⟨⟨Y,h2,?_,m2,?_,?_,?_⟩,m1,rfl⟩
  ·show 0≤x.n; omega
  ·show D x.n.toNat=(s.stack.length:Int)
   rw[m3]; unfold FI; rw[N]; simp[D9]
  ·show 0≤s.fuel - 1; omega
  ·show s.fuel - 1≤32768; omega
 by_cases a1:x.op=15
 ·have he:Gp v 0 (Dh s) x=.set s.pc 1 x.n:=by
   rw[hex]; unfold DE;rw[if_neg o1,if_neg o2,if_neg J,if_neg M,if_neg N,if_pos a1]; rfl
  left
  rw[he];exact⟨by simp[FL],by simp[FL],by simp[FL],hl⟩
 by_cases be:x.op=16
 ·have he:Gp v 0 (Dh s) x=.err 180:=by
   rw[hex]; unfold DE;grind
  grind
 by_cases b1:(DP x.op (C5 (Dh s) 1) (C5 (Dh s) 0)).2=0
 ·have he:Gp v 0 (Dh s) x=.pop 2 (some (DP x.op (C5 (Dh s) 1) (C5 (Dh s) 0)).1) none:=by
   rw[hex]; unfold DE;grind
  have e2:D9 x.op=(2,1):=by
   unfold D9;grind
  rw[e2]at hd;refine .inr (E _ _ _ he (by omega) ?_ (I (by omega) (by omega) (by omega)));unfold FI; rw[e2]; simp; omega
 ·have he:Gp v 0 (Dh s) x=.err (DP x.op (C5 (Dh s) 1) (C5 (Dh s) 0)).2:=by
   rw[hex]; unfold DE;grind
  grind
structure Der where
 code:List Ins
 env:Int×List Int
 am:Int
 er:Int
 lv:List Dig
 deriving Inhabited
section
variable {v:Int×List Int} (hv:Fe v) (lent:Bool) (cs L:D) (a e:Int)
include hv
end
structure okS (s:Sta):Prop where
 l:s.stack.length≤4294967296
 t:s.status≤1000000
theorem Su(st:St):∀ {A:List D} (B:List D),A.all El=true→DM st (A++B)=(DM st B).map (A++·)
 |[],B,_=>by simp
 |d::A,B,h=>by
  simp only[A3,Af]at h;rw[Ae,DM,aj st h.1,Su st B h.2];cases DM st B <;> rfl
theorem Wh(v:Int×List Int):(Ef v).all El=true:=by
 rw[eg]; exact Pb (v.1::v.2)
theorem DJ(S l:St)(k:Nat):(S++l)[S.length+k]?=l[k]?:=by
 rw[AI (by omega)]; congr 1; omega
theorem EE(S l:St):(S++l)[S.length]?=l[0]?:=DJ S l 0
theorem DK(S l:St)(k:Nat)(x:PI.Obj):(S++l).set (S.length+k) x=S++l.set k x:=by
 rw[Ca _ _ (by omega)]; congr 2; omega
theorem EF(S l:St)(x:PI.Obj):(S++l).set S.length x=S++l.set 0 x:=DK S l 0 x
theorem LK(fr:Frame)(st:St)(t n:Nat)(ag:Bool)(l:List PRes):DI ⟨fr,st⟩ (.cell t n ag::l)=(EV st n ag (fr t)).bind fun d=>(DI ⟨fr,st⟩ l).map (d::·):=by
 simp only[DI];cases EV st n ag (fr t) <;> cases DI ⟨fr,st⟩ l <;> rfl
def HA(p:Dig×Dig):D:=.agg (CW p.1++CW p.2)
theorem cI{a b:Dig×Dig}:HA a=HA b↔a=b:=by
 refine⟨fun h=>?_,fun h=>by rw[h]⟩;obtain⟨a1,J⟩:=a;obtain⟨b1,M⟩:=b;simp only[HA,D.agg.injEq]at h;obtain⟨E,I⟩:=A2 h (by rw[DH,DH]);rw[NU.1 E,NU.1 I]
theorem Yo7(p:Dig×Dig):(CW p.1++CW p.2).all D.isCell=true:=by
 rw[Bw,Kt (fun _=>rfl),Kt (fun _=>rfl)]; rfl
theorem Yag(p:Dig×Dig):(CW p.1++CW p.2).length=64:=by simp[DH]
theorem gV(p:Dig×Dig):Dv (HA p)=some (CW p.1++CW p.2):=by
 rw[show Dv (HA p)=if(CW p.1++CW p.2).all D.isCell then some (CW p.1++CW p.2)else none from rfl,if_pos (Yo7 p)]
theorem gF(lent:Bool)(p:Dig×Dig):Dn (some ⟨false,1,CW p.1++CW p.2,lent⟩) 64 true 0=some (HA p):=KJ 1 lent _ 64 (Yag p)
theorem fZ(p:Dig×Dig):Om 2 32 true (HA p) (.int .i64 0)=some (CY p.1):=
 lZ (A:=[]) (B:=CW p.1) (C:=CW p.2) rfl rfl (DH _)
theorem fY(p:Dig×Dig):Om 2 32 true (HA p) (.int .i64 1)=some (CY p.2):=
 lZ (A:=CW p.1) (B:=CW p.2) (C:=[]) (by rw[Ad]) (DH _) (DH _)
theorem mB(p:Dig×Dig):Iv (HA p)=true:=by
 simp only[HA,Iv,Bw];rw[show(CW p.1).all El=true from Pa _,show(CW p.2).all El=true from Pa _]; rfl
theorem gy(p:Dig×Dig):hk (HA p)=[]:=RS (mB p)
theorem bR(n:Nat)(σ:List Nat)(p:Dig×Dig):Ed n σ (HA p)=HA p:=O3 n σ (mB p)
def D0(p:Int×Dig):D:=.agg (.int .i64 p.1::CW p.2)
def OA(cl:Dig×Dig)(d:Dig):Int:=if cl.1=d then 0 else if cl.2=d then 1 else -1
def G1(cl:Dig×Dig)(r:Dig×Int):Int×Dig:=if r.2=0 then(OA cl r.1,r.1)else(0,Dl)
def E1(cl:Dig×Dig):PI.Obj:=⟨false,1,CW cl.1++CW cl.2,false⟩
def EO(p:Int×Dig):PI.Obj:=⟨false,1,.int .i64 p.1::CW p.2,false⟩
def sC(f:Nat)(sp:List D→St→Option (D×St))(ds:List D)(st:St)(r:D×St):Prop:=∃ (cl:Dig×Dig) (caps:List D) (d:Dig) (e:Int),StOK st∧ds=[HA cl,.clo f caps]∧
 sp caps (st++[E1 cl,EO (0,Dl)])=some (.tup [CY d,.int .i64 e],st++[E1 cl,EO (0,Dl)])∧r=(.tup [D0 (G1 cl (d,e)),.int .i64 e],st)
theorem n9(f:Nat)(sp:List D→St→Option (D×St)):Hs (sC f sp):=by
 rintro ds st r O ⟨cl,J,d,e,_,rfl,M,rfl⟩ ⟨N,I,U,V,_,h,E,rfl⟩;simp only[Aa,D.clo.injEq,and_true,true_and,cI]at h;obtain⟨rfl,rfl⟩:=h;rw[M]at E;simp only[CX,Di,D.tup.injEq,Aa,Mk,D.int.injEq,true_and,and_true]at E;obtain⟨rfl,rfl⟩:=E;rfl
noncomputable def Qq(f:Nat)(sp:List D→St→Option (D×St)):List D→St→Option (D×St):=EY (sC f sp)
theorem Sl{S:St}(h:StOK S)(l:St)(hl:∀ o∈l,o.els.all El=true):StOK (S++l):=
 h.app _ fun o E _ x I=>O3 _ _ (Xk (Aj.1 (hl o E) x I))
theorem Lo(d:Dig):(CW d).all El=true:=Pa d
theorem QE(E:Dig×Dig):(E1 E).els.all El=true:=by
 simp only[E1,Bw,Lo]; rfl
theorem Sn(p:Int×Dig):(EO p).els.all El=true:=by
 simp only[EO,A3,Lo]; rfl
theorem LR{S l:St}(h:StOK S):cut S.length (S++l)=S:=sm h rfl
theorem Yff(n:Nat)(a:Int)(d:Dig)(e:Int):Hj n (.tup [.agg (.int .i64 a::CW d),.int .i64 e])=.tup [.agg (.int .i64 a::CW d),.int .i64 e]:=by
 have h:GW n (.agg (.int .i64 a::CW d))=.agg (.int .i64 a::CW d):=by
  rw[← cN]; exact O3 n [] (d:=.agg (.int .i64 a::CW d)) (by simp only[Iv,A3,Lo]; rfl)
 simp only[Hj,Ax,Bk,h];rfl
theorem Rg(p:Int×Dig)(a:Int)(d:Dig):DQ (some (EO p)) 33 0 (.agg (.int .i64 a::CW d))=some (EO (a,d)):=
 Lj 1 _ _ 33 (by simp[DH]) (by simp[DH]) (by rw[A3,Kt (fun _=>rfl)]; rfl)
theorem Q9(p:Int×Dig):Dn (some (EO p)) 33 true 0=some (D0 p):=KJ 1 false _ 33 (by simp[DH])
theorem Ytn(E:Dig×Dig):Dn (some (E1 E)) 64 true 0=some (HA E):=gF false E
theorem dI(a:Int)(d:Dig):DD (.int .i64 0::CW Dl) [(0,1,.int .i64 a),(1,32,CY d)]=some (.int .i64 a::CW d):=by
 refine(IA (cs:=.int .i64 0::CW Dl) (cs':=.int .i64 a::CW Dl) (A:=[]) (B:=[.int .i64 0]) (xs:=[.int .i64 a]) rfl rfl rfl rfl rfl rfl rfl).trans ?_;refine(IA (cs:=.int .i64 a::CW Dl) (cs':=.int .i64 a::CW d) (A:=[.int .i64 a]) (B:=CW Dl) (C:=[]) (xs:=CW d) (by simp) (by simp) rfl (DH _) rfl (DH _) (Kt (fun _=>rfl) d)).trans ?_;rfl
theorem Y9(n:Nat)(p:Int×Dig)(e:Int):Hj n (.tup [D0 p,.int .i64 e])=.tup [D0 p,.int .i64 e]:=Yff n p.1 p.2 e
set_option maxHeartbeats 4000000 in
set_option maxRecDepth 20000 in
theorem mz(f:Nat)(hf:f<5000000)(sp:List D→St→Option (D×St))(hc:IContract Tryz.prog GG f sp):IContract Tryz.prog GG 45 (Qq f sp):=by
 refine Xh (T:=tb [] [(f,sp)]) uh (DA all_nil (all_cons hc all_nil)) ?_;intro ds st r hr;obtain⟨cl,I,d,e,E,rfl,h2,rfl⟩:=Ii hr;unfold jh;have hT:(tb [] [(f,sp)]).i f=some sp:=by rw[TP,og,if_pos rfl]
 have Y:Kc (tb [] [(f,sp)]) (.clo f I)=some (sp,[],I):=by rw[tH _ _ _ hf,hT]; rfl
 have hz:(.int .i64 0::CW Dl:List D)=(.int .i64 0::CW Dl:List D):=rfl;simp (disch:=first|omega|decide) only[push_cast,↓reduceIte,Cx,Cz,gV,Y,Ah,Ae,Ai];rw[show st++[⟨false,1,CW cl.1++CW cl.2,false⟩,⟨false,1,.int .i64 0::CW Dl,false⟩]=st++[E1 cl,EO (0,Dl)]from rfl,h2];simp (disch:=first|omega|decide) only[push_cast,↓reduceIte,Cx,Cy,Cz,Ah,Ae,Ai,Ab,Ak,Ap,Am,Cy,DJ,DK]
 by_cases he:e=0
 ·subst he
  have aa:StOK (st++[E1 cl,EO (0,Dl),⟨false,1,CW d,false⟩]):=Sl E _ (fun o ho=>by
   simp only[Aw,AB,or_false]at ho;rcases ho with rfl | rfl | rfl
   ·exact QE cl
   ·exact Sn _
   ·exact Lo d)
  have J:(st++[E1 cl,EO (0,Dl),⟨false,1,CW d,false⟩]).length=st.length+3:=by simp
  have O:st.length+1<st.length+3:=by omega
  have U:st.length+2<st.length+3:=by omega
  have hR:∀ (fr:Frame) (l:St),(Lu fr [4,6,19,20]).all (fun k=>decide (k<st.length+3))=true→restrict [4,6,19,20] (st++[E1 cl,EO (0,Dl),⟨false,1,CW d,false⟩]).length ⟨fr,st++E1 cl::EO (0,Dl)::⟨false,1,CW d,false⟩::l⟩=⟨GC (IY fr (st.length+3) [] [4,6,19,20]),st++[E1 cl,EO (0,Dl),⟨false,1,CW d,false⟩]⟩:=fun fr l h=>by
   have:=jf (keep:=[4,6,19,20]) (fr:=fr) (l:=l) aa J.symm (fun k hk=>of_decide_eq_true (Aj.1 h k hk));rw[Ah]at this;rw[J];exact this
  have M:=hR;simp only[J]at M;simp (disch:=first|omega|decide) only[push_cast,↓reduceIte,Cx,Cz,EE,Ytn]
  refine Gy (fun i:Nat=>[(4,.ptr (st.length+1) 0),(6,.ptr (st.length+2) 0),(19,HA cl),(20,.int .i64 (i:Int))]) (fun _=>st++[E1 cl,EO (0,Dl),⟨false,1,CW d,false⟩])
   (fun i=>i≤2∧(0<i→¬ cl.1=d)∧(1<i→¬ cl.2=d)) (fun i=>2 - i) 0 ?_ ⟨by omega,fun h=>absurd h (by omega),fun h=>absurd h (by omega)⟩ ?_
  ·simp (disch:=first | omega | decide | (simp only[push_cast,↓EC,↓reduceIte,Cx,CE,CC,Cy,Nat.reduceSub,CB,CR,CH,CQ,CI,Cz,CO,CN,CV,CP,↓CA,gy,O,U,decide_true]; done)) only[push_cast,↓reduceIte,Cx,↓CA,↓hR,bR,OP]
  rintro i ⟨hi,N,V⟩;unfold jI
  match i,hi,N,V with
  |0,_,_,_=>
   have c0:=fZ cl
   by_cases q:cl.1=d
   ·rw[show G1 cl (d,0)=(0,d) by unfold G1 OA; rw[if_pos rfl,if_pos q]];simp (disch:=first|omega|decide) only[push_cast,↓reduceIte,Cx,Cy,CH,Cz,↓CA,Ah,Ae,Ai,Ab,Ak,Ap,Am,Cy,DJ,DK,c0,q,dI,Rg,Q9,Y9,LK,LR E]
   ·simp (disch:=first | omega | decide | (simp only[push_cast,↓EC,↓reduceIte,Cx,CE,CC,Cy,Nat.reduceSub,CB,CR,CH,CQ,CI,Cz,CO,CN,CV,CP,↓CA,gy,O,U,decide_true]; done)) only[push_cast,↓reduceIte,Cx,Cy,CH,CN,↓CA,↓M,bR,OP,Ah,Ae,Ai,Ab,Ak,Ap,Am,Cy,DJ,DK,c0,q,DL];refine Fb 1 (by exact⟨by omega,fun _=>q,fun h=>absurd h (by omega)⟩) (by omega) ?_;simp (disch:=first|omega|decide) only[push_cast,↓CA] <;> rfl
  |1,_,N,_=>
   have c1:=fY cl;have q0:=N (by omega)
   by_cases q:cl.2=d
   ·rw[show G1 cl (d,0)=(1,d) by unfold G1 OA; rw[if_pos rfl,if_neg q0,if_pos q]];simp (disch:=first|omega|decide) only[push_cast,↓reduceIte,Cx,Cy,CH,Cz,↓CA,Ah,Ae,Ai,Ab,Ak,Ap,Am,Cy,DJ,DK,c1,q,dI,Rg,Q9,Y9,LK,LR E]
   ·simp (disch:=first | omega | decide | (simp only[push_cast,↓EC,↓reduceIte,Cx,CE,CC,Cy,Nat.reduceSub,CB,CR,CH,CQ,CI,Cz,CO,CN,CV,CP,↓CA,gy,O,U,decide_true]; done)) only[push_cast,↓reduceIte,Cx,Cy,CH,CN,↓CA,↓M,bR,OP,Ah,Ae,Ai,Ab,Ak,Ap,Am,Cy,DJ,DK,c1,q,DL];refine Fb 2 (by exact⟨by omega,fun _=>q0,fun _=>q⟩) (by omega) ?_;simp (disch:=first|omega|decide) only[push_cast,↓CA] <;> rfl
  |2,_,N,V=>
   rw[show G1 cl (d,0)=(-1,d) by unfold G1 OA; rw[if_pos rfl,if_neg (N (by omega)),if_neg (V (by omega))]];simp (disch:=first|omega|decide) only[push_cast,↓reduceIte,Cx,Cy,CH,Cz,↓CA,Ab,Ak,Ap,Am,Cy,DJ,DK,dI,Rg,Q9,Y9,LK,LR E]
 ·have hv:G1 cl (d,e)=(0,Dl):=if_neg he;rw[hv];simp (disch:=first|omega|decide) only[push_cast,↓reduceIte,Cx,Cz,he,DJ,DK,LR E,Rg,Q9,Y9,Tl,LK]
theorem my(c:List Ins):([.slc (nz 3 (c.map CZ)) (c.map CZ) false]:List D).all El=true:=by
 simp[El,Kj]
def Ha(c:List Ins)(v:Int×List Int):Dig×Int:=if c.length=0 then(EM,0)else if(G5 c).2≠0 then(Dl,(G5 c).2)else(L7 c v (Mh (c.length+1)),0)
def rp(ds:List D)(st:St)(r:D×St):Prop:=∃ (kc kv:Nat) (c:List Ins) (v:Int×List Int) (lc lv:Bool),StOK st∧ds=[.ptr kc 0,.ptr kv 0]∧st[kc]?=some ⟨false,1,[Gr c],lc⟩∧st[kv]?=some ⟨false,1,Ef v,lv⟩∧c.length≤9223372036854775807∧Fe v∧
 r=(.tup [CY (Ha c v).1,.int .i64 (Ha c v).2],st)
theorem Yuy:Hs rp:=by
 rintro ds st r Y ⟨kc,kv,c,v,lc,lv,_,rfl,J,M,_,_,rfl⟩ ⟨N,O,c',v',U,V,_,h,E,I,_,_,rfl⟩;simp only[Aa,D.ptr.injEq,and_true]at h;obtain⟨rfl,rfl⟩:=h;rw[J]at E;rw[M]at I;simp only[CX,Obj.mk.injEq,Aa,and_true,true_and,tF]at E I;obtain⟨rfl,_⟩:=E;obtain rfl:v=v':=KI.1 (congrArg D.agg I.1);rfl
noncomputable def Zv:List D→St→Option (D×St):=EY rp
theorem OT(n:Nat)(d:Dig)(e:Int):Hj n (.tup [CY d,.int .i64 e])=.tup [CY d,.int .i64 e]:=by
 have h:GW n (CY d)=CY d:=by rw[← cN]; exact ni n [] d
 simp only[Hj,Ax,Bk,h];rfl
theorem Ps(a d:Dig):DQ (some ⟨false,1,CW a,false⟩) 32 0 (CY d)=some ⟨false,1,CW d,false⟩:=Lj 1 _ _ 32 (DH _) (DH _) (Kt (fun _=>rfl) d)
set_option maxHeartbeats 4000000 in
set_option maxRecDepth 20000 in
theorem Vg:IContract Tryz.prog GG 46 Zv:=by
 refine Xh (T:=tb [(20,Qb),(47,Zb),(48,e9),(49,dA)] []) ux (DA (all_cons Yg (all_cons se (all_cons Ypj (all_cons Yvi all_nil)))) all_nil) ?_;intro ds st r Y;obtain⟨kc,kv,c,v,lc,lv,I,rfl,N,O,hc,hv,rfl⟩:=Ii Y
 have Dm:∀ l:St,(st++l)[kc]?=some ⟨false,1,[.slc (nz 3 (c.map CZ)) (c.map CZ) false],lc⟩:=fun l=>by
  rw[At (Ac.1 N).1]; exact N
 have U:∀ l:St,(st++l)[kv]?=some ⟨false,1,Ef v,lv⟩:=fun l=>by
  rw[At (Ac.1 O).1]; exact O
 have V:=nH c hc;have cp:=R7;unfold jv
 by_cases M:c.length=0
 ·rw[show Ha c v=(EM,0)from if_pos M];have E:(c.length:Int)=0:=by omega
  simp (disch:=first|omega|decide) only[push_cast,↓reduceIte,Cx,Dm,E,cp,EE,EF,OT,LR I,LK,Ps]
 by_cases J:(G5 c).2=0
 ·rw[show Ha c v=(L7 c v (Mh (c.length+1)),0) by unfold Ha; rw[if_neg M,if_neg (by simp[J])]];have E:¬ (c.length:Int)=0:=by omega
  obtain⟨ae,_⟩:=oU J;have cs:=yK ((c.length:Int)+1);rw[show OF ((c.length:Int)+1)=0 from if_neg (by omega)]at cs
  have cd:=Yax c v (Mh ((c.length:Int)+1)) ⟨by omega,hv,by
   rw[show Mh ((c.length:Int)+1)={Kx with fuel:=(c.length:Int)+1} from if_neg (by omega)]; exact Bf _⟩
  simp (disch:=first|omega|decide) only[push_cast,↓reduceIte,Cx,Dm,U,E,J,V,cs,cd,DL,Ks,NT,Lf,I0 hv,EW,MR,Ah,Ae,Ai,Ab,Ak,Ap,Am,DJ,DK,EE,EF,OT,LR I,LK,Ps]
 ·rw[show Ha c v=(Dl,(G5 c).2) by unfold Ha; rw[if_neg M,if_pos J]];have E:¬ (c.length:Int)=0:=by omega
  simp (disch:=first|omega|decide) only[push_cast,↓reduceIte,Cx,Dm,E,J,V,Ai,EE,EF,OT,LR I,LK,Ps,Tl]
noncomputable def Wm:List D→Option D:=Dc (α:=List Ins×(Int×List Int)×(Dig×Dig)) (fun a=>[.slc (nz 3 (a.1.map CZ)) (a.1.map CZ) false,Ev a.2.1,HA a.2.2]) (fun a=>a.1.length≤9223372036854775807∧Fe a.2.1) (fun a=>.tup [D0 (G1 a.2.2 (Ha a.1 a.2.1)),.int .i64 (Ha a.1 a.2.1).2])
theorem yM5(c:List Ins)(v:Int×List Int)(E:Dig×Dig)(h:c.length≤9223372036854775807∧Fe v):Wm [.slc (nz 3 (c.map CZ)) (c.map CZ) false,Ev v,HA E]=some (.tup [D0 (G1 E (Ha c v)),.int .i64 (Ha c v).2]):=
 DW (fun⟨a0,a1,I⟩ ⟨b0,b1,J⟩ h=>by simp only[Aa,D.slc.injEq,and_true,J2,KI,cI]at h; simp[h]) (c,v,E) h
set_option maxHeartbeats 4000000 in
set_option maxRecDepth 20000 in
theorem Yct(c:List Ins)(v:Int×List Int)(E:Dig×Dig)(h:c.length≤9223372036854775807∧Fe v):@wW GG (tb [] [(45,Qq 46 Zv)]) Xt.code (C3 [.slc (nz 3 (c.map CZ)) (c.map CZ) false,Ev v,HA E]) [] ⟨Df Xt.res (.tup [D0 (G1 E (Ha c v)),.int .i64 (Ha c v).2])⟩:=by
 obtain⟨hc,hv⟩:=h;unfold Xt;have O:(CW E.1++CW E.2).all El=true:=QE E
 have J:StOK [⟨false,1,[.slc (nz 3 (c.map CZ)) (c.map CZ) false],false⟩,⟨false,1,Ef v,false⟩,E1 E,EO (0,Dl)]:=by
  refine Sl (S:=[]) (fun o I=>by cases I) _ (fun o I=>?_);simp only[Aw,AB,or_false]at I;rcases I with rfl | rfl | rfl | rfl
  ·exact my c
  ·exact Wh v
  ·exact QE E
  ·exact Sn _
 have M:=Sl J [E1 E,EO (0,Dl)] (fun o I=>by
  simp only[Aw,AB,or_false]at I;rcases I with rfl | rfl
  ·exact QE E
  ·exact Sn _)
 have hj:Qq 46 Zv [HA E,.clo 46 [.ptr 0 0,.ptr 1 0]] [⟨false,1,[.slc (nz 3 (c.map CZ)) (c.map CZ) false],false⟩,⟨false,1,Ef v,false⟩,E1 E,EO (0,Dl)]=some (.tup [D0 (G1 E (Ha c v)),.int .i64 (Ha c v).2],[⟨false,1,[.slc (nz 3 (c.map CZ)) (c.map CZ) false],false⟩,⟨false,1,Ef v,false⟩,E1 E,EO (0,Dl)]):=
  KK (n9 _ _) ⟨E,[.ptr 0 0,.ptr 1 0],(Ha c v).1,(Ha c v).2,J,rfl,KK Yuy ⟨0,1,c,v,false,false,M,rfl,rfl,rfl,hc,hv,rfl⟩,rfl⟩
 have N:=Rg (0,Dl);have lv:=Q9;simp only[E1,EO,D0]at hj N lv;simp (disch:=first|omega|decide) only[push_cast,↓reduceIte,Cx,Cy,GD,gV,gF,hj,D0,N,lv]
theorem Yh1:Contract Tryz.prog GG 14 Wm:=
 D8 (T:=tb [] [(45,Qq 46 Zv)]) ug (DA all_nil (all_cons (mz _ (by decide) _ Vg) all_nil)) (fun a h=>Yct a.1 a.2.1 a.2.2 h)
theorem Yqi(v:Int×List Int)(b:Int)(s:Sta)(x:Ins):(Gs v b s x).stack.length≤s.stack.length+1:=by
 have h:∀ o:Out,(FL (Dh s) o).stack.length≤s.stack.length+1:=by
  intro o
  cases o with
  |err e=>exact Nat.le_succ _
  |set p t c=>exact Nat.le_succ _
  |pop k push pc=>
   show(s.stack.take (s.stack.length - k)++push.toList).length≤_
   rw[Ab,AQ];have:push.toList.length≤1:=by cases push <;> simp
   omega
 unfold Gs
 split
 ·exact Nat.le_succ _
 ·exact h _
theorem yC(c:List Ins)(v:Int×List Int)(o:Opn):(LC c v o).top.length≤o.top.length+1:=by
 unfold LC
 split
 ·exact Yqi v o.depth (H9 o) _
 ·simp[MD]
def Fw(c:List Ins)(v:Int×List Int)(b:Dig)(o:Opn):Dig×Int:=if b=EM then(b,0)else if Ga c v o≠b then(Dl,390)else if o.status≠0 then(EM,0)else(Ga c v (LC c v o),LB c o)
def qR(ds:List D)(st:St)(r:D×St):Prop:=∃ (kb kc kv ko:Nat) (b:Dig) (c:List Ins) (v:Int×List Int) (o:Opn) (lb lc lv lo:Bool),StOK st∧ds=[.ptr kb 0,.ptr kc 0,.ptr kv 0,.ptr ko 0]∧st[kb]?=some ⟨false,1,CW b,lb⟩∧st[kc]?=some ⟨false,1,[Gr c],lc⟩∧st[kv]?=some ⟨false,1,Ef v,lv⟩∧st[ko]?=some ⟨false,1,EG o,lo⟩∧c.length≤4294967296∧Fe v∧o.top.length≤4294967295∧
 r=(.tup [CY (Fw c v b o).1,.int .i64 (Fw c v b o).2],st)
theorem Ysm:Hs qR:=by
 rintro ds st r r' ⟨kb,kc,kv,ko,b,c,v,o,lb,lc,lv,lo,_,rfl,N,O,U,V,_,_,_,rfl⟩ ⟨Y,aa,ab,ac,b',c',v',o',ad,ae,af,ah,_,h,E,I,J,M,_,_,_,rfl⟩;simp only[Aa,D.ptr.injEq,and_true]at h;obtain⟨rfl,rfl,rfl,rfl⟩:=h;rw[N]at E;rw[O]at I;rw[U]at J;rw[V]at M;simp only[CX,Obj.mk.injEq,Aa,and_true,true_and,tF,NU]at E I J M;obtain⟨rfl,_⟩:=E;obtain⟨rfl,_⟩:=I;obtain rfl:v=v':=KI.1 (congrArg D.agg J.1);obtain rfl:o=o':=Qn.1 (congrArg D.agg M.1);rfl
noncomputable def gK:List D→St→Option (D×St):=EY qR
theorem Zm(lent:Bool)(d:Dig):Dn (some ⟨false,1,CW d,lent⟩) 32 true 0=some (CY d):=KJ 1 lent _ 32 (DH d)
theorem FZ(lent:Bool)(o:Opn):Dn (some ⟨false,1,EG o,lent⟩) 38 true 0=some (DS o):=by rw[DS,JY]; exact QQ ..
theorem Ml(lent:Bool)(o:Opn):Dn (some ⟨false,1,EG o,lent⟩) 1 false 2=some (.int .i64 o.status):=by rw[JY]; exact bJ ..
theorem Gi(o:Opn):DQ (some ⟨false,1,Es 0 0 0 0 (.slc 0 [] true) 0 Dl,false⟩) 38 0 (DS o)=some ⟨false,1,EG o,false⟩:=by rw[DS,JY]; exact Te ..
set_option maxHeartbeats 8000000 in
set_option maxRecDepth 20000 in
theorem Vf:IContract Tryz.prog GG 54 gK:=by
 refine Xh (T:=tb [(20,Qb),(40,RE),(55,fb)] []) uk (DA (all_cons Yg (all_cons sg (all_cons Ypi all_nil))) all_nil) ?_;intro ds st r hr;obtain⟨kb,kc,kv,ko,b,c,v,o,lb,lc,lv,lo,I,rfl,Y,h1,h2,h3,hc,hv,a3,rfl⟩:=Ii hr
 have FN:∀ l:St,(st++l)[kb]?=some ⟨false,1,CW b,lb⟩:=fun l=>by
  rw[At (Ac.1 Y).1]; exact Y
 have Dm:∀ l:St,(st++l)[kc]?=some ⟨false,1,[.slc (nz 3 (c.map CZ)) (c.map CZ) false],lc⟩:=fun l=>by
  rw[At (Ac.1 h1).1]; exact h1
 have M:∀ l:St,(st++l)[kv]?=some ⟨false,1,Ef v,lv⟩:=fun l=>by
  rw[At (Ac.1 h2).1]; exact h2
 have N:∀ l:St,(st++l)[ko]?=some ⟨false,1,EG o,lo⟩:=fun l=>by
  rw[At (Ac.1 h3).1]; exact h3
 have O:=R7;have V:=fg c v o ⟨hc,hv,by omega⟩;have co:=yL c v o ⟨hc,hv⟩;have a4:=yC c v o;have ad:=fg c v (LC c v o) ⟨hc,hv,by omega⟩;unfold jq
 by_cases E:b=EM
 ·rw[show Fw c v b o=(b,0)from if_pos E];simp (disch:=first|omega|decide) only[push_cast,↓reduceIte,Cx,FN,Zm,E,O,EE,EF,OT,LR I,LK,Ps]
 by_cases J:Ga c v o=b
 ·by_cases U:o.status=0
  ·rw[show Fw c v b o=(Ga c v (LC c v o),LB c o) by unfold Fw; rw[if_neg E,if_neg (by simp[J]),if_neg (by simp[U])]];simp (disch:=first|omega|decide) only[push_cast,↓reduceIte,Cx,FN,Dm,M,N,Zm,E,J,U,O,V,ad,co,I0 hv,EW,Hc,Ft,Jc,FZ,Ml,Gi,ON,Fx,Ah,Ae,Ai,Ab,Ak,Ap,Am,DJ,DK,EE,EF,OT,LR I,LK,Ps]
  ·rw[show Fw c v b o=(EM,0) by unfold Fw; rw[if_neg E,if_neg (by simp[J]),if_pos U]];simp (disch:=first|omega|decide) only[push_cast,↓reduceIte,Cx,FN,Dm,M,N,Zm,E,J,U,O,V,I0 hv,EW,Ft,FZ,Ml,Am,EE,EF,OT,LR I,LK,Ps]
 ·rw[show Fw c v b o=(Dl,390) by unfold Fw; rw[if_neg E,if_pos J]];simp (disch:=first|omega|decide) only[push_cast,↓reduceIte,Cx,FN,Dm,M,N,Zm,E,J,O,V,I0 hv,EW,Ft,FZ,EE,EF,OT,LR I,LK,Ps,Tl]
noncomputable def RT:List D→Option D:=Dc (α:=List Ins×(Int×List Int)×Dig×(Dig×Dig)×Opn) (fun a=>[.slc (nz 3 (a.1.map CZ)) (a.1.map CZ) false,Ev a.2.1,CY a.2.2.1,HA a.2.2.2.1,DS a.2.2.2.2]) (fun a=>a.1.length≤4294967296∧Fe a.2.1∧a.2.2.2.2.top.length≤4294967295) (fun a=>.tup [D0 (G1 a.2.2.2.1 (Fw a.1 a.2.1 a.2.2.1 a.2.2.2.2)),.int .i64 (Fw a.1 a.2.1 a.2.2.1 a.2.2.2.2).2])
theorem pJ(c:List Ins)(v:Int×List Int)(b:Dig)(E:Dig×Dig)(o:Opn)(h:c.length≤4294967296∧Fe v∧o.top.length≤4294967295):RT [.slc (nz 3 (c.map CZ)) (c.map CZ) false,Ev v,CY b,HA E,DS o]=some (.tup [D0 (G1 E (Fw c v b o)),.int .i64 (Fw c v b o).2]):=
 DW (fun⟨a0,a1,I,J,M⟩ ⟨b0,b1,N,O,U⟩ h=>by simp only[Aa,D.slc.injEq,Mk,and_true,J2,Qn,KI,cI]at h; simp[h]) (c,v,b,E,o) h
noncomputable def Pz:Tbl:=tb [] [(45,Qq 54 gK)]
set_option maxHeartbeats 8000000 in
set_option maxRecDepth 20000 in
theorem Ykt(c:List Ins)(v:Int×List Int)(b:Dig)(E:Dig×Dig)(o:Opn)(h:c.length≤4294967296∧Fe v∧o.top.length≤4294967295):@wW GG Pz Xq.code (C3 [.slc (nz 3 (c.map CZ)) (c.map CZ) false,Ev v,CY b,HA E,DS o]) [] ⟨Df Xq.res (.tup [D0 (G1 E (Fw c v b o)),.int .i64 (Fw c v b o).2])⟩:=by
 obtain⟨hc,hv,N⟩:=h;unfold Xq
 have O:(EG o).all El=true:=by
  rw[JY];simp only[Es,A3,Lo];simp[El,Eo,Kj]
 have J:StOK [⟨false,1,[.slc (nz 3 (c.map CZ)) (c.map CZ) false],false⟩,⟨false,1,Ef v,false⟩,⟨false,1,CW b,false⟩,E1 E,⟨false,1,EG o,false⟩,EO (0,Dl)]:=by
  refine Sl (S:=[]) (fun o I=>by cases I) _ (fun x I=>?_);simp only[Aw,AB,or_false]at I;rcases I with rfl | rfl | rfl | rfl | rfl | rfl
  ·exact my c
  ·exact Wh v
  ·exact Lo b
  ·exact QE E
  ·exact O
  ·exact Sn _
 have M:=Sl J [E1 E,EO (0,Dl)] (fun o I=>by
  simp only[Aw,AB,or_false]at I;rcases I with rfl | rfl
  ·exact QE E
  ·exact Sn _)
 have hj:Qq 54 gK [HA E,.clo 54 [.ptr 2 0,.ptr 0 0,.ptr 1 0,.ptr 4 0]] [⟨false,1,[.slc (nz 3 (c.map CZ)) (c.map CZ) false],false⟩,⟨false,1,Ef v,false⟩,⟨false,1,CW b,false⟩,E1 E,⟨false,1,EG o,false⟩,EO (0,Dl)]=some (.tup [D0 (G1 E (Fw c v b o)),.int .i64 (Fw c v b o).2],[⟨false,1,[.slc (nz 3 (c.map CZ)) (c.map CZ) false],false⟩,⟨false,1,Ef v,false⟩,⟨false,1,CW b,false⟩,E1 E,⟨false,1,EG o,false⟩,EO (0,Dl)]):=
  KK (n9 _ _) ⟨E,[.ptr 2 0,.ptr 0 0,.ptr 1 0,.ptr 4 0],(Fw c v b o).1,(Fw c v b o).2,J,rfl,KK Ysm ⟨2,0,1,4,b,c,v,o,false,false,false,false,M,rfl,rfl,rfl,rfl,rfl,hc,hv,N,rfl⟩,rfl⟩
 have U:=Rg (0,Dl);have lv:=Q9;simp only[E1,EO,D0]at hj U lv;simp (disch:=first|omega|decide) only[push_cast,↓reduceIte,Cx,Cy,Pz,GD,gV,Mi,gF,hj,D0,U,lv]
theorem Ypv:Contract Tryz.prog GG 16 RT:=
 D8 (T:=Pz) tN (DA all_nil (all_cons (mz _ (by decide) _ Vf) all_nil)) (fun a h=>Ykt a.1 a.2.1 a.2.2.1 a.2.2.2.1 a.2.2.2.2 h)
noncomputable def Ydk:List D→Option D:=Dc (α:=Int×Dig×List Dig) (fun a=>[.int .i64 a.1,CY a.2.1,.slc (nz 32 (a.2.2.map CY)) (a.2.2.map CY) false]) (fun a=>0≤a.1∧a.1<4611686018427387904∧a.2.2.length≤4294967296) (fun a=>CY (MI a.1.toNat a.2.1 a.2.2))
theorem Yqt(i:Int)(x:Dig)(p:List Dig)(h:0≤i∧i<4611686018427387904∧p.length≤4294967296):Ydk [.int .i64 i,CY x,.slc (nz 32 (p.map CY)) (p.map CY) false]=some (CY (MI i.toNat x p)):=
 DW (fun⟨a0,a1,E⟩ ⟨b0,b1,I⟩ h=>by simp only[Aa,D.slc.injEq,D.int.injEq,dY,Mk,true_and,and_true]at h; simp[h]) (i,x,p) h
noncomputable def Ph:List D→Option D:=Dc (α:=(Int×Dig)×Int×Dig×List Dig) (fun a=>[.agg (.int .i64 (CS a.1)::CW (CT a.1)),.int .i64 a.2.1,CY a.2.2.1,.slc (nz 32 (a.2.2.2.map CY)) (a.2.2.2.map CY) false]) (fun a=>-9223372036854775808≤a.2.1∧a.2.1<9223372036854775808) (fun a=>.bool (G7 a.1 a.2.1 a.2.2.1 a.2.2.2))
theorem XI(c:Int×Dig)(i:Int)(x:Dig)(p:List Dig)(h:-9223372036854775808≤i∧i<9223372036854775808):Ph [.agg (.int .i64 (CS c)::CW (CT c)),.int .i64 i,CY x,.slc (nz 32 (p.map CY)) (p.map CY) false]=some (.bool (G7 c i x p)):=
 DW (fun⟨a0,a1,E,I⟩ ⟨b0,b1,J,M⟩ h=>by simp only[Aa,D.slc.injEq,D.int.injEq,D.agg.injEq,dY,Mk,NU,true_and,and_true]at h; simp[h,Cn]) (c,i,x,p) h
set_option maxHeartbeats 4000000 in
set_option maxRecDepth 20000 in
theorem yKi(c:Int×Dig)(i:Int)(x:Dig)(p:List Dig)(h:-9223372036854775808≤i∧i<9223372036854775808):@wW GG (tb [(25,QD),(95,Sx)] []) XV.code (C3 [.agg (.int .i64 (CS c)::CW (CT c)),.int .i64 i,CY x,.slc (nz 32 (p.map CY)) (p.map CY) false]) [] ⟨Df XV.res (.bool (G7 c i x p))⟩:=by
 obtain⟨n,r⟩:=c;unfold XV;simp (disch:=omega) only[push_cast,↓reduceIte,Cx,N9];refine E4 (fun J=>?_) (fun J=>?_)
 ·have e:G7 (n,r) i x p=false:=by unfold G7; simp; omega
  simp (disch:=omega) only[push_cast,↓reduceIte,Cx,J,e]
 ·have U:0≤n∧n≤65536:=by
   by_cases hb:n<0∨65536<n
   ·rw[Sp hb]at J; omega
   ·omega
  obtain⟨e1,Y,e3⟩:=fl U.1 U.2;simp (disch:=omega) only[push_cast,↓reduceIte,Cx,J];refine E4 (fun M=>?_) (fun M=>?_)
  ·have e:G7 (n,r) i x p=false:=by unfold G7; simp; omega
   simp (disch:=omega) only[push_cast,↓reduceIte,Cx,M,e]
  ·simp (disch:=omega) only[push_cast,↓reduceIte,Cx,M,Ylt];refine E4 (fun N=>?_) (fun N=>?_)
   ·have e:G7 (n,r) i x p=false:=by unfold G7; simp; omega
    simp (disch:=omega) only[push_cast,↓reduceIte,Cx,N,e]
   ·simp (disch:=omega) only[push_cast,↓reduceIte,Cx,N];refine E4 (fun I=>?_) (fun I=>?_)
    ·have e:G7 (n,r) i x p=decide (MI i.toNat x p=r):=by
      unfold G7;simp only[show 0≤Ei n from Y,show 0≤i by omega,show i<2 ^ (Ei n).toNat by omega,I,true_and]
     rw[e];simp (disch:=omega) only[push_cast,↓reduceIte,Cx,I];have hp:p.length≤16:=by omega
     have ab:(2:Int) ^ (Ei n).toNat≤2 ^ 16:=eO (by omega)
     refine Gy (fun q:Nat×Dig=>[(1,.int .i64 i),(3,.slc (nz 32 (p.map CY)) (p.map CY) false),(4,.ptr 0 0),(6,.ptr 1 0),(33,.int .i64 (p.length:Int)),(34,.int .i64 (q.1:Int))])
      (fun q=>[⟨false,1,.int .i64 n::CW r,false⟩,⟨false,1,CW q.2,false⟩])
      (fun q=>q.1≤p.length∧MI i.toNat x p=MI (i.toNat / 2 ^ q.1) q.2 (p.drop q.1)) (fun q=>p.length - q.1) (0,x) (by simp only[push_cast,↓reduceIte,Cx,CE,CC,Cy,I] <;> rfl) ⟨Bf _,by simp⟩ ?_
     rintro⟨j,y⟩ ⟨O,E⟩;simp only at O E;unfold jY;simp only[push_cast,↓reduceIte,Cx];refine E4 (fun h7=>?_) (fun h7=>?_)
     ·rw[nQ p j (by omega),MI,Nat.div_div_eq_div_mul,← Nat.pow_succ]at E;have h8:=Yel j;have h9:0≤i / 2 ^ j:=Ci (by omega) (by omega);have ac:i / 2 ^ j≤i:=Ce _ (by omega)
      have ad:(i / 2 ^ j) % 2=((i.toNat / 2 ^ j % 2:Nat):Int):=by
       have:i=(i.toNat:Int):=by omega
       rw[this]; simp
      simp (disch:=omega) only[push_cast,↓reduceIte,Cx,gJ,Yqe];refine E4 (fun V=>?_) (fun V=>?_)
      ·rw[if_pos (show i.toNat / 2 ^ j % 2=0 by omega)]at E;simp (disch:=omega) only[push_cast,↓reduceIte,Cx,CE,CC,Cy,Lh,Lp,DL];refine Fb (j+1,H7 y (p.getD j default)) ⟨by show j+1≤_; omega,E⟩ (by show p.length - (j+1)<p.length - j; omega) ?_;rfl
      ·rw[if_neg (show ¬ i.toNat / 2 ^ j % 2=0 by omega)]at E;simp (disch:=omega) only[push_cast,↓reduceIte,Cx,CE,CC,Cy,Lh,Lp,DL];refine Fb (j+1,H7 (p.getD j default) y) ⟨by show j+1≤_; omega,E⟩ (by show p.length - (j+1)<p.length - j; omega) ?_;rfl
     ·rw[List.drop_of_length_le (by omega)]at E;have E:MI i.toNat x p=y:=E;simp (disch:=omega) only[push_cast,↓reduceIte,Cx,Cy,E]
    ·have e:G7 (n,r) i x p=false:=by
      unfold G7;simp;intro _ _ _ O;exact absurd O I
     simp (disch:=omega) only[push_cast,↓reduceIte,I,e]
theorem yM8:Contract Tryz.prog GG 124 Ph:=
 D8 uE (DA (all_cons V8 (all_cons fe all_nil)) all_nil) (fun a h=>yKi a.1 a.2.1 a.2.2.1 a.2.2.2 h)
end Go.Proofs.YtijnglngaogdjaaGreatDoor.PI
