/-
  Merkle trees over lists of digests, in plain Lean: the laws.
  Conditions: none; these are lemmas.
-/
import Derived.Test.YtijnglngaogdjaaGreatDoorArE
import Derived.Test.YtijnglngaogdjaaGreatDoorEngHe
open BitVec renaming ofInt→CH
open Int renaming reduceAdd→CP,reduceLT→CJ,reduceMul→CX,reduceNatCast'→CC,reduceNeg→CB,reducePow→CQ,reduceSub→CR,reduceToNat→CL
open List renaming replicate→CF
open Nat renaming reduceAdd→CA,reduceBEq→CT,reduceEqDiff→Cz,reduceLT→CG,reduceLeDiff→CE,reduceMul→CD
open Prod renaming fst→CU,snd→CV
set_option linter.unusedVariables false
set_option linter.unusedSimpArgs false
namespace Go.Proofs.YtijnglngaogdjaaGreatDoor.PI
open Go
set_option linter.unusedSimpArgs false
set_option maxHeartbeats 8000000
set_option maxRecDepth 20000
set_option linter.unusedVariables false
def I9(op:Int):Int×Int:=if op=1∨op=13∨op=14∨op=15 then(1,9007199254740992)else if op=2 then(1,15)else if op=12 then(2,9007199254740992)else(0,0)
def Ea(op:Int):Int×Int:=if op=1∨op=2 then(0,1)else if op=12 then(1,1)else if op=13∨op=15 then(1,0)else if op=14∨op=16 then(0,0)else(2,1)
def F7(x:Ins):Bool:=decide (1≤x.op∧x.op≤16∧((I9 x.op).1≤0→x.n=0)∧((I9 x.op).1≤1→x.m=0)∧0≤min x.n x.m∧max x.n x.m≤(I9 x.op).2)
theorem qg(op:Int):I9 op=(1,9007199254740992)∨I9 op=(1,15)∨I9 op=(2,9007199254740992)∨I9 op=(0,0):=by
 unfold I9
 split
 ·exact .inl rfl
 ·split
  ·exact .inr (.inl rfl)
  ·split
   ·exact .inr (.inr (.inl rfl))
   ·exact .inr (.inr (.inr rfl))
theorem za(op:Int):0≤(Ea op).1∧(Ea op).1≤2∧0≤(Ea op).2∧(Ea op).2≤1:=by
 unfold Ea
 split
 ·decide
 ·split
  ·decide
  ·split
   ·decide
   ·split <;> decide
noncomputable def dA:List D→Option D:=Dd (α:=Int) (fun a=>[.int .i64 a]) (fun a=>True) (fun a=>.tup [.int .i64 (I9 a).1,.int .i64 (I9 a).2])
theorem Ybe(op:Int):dA [.int .i64 op]=some (.tup [.int .i64 (I9 op).1,.int .i64 (I9 op).2]):=
 DW (fun a b h=>by simp only[Aa,D.int.injEq,true_and,and_true]at h; simp[h]) (op) trivial
theorem Yru(op:Int):@wW GG (tb [] []) Ya.code (C4 [.int .i64 op]) [] ⟨Dg Ya.res (.tup [.int .i64 (I9 op).1,.int .i64 (I9 op).2])⟩:=by
 unfold Ya I9
 by_cases E:op=1
 ·subst E; simp (disch:=first|omega|decide) only[push_cast,↓reduceIte,Cz,true_or]
 ·by_cases I:op=13
  ·subst I; simp (disch:=first|omega|decide) only[push_cast,↓reduceIte,Cz,E,true_or,or_true]
  ·by_cases J:op=14
   ·subst J; simp (disch:=first|omega|decide) only[push_cast,↓reduceIte,Cz,E,I,true_or,or_true]
   ·by_cases M:op=15
    ·subst M; simp (disch:=first|omega|decide) only[push_cast,↓reduceIte,Cz,E,I,J,or_true]
    ·by_cases N:op=2
     ·subst N; simp (disch:=first|omega|decide) only[push_cast,↓reduceIte,Cz,E,I,J,M,or_self]
     ·by_cases O:op=12
      ·subst O; simp (disch:=first|omega|decide) only[push_cast,↓reduceIte,Cz,E,I,J,M,N,or_self]
      ·simp (disch:=first|omega|decide) only[push_cast,↓reduceIte,Cz,E,I,J,M,N,O,or_self]
theorem Ywa:Contract Tryz.prog GG 148 dA:=
 D9 uP (DB all_nil all_nil) (fun a h=>Yru a)
noncomputable def M7:List D→Option D:=Dd (α:=Int) (fun a=>[.int .i64 a]) (fun a=>True) (fun a=>.tup [.int .i64 (Ea a).1,.int .i64 (Ea a).2])
theorem Ybd(op:Int):M7 [.int .i64 op]=some (.tup [.int .i64 (Ea op).1,.int .i64 (Ea op).2]):=
 DW (fun a b h=>by simp only[Aa,D.int.injEq,true_and,and_true]at h; simp[h]) (op) trivial
theorem Yrt(op:Int):@wW GG (tb [] []) XM.code (C4 [.int .i64 op]) [] ⟨Dg XM.res (.tup [.int .i64 (Ea op).1,.int .i64 (Ea op).2])⟩:=by
 unfold XM Ea
 by_cases E:op=1
 ·subst E; simp (disch:=first|omega|decide) only[push_cast,↓reduceIte,Cz,true_or]
 ·by_cases I:op=2
  ·subst I; simp (disch:=first|omega|decide) only[push_cast,↓reduceIte,Cz,E,or_true]
  ·by_cases J:op=12
   ·subst J; simp (disch:=first|omega|decide) only[push_cast,↓reduceIte,Cz,E,I,or_self]
   ·by_cases M:op=13
    ·subst M; simp (disch:=first|omega|decide) only[push_cast,↓reduceIte,Cz,E,I,J,or_self,true_or]
    ·by_cases N:op=15
     ·subst N; simp (disch:=first|omega|decide) only[push_cast,↓reduceIte,Cz,E,I,J,M,or_self,or_true]
     ·by_cases O:op=14
      ·subst O; simp (disch:=first|omega|decide) only[push_cast,↓reduceIte,Cz,E,I,J,M,N,or_self,true_or]
      ·by_cases U:op=16
       ·subst U; simp (disch:=first|omega|decide) only[push_cast,↓reduceIte,Cz,E,I,J,M,N,O,or_self,or_true]
       ·simp (disch:=first|omega|decide) only[push_cast,↓reduceIte,Cz,E,I,J,M,N,O,U,or_self]
theorem Yv9:Contract Tryz.prog GG 101 M7:=
 D9 ui (DB all_nil all_nil) (fun a h=>Yrt a)
theorem dG(a b c d:Int):DY (some ⟨false,1,[.int .i64 a,.int .i64 b,.int .i64 c],false⟩) 1 1 (.int .i64 d)=some ⟨false,1,[.int .i64 a,.int .i64 d,.int .i64 c],false⟩:=(rfl)
theorem Ylw(a b c d:Int):DY (some ⟨false,1,[.int .i64 a,.int .i64 b,.int .i64 c],false⟩) 1 2 (.int .i64 d)=some ⟨false,1,[.int .i64 a,.int .i64 b,.int .i64 d],false⟩:=(rfl)
theorem NJ(lent:Bool)(a b c:D):Dq (some ⟨false,1,[a,b,c],lent⟩) 3 true 0=some (.agg [a,b,c]):=(rfl)
theorem NC(a b c:Int):DY (some ⟨false,1,[.int .i64 0,.int .i64 0,.int .i64 0],false⟩) 3 0 (.agg [.int .i64 a,.int .i64 b,.int .i64 c])=some ⟨false,1,[.int .i64 a,.int .i64 b,.int .i64 c],false⟩:=(rfl)
theorem YX(a:Int):DF [.int .i64 0,.int .i64 0,.int .i64 0] [(0,1,.int .i64 a)]=some [.int .i64 a,.int .i64 0,.int .i64 0]:=(rfl)
theorem YZ(x:Ins):Dz x=[.int .i64 x.op,.int .i64 x.n,.int .i64 x.m]:=(rfl)
theorem Y1(a b c E b' c':Int):Gt [0,0,0] false (.agg [.int .i64 a,.int .i64 b,.int .i64 c]) (.agg [.int .i64 E,.int .i64 b',.int .i64 c'])=some (.bool (decide (a=E∧b=b'∧c=c'))):=by
 simp only[Gt,EC,Ii,if_true,Ah,Bool.bne_false]
 congr 2
 by_cases I:a=E <;> by_cases J:b=b' <;> by_cases M:c=c' <;> simp[I,J,M]
noncomputable def dB:List D→Option D:=Dd (α:=Ins) (fun a=>[CZ a]) (fun a=>True) (fun a=>.bool (F7 a))
theorem Ybc(x:Ins):dB [CZ x]=some (.bool (F7 x)):=
 DW (fun a b h=>by simp only[Aa,and_true,QE]at h; simp[h]) (x) trivial
theorem Yrs(x:Ins):@wW GG (tb [(148,dA)] []) XN.code (C4 [CZ x]) [] ⟨Dg XN.res (.bool (F7 x))⟩:=by
 unfold XN;obtain⟨op,n,m⟩:=x
 by_cases J:op<1
 ·rw[show F7 ⟨op,n,m⟩=false from decide_eq_false (by dsimp only; omega)];simp (disch:=first|omega|decide) only[push_cast,↓reduceIte,Cz,EZ,FO,J]
 ·by_cases M:17≤op
  ·rw[show F7 ⟨op,n,m⟩=false from decide_eq_false (by dsimp only; omega)];simp (disch:=first|omega|decide) only[push_cast,↓reduceIte,Cz,EZ,FO,J,M]
  ·have hc:=Ybe op
   have fin:∀ (a b:Int) (N O:Int),I9 op=(a,b)→(a≤0→N=n)→(0<a→N=0)→(a≤1→O=m)→(1<a→O=0)→F7 ⟨op,n,m⟩=(decide (op=op∧N=0∧O=0) && (decide (0≤min n m) && decide (max n m≤b))):=by
    intro a b N O e e1 e2 e3 e4;unfold F7;dsimp only;rw[e];rw[B0];simp only[Af,decide_eq_true_eq];refine⟨fun⟨_,_,p1,U,V,Y⟩=>⟨⟨trivial,?_,?_⟩,V,Y⟩,fun⟨⟨_,p1,U⟩,V,Y⟩=>⟨by omega,by omega,?_,?_,V,Y⟩⟩
    ·by_cases ha:a≤0
     ·rw[e1 ha]; exact p1 ha
     ·exact e2 (by omega)
    ·by_cases ha:a≤1
     ·rw[e3 ha]; exact U ha
     ·exact e4 (by omega)
    ·intro ha; rw[← e1 ha]; exact p1
    ·intro ha; rw[← e3 ha]; exact U
   rcases qg op with e | e | e | e
   ·rw[fin 1 _ 0 m e (by omega) (by omega) (by omega) (by omega)];rw[e]at hc
    rcases Classical.propComplete (m=0)with I | I <;> rcases Classical.propComplete (0≤min n m)with r1 | r1 <;> rcases Classical.propComplete (max n m≤9007199254740992)with E | E <;>
     simp (disch:=first|omega|decide) only[push_cast,↓reduceIte,Cz,CJ,EZ,KA,J,M,hc,NC,YZ,dG,NJ,YX,Y1,I,r1,E,and_self,and_false]
   ·rw[fin 1 _ 0 m e (by omega) (by omega) (by omega) (by omega)];rw[e]at hc
    rcases Classical.propComplete (m=0)with I | I <;> rcases Classical.propComplete (0≤min n m)with r1 | r1 <;> rcases Classical.propComplete (max n m≤15)with E | E <;>
     simp (disch:=first|omega|decide) only[push_cast,↓reduceIte,Cz,CJ,EZ,KA,J,M,hc,NC,YZ,dG,NJ,YX,Y1,I,r1,E,and_self,and_false]
   ·rw[fin 2 _ 0 0 e (by omega) (by omega) (by omega) (by omega)];rw[e]at hc
    rcases Classical.propComplete (0≤min n m)with r1 | r1 <;> rcases Classical.propComplete (max n m≤9007199254740992)with E | E <;>
     simp (disch:=first|omega|decide) only[push_cast,↓reduceIte,Cz,CJ,EZ,KA,J,M,hc,NC,YZ,dG,Ylw,NJ,YX,Y1,r1,E,and_self]
   ·rw[fin 0 _ n m e (by omega) (by omega) (by omega) (by omega)];rw[e]at hc
    rcases Classical.propComplete (n=0)with I | I <;> rcases Classical.propComplete (m=0)with q1 | q1 <;> rcases Classical.propComplete (0≤min n m)with r1 | r1 <;> rcases Classical.propComplete (max n m≤0)with E | E <;>
     simp (disch:=first|omega|decide) only[push_cast,↓reduceIte,Cz,CJ,EZ,KA,J,M,hc,NC,YZ,NJ,YX,Y1,I,q1,r1,E,and_true,and_self,and_false]
theorem Yv8:Contract Tryz.prog GG 99 dB:=
 D9 uj (DB (all_cons Ywa all_nil) all_nil) (fun a h=>Yrs a)
noncomputable def dn:List D→St→Option (D×St):=HO (α:=Ins) (fun x=>([CZ x],[])) (fun _=>True) (fun x=>(.bool (!F7 x),[]))
theorem nQ(x:Ins):dn [CZ x] []=some (.bool (!F7 x),[]):=
 R3 (fun a b e=>by simp only[Dk,Aa,and_true,QE]at e; rw[e]) x trivial rfl
theorem Ypu:IContract Tryz.prog GG 98 dn:=by
 refine bw (T:=tb [(99,dB)] []) uA (DB (all_cons Yv8 all_nil) all_nil) ?_;intro x _;unfold jE;simp (disch:=first|omega|decide) only[push_cast,↓reduceIte,Cz,EZ,MR,Yob,Ybc];rfl
def H7:List Ins→Nat→Int
 |[],_=>-1
 |x::l,i=>if F7 x then H7 l (i+1)else i
theorem tr:∀ (l:List Ins) (i:Nat),0≤H7 l i↔l.all F7=false
 |[],i=>by simp[H7]
 |x::l,i=>by
  have:=tr l (i+1);unfold H7;cases h:F7 x <;> simp[h];simpa using this
noncomputable def cB:List D→St→Option (D×St):=HO (α:=List Ins) (fun c=>([.slc (nz 3 (c.map CZ)) (c.map CZ) false,.clo 98 []],[])) (fun c=>c.length≤9223372036854775807) (fun c=>(.int .i64 (H7 c 0),[]))
theorem Yh8(c:List Ins)(h:c.length≤9223372036854775807):cB [.slc (nz 3 (c.map CZ)) (c.map CZ) false,.clo 98 []] []=some (.int .i64 (H7 c 0),[]):=
 R3 (fun a b e=>by simp only[Dk,Aa,D.slc.injEq,and_true,J9]at e; rw[e.2]) c h rfl
variable {α:Type}
theorem Wk[Inhabited α](l:List α){i:Nat}(h:i<l.length):l.drop i=l.getD i default::l.drop (i+1):=by
 rw[Be h,Ao,An h]; rfl
theorem Yv1:IContract Tryz.prog GG 147 cB:=by
 refine bw (T:=tb [] [(98,dn)]) vI (DB all_nil (all_cons Ypu all_nil)) ?_;intro c hc;unfold kC;simp (disch:=first|omega|decide) only[push_cast,↓reduceIte,Cz,CB]
 refine GF (fun i:Nat=>[(0,.slc (nz 3 (c.map CZ)) (c.map CZ) false),(1,.clo 98 []),(7,.int .i64 (c.length:Int)),(8,.int .i64 (i:Int))])
  (fun i=>[]) (fun i=>i≤c.length∧H7 (c.drop i) i=H7 c 0) (fun i=>c.length - i) 0 (by simp only[push_cast,↓reduceIte,Cz,↓CC] <;> rfl) ⟨by omega,rfl⟩ ?_
 rintro i ⟨hi,hb⟩;unfold kE;simp (disch:=first|omega|decide) only[push_cast,↓reduceIte,Cz];refine E8 (fun N=>?_) (fun N=>?_)
 ·have E:i<c.length:=by omega
  have J:=Tt [] c false i E;have I:=Wk c E;obtain⟨x,M⟩:∃ x,c.getD i default=x:=⟨_,rfl⟩;rw[M]at J I;rw[I,H7]at hb
  cases hf:F7 x with
  |false=>
   rw[hf]at hb;have hv:=nQ x;rw[hf]at hv;simp (disch:=first|omega|decide) only[push_cast,↓reduceIte,Cz,CB,J,JS,hv];simp only[Al,if_false]at hb;rw[← hb];rfl
  |true=>
   rw[hf]at hb;have hv:=nQ x;rw[hf]at hv;simp (disch:=first|omega|decide) only[push_cast,↓reduceIte,Cz,J,JS,hv,DP];refine Fi (i+1) ⟨by omega,hb⟩ (by omega) ?_;simp only[push_cast] <;> rfl
 ·obtain rfl:i=c.length:=by omega
  rw[Ba,H7]at hb;simp (disch:=first|omega|decide) only[push_cast,↓reduceIte,CB];rw[← hb];rfl
noncomputable def MY:List D→St→Option (D×St):=HO (α:=List Ins) (fun c=>([.slc (nz 3 (c.map CZ)) (c.map CZ) false,.clo 98 []],[])) (fun c=>c.length≤9223372036854775807) (fun c=>(.bool (!c.all F7),[]))
theorem Yib(c:List Ins)(h:c.length≤9223372036854775807):MY [.slc (nz 3 (c.map CZ)) (c.map CZ) false,.clo 98 []] []=some (.bool (!c.all F7),[]):=
 R3 (fun a b e=>by simp only[Dk,Aa,D.slc.injEq,and_true,J9]at e; rw[e.2]) c h rfl
theorem Yv3:IContract Tryz.prog GG 97 MY:=by
 refine bw (T:=tb [] [(147,cB)]) vJ (DB all_nil (all_cons Yv1 all_nil)) ?_;intro c hc;unfold kD;have E:=Yh8 c hc
 have hb:decide (0≤H7 c 0)=!c.all F7:=by
  have:=tr c 0
  cases h:c.all F7 with
  |true=>rw[h]at this; simp at this ⊢; omega
  |false=>rw[h]at this; simp at this ⊢; exact this
 simp (disch:=first|omega|decide) only[push_cast,↓reduceIte,Cz,E,hb];rfl
variable {G:Db}
theorem yAe{P:Program}{T:Tbl}{il:List Nat}{f:Nat}{hints:List (List Nat)}{F:PF}(E:Ds P il f hints=some F)(I:TblOK P G T){enc:α→List D×St}{pre:α→Prop}{r:α→D×St}
  (h:∀ a,pre a→@wW G T F.code (C4 (enc a).1) (enc a).2 ⟨@Gs F.res ⟨fun d st'=>(d,st')=r a⟩⟩) (J:T.y=fun _ _ _=>none:=by rfl):IContract P G f (HO enc pre r):=
 IM E I (fun ds st x M=>by
  obtain⟨a,ha,N,rfl⟩:=fi M;have:=h a N;rw[ha]at this;exact this) J
noncomputable def aj:List D→Option D:=Dd (α:=Int×Int) (fun a=>[.int .u64 a.1,.int .u64 a.2]) (fun a=>0≤a.1∧a.1<18446744073709551616∧0≤a.2∧a.2<18446744073709551616) (fun a=>.tup [.int .u64 (a.1*a.2 / 18446744073709551616),.int .u64 (a.1*a.2 % 18446744073709551616)])
theorem yNk(x:Int)(y:Int)(h:0≤x∧x<18446744073709551616∧0≤y∧y<18446744073709551616):aj [.int .u64 x,.int .u64 y]=some (.tup [.int .u64 (x*y / 18446744073709551616),.int .u64 (x*y % 18446744073709551616)]):=
 DW (fun⟨a0,a1⟩ ⟨b0,b1⟩ h=>by simp only[Aa,D.int.injEq,true_and,and_true]at h; simp[h]) (x,y) h
theorem Yc1(x:Int)(y:Int)(h:0≤x∧x<18446744073709551616∧0≤y∧y<18446744073709551616):@wW GG (tb [(169,Za)] []) XW.code (C4 [.int .u64 x,.int .u64 y]) [] ⟨Dg XW.res (.tup [.int .u64 (x*y / 18446744073709551616),.int .u64 (x*y % 18446744073709551616)])⟩:=by
 unfold XW;simp (disch:=first|omega|decide) only[push_cast,↓reduceIte,Cz,nG x y h]
theorem Yif:Contract Tryz.prog GG 149 aj:=
 D9 ux (DB (all_cons ss all_nil) all_nil) (fun a h=>Yc1 a.1 a.2 h)
noncomputable def MZ:List D→St→Option (D×St):=HO (α:=Nat×Int) (fun a=>([.slc 1 [.int .i64 a.2] true,.int .i64 (a.1:Int)],[])) (fun a=>0<a.1∧a.1≤100000) (fun a=>(.row 0 a.1 0 a.1,[⟨true,1,(CF a.1 a.2).map nI,false⟩]))
theorem Yh1(n:Nat)(a:Int)(h:0<n∧n≤100000):MZ [.slc 1 [.int .i64 a] true,.int .i64 (n:Int)] []=some (.row 0 n 0 n,[⟨true,1,(CF n a).map nI,false⟩]):=
 R3 (fun⟨a,b⟩ ⟨E,b'⟩ e=>by
  simp only[Dk,Aa,D.slc.injEq,D.int.injEq,and_true,true_and,Int.ofNat_inj]at e;obtain⟨rfl,rfl⟩:=e;rfl) ((n,a):Nat×Int) h rfl
def FQ(n j:Nat)(a:Int):List D:=(CF j a++CF (n - j) 0).map nI
variable {a:Int}{j n:Nat}
theorem aW(h:j≤n):(FQ n j a).length=n:=by simp[FQ]; omega
theorem iL{m:Nat}(h:j+m≤n):Fc (FQ n j a) j ((CF m a).map nI)=FQ n (j+m) a:=by
 have e:CF (n - j) (0:Int)=CF m 0++CF (n - (j+m)) 0:=by
  rw[B7]; congr 1; omega
 unfold FQ;rw[e,Bv,Bv,aG (by simp) (by simp),← Bv,← Bv,← Ag,B7]
theorem Ypn(I:0<j)(E:j<n):JA [⟨true,1,FQ n j a,false⟩] 1 (.row 0 n j (n - j)) (.row 0 n 0 j)=some (.int .i64 (min (n - j) j:Nat),[⟨true,1,FQ n (j+min (n - j) j) a,false⟩]):=by
 have hl:=aW (a:=a) (Cn E)
 have he:Hf [⟨true,1,FQ n j a,false⟩] 0 n 0 j=some (1,(CF j a).map nI):=by
  simp only[Hf,AH,hl];rw[if_pos (by simp; omega),Bt]
  congr 2
  simp[FQ]
 simp only[JA,SQ,AH,Gy,he,hl,Ip];rw[if_pos (by simp; omega)];simp only[Bd,BM,Bn]
 congr 3
 rw[← B1,List.take_replicate,show min (min (n - j) j) j=min (n - j) j by omega,iL (by omega)]
theorem Yhs(I:0<n):JA [⟨true,1,CF n (.int .i64 0),false⟩] 1 (.row 0 n 0 n) (.slc 1 [.int .i64 a] true)=some (.int .i64 1,[⟨true,1,FQ n 1 a,false⟩]):=by
 have E:(CF n (D.int .i64 0))=FQ n 0 a:=by simp[FQ,nI]
 rw[E];have hl:=aW (a:=a) (Bg n);simp only[JA,SQ,AH,Gy,hl,Ip];rw[if_pos (by simp; omega)];have hm:min n [D.int IntKind.i64 a].length=1:=by simp; omega
 simp only[hm,Bn];have:=iL (n:=n) (j:=0) (m:=1) (a:=a) (by omega);rw[Am]at this;rw[← this];rfl
theorem gm(h:n≤100000):OP 1 8 (.int .i64 0) (.int .i64 (n:Int)) (.int .i64 (n:Int))=some (n,⟨true,1,CF n (.int .i64 0),false⟩):=by
 have E:Fq (.int .i64 (n:Int))=some n:=by simp[Fq]
 simp only[OP,E];rw[if_pos ⟨AE _,by omega,by omega,by decide,rfl,rfl⟩]
theorem Yvz:IContract Tryz.prog GG 100 MZ:=by
 refine yAe (T:=tb [(149,aj)] []) vz (DB (all_cons Yif all_nil) all_nil) ?_;rintro⟨n,a⟩ ⟨I,J⟩;dsimp only at I J;unfold kr;have hm:=yNk 1 (n:Int) ⟨by omega,by omega,by omega,by omega⟩;rw[show(1*(n:Int) / 18446744073709551616)=0 by omega,show(1*(n:Int) % 18446744073709551616)=n by omega]at hm;have hc:=Yhs (n:=n) (a:=a) I;have U:¬ ((n:Int)<0):=by omega
 have V:¬ ((9223372036854775807:Int)<(n:Int)):=by omega
 simp (disch:=first|omega|decide) only[push_cast,↓reduceIte,Cz,CJ,CP,↓CC,U,YW,tJ,hm,V,gm J,hc];refine GF (fun j:Nat=>[(7,.row 0 n 0 n),(8,.int .i64 (j:Int))]) (fun j=>[⟨true,1,FQ n j a,false⟩]) (fun j=>0<j∧j≤n) (fun j=>n - j) 1 (by simp only[push_cast,↓reduceIte,Cz,CG,CE,↓CC] <;> rfl) ⟨by omega,by omega⟩ ?_;rintro j ⟨M,E⟩;have hl:=aW (a:=a) E;have N:PZ (some ⟨true,1,FQ n j a,false⟩) n=true:=by simp[PZ,hl]
 unfold ky;simp (disch:=first|omega|decide) only[push_cast,↓reduceIte,Cz,N];refine E8 (fun Y=>?_) (fun Y=>?_)
 ·have O:=Ypn (a:=a) M (show j<n by omega)
  have s1:OH (some ⟨true,1,FQ n j a,false⟩) 1 (.row 0 n 0 n) 0 n 0 n j n=some (.row 0 n j (n - j)):=by
   simp[OH,hl,show j≤n from E,show ¬ j=0 by omega,show ¬ j=n by omega]
  have s2:OH (some ⟨true,1,FQ n j a,false⟩) 1 (.row 0 n 0 n) 0 n 0 n 0 j=some (.row 0 n 0 j):=by
   simp[OH,hl,show j≤n from E,show ¬ j=0 by omega,show ¬ j=n by omega,show ¬ 0=j by omega]
  simp (disch:=first|omega|decide) only[push_cast,↓reduceIte,Cz,CG,CE,s1,s2,O,DP];refine Fi (j+min (n - j) j) ⟨by omega,by omega⟩ (by omega) ?_;simp only[push_cast] <;> rfl
 ·obtain rfl:j=n:=by omega
  simp (disch:=first|omega|decide) only[push_cast,↓reduceIte,Cz];simp[FQ]
abbrev Eg(x:List Int)(i:Nat):Int:=x.getD i default
theorem sm{x:List Int}{i:Nat}(h:i<x.length):Eg x i∈x:=by
 grind
theorem bT(A:List Int)(lent:Bool)(tot i:Nat)(E:A.length=tot)(h:i<tot):UE (some ⟨true,1,A.map nI,lent⟩) 1 false tot i 0=some (.int .i64 (Eg A i)):=by
 subst E; exact Yf9 nI (fun _=>rfl) 1 A lent i h
theorem Yy(A:List Int)(lent:Bool)(key tot:Nat)(j:Int)(E:A.length=tot)(I:0≤j)(J:j<(tot:Int)):OJ (some ⟨true,1,A.map nI,lent⟩) 1 key tot 0 tot j=some (.rptr key tot j.toNat 0):=by
 subst E;have:=kW nI 1 A lent key 0 A.length j I J;grind
def Ma(o:Option PI.Obj)(tot i:Nat)(v:Int):Option PI.Obj:=o.bind fun o=>if o.row && !o.lent && o.els.length == tot then(o.els[i]?).bind fun el=>(S1 el 0 [.int .i64 v]).map fun el'=>{o with els:=o.els.set i el'} else none
theorem eK(st:St)(key tot i:Nat)(v:Int):Ll st 1 (.rptr key tot i 0) (.int .i64 v)=(Ma st[key]? tot i v).map fun o=>st.set key o:=by
 simp only[Ll,Ma,kL,mB,List.isEmpty_nil,BX]
 cases st[key]? with
 |none=>rfl
 |some o=>
  simp only[Bl]
  split
  ·cases o.els[i]? with
   |none=>rfl
   |some el=>
    have hc:(D.int .i64 v).cells=[.int .i64 v]:=rfl;grind
  ·rfl
theorem m9(A:List Int)(tot i:Nat)(v:Int)(E:A.length=tot)(h:i<tot):Ma (some ⟨true,1,A.map nI,false⟩) tot i v=some ⟨true,1,(A.set i v).map nI,false⟩:=by
 subst E;have I:S1 (nI A[i]) 0 [.int .i64 v]=some (nI v):=rfl;simp[Ma,h,I,List.map_set]
def RC(len i after n:Int)(dep:List Int):Prop:=n≤i∨len≤n∨(0≤Eg dep n.toNat∧Eg dep n.toNat≠after)
instance (len i after n:Int) (dep:List Int):Decidable (RC len i after n dep):=by unfold RC; infer_instance
def Ox(len i after:Int):List Int→List Int→Option (List Int)
 |[],dep=>some dep
 |n::l,dep=>if RC len i after n dep then none else Ox len i after l (dep.set n.toNat after)
def JZ(x:Ins)(i:Int):List Int:=(if x.op=13∨x.op=14 then [x.n]else [])++(if x.op≠14∧x.op≠15∧x.op≠16 then [i+1]else [])
def JR(x:Ins)(d:Int):Prop:=d<(Ea x.op).1∨(x.op=15∧d≠1)∨(x.op=16∧d≠0)
instance (x:Ins) (d:Int):Decidable (JR x d):=by unfold JR; infer_instance
def FN(x:Ins)(d:Int):Int:=d - (Ea x.op).1+(Ea x.op).2
def Gr(len:Int):List Ins→Nat→List Int→Int→Option Int
 |[],_,_,s=>some s
 |x::r,i,dep,s=>if Eg dep i<0 then Gr len r (i+1) dep s else if JR x (Eg dep i)then none else
  match Ox len i (FN x (Eg dep i)) (JZ x i) dep with
  |none=>none
  |some dep'=>Gr len r (i+1) dep' (max (max s (Eg dep i)) (FN x (Eg dep i)))
def Jt:Option Int→Int×Int
 |none=>(0,200)
 |some s=>if 64<s then(0,2)else(s,0)
def G7(n:Nat):List Int:=(CF n (-1)).set 0 0
def GH(c:List Ins):Int×Int:=if 4096<c.length then(0,2)else if c.length=0∨c.all F7=false then(0,200)else Jt (Gr c.length c 0 (G7 c.length) 0)
theorem rk(sz:Nat)(a:D)(l:Bool):PZ (some ⟨true,sz,[a],l⟩) 1=true:=(rfl)
theorem li2(sz:Nat)(a b:D)(l:Bool):PZ (some ⟨true,sz,[a,b],l⟩) 2=true:=(rfl)
variable {st:St}
theorem ir{T:Tbl}{c:PC}{fr:Frame}{st':St}{Q:QC}(e:st=st')(h:@wW G T c fr st' Q):@wW G T c fr st Q:=by rw[e]; exact h
/- what follows an instruction -/
def PD(N:Nat)(i:Int)(dp:List Int):Prop:=dp.length=N∧∀ y∈dp,-1≤y∧y≤i
theorem ou{N:Nat}{i:Int}{I:List Int}(h:PD N i I)(k:Nat){v:Int}(J:-1≤v)(M:v≤i):PD N i (I.set k v):=by
 refine⟨by rw[B6]; exact h.1,fun y E=>?_⟩;rcases BQ E with E | rfl
 ·exact h.2 y E
 ·omega
set_option maxHeartbeats 4000000 in
set_option maxRecDepth 20000 in
theorem RG(T:Tbl)(c:List Ins)(x:Ins)(i:Nat)(hi:i<c.length)(hc:c.length≤4096)(s after:Int)(a0:-1≤after)(a1:after≤(i:Int)+1)(E:List Int)(ce:E.length≤2)(N:List Int)(a3:PD c.length ((i:Int)+1) N)(fr:Frame)(Q:Ex→Frame→St→Prop)
  (f0:fr 0=.slc (nz 3 (c.map CZ)) (c.map CZ) false) (f2:fr 2=.int .i64 s) (f4:fr 4=.row 0 c.length 0 c.length) (f5:fr 5=.int .i64 (i:Int)) (bb:fr 10=.int .i64 after)
  (bc:fr 30=.slc (nz 3 (c.map CZ)) (c.map CZ) false) (bd:fr 31=.int .i64 (c.length:Int)) (be:fr 32=.int .i64 (i:Int)) (a4:fr 110=DV 0 2 (E.map nI)) (a5:fr 111=.int .i64 (E.length:Int)) (a6:fr 112=.int .i64 0)
  (V:Ox c.length i after E N=none→∀ J st',J 2=.int .i64 0→J 3=.int .i64 200→Q .ret J st')
  (a7:∀ I,Ox c.length i after E N=some I→PD c.length ((i:Int)+1) I→∀ J,J 0=.slc (nz 3 (c.map CZ)) (c.map CZ) false→J 2=.int .i64 s→J 4=.row 0 c.length 0 c.length→J 30=.slc (nz 3 (c.map CZ)) (c.map CZ) false→J 31=.int .i64 (c.length:Int)→J 32=.int .i64 (i:Int)→
   Q (.exit 2) J (⟨true,1,I.map nI,false⟩::⟨false,1,Dz x,false⟩::Dr 1 (E.map nI))) :
  @wW GG T (.loop [0,2,4,5,10,30,31,32,110,111,112] bI) fr (⟨true,1,N.map nI,false⟩::⟨false,1,Dz x,false⟩::Dr 1 (E.map nI)) ⟨Q⟩:=by
 have hB:Ef ((Dr 1 (E.map nI)).length+1+1) [] (DV 0 2 (E.map nI))=DV 0 2 (E.map nI):=by
  cases E <;> rfl
 have bf:∀ I:List Int,StOK (⟨true,1,I.map nI,false⟩::⟨false,1,Dz x,false⟩::Dr 1 (E.map nI)):=by
  intro I o Y hr y hy;simp only[Aw]at Y;rcases Y with rfl | rfl | Y
  ·cases hr
  ·simp only[Dz,Aw,AB,or_false]at hy;rcases hy with rfl | rfl | rfl <;> rfl
  ·cases E with
   |nil=>cases Y
   |cons a l=>
    rw[show Dr 1 ((a::l).map nI)=[⟨true,1,(a::l).map nI,false⟩]from rfl,AM]at Y;grind
 have hR:∀ (fr:Frame) (I:List Int),restrict [0,2,4,5,10,30,31,32,110,111,112] ((Dr 1 (E.map nI)).length+1+1) ⟨fr,⟨true,1,I.map nI,false⟩::⟨false,1,Dz x,false⟩::Dr 1 (E.map nI)⟩=
   ⟨GK (Ja fr ((Dr 1 (E.map nI)).length+1+1) [] [0,2,4,5,10,30,31,32,110,111,112]),⟨true,1,I.map nI,false⟩::⟨false,1,Dz x,false⟩::Dr 1 (E.map nI)⟩:=fun fr I=>Xv (bf I) rfl
 have aa:EA ((Dr 1 (E.map nI)).length+1+1) [] 0=some 0:=OZ (by omega)
 refine GF (fun p:Nat×List Int=>[(0,.slc (nz 3 (c.map CZ)) (c.map CZ) false),(2,.int .i64 s),(4,.row 0 c.length 0 c.length),(5,.int .i64 (i:Int)),(10,.int .i64 after),(30,.slc (nz 3 (c.map CZ)) (c.map CZ) false),(31,.int .i64 (c.length:Int)),(32,.int .i64 (i:Int)),
   (110,DV 0 2 (E.map nI)),(111,.int .i64 (E.length:Int)),(112,.int .i64 (p.1:Int))])
  (fun p=>⟨true,1,p.2.map nI,false⟩::⟨false,1,Dz x,false⟩::Dr 1 (E.map nI)) (fun p=>p.1≤E.length∧PD c.length ((i:Int)+1) p.2∧Ox c.length i after (E.drop p.1) p.2=Ox c.length i after E N) (fun p=>E.length - p.1) (0,N)
  ((hR fr N).trans (by simp only[push_cast,f0,f2,f4,f5,bb,bc,bd,be,a4,a5,a6,hB,↓aa] <;> rfl)) ⟨Bg _,a3,rfl⟩ ?_
 rintro⟨j,I⟩ ⟨hj,M,hn⟩;dsimp only at hj M hn;unfold bI;simp (disch:=first|omega|decide) only[push_cast,↓reduceIte,Cz];refine E8 (fun h2=>?_) (fun h2=>?_)
 ·have a2:j<E.length:=by omega
  have bh:=Wk E a2
  have ab:E.map nI≠[]:=by
   intro e;have:=congrArg List.length e;grind
  obtain⟨n,ac⟩:∃ n,E.getD j default=n:=⟨_,rfl⟩;have b5:OJ (some ⟨true,1,E.map nI,false⟩) 1 2 E.length 0 E.length (j:Int)=some (.rptr 2 E.length j 0):=Yy E false 2 E.length j rfl (by omega) (by omega);have b6:UE (some ⟨true,1,E.map nI,false⟩) 1 false E.length j 0=some (.int .i64 n):=by rw[← ac]; exact bT E false E.length j rfl a2
  have U:∀ I:List Int,F5 (⟨true,1,I.map nI,false⟩::⟨false,1,Dz x,false⟩::Dr 1 (E.map nI)) 1 (DV 0 2 (E.map nI)) (.int .i64 (j:Int))=some (.rptr 2 E.length j 0):=by
   intro I;rw[Qj _ _ _ ab,O1 _ _ ab,Bd,mo];exact b5
  have O:∀ I:List Int,E1 (⟨true,1,I.map nI,false⟩::⟨false,1,Dz x,false⟩::Dr 1 (E.map nI)) 1 false (.rptr 2 E.length j 0)=some (.int .i64 n):=by
   intro I;rw[O1 _ _ ab,iK];exact b6
  rw[bh,ac,Ox]at hn
  by_cases b1:n≤(i:Int)
  ·rw[if_pos (.inl b1)]at hn;simp (disch:=first|omega|decide) only[push_cast,↓reduceIte,Cz,U,O,  b1];exact V hn.symm _ _ rfl rfl
  ·by_cases b2:(c.length:Int)≤n
   ·rw[if_pos (.inr (.inl b2))]at hn;simp (disch:=first|omega|decide) only[push_cast,↓reduceIte,Cz,U,O,  b1,b2];exact V hn.symm _ _ rfl rfl
   ·have ae:=Yy I false 0 c.length n M.1 (by omega) (by omega);have af:=bT I false c.length n.toNat M.1 (by omega);have cf:=M.2 _ (sm (x:=I) (i:=n.toNat) (by rw[M.1]; omega));have hs:=m9 I c.length n.toNat after M.1 (by omega)
    by_cases b3:0≤Eg I n.toNat
    ·by_cases b4:Eg I n.toNat=after
     ·have b8:(Eg I n.toNat=after)=True:=eq_true b4;rw[if_neg (by unfold RC; omega)]at hn;simp (disch:=first|omega|decide) only[push_cast,↓reduceIte,Cz,U,O,  b1,b2,ae,af,b3,b8,eK,hs,DP,↓hR,↓aa,hB];refine Fi (j+1,I.set n.toNat after) ⟨by dsimp only; omega,ou M _ a0 a1,hn⟩ (by dsimp only; omega) ?_;rfl
     ·rw[if_pos (.inr (.inr ⟨b3,b4⟩))]at hn;simp (disch:=first|omega|decide) only[push_cast,↓reduceIte,Cz,U,O,  b1,b2,ae,af,b3,b4];exact V hn.symm _ _ rfl rfl
    ·rw[if_neg (by unfold RC; omega)]at hn;simp (disch:=first|omega|decide) only[push_cast,↓reduceIte,Cz,U,O,  b1,b2,ae,af,b3,eK,hs,DP,↓hR,↓aa,hB];refine Fi (j+1,I.set n.toNat after) ⟨by dsimp only; omega,ou M _ a0 a1,hn⟩ (by dsimp only; omega) ?_;rfl
 ·obtain rfl:j=E.length:=by omega
  rw[Ba,Ox]at hn;simp (disch:=first|omega|decide) only[push_cast];exact a7 I hn.symm M _ rfl rfl rfl rfl rfl rfl
noncomputable def Zj:List D→Option D:=Dd (α:=List Ins) (fun a=>[.slc (nz 3 (a.map CZ)) (a.map CZ) false]) (fun a=>a.length≤9223372036854775807) (fun a=>.tup [.int .i64 (GH a).1,.int .i64 (GH a).2])
theorem nO(c:List Ins)(h:c.length≤9223372036854775807):Zj [.slc (nz 3 (c.map CZ)) (c.map CZ) false]=some (.tup [.int .i64 (GH c).1,.int .i64 (GH c).2]):=
 DW (fun a b h=>by simp only[Aa,D.slc.injEq,and_true,J9]at h; simp[h]) (c) h
set_option maxHeartbeats 4000000 in
set_option maxRecDepth 20000 in
theorem Yrr(c:List Ins)(h:c.length≤9223372036854775807):@wW GG (tb [(101,M7)] [(97,MY),(100,MZ)]) XL.code (C4 [.slc (nz 3 (c.map CZ)) (c.map CZ) false]) [] ⟨Dg XL.res (.tup [.int .i64 (GH c).1,.int .i64 (GH c).2])⟩:=by
 unfold XL
 by_cases h1:4096<c.length
 ·rw[show GH c=(0,2)from if_pos h1];simp (disch:=first|omega|decide) only[push_cast,↓reduceIte,Cz,CB,show((4096:Int)<(c.length:Int)) by omega]
 by_cases h2:c.length=0
 ·rw[show GH c=(0,200) by unfold GH; rw[if_neg h1,if_pos (.inl h2)]];simp (disch:=first|omega|decide) only[push_cast,↓reduceIte,Cz,CJ,CB,show ¬ ((4096:Int)<(c.length:Int)) by omega,show((c.length:Int)=0) by omega]
 have bf:=Yib c h;have h3:¬ ((4096:Int)<(c.length:Int)):=by omega
 have h4:¬ ((c.length:Int)=0):=by omega
 cases a6:c.all F7 with
 |false=>
  rw[a6]at bf;rw[show GH c=(0,200) by unfold GH; rw[if_neg h1,if_pos (.inr a6)]];simp (disch:=first|omega|decide) only[push_cast,↓reduceIte,Cz,CB,h3,h4,bf]
 |true=>
  rw[a6]at bf;rw[show GH c=Jt (Gr c.length c 0 (G7 c.length) 0) by unfold GH; rw[if_neg h1,if_neg (by rw[a6]; simp[h2])]];have b8:=Yh1 c.length (-1) ⟨by omega,by omega⟩;have b9:OJ (some ⟨true,1,(CF c.length (-1)).map nI,false⟩) 1 0 c.length 0 c.length 0=some (.rptr 0 c.length 0 0):=Yy _ false 0 c.length 0 (by simp) (by omega) (by omega);have hs0:Ma (some ⟨true,1,(CF c.length (-1)).map nI,false⟩) c.length 0 0=some ⟨true,1,(G7 c.length).map nI,false⟩:=m9 _ c.length 0 0 (by simp) (by omega);simp (disch:=first|omega|decide) only[push_cast,↓reduceIte,Cz,CB,h3,h4,bf,Fw,b8,b9,eK,hs0]
  refine GF (fun p:Nat×List Int×Int=>[(0,.slc (nz 3 (c.map CZ)) (c.map CZ) false),(2,.int .i64 p.2.2),(4,.row 0 c.length 0 c.length),(30,.slc (nz 3 (c.map CZ)) (c.map CZ) false),(31,.int .i64 (c.length:Int)),(32,.int .i64 (p.1:Int))])
   (fun p=>[⟨true,1,p.2.1.map nI,false⟩]) (fun p=>p.1≤c.length∧PD c.length p.1 p.2.1∧Jt (Gr c.length (c.drop p.1) p.1 p.2.1 p.2.2)=Jt (Gr c.length c 0 (G7 c.length) 0)) (fun p=>c.length - p.1) (0,G7 c.length,0)
   (by simp only[push_cast,↓reduceIte,Cz,CG,CE,CB] <;> rfl) ⟨Bg _,?_,rfl⟩ ?_
  ·refine⟨by simp[G7],fun y hy=>?_⟩;rcases BQ hy with hy | rfl
   ·grind
   ·omega
  rintro⟨i,dep,s⟩ ⟨hi,ae,hv⟩;dsimp only at hi ae hv;unfold jO;simp (disch:=first|omega|decide) only[push_cast,↓reduceIte,Cz];refine E8 (fun h5=>?_) (fun h5=>?_)
  ·have af:i<c.length:=by omega
   have ba:c.length≤4096:=by omega
   have ah:PD c.length ((i:Int)+1) dep:=⟨ae.1,fun y hy=>⟨(ae.2 y hy).1,by have:=(ae.2 y hy).2; omega⟩⟩;have hx:=fun st=>Tt st c false i af;have b4:=Wk c af;obtain⟨x,ca⟩:∃ x,c.getD i default=x:=⟨_,rfl⟩;rw[ca]at hx b4;rw[b4,Gr]at hv;have J:OJ (some ⟨true,1,dep.map nI,false⟩) 1 0 c.length 0 c.length (i:Int)=some (.rptr 0 c.length i 0):=Yy dep false 0 c.length i ah.1 (by omega) (by omega);have M:=bT dep false c.length i ah.1 af;have cg:=ae.2 _ (sm (x:=dep) (i:=i) (by rw[ae.1]; omega));have he:=Ybd x.op;have ch:=za x.op
   by_cases h0:Eg dep i<0
   ·rw[if_pos h0]at hv;simp (disch:=first|omega|decide) only[push_cast,↓reduceIte,Cz,CG,CE,CA,hx,JS,KA,Mw,J,M,h0,DP];refine Fi (i+1,dep,s) ⟨by dsimp only; omega,ah,hv⟩ (by dsimp only; omega) ?_;rfl
   rw[if_neg h0]at hv;have bb:FN x (Eg dep i)=Eg dep i - (Ea x.op).1+(Ea x.op).2:=rfl
   by_cases E:Eg dep i<(Ea x.op).1
   ·rw[if_pos (.inl E)]at hv;simp (disch:=first|omega|decide) only[push_cast,↓reduceIte,Cz,hx,JS,KA,Mw,J,M,h0,FO,he,Fh,DP,E];rw[← hv];rfl
   have cb:(Eg dep i<(Ea x.op).1)=False:=eq_false E
   by_cases a3:x.op=15
   ·have N:(x.op=15)=True:=eq_true a3;have a0:(x.op=14)=False:=eq_false (by omega);have O:(x.op=13)=False:=eq_false (by omega);have cd:Ea x.op=(1,0):=by rw[a3]; rfl
    by_cases hd:Eg dep i=1
    ·have ed:(Eg dep i=1)=True:=eq_true hd;have a1:(x.op=16)=False:=eq_false (by omega);have c0:¬ Eg dep i<(Ea x.op).1:=E;have U:JZ x (i:Int)=[]:=by simp[JZ,a3]
     have I:¬ JR x (Eg dep i):=by unfold JR; omega
     rw[if_neg I,U]at hv;simp (disch:=first|omega|decide) only[push_cast,↓reduceIte,Cz,hx,JS,KA,Mw,J,M,h0,FO,he,Fh,DP,E,N,a0,O,a1,ed,bb.symm];have hl:=RG (tb [(101,M7)] [(97,MY),(100,MZ)]) c x i af ba (max (max s (Eg dep i)) (FN x (Eg dep i))) (FN x (Eg dep i)) (by omega) (by omega) [] (by simp) dep ah;refine hl _ _ rfl rfl rfl rfl rfl rfl rfl rfl rfl rfl rfl (fun hn V st' g2 g3=>?_) (fun dp hn Y V g0 g2 g4 aa ab ac=>?_)
     ·rw[hn]at hv;have ad:((0,200):Int×Int)=Jt (Gr c.length c 0 (G7 c.length) 0):=hv;simp (disch:=first|omega|decide) only[push_cast,g2,g3];rw[← ad]
     ·rw[hn]at hv;simp (disch:=first|omega|decide) only[push_cast,↓reduceIte,Cz,ac,DP];refine Fi (i+1,dp,max (max s (Eg dep i)) (FN x (Eg dep i))) ⟨by dsimp only; omega,Y,hv⟩ (by dsimp only; omega) ?_;simp only[push_cast,↓reduceIte,CG,CE,g0,g2,g4,aa,ab] <;> rfl
    ·have ed:(Eg dep i=1)=False:=eq_false hd;rw[if_pos (.inr (.inl ⟨a3,hd⟩))]at hv;simp (disch:=first|omega|decide) only[push_cast,↓reduceIte,Cz,hx,JS,KA,Mw,J,M,h0,FO,he,Fh,DP,E,N,ed];rw[← hv];rfl
   by_cases a5:x.op=16
   ·have a1:(x.op=16)=True:=eq_true a5;have N:(x.op=15)=False:=eq_false a3;have a0:(x.op=14)=False:=eq_false (by omega);have O:(x.op=13)=False:=eq_false (by omega);have ce:Ea x.op=(0,0):=by rw[a5]; rfl
    by_cases hd:Eg dep i=0
    ·have ed:(Eg dep i=0)=True:=eq_true hd;have U:JZ x (i:Int)=[]:=by simp[JZ,a5]
     have I:¬ JR x (Eg dep i):=by unfold JR; omega
     rw[if_neg I,U]at hv;simp (disch:=first|omega|decide) only[push_cast,↓reduceIte,Cz,hx,JS,KA,Mw,J,M,h0,FO,he,Fh,DP,E,N,a0,O,a1,ed,bb.symm];have hl:=RG (tb [(101,M7)] [(97,MY),(100,MZ)]) c x i af ba (max (max s (Eg dep i)) (FN x (Eg dep i))) (FN x (Eg dep i)) (by omega) (by omega) [] (by simp) dep ah;refine hl _ _ rfl rfl rfl rfl rfl rfl rfl rfl rfl rfl rfl (fun hn V st' g2 g3=>?_) (fun dp hn Y V g0 g2 g4 aa ab ac=>?_)
     ·rw[hn]at hv;have ad:((0,200):Int×Int)=Jt (Gr c.length c 0 (G7 c.length) 0):=hv;simp (disch:=first|omega|decide) only[push_cast,g2,g3];rw[← ad]
     ·rw[hn]at hv;simp (disch:=first|omega|decide) only[push_cast,↓reduceIte,Cz,ac,DP];refine Fi (i+1,dp,max (max s (Eg dep i)) (FN x (Eg dep i))) ⟨by dsimp only; omega,Y,hv⟩ (by dsimp only; omega) ?_;simp only[push_cast,↓reduceIte,CG,CE,g0,g2,g4,aa,ab] <;> rfl
    ·have ed:(Eg dep i=0)=False:=eq_false hd;rw[if_pos (.inr (.inr ⟨a5,hd⟩))]at hv;simp (disch:=first|omega|decide) only[push_cast,↓reduceIte,Cz,hx,JS,KA,Mw,J,M,h0,FO,he,Fh,DP,E,N,a1,ed];rw[← hv];rfl
   have N:(x.op=15)=False:=eq_false a3;have a1:(x.op=16)=False:=eq_false a5
   by_cases bg:x.op=14
   ·have a0:(x.op=14)=True:=eq_true bg;have O:(x.op=13)=False:=eq_false (by omega);have U:JZ x (i:Int)=[x.n]:=by simp[JZ,bg]
    have I:¬ JR x (Eg dep i):=by unfold JR; omega
    rw[if_neg I,U]at hv;have bc:D8 [⟨true,1,dep.map nI,false⟩,⟨false,1,Dz x,false⟩] 1 8 (.slc 0 [] true) (.slc 1 [.int .i64 x.n] true)=some (.row 2 1 0 1,[⟨true,1,dep.map nI,false⟩,⟨false,1,Dz x,false⟩,⟨true,1,[.int .i64 x.n],false⟩]):=(rfl);simp (disch:=first|omega|decide) only[push_cast,↓reduceIte,Cz,↓CC,hx,JS,KA,Mw,J,M,h0,FO,Kz,he,Fh,DP,E,Fw,N,a0,O,a1,bb.symm,bc,rk];have hl:=RG (tb [(101,M7)] [(97,MY),(100,MZ)]) c x i af ba (max (max s (Eg dep i)) (FN x (Eg dep i))) (FN x (Eg dep i)) (by omega) (by omega) [x.n] (by simp) dep ah;refine ir (st':=(⟨true,1,dep.map nI,false⟩::⟨false,1,Dz x,false⟩::Dr 1 (([x.n]:List Int).map nI))) rfl ?_;refine hl _ _ rfl rfl rfl rfl rfl rfl rfl rfl rfl rfl rfl (fun hn V st' g2 g3=>?_) (fun dp hn Y V g0 g2 g4 aa ab ac=>?_)
    ·rw[hn]at hv;have ad:((0,200):Int×Int)=Jt (Gr c.length c 0 (G7 c.length) 0):=hv;simp (disch:=first|omega|decide) only[push_cast,g2,g3];rw[← ad]
    ·rw[hn]at hv;simp (disch:=first|omega|decide) only[push_cast,↓reduceIte,Cz,ac,DP];refine Fi (i+1,dp,max (max s (Eg dep i)) (FN x (Eg dep i))) ⟨by dsimp only; omega,Y,hv⟩ (by dsimp only; omega) ?_;simp only[push_cast,↓reduceIte,CG,CE,g0,g2,g4,aa,ab] <;> rfl
   have a0:(x.op=14)=False:=eq_false bg
   by_cases bh:x.op=13
   ·have O:(x.op=13)=True:=eq_true bh;have U:JZ x (i:Int)=[x.n,(i:Int)+1]:=by simp[JZ,bh]
    have I:¬ JR x (Eg dep i):=by unfold JR; omega
    rw[if_neg I,U]at hv;have bc:D8 [⟨true,1,dep.map nI,false⟩,⟨false,1,Dz x,false⟩] 1 8 (.slc 0 [] true) (.slc 1 [.int .i64 x.n] true)=some (.row 2 1 0 1,[⟨true,1,dep.map nI,false⟩,⟨false,1,Dz x,false⟩,⟨true,1,[.int .i64 x.n],false⟩]):=(rfl);have cc:D8 [⟨true,1,dep.map nI,false⟩,⟨false,1,Dz x,false⟩,⟨true,1,[.int .i64 x.n],false⟩] 1 8 (.row 2 1 0 1) (.slc 1 [.int .i64 ((i:Int)+1)] true)=some (.row 2 2 0 2,[⟨true,1,dep.map nI,false⟩,⟨false,1,Dz x,false⟩,⟨true,1,[.int .i64 x.n,.int .i64 ((i:Int)+1)],false⟩]):=(rfl);simp (disch:=first|omega|decide) only[push_cast,↓reduceIte,Cz,↓CC,hx,JS,KA,Mw,J,M,h0,FO,Kz,he,Fh,DP,E,Fw,N,a0,O,a1,bb.symm,bc,cc,li2];have hl:=RG (tb [(101,M7)] [(97,MY),(100,MZ)]) c x i af ba (max (max s (Eg dep i)) (FN x (Eg dep i))) (FN x (Eg dep i)) (by omega) (by omega) [x.n,(i:Int)+1] (by simp) dep ah;refine ir (st':=(⟨true,1,dep.map nI,false⟩::⟨false,1,Dz x,false⟩::Dr 1 (([x.n,(i:Int)+1]:List Int).map nI))) rfl ?_;refine hl _ _ rfl rfl rfl rfl rfl rfl rfl rfl rfl rfl rfl (fun hn V st' g2 g3=>?_) (fun dp hn Y V g0 g2 g4 aa ab ac=>?_)
    ·rw[hn]at hv;have ad:((0,200):Int×Int)=Jt (Gr c.length c 0 (G7 c.length) 0):=hv;simp (disch:=first|omega|decide) only[push_cast,g2,g3];rw[← ad]
    ·rw[hn]at hv;simp (disch:=first|omega|decide) only[push_cast,↓reduceIte,Cz,ac,DP];refine Fi (i+1,dp,max (max s (Eg dep i)) (FN x (Eg dep i))) ⟨by dsimp only; omega,Y,hv⟩ (by dsimp only; omega) ?_;simp only[push_cast,↓reduceIte,CG,CE,g0,g2,g4,aa,ab] <;> rfl
   ·have O:(x.op=13)=False:=eq_false bh;have U:JZ x (i:Int)=[(i:Int)+1]:=by simp[JZ,bh,bg,a3,a5]
    have I:¬ JR x (Eg dep i):=by unfold JR; omega
    rw[if_neg I,U]at hv;have bc:D8 [⟨true,1,dep.map nI,false⟩,⟨false,1,Dz x,false⟩] 1 8 (.slc 0 [] true) (.slc 1 [.int .i64 ((i:Int)+1)] true)=some (.row 2 1 0 1,[⟨true,1,dep.map nI,false⟩,⟨false,1,Dz x,false⟩,⟨true,1,[.int .i64 ((i:Int)+1)],false⟩]):=(rfl);simp (disch:=first|omega|decide) only[push_cast,↓reduceIte,Cz,↓CC,hx,JS,KA,Mw,J,M,h0,FO,he,Fh,DP,E,Fw,N,a0,O,a1,bb.symm,bc,rk];have hl:=RG (tb [(101,M7)] [(97,MY),(100,MZ)]) c x i af ba (max (max s (Eg dep i)) (FN x (Eg dep i))) (FN x (Eg dep i)) (by omega) (by omega) [(i:Int)+1] (by simp) dep ah;refine ir (st':=(⟨true,1,dep.map nI,false⟩::⟨false,1,Dz x,false⟩::Dr 1 (([(i:Int)+1]:List Int).map nI))) rfl ?_;refine hl _ _ rfl rfl rfl rfl rfl rfl rfl rfl rfl rfl rfl (fun hn V st' g2 g3=>?_) (fun dp hn Y V g0 g2 g4 aa ab ac=>?_)
    ·rw[hn]at hv;have ad:((0,200):Int×Int)=Jt (Gr c.length c 0 (G7 c.length) 0):=hv;simp (disch:=first|omega|decide) only[push_cast,g2,g3];rw[← ad]
    ·rw[hn]at hv;simp (disch:=first|omega|decide) only[push_cast,↓reduceIte,Cz,ac,DP];refine Fi (i+1,dp,max (max s (Eg dep i)) (FN x (Eg dep i))) ⟨by dsimp only; omega,Y,hv⟩ (by dsimp only; omega) ?_;simp only[push_cast,↓reduceIte,CG,CE,g0,g2,g4,aa,ab] <;> rfl
  ·obtain rfl:i=c.length:=by omega
   rw[Ba,Gr]at hv;rw[← hv]
   by_cases h6:64<s
   ·rw[show Jt (some s)=(0,2)from if_pos h6];simp (disch:=first|omega|decide) only[push_cast,↓reduceIte,Cz,h6]
   ·rw[show Jt (some s)=(s,0)from if_neg h6];simp (disch:=first|omega|decide) only[push_cast,↓reduceIte,Cz,h6]
set_option maxRecDepth 20000 in
theorem sv:Contract Tryz.prog GG 47 Zj:=
 D9 (T:=tb [(101,M7)] [(97,MY),(100,MZ)]) uh (DB (all_cons Yv9 all_nil) (all_cons Yv3 (all_cons Yvz all_nil))) (fun a h=>Yrr a h)
def EB(v:Int×List Int)(p f t c:Int)(S:D)(b:Int):List D:=Eh v++[.int .i64 p,.int .i64 f,.int .i64 t,.int .i64 c,S,.int .i64 b]
def Fe(v:Int×List Int):Prop:=v.2.length=16
variable {v:Int×List Int}
theorem Jl(hv:Fe v):(Eh v).length=17:=by simp[Eh,show v.2.length=16 from hv]
section
variable {v:Int×List Int} (hv:Fe v) (lent:Bool) (p f t c:Int) (S:D) (b:Int)
include hv
theorem sJ:Dq (some ⟨false,1,EB v p f t c S b,lent⟩) 1 false 17=some (.int .i64 p):=IX (A:=Eh v) rfl (Jl hv)
theorem IT:Dq (some ⟨false,1,EB v p f t c S b,lent⟩) 1 false 21=some S:=IX (A:=Eh v++[.int .i64 p,.int .i64 f,.int .i64 t,.int .i64 c]) (by simp[EB]; rfl) (by simp[Jl hv])
theorem OR:Dq (some ⟨false,1,EB v p f t c S b,lent⟩) 1 false 22=some (.int .i64 b):=IX (A:=Eh v++[.int .i64 p,.int .i64 f,.int .i64 t,.int .i64 c,S]) (C:=[]) (by simp[EB]) (by simp[Jl hv])
omit hv in
theorem ZG:Dq (some ⟨false,1,EB v p f t c S b,lent⟩) 1 false 0=some (.int .i64 v.1):=IX (A:=[]) (C:=v.2.map nI++[.int .i64 p,.int .i64 f,.int .i64 t,.int .i64 c,S,.int .i64 b]) (by simp[EB,Eh]) rfl
theorem UD(i:Nat)(h:i<16):Dq (some ⟨false,1,EB v p f t c S b,lent⟩) 1 false (1+i)=some (.int .i64 (Eg v.2 i)):=by
 have hi:i<v.2.length:=by rw[show v.2.length=16 from hv]; exact h
 have e:v.2=v.2.take i++(Eg v.2 i::v.2.drop (i+1)):=by
  rw[Eg,← Wk v.2 hi,BA]
 refine IX (A:=.int .i64 v.1::(v.2.take i).map nI) (C:=(v.2.drop (i+1)).map nI++[.int .i64 p,.int .i64 f,.int .i64 t,.int .i64 c,S,.int .i64 b]) ?_ (by simp; omega);have E:=congrArg (List.map nI) e;rw[Bv,Ax]at E;simp only[EB,Eh];rw[E];simp[nI]
theorem gT:Dq (some ⟨false,1,EB v p f t c S b,lent⟩) 5 true 17=some (.agg [.int .i64 p,.int .i64 f,.int .i64 t,.int .i64 c,S]):=LQ (A:=Eh v) (B:=[.int .i64 p,.int .i64 f,.int .i64 t,.int .i64 c,S]) (C:=[.int .i64 b]) (by simp[EB]) (Jl hv) rfl
theorem YQ(p':Int):DY (some ⟨false,1,EB v p f t c S b,false⟩) 1 17 (.int .i64 p')=some ⟨false,1,EB v p' f t c S b,false⟩:=Kx (A:=Eh v) (B:=[.int .i64 p]) (C:=[.int .i64 f,.int .i64 t,.int .i64 c,S,.int .i64 b]) (xs:=[.int .i64 p']) rfl rfl (Jl hv) rfl rfl rfl rfl
theorem Ysn(t':Int):DY (some ⟨false,1,EB v p f t c S b,false⟩) 1 19 (.int .i64 t')=some ⟨false,1,EB v p f t' c S b,false⟩:=Kx (A:=Eh v++[.int .i64 p,.int .i64 f]) (B:=[.int .i64 t]) (C:=[.int .i64 c,S,.int .i64 b]) (xs:=[.int .i64 t']) (by simp[EB]) (by simp[EB]) (by simp[Jl hv]) rfl rfl rfl rfl
theorem Ysm(c':Int):DY (some ⟨false,1,EB v p f t c S b,false⟩) 1 20 (.int .i64 c')=some ⟨false,1,EB v p f t c' S b,false⟩:=Kx (A:=Eh v++[.int .i64 p,.int .i64 f,.int .i64 t]) (B:=[.int .i64 c]) (C:=[S,.int .i64 b]) (xs:=[.int .i64 c']) (by simp[EB]) (by simp[EB]) (by simp[Jl hv]) rfl rfl rfl rfl
theorem Ylt(sz:Nat)(els:List D)(E:Bool):DY (some ⟨false,1,EB v p f t c S b,false⟩) 1 21 (.slc sz els E)=some ⟨false,1,EB v p f t c (.slc sz els E) b,false⟩:=Kx (A:=Eh v++[.int .i64 p,.int .i64 f,.int .i64 t,.int .i64 c]) (B:=[S]) (C:=[.int .i64 b]) (xs:=[.slc sz els E]) (by simp[EB]) (by simp[EB]) (by simp[Jl hv]) rfl rfl rfl rfl
theorem Ylu(k to of E:Nat):DY (some ⟨false,1,EB v p f t c S b,false⟩) 1 21 (.row k to of E)=some ⟨false,1,EB v p f t c (.row k to of E) b,false⟩:=Kx (A:=Eh v++[.int .i64 p,.int .i64 f,.int .i64 t,.int .i64 c]) (B:=[S]) (C:=[.int .i64 b]) (xs:=[.row k to of E]) (by simp[EB]) (by simp[EB]) (by simp[Jl hv]) rfl rfl rfl rfl
end
variable {S:D}{b b' c' f f' p p' t t':Int}{v':Int×List Int}
theorem ow(hv:Fe v)(E:Fe v'){c:Int}{I:D}(h:EB v p f t c S b=EB v' p' f' t' c' I b'):v=v'∧p=p'∧f=f'∧t=t'∧c=c'∧S=I∧b=b':=by
 unfold EB at h;obtain⟨M,J⟩:=A2 h ((Jl hv).trans (Jl E).symm);simp only[Aa,D.int.injEq,true_and,and_true]at J;refine⟨?_,J⟩;have:Ev v=Ev v':=by rw[Ev,Ev,M]
 exact KS.1 this
def Du(st:St)(key:Nat)(C:List D):St:=st.set key ⟨false,1,C,false⟩
theorem aT(st:St)(key:Nat)(C:List D):(Du st key C).length=st.length:=B6
variable {key:Nat}
theorem LW(h:key<st.length)(C:List D):(Du st key C)[key]?=some ⟨false,1,C,false⟩:=by simp[Du,h]
theorem Ik(st:St)(key:Nat)(C:List D):List.set st key (⟨false,1,C,false⟩:PI.Obj)=Du st key C:=(rfl)
theorem KY(st:St)(key:Nat)(C E:List D):Du (Du st key C) key E=Du st key E:=by simp[Du]
theorem HC(h:key<st.length)(m:St)(C:List D):Du (st++m) key C=Du st key C++m:=by
 unfold Du; exact BO _ _ h
theorem HL(h:key<st.length)(m:St):(st++m)[key]?=st[key]?:=Au h
theorem O5(h:key<st.length)(C:List D)(m:St):(Du st key C++m)[key]?=some ⟨false,1,C,false⟩:=by
 rw[HL (by rw[aT]; exact h),LW h]
theorem ME(h:key<st.length)(m:St)(C E:List D):Du (Du st key C++m) key E=Du st key E++m:=by
 rw[HC (by rw[aT]; exact h),KY]
theorem Lv(st:St)(o:PI.Obj):(st++[o]).length=st.length+1:=by simp
def G0(st:St)(key:Nat)(v:Int×List Int)(p f t c:Int)(S:D)(b:Int):Prop:=st[key]?=some ⟨false,1,EB v p f t c S b,false⟩
theorem LC{c:Int}(h:G0 st key v p f t c S b):key<st.length:=(Ac.1 h).1
theorem Pv{c:Int}(h:G0 st key v p f t c S b)(m:St):G0 (st++m) key v p f t c S b:=by
 unfold G0; rw[HL (LC h)]; exact h
theorem aL{c:Int}{I:D}(hv:Fe v)(J:Fe v')(h:G0 st key v p f t c S b)(E:G0 st key v' p' f' t' c' I b'):v=v'∧p=p'∧f=f'∧t=t'∧c=c'∧S=I∧b=b':=by
 unfold G0 at h E;rw[h]at E;simp only[C3,PI.Obj.mk.injEq,true_and,and_true]at E;exact ow hv J E
theorem Dy(st:St)(key off:Nat):gX st (.ptr key off)=some (.ptr key off):=(rfl)
def Nx(l:List Int)(i:Nat):Int:=Eg l (l.length - 1 - i)
def K1(ds:List D)(os:List (Option (Bool×Nat×List D)))(d:D):Prop:=∃ (key:Nat) (v:Int×List Int) (p f t c:Int) (l:List Int) (b:Int) (i:Nat),Fe v∧i<l.length∧l.length≤4294967296∧ds=[.ptr key 0,.int .i64 (i:Int)]∧os=[some (false,1,EB v p f t c (El l) b)]∧d=.int .i64 (Nx l i)
noncomputable def KN:List D→List (Option (Bool×Nat×List D))→Option D:=fun ds os=>@dite _ (∃ d,K1 ds os d) (Classical.propDecidable _) (fun h=>some h.choose) (fun _=>none)
variable {d:D}{os:List (Option (Bool×Nat×List D))}{ds:List D}
theorem Ydi{E:D}(h:K1 ds os d)(N:K1 ds os E):d=E:=by
 obtain⟨key,v,p,f,t,c,l,b,i,hv,_,_,rfl,rfl,rfl⟩:=h;obtain⟨O,v',p',f',t',c',V,b',Y,I,_,_,J,M,rfl⟩:=N;simp only[Aa,D.int.injEq,true_and,and_true,Int.ofNat_inj,C3,Dk]at J M;obtain⟨_,rfl⟩:=J;obtain⟨_,_,_,_,_,U,_⟩:=ow hv I M;rw[QH.1 U]
theorem ya(h:K1 ds os d):KN ds os=some d:=by
 have E:∃ d,K1 ds os d:=⟨d,h⟩;unfold KN;rw[dif_pos E,Ydi E.choose_spec h]
theorem yRg(h:KN ds os=some d):K1 ds os d:=by
 unfold KN at h
 split at h
 ·rename_i E;simp only[C3]at h;rw[← h]; exact E.choose_spec
 ·cases h
variable {l:List Int}
theorem VS{c:Int}(hv:Fe v)(h:G0 st key v p f t c (El l) b)(i:Nat)(hi:i<l.length)(hl:l.length≤4294967296):Ig KN [.ptr key 0,.int .i64 (i:Int)] st=some (.int .i64 (Nx l i)):=by
 unfold Ig;have e:([D.ptr key 0,.int .i64 (i:Int)]).flatMap hk=[key]:=rfl;unfold G0 at h;rw[e];simp only[A3,Cy,BX,h,BZ,if_true,GP,Ah,PI.Obj.see];exact ya ⟨key,v,p,f,t,c,l,b,i,hv,hi,hl,rfl,rfl,rfl⟩
theorem Yd7{r:Bool×Nat×List D}(h:GP st [key]=[some r]):∃ lent,st[key]?=some ⟨r.1,r.2.1,r.2.2,lent⟩:=by
 simp only[GP,Aa,and_true]at h
 cases hk:st[key]? with
 |none=>simp[hk]at h
 |some o=>
  rw[hk]at h;simp only[Ah,C3,PI.Obj.see]at h;subst h;exact⟨o.lent,rfl⟩
set_option maxHeartbeats 4000000 in
set_option maxRecDepth 20000 in
theorem iA:IContract Tryz.prog GG 197 (fun ds st=>(Ig KN ds st).map (·,st)):=by
 refine IM (T:=tb [] []) uS (DB all_nil all_nil) ?_;intro ds st r I;simp only[Dv]at I;obtain⟨d,E,rfl⟩:=I;unfold Ig at E
 split at E
 case isFalse=>cases E
 obtain⟨key,v,p,f,t,c,l,b,i,hv,hi,hl,rfl,J,rfl⟩:=yRg E;obtain⟨lent,hk⟩:=Yd7 J;dsimp only at hk
 have M:F5 st 1 (El l) (.int .i64 ((l.length:Int) - 1 - (i:Int)))=some (.eptr (nI (Nx l i)) 0):=by
  have:=Yw st l false (l.length - 1 - i) (by omega);rw[show((l.length - 1 - i:Nat):Int)=(l.length:Int) - 1 - (i:Int) by omega]at this;exact this
 have hle:Es st false (El l)=some (.int .i64 (l.length:Int)):=by simp[Es,Ip,El,ED]
 unfold jR;simp (disch:=first|omega|decide) only[push_cast,↓reduceIte,Cz,CA,Dy,hk,IT hv,hle,Fh,M,YK]
def KI:Option Int→D
 |none=>.slc 0 [] true
 |some a=>.slc 1 [.int .i64 a] true
def Jy(n:Nat)(l:List Int)(k:Nat):Option Int→D
 |none=>.slc (nz 1 (l.map nI)) ((l.take (l.length - k)).map nI) true
 |some _=>.row n (l.length - k+1) 0 (l.length - k+1)
def HN(l:List Int)(k:Nat):Option Int→St
 |none=>[]
 |some a=>[⟨true,1,(l.take (l.length - k)++[a]).map nI,false⟩]
def Ul(ds:List D)(st:St)(r:D×St):Prop:=∃ (key:Nat) (v:Int×List Int) (p f t c:Int) (l:List Int) (b:Int) (k:Nat) (push:Option Int),Fe v∧G0 st key v p f t c (El l) b∧k≤l.length∧l.length≤100000∧-1000000≤p∧p≤1000000∧
 ds=[.ptr key 0,.int .i64 (k:Int),KI push]∧r=(.int .i64 0,Du st key (EB v (p+1) f t c (Jy st.length l k push) b)++HN l k push)
noncomputable def NX:List D→St→Option (D×St):=E2 Ul
theorem xq{a b:Option Int}(h:KI a=KI b):a=b:=by
 cases a <;> cases b <;> simp_all [KI]
theorem Ymp:Hw Ul:=by
 rintro ds st r U ⟨key,v,p,f,t,c,l,b,k,push,hv,hm,_,_,_,_,rfl,rfl⟩ ⟨M,v',p',f',t',c',V,b',k',J,E,I,_,_,_,_,h,rfl⟩;simp only[Aa,D.ptr.injEq,D.int.injEq,true_and,and_true,Int.ofNat_inj]at h;obtain⟨rfl,rfl,N⟩:=h;obtain rfl:=xq N;obtain⟨rfl,rfl,rfl,rfl,rfl,O,rfl⟩:=aL hv E hm I;rw[QH.1 O]
theorem Yh2{c:Int}(hv:Fe v)(hm:G0 st key v p f t c (El l) b)(k:Nat)(E:Option Int)(hk:k≤l.length)(hl:l.length≤100000)(I:-1000000≤p)(J:p≤1000000) :
  NX [.ptr key 0,.int .i64 (k:Int),KI E] st=some (.int .i64 0,Du st key (EB v (p+1) f t c (Jy st.length l k E) b)++HN l k E):=
 KP Ymp ⟨key,v,p,f,t,c,l,b,k,E,hv,hm,hk,hl,I,J,rfl,rfl⟩
set_option maxHeartbeats 4000000 in
set_option maxRecDepth 20000 in
theorem S7:IContract Tryz.prog GG 195 NX:=by
 refine IM (T:=tb [] []) uR (DB all_nil all_nil) ?_;intro ds st r N;obtain⟨key,v,p,f,t,c,l,b,k,push,hv,hm,hk,hl,O,U,rfl,rfl⟩:=Iv N;have E:=LC hm;unfold G0 at hm;have hle:Es st false (El l)=some (.int .i64 (l.length:Int)):=by simp[Es,Ip,El,ED]
 have J:Gm st 1 (El l) none (some (.int .i64 ((l.length:Int) - (k:Int)))) (some (.int .i64 ((l.length:Int) - (k:Int))))=some (.slc (nz 1 (l.map nI)) ((l.take (l.length - k)).map nI) true):=by
  have:=Ysz st l false (k:=l.length - k) (by omega);rwa [show((l.length - k:Nat):Int)=(l.length:Int) - (k:Int) by omega]at this
 have M:(l.take (l.length - k)).length=l.length - k:=by rw[AQ]; omega
 unfold jQ
 cases push with
 |none=>
  have I:D8 st 1 8 (.slc (nz 1 (l.map nI)) ((l.take (l.length - k)).map nI) true) (.slc 0 [] true)=some (.slc (nz 1 (l.map nI)) ((l.take (l.length - k)).map nI) true,st):=oC st 1 8 _ 0 _ true (by decide);simp (disch:=first|omega|decide) only[push_cast,↓reduceIte,Cz,CA,KI,Dy,hm,IT hv,sJ hv,hle,Fh,J,I,Ylt hv,YQ hv,Ik,LW E,KY,DP,Jy,HN]
 |some a=>
  have I:D8 st 1 8 (.slc (nz 1 (l.map nI)) ((l.take (l.length - k)).map nI) true) (.slc 1 [.int .i64 a] true)=some (.row st.length (l.length - k+1) 0 (l.length - k+1),st++[⟨true,1,(l.take (l.length - k)++[a]).map nI,false⟩]):=by
   have:=nf st 1 8 (nz 1 (l.map nI)) ((l.take (l.length - k)).map nI) (.slc 1 [.int .i64 a] true) [.int .i64 a] 1 rfl (.inl rfl) (by
    cases l with
    |nil=>right; simp
    |cons x r=>left; rfl) (by decide) (by simp) (by simp[M]; omega) (by simp[M]; omega)
   rw[this];simp[nI]
  simp (disch:=first|omega|decide) only[push_cast,↓reduceIte,Cz,CA,KI,Dy,hm,IT hv,sJ hv,hle,Fh,J,I,HL E,Ylu hv,YQ hv,Ik,HC E,O5 E,ME E,DP,Jy,HN]
def DR(op a b:Int):Int×Int:=
 if op=3 then Ht a b else if op=4 then Hj a b else if op=5 then Hm a b else if op=6 then(min a b,0)else if op=7 then(max a b,0)else
 if op=8 then Ed a b 8 else if op=9 then Ed a b 9 else if op=10 then Ed a b 10 else if op=11 then(if a<b then 1 else 0,0)else(0,0)
noncomputable def V5:List D→Option D:=Dd (α:=Bool) (fun a=>[.bool a]) (fun a=>True) (fun a=>.int .i64 (if a=true then 1 else 0))
theorem pr(x:Bool):V5 [.bool x]=some (.int .i64 (if x=true then 1 else 0)):=
 DW (fun a b h=>by simp only[Aa,D.bool.injEq,and_true]at h; simp[h]) (x) trivial
theorem Ykn(x:Bool):@wW GG (tb [] []) Xa.code (C4 [.bool x]) [] ⟨Dg Xa.res (.int .i64 (if x=true then 1 else 0))⟩:=by
 unfold Xa;cases x <;> simp (disch:=first|omega|decide) only[push_cast,↓reduceIte,Cz]
theorem tE:Contract Tryz.prog GG 196 V5:=
 D9 yHe (DB all_nil all_nil) (fun a h=>Ykn a)
noncomputable def Zb:List D→Option D:=Dd (α:=Int×Int) (fun a=>[.int .i64 a.1,.int .i64 a.2]) (fun a=>True) (fun a=>.tup [.int .i64 (min a.1 a.2),.int .i64 0])
theorem Ybn(a:Int)(b:Int):Zb [.int .i64 a,.int .i64 b]=some (.tup [.int .i64 (min a b),.int .i64 0]):=
 DW (fun⟨a0,a1⟩ ⟨b0,b1⟩ h=>by simp only[Aa,D.int.injEq,true_and,and_true]at h; simp[h]) (a,b) trivial
theorem Yr5(a:Int)(b:Int):@wW GG (tb [] []) XZ.code (C4 [.int .i64 a,.int .i64 b]) [] ⟨Dg XZ.res (.tup [.int .i64 (min a b),.int .i64 0])⟩:=by
 unfold XZ;simp (disch:=first|omega|decide) only[push_cast,↓reduceIte,Cz]
theorem Ywi:Contract Tryz.prog GG 234 Zb:=
 D9 uB (DB all_nil all_nil) (fun a h=>Yr5 a.1 a.2)
noncomputable def Zc:List D→Option D:=Dd (α:=Int×Int) (fun a=>[.int .i64 a.1,.int .i64 a.2]) (fun a=>True) (fun a=>.tup [.int .i64 (max a.1 a.2),.int .i64 0])
theorem Ybm(a:Int)(b:Int):Zc [.int .i64 a,.int .i64 b]=some (.tup [.int .i64 (max a b),.int .i64 0]):=
 DW (fun⟨a0,a1⟩ ⟨b0,b1⟩ h=>by simp only[Aa,D.int.injEq,true_and,and_true]at h; simp[h]) (a,b) trivial
theorem Yr4(a:Int)(b:Int):@wW GG (tb [] []) X1.code (C4 [.int .i64 a,.int .i64 b]) [] ⟨Dg X1.res (.tup [.int .i64 (max a b),.int .i64 0])⟩:=by
 unfold X1;simp (disch:=first|omega|decide) only[push_cast,↓reduceIte,Cz]
theorem Ywh:Contract Tryz.prog GG 235 Zc:=
 D9 uC (DB all_nil all_nil) (fun a h=>Yr4 a.1 a.2)
noncomputable def Zd:List D→Option D:=Dd (α:=Int×Int) (fun a=>[.int .i64 a.1,.int .i64 a.2]) (fun a=>True) (fun a=>.tup [.int .i64 (Ed a.1 a.2 8).1,.int .i64 (Ed a.1 a.2 8).2])
theorem Ybl(a:Int)(b:Int):Zd [.int .i64 a,.int .i64 b]=some (.tup [.int .i64 (Ed a b 8).1,.int .i64 (Ed a b 8).2]):=
 DW (fun⟨a0,a1⟩ ⟨b0,b1⟩ h=>by simp only[Aa,D.int.injEq,true_and,and_true]at h; simp[h]) (a,b) trivial
theorem Yr3(a:Int)(b:Int):@wW GG (tb [(237,RY)] []) X2.code (C4 [.int .i64 a,.int .i64 b]) [] ⟨Dg X2.res (.tup [.int .i64 (Ed a b 8).1,.int .i64 (Ed a b 8).2])⟩:=by
 unfold X2;simp (disch:=first|omega|decide) only[push_cast,↓reduceIte,Cz,aw a b 8 (.inl rfl)]
theorem Ywg:Contract Tryz.prog GG 236 Zd:=
 D9 uD (DB (all_cons cJ all_nil) all_nil) (fun a h=>Yr3 a.1 a.2)
noncomputable def Ze:List D→Option D:=Dd (α:=Int×Int) (fun a=>[.int .i64 a.1,.int .i64 a.2]) (fun a=>True) (fun a=>.tup [.int .i64 (Ed a.1 a.2 9).1,.int .i64 (Ed a.1 a.2 9).2])
theorem Ybk(a:Int)(b:Int):Ze [.int .i64 a,.int .i64 b]=some (.tup [.int .i64 (Ed a b 9).1,.int .i64 (Ed a b 9).2]):=
 DW (fun⟨a0,a1⟩ ⟨b0,b1⟩ h=>by simp only[Aa,D.int.injEq,true_and,and_true]at h; simp[h]) (a,b) trivial
theorem Yr2(a:Int)(b:Int):@wW GG (tb [(237,RY)] []) X3.code (C4 [.int .i64 a,.int .i64 b]) [] ⟨Dg X3.res (.tup [.int .i64 (Ed a b 9).1,.int .i64 (Ed a b 9).2])⟩:=by
 unfold X3;simp (disch:=first|omega|decide) only[push_cast,↓reduceIte,Cz,aw a b 9 (.inr (.inl rfl))]
theorem Ywf:Contract Tryz.prog GG 238 Ze:=
 D9 uE (DB (all_cons cJ all_nil) all_nil) (fun a h=>Yr2 a.1 a.2)
noncomputable def Zf:List D→Option D:=Dd (α:=Int×Int) (fun a=>[.int .i64 a.1,.int .i64 a.2]) (fun a=>True) (fun a=>.tup [.int .i64 (Ed a.1 a.2 10).1,.int .i64 (Ed a.1 a.2 10).2])
theorem Ybj(a:Int)(b:Int):Zf [.int .i64 a,.int .i64 b]=some (.tup [.int .i64 (Ed a b 10).1,.int .i64 (Ed a b 10).2]):=
 DW (fun⟨a0,a1⟩ ⟨b0,b1⟩ h=>by simp only[Aa,D.int.injEq,true_and,and_true]at h; simp[h]) (a,b) trivial
theorem Yr1(a:Int)(b:Int):@wW GG (tb [(237,RY)] []) X4.code (C4 [.int .i64 a,.int .i64 b]) [] ⟨Dg X4.res (.tup [.int .i64 (Ed a b 10).1,.int .i64 (Ed a b 10).2])⟩:=by
 unfold X4;simp (disch:=first|omega|decide) only[push_cast,↓reduceIte,Cz,aw a b 10 (.inr (.inr rfl))]
theorem Ywe:Contract Tryz.prog GG 239 Zf:=
 D9 uF (DB (all_cons cJ all_nil) all_nil) (fun a h=>Yr1 a.1 a.2)
noncomputable def Zg:List D→Option D:=Dd (α:=Int×Int) (fun a=>[.int .i64 a.1,.int .i64 a.2]) (fun a=>True) (fun a=>.tup [.int .i64 (if a.1<a.2 then 1 else 0),.int .i64 0])
theorem Ybi(a:Int)(b:Int):Zg [.int .i64 a,.int .i64 b]=some (.tup [.int .i64 (if a<b then 1 else 0),.int .i64 0]):=
 DW (fun⟨a0,a1⟩ ⟨b0,b1⟩ h=>by simp only[Aa,D.int.injEq,true_and,and_true]at h; simp[h]) (a,b) trivial
theorem Yr0(a:Int)(b:Int):@wW GG (tb [(196,V5)] []) X5.code (C4 [.int .i64 a,.int .i64 b]) [] ⟨Dg X5.res (.tup [.int .i64 (if a<b then 1 else 0),.int .i64 0])⟩:=by
 unfold X5;have hc:=pr (decide (a<b))
 by_cases h:a<b
 ·rw[decide_eq_true h]at hc;simp (disch:=first|omega|decide) only[push_cast,↓reduceIte,Cz,h,hc]
 ·rw[decide_eq_false h]at hc;simp (disch:=first|omega|decide) only[push_cast,↓reduceIte,Cz,h,hc]
theorem Ywd:Contract Tryz.prog GG 240 Zg:=
 D9 uG (DB (all_cons tE all_nil) all_nil) (fun a h=>Yr0 a.1 a.2)
theorem Nn{sp:List D→Option D}{x y:Int}(h:sp [.int .i64 a,.int .i64 b]=some (.tup [.int .i64 x,.int .i64 y]))(st:St):Ie sp [.int .i64 a,.int .i64 b] st=some (.tup [.int .i64 x,.int .i64 y],st):=by
 have E:D0 st [.int .i64 a,.int .i64 b]=some [.int .i64 a,.int .i64 b]:=(rfl);simp only[Ie,E,h];rfl
def IQ(op:Int):Int:=if op=12∨op=13∨op=15 then 1 else if 3≤op∧op≤11 then 2 else 0
theorem Yvf(op:Int)(h:3≤op∧op≤11):∃ f,FC op EV=some f:=by
 obtain⟨E,I⟩:=h;have:op=3∨op=4∨op=5∨op=6∨op=7∨op=8∨op=9∨op=10∨op=11:=by omega
 rcases this with rfl | rfl | rfl | rfl | rfl | rfl | rfl | rfl | rfl <;> exact⟨_,rfl⟩
theorem Yo2(op:Int)(h:¬ (3≤op∧op≤11)):FC op EV=none:=by
 simp only[EV,FC];rw[if_neg (by omega),if_neg (by omega),if_neg (by omega),if_neg (by omega),if_neg (by omega),if_neg (by omega),if_neg (by omega),if_neg (by omega),if_neg (by omega)]
theorem eD(st:St)(op:Int)(ok:Bool)(E:D):IJ st 0 [] ok E (.gmap EV) (.int .i64 op)=some (match FC op EV with
  |some f=>if ok then .tup [.agg [.clo f []],.bool true]else .agg [.clo f []]
  |none=>if ok then .tup [E,.bool false]else E):=(rfl)
theorem sn:Dx (.agg [.nilf])=some [.nilf]:=(rfl)
theorem T4(f:Nat):DY (some ⟨false,1,[.nilf],false⟩) 1 0 (.agg [.clo f []])=some ⟨false,1,[.clo f []],false⟩:=(rfl)
theorem T3:DY (some ⟨false,1,[.nilf],false⟩) 1 0 (.agg [.nilf])=some ⟨false,1,[.nilf],false⟩:=(rfl)
theorem Jp(st:St):E1 st 1 false (.eptr (.gmap EV) 0)=some (.gmap EV):=(rfl)
noncomputable def V3:List D→Option D:=Dd (α:=Int) (fun a=>[.int .i64 a]) (fun a=>True) (fun a=>.int .i64 (IQ a))
theorem po(op:Int):V3 [.int .i64 op]=some (.int .i64 (IQ op)):=
 DW (fun a b h=>by simp only[Aa,D.int.injEq,true_and,and_true]at h; simp[h]) (op) trivial
theorem Ykr(op:Int):@wW GG (tb [] []) W8.code (C4 [.int .i64 op]) [] ⟨Dg W8.res (.int .i64 (IQ op))⟩:=by
 unfold W8 IQ
 by_cases E:op=12
 ·subst E; simp (disch:=first|omega|decide) only[push_cast,↓reduceIte,Cz,true_or]
 ·by_cases J:op=13
  ·subst J; simp (disch:=first|omega|decide) only[push_cast,↓reduceIte,Cz,E,true_or,or_true]
  ·by_cases N:op=15
   ·subst N; simp (disch:=first|omega|decide) only[push_cast,↓reduceIte,Cz,E,J,or_true]
   ·have hn:¬ (op=12∨op=13∨op=15):=by omega
    rw[if_neg hn]
    by_cases M:3≤op∧op≤11
    ·obtain⟨f,hf⟩:=Yvf op M;have I:=eD [] op true (.agg [.nilf]);rw[hf]at I;simp (disch:=first|omega|decide) only[push_cast,↓reduceIte,Cz,E,J,N,M,Jc _ _ _ _ FY,Jp,I,sn,T4]
    ·have hf:=Yo2 op M;have I:=eD [] op true (.agg [.nilf]);rw[hf]at I;simp (disch:=first|omega|decide) only[push_cast,↓reduceIte,Cz,E,J,N,M,Jc _ _ _ _ FY,Jp,I,sn,T3]
theorem tC:Contract Tryz.prog GG 109 V3:=
 D9 yHg (DB all_nil all_nil) (fun a h=>Ykr a)
inductive Out where
 |err (e:Int)
 |pop (k:Nat) (push:Option Int) (pc:Option Int)
 |set (p t c:Int)
def NQ(a b:Int):Int:=IntKind.wrap .i64 ((CH 64 a &&& CH 64 b).toNat:Int)
def Le(n:Int):Int:=IntKind.wrap .i64 (1*2 ^ (min n.toNat 64))
def C7(s:Sta)(i:Nat):Int:=Nx s.stack i
def DG(v:Int×List Int)(b:Int)(s:Sta)(x:Ins):Out:=
 if x.op=1 then(if 64≤b+s.stack.length then .err 200 else .pop 0 (some x.n) none)
 else if x.op=2 then(if 64≤b+s.stack.length then .err 200 else if NQ v.1 (Le x.n)=0 then .err 181 else if Eg v.2 x.n.toNat < -9007199254740992∨9007199254740992<Eg v.2 x.n.toNat then .err 3 else .pop 0 (some (Eg v.2 x.n.toNat)) none)
 else if x.op=12 then .pop 1 (some (if x.n≤C7 s 0∧C7 s 0≤x.m then 1 else 0)) none
 else if x.op=13 then .pop 1 none (if C7 s 0=0 then some x.n else none)
 else if x.op=14 then .set x.n s.status s.clause
 else if x.op=15 then .set s.pc 1 x.n
 else if x.op=16 then .err 180
 else if(DR x.op (C7 s 1) (C7 s 0)).2=0 then .pop 2 (some (DR x.op (C7 s 1) (C7 s 0)).1) none else .err (DR x.op (C7 s 1) (C7 s 0)).2
def DS(st:St)(key:Nat)(v:Int×List Int)(b:Int)(s:Sta)(x:Ins):Out→D×St
 |.err e=>(.int .i64 e,st++[⟨false,1,Dz x,false⟩])
 |.pop k push pc=>(.int .i64 0,Du st key (EB v (pc.getD (s.pc+1)) s.fuel s.status s.clause (Jy (st.length+1) s.stack k push) b)++[⟨false,1,Dz x,false⟩]++HN s.stack k push)
 |.set p t c=>(.int .i64 0,Du st key (EB v p s.fuel t c (El s.stack) b)++[⟨false,1,Dz x,false⟩])
structure mOK (v:Int×List Int) (b:Int) (s:Sta) (x:Ins):Prop where
 v:Fe v
 b0:0≤b
 b1:b≤64
 l:s.stack.length≤64
 p0:0≤s.pc
 p1:s.pc≤100000
 f:F7 x=true
 n:IQ x.op≤s.stack.length
def Ux(P:Int→Prop)(ds:List D)(st:St)(r:D×St):Prop:=∃ (key:Nat) (v:Int×List Int) (b:Int) (s:Sta) (x:Ins),mOK v b s x∧P x.op∧G0 st key v s.pc s.fuel s.status s.clause (El s.stack) b∧ds=[.ptr key 0,CZ x]∧r=DS st key v b s x (DG v b s x)
noncomputable def Jf(P:Int→Prop):List D→St→Option (D×St):=E2 (Ux P)
theorem Ym4(P:Int→Prop):Hw (Ux P):=by
 rintro ds st r r' ⟨key,v,b,s,x,hm,_,hk,rfl,rfl⟩ ⟨V,v',b',s',x',E,_,I,h,rfl⟩;simp only[Aa,D.ptr.injEq,and_true,QE]at h;obtain⟨rfl,rfl⟩:=h;obtain⟨rfl,J,M,N,O,Y,rfl⟩:=aL hm.v E.v hk I;have U:=QH.1 Y;obtain⟨a1,a2,a3,a4,a5⟩:=s;obtain⟨b1,b2,b3,b4,b5⟩:=s';dsimp only at J M N O U;subst J; subst M; subst N; subst O; subst U;rfl
variable {x:Ins}{s:Sta}
theorem Yh3{P:Int→Prop}(hm:mOK v b s x)(E:P x.op)(hk:G0 st key v s.pc s.fuel s.status s.clause (El s.stack) b):Jf P [.ptr key 0,CZ x] st=some (DS st key v b s x (DG v b s x)):=
 KP (Ym4 P) ⟨key,v,b,s,x,hm,E,hk,rfl,rfl⟩
theorem Yha(h:F7 x=true):0≤x.n∧x.n≤9007199254740992∧(x.op=2→x.n<16):=by
 have:=of_decide_eq_true h;obtain⟨J,M,N,O,U,E⟩:=this;have hm:(I9 x.op).2≤9007199254740992:=by rcases qg x.op with e | e | e | e <;> rw[e] <;> decide
 refine⟨by omega,by omega,fun I=>?_⟩;have:I9 x.op=(1,15):=by rw[I]; rfl
 rw[this]at E;dsimp only at E;omega
theorem vM(h:F7 x=true):1≤x.op∧x.op≤16:=⟨(of_decide_eq_true h).1,(of_decide_eq_true h).2.1⟩
theorem Y2(a b:Int):Df .and (.int .i64 a) (.int .i64 b)=some (.int .i64 (NQ a b)):=(rfl)
theorem S2{n:Int}(h:0≤n):Df .shl (.int .i64 1) (.int .i64 n)=some (.int .i64 (Le n)):=by
 simp only[Df,Lo,show ¬ n<0 by omega,if_false,Ah,Le];rfl
theorem HB(st:St)(l:List Int):Es st false (El l)=some (.int .i64 (l.length:Int)):=by simp[Es,Ip,El,ED]
theorem Sd{c:Int}(hv:Fe v)(hm:G0 st key v p f t c (El l) b)(x:Ins)(k:Nat)(I:Int)(J:I=(k:Int))(E:Option Int)(hk:k≤l.length)(hl:l.length≤64)(M:0≤p)(N:p≤100000) :
  NX [.ptr key 0,.int .i64 I,KI E] (st++[⟨false,1,Dz x,false⟩])=some (.int .i64 0,Du st key (EB v (p+1) f t c (Jy (st.length+1) l k E) b)++[⟨false,1,Dz x,false⟩]++HN l k E):=by
 subst J;have:=Yh2 hv (Pv hm [⟨false,1,Dz x,false⟩]) k E hk (by omega) (by omega) (by omega);rwa [HC (LC hm),Lv]at this
theorem Ypw:IContract Tryz.prog GG 177 (Jf (·=1)):=by
 refine IM (T:=tb [] [(195,NX)]) u6 (DB all_nil (all_cons S7 all_nil)) ?_;intro ds st r V;obtain⟨key,v,b,s,x,hm,J,hk,rfl,rfl⟩:=Iv V;obtain⟨hv,Y,aa,hl,O,U,hf,hn⟩:=hm;have M:=LC hk;have N:=Sd hv hk x 0 0 rfl (some x.n) (Bg _) hl O U;simp only[KI]at N;have E:=hk;unfold G0 at E;unfold jX
 by_cases I:64≤b+(s.stack.length:Int)
 ·rw[show DG v b s x=.err 200 by unfold DG; rw[if_pos J,if_pos I]];simp (disch:=first|omega|decide) only[push_cast,↓reduceIte,Cz,CA,EZ,Dy,HL M,E,OR hv,IT hv,HB,DP,I,DS]
 ·rw[show DG v b s x=.pop 0 (some x.n) none by unfold DG; rw[if_pos J,if_neg I]];simp (disch:=first|omega|decide) only[push_cast,↓reduceIte,Cz,CA,EZ,Dy,HL M,E,OR hv,IT hv,HB,DP,I,E7,Kz,Fw,N,DS,AT]
theorem Ypy:IContract Tryz.prog GG 178 (Jf (·=2)):=by
 refine IM (T:=tb [] [(195,NX)]) u4 (DB all_nil (all_cons S7 all_nil)) ?_;intro ds st r hr;obtain⟨key,v,b,s,x,hm,I,hk,rfl,rfl⟩:=Iv hr;obtain⟨hv,ah,a0,hl,ad,ae,hf,hn⟩:=hm;have M:=LC hk;have J:=hk;unfold G0 at J;obtain⟨O,_,U⟩:=Yha hf;have U:=U I;have a1:v.2.length=16:=hv;have V:=fun lent=>UD hv lent s.pc s.fuel s.status s.clause (El s.stack) b x.n.toNat (by omega);have ab:=Sd hv hk x 0 0 rfl (some (Eg v.2 x.n.toNat)) (Bg _) hl ad ae;simp only[KI]at ab;have Y:¬ x.op=1:=by omega
 unfold jV
 by_cases E:64≤b+(s.stack.length:Int)
 ·rw[show DG v b s x=.err 200 by unfold DG; rw[if_neg Y,if_pos I,if_pos E]];simp (disch:=first|omega|decide) only[push_cast,↓reduceIte,Cz,CA,CB,EZ,Dy,HL M,J,OR hv,IT hv,HB,DP,DS,E]
 ·by_cases N:NQ v.1 (Le x.n)=0
  ·rw[show DG v b s x=.err 181 by unfold DG; rw[if_neg Y,if_pos I,if_neg E,if_pos N]];simp (disch:=first|omega|decide) only[push_cast,↓reduceIte,Cz,CA,CB,EZ,Dy,HL M,J,OR hv,IT hv,ZG,HB,DP,E7,Kz,DS,E,S2 O,Y2,N]
  ·by_cases h3:Eg v.2 x.n.toNat < -9007199254740992
   ·rw[show DG v b s x=.err 3 by unfold DG; rw[if_neg Y,if_pos I,if_neg E,if_neg N,if_pos (.inl h3)]];simp (disch:=first|omega|decide) only[push_cast,↓reduceIte,Cz,CA,CB,EZ,Dy,HL M,J,OR hv,IT hv,ZG,HB,DP,E7,Kz,DS,E,S2 O,Y2,N,N7,V,h3]
   ·by_cases h4:9007199254740992<Eg v.2 x.n.toNat
    ·rw[show DG v b s x=.err 3 by unfold DG; rw[if_neg Y,if_pos I,if_neg E,if_neg N,if_pos (.inr h4)]];simp (disch:=first|omega|decide) only[push_cast,↓reduceIte,Cz,CA,CB,EZ,Dy,HL M,J,OR hv,IT hv,ZG,HB,DP,E7,Kz,DS,E,S2 O,Y2,N,N7,V,h3,h4]
    ·rw[show DG v b s x=.pop 0 (some (Eg v.2 x.n.toNat)) none by unfold DG; rw[if_neg Y,if_pos I,if_neg E,if_neg N,if_neg (by omega)]];simp (disch:=first|omega|decide) only[push_cast,↓reduceIte,Cz,CA,CB,EZ,Dy,HL M,J,OR hv,IT hv,ZG,HB,DP,E7,Kz,Fw,DS,AT,E,S2 O,Y2,N,N7,V,h3,h4,ab]
theorem zL:IContract Tryz.prog GG 179 (Jf (·=12)):=by
 refine IM (T:=PQ [(196,V5)] [(195,NX)] [(197,KN)]) vq (cA (all_cons tE all_nil) (all_cons S7 all_nil) (all_cons iA all_nil)) ?_;intro ds st r Y;obtain⟨key,v,b,s,x,hm,M,hk,rfl,rfl⟩:=Iv Y;obtain⟨hv,aa,ab,hl,O,U,hf,hn⟩:=hm;have ac:=LC hk;have V:=hk;unfold G0 at V;have ad:IQ x.op=1:=by rw[M]; rfl
 have N:Ig KN [.ptr key 0,.int .i64 0] (st++[⟨false,1,Dz x,false⟩])=some (.int .i64 (C7 s 0)):=VS hv (Pv hk _) 0 (by omega) (by omega);have E:=Sd hv hk x 1 1 rfl (some (if x.n≤C7 s 0∧C7 s 0≤x.m then 1 else 0)) (by omega) hl O U;simp only[KI]at E;rw[show DG v b s x=.pop 1 (some (if x.n≤C7 s 0∧C7 s 0≤x.m then 1 else 0)) none by unfold DG; rw[if_neg (by omega),if_neg (by omega),if_pos M]];have hc:=pr (decide (x.n≤C7 s 0∧C7 s 0≤x.m));simp only[decide_eq_true_eq]at hc;unfold kj
 by_cases I:x.n≤C7 s 0
 ·by_cases J:C7 s 0≤x.m
  ·have hw:(if x.n≤C7 s 0∧C7 s 0≤x.m then(1:Int)else 0)=1:=if_pos ⟨I,J⟩;rw[hw]at E ⊢;rw[decide_eq_true ⟨I,J⟩]at hc;simp (disch:=first|omega|decide) only[push_cast,↓reduceIte,Cz,EZ,E7,Kz,cO,Fw,DS,AT,I,J,N,hc,E]
  ·have hw:(if x.n≤C7 s 0∧C7 s 0≤x.m then(1:Int)else 0)=0:=if_neg (by omega);rw[hw]at E ⊢;rw[decide_eq_false (by omega)]at hc;simp (disch:=first|omega|decide) only[push_cast,↓reduceIte,Cz,EZ,E7,Kz,cO,Fw,DS,AT,I,J,N,hc,E]
 ·have hw:(if x.n≤C7 s 0∧C7 s 0≤x.m then(1:Int)else 0)=0:=if_neg (by omega);rw[hw]at E ⊢;rw[decide_eq_false (by omega)]at hc;simp (disch:=first|omega|decide) only[push_cast,↓reduceIte,Cz,EZ,E7,Kz,Fw,DS,AT,I,N,hc,E]
theorem Ypz:IContract Tryz.prog GG 181 (Jf (·=14)):=by
 refine IM (T:=tb [] []) uZ (DB all_nil all_nil) ?_;intro ds st r M;obtain⟨key,v,b,s,x,hm,J,hk,rfl,rfl⟩:=Iv M;obtain⟨hv,N,O,hl,U,V,hf,hn⟩:=hm;have E:=LC hk;have I:=hk;unfold G0 at I;rw[show DG v b s x=.set x.n s.status s.clause by unfold DG; rw[if_neg (by omega),if_neg (by omega),if_neg (by omega),if_neg (by omega),if_pos J]];unfold jU;simp (disch:=first|omega|decide) only[push_cast,↓reduceIte,Cz,EZ,Dy,HL E,I,E7,Kz,DS,YQ hv,Ik,HC E]
theorem Ypx:IContract Tryz.prog GG 183 (Jf (·=16)):=by
 refine IM (T:=tb [] []) u5 (DB all_nil all_nil) ?_;intro ds st r J;obtain⟨key,v,b,s,x,hm,E,hk,rfl,rfl⟩:=Iv J;obtain⟨hv,M,N,hl,O,U,hf,hn⟩:=hm;have V:=LC hk;have I:=hk;unfold G0 at I;rw[show DG v b s x=.err 180 by unfold DG; rw[if_neg (by omega),if_neg (by omega),if_neg (by omega),if_neg (by omega),if_neg (by omega),if_neg (by omega),if_pos E]];unfold jW;simp (disch:=first|omega|decide) only[push_cast,↓reduceIte,EZ,DS]
theorem Yg7(st:St)(key:Nat)(C:List D)(o:PI.Obj):(Du st key C++[o])[st.length]?=some o:=by
 have:=E7 (Du st key C) o;rwa [aT]at this
theorem Ypt:IContract Tryz.prog GG 180 (Jf (·=13)):=by
 refine IM (T:=PQ [] [(195,NX)] [(197,KN)]) u7 (cA all_nil (all_cons S7 all_nil) (all_cons iA all_nil)) ?_;intro ds st r Y;obtain⟨key,v,b,s,x,hm,E,hk,rfl,rfl⟩:=Iv Y;obtain⟨hv,aa,ab,hl,N,O,hf,hn⟩:=hm;have M:=LC hk;have U:=hk;unfold G0 at U;have ac:IQ x.op=1:=by rw[E]; rfl
 have V:Ig KN [.ptr key 0,.int .i64 0] (st++[⟨false,1,Dz x,false⟩])=some (.int .i64 (C7 s 0)):=VS hv (Pv hk _) 0 (by omega) (by omega);have I:=Sd hv hk x 1 1 rfl none (by omega) hl N O;simp only[KI,HN,Ad]at I;unfold jY
 by_cases J:C7 s 0=0
 ·rw[show DG v b s x=.pop 1 none (some x.n) by unfold DG; rw[if_neg (by omega),if_neg (by omega),if_neg (by omega),if_pos E,if_pos J]];simp (disch:=first|omega|decide) only[push_cast,↓reduceIte,Cz,EZ,Dy,Kz,DS,Ce,V,J,I,Yg7,O5 M,YQ hv,Ik,ME M,HN]
 ·rw[show DG v b s x=.pop 1 none none by unfold DG; rw[if_neg (by omega),if_neg (by omega),if_neg (by omega),if_pos E,if_neg J]];simp (disch:=first|omega|decide) only[push_cast,↓reduceIte,Cz,EZ,DS,AT,V,J,I,HN]
theorem Yv0:IContract Tryz.prog GG 182 (Jf (·=15)):=by
 refine IM (T:=tb [] []) uQ (DB all_nil all_nil) ?_;intro ds st r N;obtain⟨key,v,b,s,x,hm,J,hk,rfl,rfl⟩:=Iv N;obtain⟨hv,O,U,hl,V,Y,hf,hn⟩:=hm;have E:=LC hk;have I:=hk;unfold G0 at I;rw[show DG v b s x=.set s.pc 1 x.n by unfold DG; rw[if_neg (by omega),if_neg (by omega),if_neg (by omega),if_neg (by omega),if_neg (by omega),if_pos J]];have M:(key == st.length)=false:=by rw[beq_eq_false_iff_ne]; omega
 unfold jP;simp (disch:=first|omega|decide) only[push_cast,↓EH,↓reduceIte,Cz,CA,EZ,Dy,HL E,I,E7,Kz,DS,Ysn hv,Ysm hv,Ik,HC E,O5 E,ME E,M]
theorem Ydl:IContract Tryz.prog GG 231 (Ie V0):=Yp7.toI Tryz.func231 (by kernel_rfl) (by kernel_rfl)
theorem Ydj:IContract Tryz.prog GG 232 (Ie V2):=Yp5.toI Tryz.func232 (by kernel_rfl) (by kernel_rfl)
theorem Ydk:IContract Tryz.prog GG 233 (Ie V1):=Yp6.toI Tryz.func233 (by kernel_rfl) (by kernel_rfl)
theorem Ylq:IContract Tryz.prog GG 234 (Ie Zb):=Ywi.toI Tryz.func234 (by kernel_rfl) (by kernel_rfl)
theorem Ylp:IContract Tryz.prog GG 235 (Ie Zc):=Ywh.toI Tryz.func235 (by kernel_rfl) (by kernel_rfl)
theorem Ylo:IContract Tryz.prog GG 236 (Ie Zd):=Ywg.toI Tryz.func236 (by kernel_rfl) (by kernel_rfl)
theorem Yln:IContract Tryz.prog GG 238 (Ie Ze):=Ywf.toI Tryz.func238 (by kernel_rfl) (by kernel_rfl)
theorem Ylm:IContract Tryz.prog GG 239 (Ie Zf):=Ywe.toI Tryz.func239 (by kernel_rfl) (by kernel_rfl)
theorem Yll:IContract Tryz.prog GG 240 (Ie Zg):=Ywd.toI Tryz.func240 (by kernel_rfl) (by kernel_rfl)
theorem zK:IContract Tryz.prog GG 184 (Jf (fun o=>3≤o∧o≤11)):=by
 refine IM (T:=PQ [] [(195,NX),(231,Ie V0),(232,Ie V2),(233,Ie V1),(234,Ie Zb),(235,Ie Zc),(236,Ie Zd),(238,Ie Ze),(239,Ie Zf),(240,Ie Zg)] [(197,KN)]) vn (cA all_nil (all_cons S7 (all_cons Ydl (all_cons Ydj (all_cons Ydk (all_cons Ylq (all_cons Ylp (all_cons Ylo (all_cons Yln (all_cons Ylm (all_cons Yll all_nil)))))))))) (all_cons iA all_nil)) ?_;intro ds st r hr;obtain⟨key,v,b,s,x,hm,Y,hk,rfl,rfl⟩:=Iv hr;obtain⟨hv,ae,af,hl,aa,ab,hf,hn⟩:=hm;have ah:=LC hk;have ac:=hk;unfold G0 at ac;have a0:IQ x.op=2:=by unfold IQ; rw[if_neg (by omega),if_pos Y]
 have M:Ig KN [.ptr key 0,.int .i64 0] (st++[⟨false,1,Dz x,false⟩])=some (.int .i64 (C7 s 0)):=VS hv (Pv hk _) 0 (by omega) (by omega);have N:Ig KN [.ptr key 0,.int .i64 1] (st++[⟨false,1,Dz x,false⟩])=some (.int .i64 (C7 s 1)):=VS hv (Pv hk _) 1 (by omega) (by omega);have I:=Sd hv hk x 2 2 rfl (some (DR x.op (C7 s 1) (C7 s 0)).1) (by omega) hl aa ab;simp only[KI]at I;have O:∀ f:Nat,LK 0 1 false (.agg [.clo f []])=some (.clo f []):=fun f=>(rfl)
 have U:DG v b s x=if(DR x.op (C7 s 1) (C7 s 0)).2=0 then .pop 2 (some (DR x.op (C7 s 1) (C7 s 0)).1) none else .err (DR x.op (C7 s 1) (C7 s 0)).2:=by
  unfold DG; rw[if_neg (by omega),if_neg (by omega),if_neg (by omega),if_neg (by omega),if_neg (by omega),if_neg (by omega),if_neg (by omega)]
 have J:=eD (st++[⟨false,1,Dz x,false⟩]) x.op false (.agg [.nilf]);have V:x.op=3∨x.op=4∨x.op=5∨x.op=6∨x.op=7∨x.op=8∨x.op=9∨x.op=10∨x.op=11:=by omega
 unfold kf;rcases V with e | e | e | e | e | e | e | e | e
 ·have hb:=Nn (yN (C7 s 1) (C7 s 0)) (st++[⟨false,1,Dz x,false⟩]);have E:DR x.op (C7 s 1) (C7 s 0)=Ht (C7 s 1) (C7 s 0):=by unfold DR; rw[if_pos e]
  rw[show FC x.op EV=some 231 by rw[e]; rfl]at J
  by_cases he:(DR x.op (C7 s 1) (C7 s 0)).2=0
  ·rw[U,if_pos he];rw[E]at he I;rw[E];simp (disch:=first|omega|decide) only[push_cast,↓reduceIte,Cz,EZ,E7,Fw,DS,AT,Jc _ _ _ _ FY,Jp,FO,J,O,M,N,hb,he,I]
  ·rw[U,if_neg he];rw[E]at he;rw[E];simp (disch:=first|omega|decide) only[push_cast,↓reduceIte,Cz,EZ,E7,DS,Jc _ _ _ _ FY,Jp,FO,J,O,M,N,hb,he]
 ·have hb:=Nn (yP (C7 s 1) (C7 s 0)) (st++[⟨false,1,Dz x,false⟩]);have E:DR x.op (C7 s 1) (C7 s 0)=Hj (C7 s 1) (C7 s 0):=by unfold DR; rw[if_neg (by omega),if_pos e]
  rw[show FC x.op EV=some 232 by rw[e]; rfl]at J
  by_cases he:(DR x.op (C7 s 1) (C7 s 0)).2=0
  ·rw[U,if_pos he];rw[E]at he I;rw[E];simp (disch:=first|omega|decide) only[push_cast,↓reduceIte,Cz,EZ,E7,Fw,DS,AT,Jc _ _ _ _ FY,Jp,FO,J,O,M,N,hb,he,I]
  ·rw[U,if_neg he];rw[E]at he;rw[E];simp (disch:=first|omega|decide) only[push_cast,↓reduceIte,Cz,EZ,E7,DS,Jc _ _ _ _ FY,Jp,FO,J,O,M,N,hb,he]
 ·have hb:=Nn (yO (C7 s 1) (C7 s 0)) (st++[⟨false,1,Dz x,false⟩]);have E:DR x.op (C7 s 1) (C7 s 0)=Hm (C7 s 1) (C7 s 0):=by unfold DR; rw[if_neg (by omega),if_neg (by omega),if_pos e]
  rw[show FC x.op EV=some 233 by rw[e]; rfl]at J
  by_cases he:(DR x.op (C7 s 1) (C7 s 0)).2=0
  ·rw[U,if_pos he];rw[E]at he I;rw[E];simp (disch:=first|omega|decide) only[push_cast,↓reduceIte,Cz,EZ,E7,Fw,DS,AT,Jc _ _ _ _ FY,Jp,FO,J,O,M,N,hb,he,I]
  ·rw[U,if_neg he];rw[E]at he;rw[E];simp (disch:=first|omega|decide) only[push_cast,↓reduceIte,Cz,EZ,E7,DS,Jc _ _ _ _ FY,Jp,FO,J,O,M,N,hb,he]
 ·have hb:=Nn (Ybn (C7 s 1) (C7 s 0)) (st++[⟨false,1,Dz x,false⟩]);have E:DR x.op (C7 s 1) (C7 s 0)=(min (C7 s 1) (C7 s 0),0):=by unfold DR; rw[if_neg (by omega),if_neg (by omega),if_neg (by omega),if_pos e]
  rw[show FC x.op EV=some 234 by rw[e]; rfl]at J
  by_cases he:(DR x.op (C7 s 1) (C7 s 0)).2=0
  ·rw[U,if_pos he];rw[E]at he I;rw[E];simp (disch:=first|omega|decide) only[push_cast,↓reduceIte,Cz,EZ,E7,Fw,DS,AT,Jc _ _ _ _ FY,Jp,FO,J,O,M,N,hb,I]
  ·rw[E]at he;exact absurd rfl he
 ·have hb:=Nn (Ybm (C7 s 1) (C7 s 0)) (st++[⟨false,1,Dz x,false⟩]);have E:DR x.op (C7 s 1) (C7 s 0)=(max (C7 s 1) (C7 s 0),0):=by unfold DR; rw[if_neg (by omega),if_neg (by omega),if_neg (by omega),if_neg (by omega),if_pos e]
  rw[show FC x.op EV=some 235 by rw[e]; rfl]at J
  by_cases he:(DR x.op (C7 s 1) (C7 s 0)).2=0
  ·rw[U,if_pos he];rw[E]at he I;rw[E];simp (disch:=first|omega|decide) only[push_cast,↓reduceIte,Cz,EZ,E7,Fw,DS,AT,Jc _ _ _ _ FY,Jp,FO,J,O,M,N,hb,I]
  ·rw[E]at he;exact absurd rfl he
 ·have hb:=Nn (Ybl (C7 s 1) (C7 s 0)) (st++[⟨false,1,Dz x,false⟩]);have E:DR x.op (C7 s 1) (C7 s 0)=Ed (C7 s 1) (C7 s 0) 8:=by unfold DR; rw[if_neg (by omega),if_neg (by omega),if_neg (by omega),if_neg (by omega),if_neg (by omega),if_pos e]
  rw[show FC x.op EV=some 236 by rw[e]; rfl]at J
  by_cases he:(DR x.op (C7 s 1) (C7 s 0)).2=0
  ·rw[U,if_pos he];rw[E]at he I;rw[E];simp (disch:=first|omega|decide) only[push_cast,↓reduceIte,Cz,EZ,E7,Fw,DS,AT,Jc _ _ _ _ FY,Jp,FO,J,O,M,N,hb,he,I]
  ·rw[U,if_neg he];rw[E]at he;rw[E];simp (disch:=first|omega|decide) only[push_cast,↓reduceIte,Cz,EZ,E7,DS,Jc _ _ _ _ FY,Jp,FO,J,O,M,N,hb,he]
 ·have hb:=Nn (Ybk (C7 s 1) (C7 s 0)) (st++[⟨false,1,Dz x,false⟩]);have E:DR x.op (C7 s 1) (C7 s 0)=Ed (C7 s 1) (C7 s 0) 9:=by unfold DR; rw[if_neg (by omega),if_neg (by omega),if_neg (by omega),if_neg (by omega),if_neg (by omega),if_neg (by omega),if_pos e]
  rw[show FC x.op EV=some 238 by rw[e]; rfl]at J
  by_cases he:(DR x.op (C7 s 1) (C7 s 0)).2=0
  ·rw[U,if_pos he];rw[E]at he I;rw[E];simp (disch:=first|omega|decide) only[push_cast,↓reduceIte,Cz,EZ,E7,Fw,DS,AT,Jc _ _ _ _ FY,Jp,FO,J,O,M,N,hb,he,I]
  ·rw[U,if_neg he];rw[E]at he;rw[E];simp (disch:=first|omega|decide) only[push_cast,↓reduceIte,Cz,EZ,E7,DS,Jc _ _ _ _ FY,Jp,FO,J,O,M,N,hb,he]
 ·have hb:=Nn (Ybj (C7 s 1) (C7 s 0)) (st++[⟨false,1,Dz x,false⟩]);have E:DR x.op (C7 s 1) (C7 s 0)=Ed (C7 s 1) (C7 s 0) 10:=by unfold DR; rw[if_neg (by omega),if_neg (by omega),if_neg (by omega),if_neg (by omega),if_neg (by omega),if_neg (by omega),if_neg (by omega),if_pos e]
  rw[show FC x.op EV=some 239 by rw[e]; rfl]at J
  by_cases he:(DR x.op (C7 s 1) (C7 s 0)).2=0
  ·rw[U,if_pos he];rw[E]at he I;rw[E];simp (disch:=first|omega|decide) only[push_cast,↓reduceIte,Cz,EZ,E7,Fw,DS,AT,Jc _ _ _ _ FY,Jp,FO,J,O,M,N,hb,he,I]
  ·rw[U,if_neg he];rw[E]at he;rw[E];simp (disch:=first|omega|decide) only[push_cast,↓reduceIte,Cz,EZ,E7,DS,Jc _ _ _ _ FY,Jp,FO,J,O,M,N,hb,he]
 ·have hb:=Nn (Ybi (C7 s 1) (C7 s 0)) (st++[⟨false,1,Dz x,false⟩]);have E:DR x.op (C7 s 1) (C7 s 0)=(if C7 s 1<C7 s 0 then 1 else 0,0):=by unfold DR; rw[if_neg (by omega),if_neg (by omega),if_neg (by omega),if_neg (by omega),if_neg (by omega),if_neg (by omega),if_neg (by omega),if_neg (by omega),if_pos e]
  rw[show FC x.op EV=some 240 by rw[e]; rfl]at J
  by_cases he:(DR x.op (C7 s 1) (C7 s 0)).2=0
  ·rw[U,if_pos he];rw[E]at he I;rw[E];simp (disch:=first|omega|decide) only[push_cast,↓reduceIte,Cz,EZ,E7,Fw,DS,AT,Jc _ _ _ _ FY,Jp,FO,J,O,M,N,hb,I]
  ·rw[E]at he;exact absurd rfl he
def La(o:Option PI.Obj)(sz:Nat)(ks:List Nat)(ok:Bool)(zero k:D):Option D:=match o with
 |some o=>if o.isMap && o.sz == sz && (HI sz ks k k).isSome then match Kp sz ks k o.els 0 with
   |some (some i)=>match o.els[i]? with
    |some el=>some (if ok then .tup [G5 sz el,.bool true]else G5 sz el)
    |none=>none
   |some none=>some (if ok then .tup [zero,.bool false]else zero)
   |none=>none
  else none
 |none=>none
theorem Jm(st:St)(sz:Nat)(ks:List Nat)(ok:Bool)(E k:D)(key:Nat):IJ st sz ks ok E (.mapv key) k=La st[key]? sz ks ok E k:=(rfl)
def JX(o:Option PI.Obj)(sz:Nat)(ks:List Nat)(k v:D):Option PI.Obj:=match o with
 |some o=>if o.isMap && o.sz == sz && !o.lent && v.isCell && k.cells.length+1 == sz && k.cells.all D.isCell && HI sz ks k k == some true then match Kp sz ks k o.els 0 with
   |some (some i)=>some {o with els:=o.els.set i (.agg (k.cells++[v]))}
   |some none=>some {o with els:=o.els++[.agg (k.cells++[v])]}
   |none=>none
  else none
 |none=>none
theorem IY(st:St)(sz:Nat)(ks:List Nat)(k v:D)(key:Nat):Rk st sz ks (.mapv key) k v=(JX st[key]? sz ks k v).map fun o=>st.set key o:=by
 simp only[Rk,JX]
 cases st[key]? with
 |none=>rfl
 |some o=>
  simp only
  split
  ·cases Kp sz ks k o.els 0 with
   |none=>rfl
   |some r=>cases r <;> rfl
  ·rfl
def MM:List (Int×Nat):=[(1,5000177),(2,5000178),(12,5000179),(13,5000180),(14,5000181),(15,5000182),(16,5000183)]
def Vh(k:Nat)(p:Int×Nat):D:=.agg [.int .i64 p.1,.clo p.2 [.ptr k 0]]
def I5(k i:Nat):List D:=(MM.take i).map (Vh k)
theorem JH(k:Nat):JX (some ⟨false,2,[],false⟩) 2 [0] (.int .i64 1) (.clo 5000177 [.ptr k 0])=some ⟨false,2,I5 k 1,false⟩:=(rfl)
theorem JG(k:Nat):JX (some ⟨false,2,I5 k 1,false⟩) 2 [0] (.int .i64 2) (.clo 5000178 [.ptr k 0])=some ⟨false,2,I5 k 2,false⟩:=(rfl)
theorem JF(k:Nat):JX (some ⟨false,2,I5 k 2,false⟩) 2 [0] (.int .i64 12) (.clo 5000179 [.ptr k 0])=some ⟨false,2,I5 k 3,false⟩:=(rfl)
theorem JE(k:Nat):JX (some ⟨false,2,I5 k 3,false⟩) 2 [0] (.int .i64 13) (.clo 5000180 [.ptr k 0])=some ⟨false,2,I5 k 4,false⟩:=(rfl)
theorem JD(k:Nat):JX (some ⟨false,2,I5 k 4,false⟩) 2 [0] (.int .i64 14) (.clo 5000181 [.ptr k 0])=some ⟨false,2,I5 k 5,false⟩:=(rfl)
theorem JC(k:Nat):JX (some ⟨false,2,I5 k 5,false⟩) 2 [0] (.int .i64 15) (.clo 5000182 [.ptr k 0])=some ⟨false,2,I5 k 6,false⟩:=(rfl)
theorem JB(k:Nat):JX (some ⟨false,2,I5 k 6,false⟩) 2 [0] (.int .i64 16) (.clo 5000183 [.ptr k 0])=some ⟨false,2,I5 k 7,false⟩:=(rfl)
theorem OO(k:Nat)(op:Int)(f:Nat)(h:FC op MM=some f):La (some ⟨false,2,I5 k 7,false⟩) 2 [0] true .nilf (.int .i64 op)=some (.tup [.clo f [.ptr k 0],.bool true]):=by
 simp only[MM,FC]at h
 split at h
 ·simp only[C3]at h; subst h; rename_i e; subst e; rfl
 split at h
 ·simp only[C3]at h; subst h; rename_i e; subst e; rfl
 split at h
 ·simp only[C3]at h; subst h; rename_i e; subst e; rfl
 split at h
 ·simp only[C3]at h; subst h; rename_i e; subst e; rfl
 split at h
 ·simp only[C3]at h; subst h; rename_i e; subst e; rfl
 split at h
 ·simp only[C3]at h; subst h; rename_i e; subst e; rfl
 split at h
 ·simp only[C3]at h; subst h; rename_i e; subst e; rfl
 cases h
theorem Ym7(k:Nat)(op:Int)(h:3≤op∧op≤11):La (some ⟨false,2,I5 k 7,false⟩) 2 [0] true .nilf (.int .i64 op)=some (.tup [.nilf,.bool false]):=by
 have:op=3∨op=4∨op=5∨op=6∨op=7∨op=8∨op=9∨op=10∨op=11:=by omega
 rcases this with rfl | rfl | rfl | rfl | rfl | rfl | rfl | rfl | rfl <;> rfl
theorem NV(st:St)(a b:PI.Obj):(st++[a]++[b])[st.length+1]?=some b:=by
 have:=E7 (st++[a]) b;rwa [Lv]at this
theorem NU(st:St)(a b:PI.Obj):(st++[a]++[b])[st.length]?=some a:=by
 rw[HL (by rw[Lv]; omega),E7]
theorem NW(st:St)(a b b':PI.Obj):(st++[a]++[b]).set (st.length+1) b'=st++[a]++[b']:=by
 have:=lI (st++[a]) b b';rwa [Lv]at this
structure eOK (v:Int×List Int) (b:Int) (s:Sta) (x:Ins):Prop where
 v:Fe v
 b0:0≤b
 b1:b≤64
 l:s.stack.length≤64
 p0:0≤s.pc
 p1:s.pc≤100000
 f:F7 x=true
def Gu(v:Int×List Int)(b:Int)(s:Sta)(x:Ins):Out:=if(s.stack.length:Int)<IQ x.op then .err 200 else DG v b s x
def JK(st:St)(key:Nat)(s:Sta)(x:Ins):St:=if(s.stack.length:Int)<IQ x.op then st else st++[⟨false,1,Dz x,false⟩]++[⟨false,2,I5 key 7,false⟩]
def Vg(ds:List D)(st:St)(r:D×St):Prop:=∃ (key:Nat) (v:Int×List Int) (b:Int) (s:Sta) (x:Ins),eOK v b s x∧G0 st key v s.pc s.fuel s.status s.clause (El s.stack) b∧ds=[.ptr key 0,CZ x]∧r=DS (JK st key s x) key v b s x (Gu v b s x)
noncomputable def YM:List D→St→Option (D×St):=E2 Vg
theorem Ypf:Hw Vg:=by
 rintro ds st r r' ⟨key,v,b,s,x,hm,hk,rfl,rfl⟩ ⟨V,v',b',s',x',E,I,h,rfl⟩;simp only[Aa,D.ptr.injEq,and_true,QE]at h;obtain⟨rfl,rfl⟩:=h;obtain⟨rfl,J,M,N,O,Y,rfl⟩:=aL hm.v E.v hk I;have U:=QH.1 Y;obtain⟨a1,a2,a3,a4,a5⟩:=s;obtain⟨b1,b2,b3,b4,b5⟩:=s';dsimp only at J M N O U;subst J; subst M; subst N; subst O; subst U;rfl
theorem Yh9(hm:eOK v b s x)(hk:G0 st key v s.pc s.fuel s.status s.clause (El s.stack) b):YM [.ptr key 0,CZ x] st=some (DS (JK st key s x) key v b s x (Gu v b s x)):=
 KP Ypf ⟨key,v,b,s,x,hm,hk,rfl,rfl⟩
theorem IU:ck 2=some ⟨false,2,[],false⟩:=(rfl)
set_option maxHeartbeats 8000000 in
set_option maxRecDepth 20000 in
theorem Yv2:IContract Tryz.prog GG 157 YM:=by
 refine IM (T:=tb [(109,V3)] [(177,Jf (·=1)),(178,Jf (·=2)),(179,Jf (·=12)),(180,Jf (·=13)),(181,Jf (·=14)),(182,Jf (·=15)),(183,Jf (·=16)),(184,Jf (fun o=>3≤o∧o≤11))])
  vo (DB (all_cons tC all_nil) (all_cons Ypw (all_cons Ypy (all_cons zL (all_cons Ypt (all_cons Ypz (all_cons Yv0 (all_cons Ypx (all_cons zK all_nil))))))))) ?_
 intro ds st r hr;obtain⟨key,v,b,s,x,⟨hv,Y,aa,hl,ab,ac,hf⟩,hk,rfl,rfl⟩:=Iv hr;have N:=LC hk;have E:=hk;unfold G0 at E;have O:=po x.op;have af:=vM hf;unfold ki
 by_cases U:(s.stack.length:Int)<IQ x.op
 ·rw[show Gu v b s x=.err 200 from if_pos U,show JK st key s x=st from if_pos U];simp (disch:=first|omega|decide) only[push_cast,↓reduceIte,Cz,CA,EZ,Dy,HL N,E,IT hv,HB,E7,FO,O,U,DS]
 ·rw[show Gu v b s x=DG v b s x from if_neg U,show JK st key s x=_ from if_neg U];have hm:mOK v b s x:=⟨hv,Y,aa,hl,ab,ac,hf,by omega⟩;have ad:G0 (st++[⟨false,1,Dz x,false⟩]++[⟨false,2,I5 key 7,false⟩]) key v s.pc s.fuel s.status s.clause (El s.stack) b:=Pv (Pv hk _) _
  have fin:∀ (P:Int→Prop),P x.op→∃ d st',Jf P [.ptr key 0,CZ x] (st++[⟨false,1,Dz x,false⟩]++[⟨false,2,I5 key 7,false⟩])=some (d,st')∧DS (st++[⟨false,1,Dz x,false⟩]++[⟨false,2,I5 key 7,false⟩]) key v b s x (DG v b s x)=(d,st'):=
   fun P hP=>⟨_,_,Yh3 hm hP ad,rfl⟩
  have V:x.op=1∨x.op=2∨x.op=12∨x.op=13∨x.op=14∨x.op=15∨x.op=16∨(3≤x.op∧x.op≤11):=by omega
  rcases V with e | e | e | e | e | e | e | e
  ·obtain⟨d,st',I,J⟩:=fin (·=1) e;have M:=OO key x.op _ (show FC x.op MM=some 5000177 by rw[e]; rfl);rw[J];simp (disch:=first|omega|decide) only[push_cast,↓reduceIte,Cz,CA,EZ,Dy,HL N,E,IT hv,HB,E7,FO,O,U,Lv,IY,Jm,NV,NW,NU,IU,JH,JG,JF,JE,JD,JC,JB,M,MR,Og _ 5000177 177 _ rfl (by decide),I]
  ·obtain⟨d,st',I,J⟩:=fin (·=2) e;have M:=OO key x.op _ (show FC x.op MM=some 5000178 by rw[e]; rfl);rw[J];simp (disch:=first|omega|decide) only[push_cast,↓reduceIte,Cz,CA,EZ,Dy,HL N,E,IT hv,HB,E7,FO,O,U,Lv,IY,Jm,NV,NW,NU,IU,JH,JG,JF,JE,JD,JC,JB,M,MR,Og _ 5000178 178 _ rfl (by decide),I]
  ·obtain⟨d,st',I,J⟩:=fin (·=12) e;have M:=OO key x.op _ (show FC x.op MM=some 5000179 by rw[e]; rfl);rw[J];simp (disch:=first|omega|decide) only[push_cast,↓reduceIte,Cz,CA,EZ,Dy,HL N,E,IT hv,HB,E7,FO,O,U,Lv,IY,Jm,NV,NW,NU,IU,JH,JG,JF,JE,JD,JC,JB,M,MR,Og _ 5000179 179 _ rfl (by decide),I]
  ·obtain⟨d,st',I,J⟩:=fin (·=13) e;have M:=OO key x.op _ (show FC x.op MM=some 5000180 by rw[e]; rfl);rw[J];simp (disch:=first|omega|decide) only[push_cast,↓reduceIte,Cz,CA,EZ,Dy,HL N,E,IT hv,HB,E7,FO,O,U,Lv,IY,Jm,NV,NW,NU,IU,JH,JG,JF,JE,JD,JC,JB,M,MR,Og _ 5000180 180 _ rfl (by decide),I]
  ·obtain⟨d,st',I,J⟩:=fin (·=14) e;have M:=OO key x.op _ (show FC x.op MM=some 5000181 by rw[e]; rfl);rw[J];simp (disch:=first|omega|decide) only[push_cast,↓reduceIte,Cz,CA,EZ,Dy,HL N,E,IT hv,HB,E7,FO,O,U,Lv,IY,Jm,NV,NW,NU,IU,JH,JG,JF,JE,JD,JC,JB,M,MR,Og _ 5000181 181 _ rfl (by decide),I]
  ·obtain⟨d,st',I,J⟩:=fin (·=15) e;have M:=OO key x.op _ (show FC x.op MM=some 5000182 by rw[e]; rfl);rw[J];simp (disch:=first|omega|decide) only[push_cast,↓reduceIte,Cz,CA,EZ,Dy,HL N,E,IT hv,HB,E7,FO,O,U,Lv,IY,Jm,NV,NW,NU,IU,JH,JG,JF,JE,JD,JC,JB,M,MR,Og _ 5000182 182 _ rfl (by decide),I]
  ·obtain⟨d,st',I,J⟩:=fin (·=16) e;have M:=OO key x.op _ (show FC x.op MM=some 5000183 by rw[e]; rfl);rw[J];simp (disch:=first|omega|decide) only[push_cast,↓reduceIte,Cz,CA,EZ,Dy,HL N,E,IT hv,HB,E7,FO,O,U,Lv,IY,Jm,NV,NW,NU,IU,JH,JG,JF,JE,JD,JC,JB,M,MR,Og _ 5000183 183 _ rfl (by decide),I]
  ·obtain⟨d,st',I,J⟩:=fin (fun o=>3≤o∧o≤11) e;have M:=Ym7 key x.op e;rw[J];simp (disch:=first|omega|decide) only[push_cast,↓reduceIte,Cz,CA,EZ,Dy,HL N,E,IT hv,HB,E7,FO,O,U,Lv,IY,Jm,NV,NW,NU,IU,JH,JG,JF,JE,JD,JC,JB,M,MR,I]
def FT(s:Sta):Out→Sta
 |.err e=>{s with status:=10+e}
 |.pop k push pc=>{s with pc:=pc.getD (s.pc+1),stack:=s.stack.take (s.stack.length - k)++push.toList}
 |.set p t c=>{s with pc:=p,status:=t,clause:=c}
def Dj(s:Sta):Sta:={s with fuel:=s.fuel - 1}
def Gx(v:Int×List Int)(b:Int)(s:Sta)(x:Ins):Sta:=if s.fuel=0 then {s with status:=220} else FT (Dj s) (Gu v b (Dj s) x)
structure aOK (c:List Ins) (v:Int×List Int) (s:Sta) (b:Int):Prop where
 v:Fe v
 b0:0≤b
 b1:b≤64
 l:s.stack.length≤64
 p0:0≤s.pc
 p1:s.pc<c.length
 cl:c.length≤4096
 f:c.all F7=true
 u0:0≤s.fuel
 u1:s.fuel≤32768
theorem Yis(op a b:Int):0≤(DR op a b).2∧(DR op a b).2≤100:=by
 have I:∀ c,0≤(KD c).2∧(KD c).2≤100:=fun c=>by unfold KD; split <;> exact⟨by simp,by simp⟩
 have J:∀ a b m,0≤(Ed a b m).2∧(Ed a b m).2≤100:=fun a b m=>by
  unfold Ed
  split
  ·split <;> exact⟨by simp,by simp⟩
  ·exact⟨by simp,by simp⟩
 have ha:0≤(Ht a b).2∧(Ht a b).2≤100:=by unfold Ht; split <;> first | exact I _ | exact⟨by simp,by simp⟩
 have M:0≤(Hj a b).2∧(Hj a b).2≤100:=by unfold Hj; split <;> first | exact I _ | exact⟨by simp,by simp⟩
 have hm:0≤(Hm a b).2∧(Hm a b).2≤100:=by unfold Hm; split <;> first | exact I _ | exact⟨by simp,by simp⟩
 have E:∀ n:Int,0≤((n,0):Int×Int).2∧((n,0):Int×Int).2≤100:=fun n=>⟨by simp,by simp⟩;unfold DR
 split; · exact ha
 split; · exact M
 split; · exact hm
 split; · exact E _
 split; · exact E _
 split; · exact J _ _ _
 split; · exact J _ _ _
 split; · exact J _ _ _
 split; · exact E _
 exact E _
theorem tN{e:Int}(h:Gu v b s x=.err e):1≤e∧e≤1000:=by
 have E:=Yis x.op (C7 s 1) (C7 s 0);unfold Gu DG at h
 repeat' split at h
 all_goals first | (cases h; done) | (simp only[Out.err.injEq]at h; omega)
theorem Yph{k:Nat}{E pc:Option Int}(h:Gu v b s x=.pop k E pc):¬ (s.stack.length:Int)<IQ x.op:=by
 intro I;unfold Gu at h;rw[if_pos I]at h;cases h
theorem Ypg{c:Int}(h:Gu v b s x=.set p t c):¬ (s.stack.length:Int)<IQ x.op:=by
 intro E;unfold Gu at h;rw[if_pos E]at h;cases h
theorem Yab(v:Int×List Int)(hv:Fe v)(s:Sta)(b:Int):DF [.int .i64 0,.int .i64 0,.int .i64 0,.int .i64 0,.int .i64 0,.int .i64 0,.int .i64 0,.int .i64 0,.int .i64 0,.int .i64 0,.int .i64 0,.int .i64 0,.int .i64 0,.int .i64 0,.int .i64 0,.int .i64 0,.int .i64 0,.int .i64 0,.int .i64 0,.int .i64 0,.int .i64 0,.slc 0 [] true,.int .i64 0]
  [(0,17,Ev v),(17,5,Ec s),(22,1,.int .i64 b)]=some (EB v s.pc s.fuel s.status s.clause (El s.stack) b):=by
 refine(IK (cs':=Eh v++([.int .i64 0,.int .i64 0,.int .i64 0,.int .i64 0,.slc 0 [] true]++[.int .i64 0])) (A:=[]) (B:=CF 17 (.int .i64 0)) (C:=[.int .i64 0,.int .i64 0,.int .i64 0,.int .i64 0,.slc 0 [] true,.int .i64 0]) (xs:=Eh v) rfl rfl rfl rfl rfl (Jl hv) (Z3 (v.1::v.2))).trans ?_;refine(IK (cs':=Eh v++(Er s++[.int .i64 0])) (A:=Eh v) (B:=[.int .i64 0,.int .i64 0,.int .i64 0,.int .i64 0,.slc 0 [] true]) (C:=[.int .i64 0]) (xs:=Er s) rfl rfl (Jl hv) rfl rfl rfl (Ydr s)).trans ?_;refine(IK (cs':=EB v s.pc s.fuel s.status s.clause (El s.stack) b) (A:=Eh v++Er s) (B:=[.int .i64 0]) (C:=[]) (xs:=[.int .i64 b]) (by simp) (by simp[EB,Er]) (by simp[Jl hv,Er]) rfl rfl rfl rfl).trans ?_;rfl
theorem Yil(v:Int×List Int)(p f t c:Int)(sz:Nat)(els:List D)(E:Bool)(b:Int):Dx (.agg (EB v p f t c (.slc sz els E) b))=some (EB v p f t c (.slc sz els E) b):=by
 have h:(EB v p f t c (.slc sz els E) b).all D.isCell=true:=by
  rw[EB,Bw,dY,Z3];rfl
 rw[show Dx (.agg (EB v p f t c (.slc sz els E) b))=if(EB v p f t c (.slc sz els E) b).all D.isCell then some (EB v p f t c (.slc sz els E) b)else none from rfl,if_pos h]
theorem Ws(v:Int×List Int)(p f t c:Int)(l:List Int)(b:Int):Dx (.agg (EB v p f t c (El l) b))=some (EB v p f t c (El l) b):=Yil v p f t c _ _ _ b
theorem yM8(l:List Int):(El l).isCell=true:=(rfl)
theorem vX(st:St)(l:List Int):Dw st (El l)=some (El l):=by simp only[El,eh,Kq]
theorem Yuy(E o1 o2 I J M N:PI.Obj)(A:List Int)(m:Nat)(h:A.length=m):Dw [E,o1,o2,I,J,M,N,⟨true,1,A.map nI,false⟩] (.row 7 m 0 m)=some (El A):=by
 have O:Hf [E,o1,o2,I,J,M,N,⟨true,1,A.map nI,false⟩] 7 m 0 m=some (1,A.map nI):=by
  simp only[Hf,Bo,AH];rw[if_pos (by simp[h]),Bt,AU (by simp[h])]
 simp only[Dw,O,Ah];rfl
theorem ZI(s:Sta)(n:Int):DY (some ⟨false,1,Er s,false⟩) 1 1 (.int .i64 n)=some ⟨false,1,Er {s with fuel:=n},false⟩:=(rfl)
theorem rY(s:Sta)(n:Int):DY (some ⟨false,1,Er s,false⟩) 1 2 (.int .i64 n)=some ⟨false,1,Er {s with status:=n},false⟩:=(rfl)
theorem K2(a b c d S:D):DY (some ⟨false,1,[.int .i64 0,.int .i64 0,.int .i64 0,.int .i64 0,.slc 0 [] true],false⟩) 5 0 (.agg [a,b,c,d,S])=if [a,b,c,d,S].all D.isCell then some ⟨false,1,[a,b,c,d,S],false⟩else none:=by
 simp only[DY]; rfl
theorem Lb(lent:Bool)(a b c d S:D):Dq (some ⟨false,1,[a,b,c,d,S],lent⟩) 5 true 0=some (.agg [a,b,c,d,S]):=(rfl)
noncomputable def cu:List D→Option D:=Dd (α:=List Ins×(Int×List Int)×Sta×Int) (fun a=>[.slc (nz 3 (a.1.map CZ)) (a.1.map CZ) false,Ev a.2.1,Ec a.2.2.1,.int .i64 a.2.2.2]) (fun a=>aOK a.1 a.2.1 a.2.2.1 a.2.2.2) (fun a=>Ec (Gx a.2.1 a.2.2.2 a.2.2.1 (a.1.getD a.2.2.1.pc.toNat default)))
theorem Yid(c:List Ins)(v:Int×List Int)(s:Sta)(b:Int)(h:aOK c v s b):cu [.slc (nz 3 (c.map CZ)) (c.map CZ) false,Ev v,Ec s,.int .i64 b]=some (Ec (Gx v b s (c.getD s.pc.toNat default))):=
 DW (fun⟨a0,a1,E,I⟩ ⟨b0,b1,J,M⟩ h=>by simp only[Aa,D.slc.injEq,D.int.injEq,true_and,and_true,J9,V7,KS]at h; simp[h]) (c,v,s,b) h
set_option maxHeartbeats 4000000 in
set_option maxRecDepth 20000 in
theorem TE(c:List Ins)(v:Int×List Int)(s:Sta)(b:Int)(h:aOK c v s b):@wW GG (tb [] [(157,YM)]) Xz.code (C4 [.slc (nz 3 (c.map CZ)) (c.map CZ) false,Ev v,Ec s,.int .i64 b]) [] ⟨Dg Xz.res (Ec (Gx v b s (c.getD s.pc.toNat default)))⟩:=by
 obtain⟨hv,aa,ab,hl,ac,a3,hc,hf,a4,a5⟩:=h;have V:s.pc.toNat<c.length:=by omega
 unfold Xz
 by_cases M:s.fuel=0
 ·rw[show Gx v b s (c.getD s.pc.toNat default)={s with status:=220} from if_pos M];simp (disch:=first|omega|decide) only[push_cast,↓reduceIte,Cz,CA,Fb,Jh,KB,JT,M,rY,Lp,N3,M9]
 ·rw[show Gx v b s (c.getD s.pc.toNat default)=FT (Dj s) (Gu v b (Dj s) (c.getD s.pc.toNat default))from if_neg M];have J:=fun st=>Tt st c false s.pc.toNat V;rw[show((s.pc.toNat:Nat):Int)=s.pc by omega]at J
  have Y:F7 (c.getD s.pc.toNat default)=true:=by
   rw[Ao,An V];exact Aj.1 hf _ (By V)
  obtain⟨x,ad⟩:∃ x,c.getD s.pc.toNat default=x:=⟨_,rfl⟩;rw[ad]at J Y ⊢;have J:∀ st:St,F5 st 3 (.slc (nz 3 (c.map CZ)) (c.map CZ) false) (.int .i64 (Dj s).pc)=some (.eptr (CZ x) 0):=J;have he:eOK v b (Dj s) x:=⟨hv,aa,ab,hl,ac,by show s.pc≤100000; omega,Y⟩;have E:=Yh9 (st:=[⟨false,1,Eh v,false⟩,⟨false,1,Er (Dj s),false⟩,⟨false,1,[.int .i64 0,.int .i64 0,.int .i64 0,.int .i64 0,.slc 0 [] true],false⟩,⟨false,1,EB v (Dj s).pc (Dj s).fuel (Dj s).status (Dj s).clause (El (Dj s).stack) b,false⟩]) (key:=3) he rfl;have N:=Yab v hv (Dj s) b;have O:(⟨s.pc,s.fuel - 1,s.status,s.clause,s.stack⟩:Sta)=Dj s:=rfl
  cases U:Gu v b (Dj s) x with
  |err e=>
   have a6:=tN U;rw[U]at E
   have I:∃ l,JK [⟨false,1,Eh v,false⟩,⟨false,1,Er (Dj s),false⟩,⟨false,1,[.int .i64 0,.int .i64 0,.int .i64 0,.int .i64 0,.slc 0 [] true],false⟩,⟨false,1,EB v (Dj s).pc (Dj s).fuel (Dj s).status (Dj s).clause (El (Dj s).stack) b,false⟩] 3 (Dj s) x=⟨false,1,Eh v,false⟩::⟨false,1,Er (Dj s),false⟩::⟨false,1,[.int .i64 0,.int .i64 0,.int .i64 0,.int .i64 0,.slc 0 [] true],false⟩::l:=by
    unfold JK; split <;> exact⟨_,rfl⟩
   obtain⟨l,I⟩:=I;rw[I]at E;simp only[DS,Ae]at E;have ae:¬ e=0:=by omega
   simp (disch:=first|omega|decide) only[push_cast,↓reduceIte,Cz,CA,Fb,Jh,KB,JT,M,Fh,ZI,O,Gz hv,Lp,N,Ws,Ju,J,JS,E,ae,DP,rY,N3,M9,FT]
  |pop k push pc=>
   rw[U]at E;have I:=Yph U;rw[show JK [⟨false,1,Eh v,false⟩,⟨false,1,Er (Dj s),false⟩,⟨false,1,[.int .i64 0,.int .i64 0,.int .i64 0,.int .i64 0,.slc 0 [] true],false⟩,⟨false,1,EB v (Dj s).pc (Dj s).fuel (Dj s).status (Dj s).clause (El (Dj s).stack) b,false⟩] 3 (Dj s) x=_ from if_neg I]at E;simp only[DS]at E
   cases push with
   |none=>
    simp only[Jy,HN,Du,Ae,Ai,Ad,Co,Bn]at E;simp (disch:=first|omega|decide) only[push_cast,↓reduceIte,Cz,CA,Fb,Jh,KB,JT,M,Fh,ZI,O,Gz hv,Lp,N,Ws,Ju,J,JS,E,Dy,gT hv,K2,Lb,FT];simp only[Option.toList_none,Ad];rfl
   |some a=>
    have hi:=fun o0 o1 o2 o3 o4 o5 o6=>Yuy o0 o1 o2 o3 o4 o5 o6 ((Dj s).stack.take ((Dj s).stack.length - k)++[a]) ((Dj s).stack.length - k+1) (by rw[Ab,AQ]; simp);simp only[Jy,HN,Du,Ae,Ai,Co,Bn,Ak,Ap]at E;simp (disch:=first|omega|decide) only[push_cast,↓reduceIte,Cz,CA,Fb,Jh,KB,JT,M,Fh,ZI,O,Gz hv,Lp,N,Ws,Ju,J,JS,E,Dy,gT hv,K2,Lb,FT,hi];rfl
  |set p t cl=>
   rw[U]at E;have I:=Ypg U;rw[show JK [⟨false,1,Eh v,false⟩,⟨false,1,Er (Dj s),false⟩,⟨false,1,[.int .i64 0,.int .i64 0,.int .i64 0,.int .i64 0,.slc 0 [] true],false⟩,⟨false,1,EB v (Dj s).pc (Dj s).fuel (Dj s).status (Dj s).clause (El (Dj s).stack) b,false⟩] 3 (Dj s) x=_ from if_neg I]at E;simp only[DS,Du,Ae,Ai,Co,Bn]at E;simp (disch:=first|omega|decide) only[push_cast,↓reduceIte,Cz,CA,Fb,Jh,KB,JT,M,Fh,ZI,O,Gz hv,Lp,N,Ws,Ju,J,JS,E,Dy,gT hv,K2,Lb,yM8,vX,FT];rfl
theorem Vv:Contract Tryz.prog GG 110 cu:=
 D9 (T:=tb [] [(157,YM)]) yBq (DB all_nil (all_cons Yv2 all_nil)) (fun a h=>TE a.1 a.2.1 a.2.2.1 a.2.2.2 h)
def Kl(c:List Ins)(s:Sta)(b:Int):Prop:=s.pc<0∨(c.length:Int)≤s.pc∨s.fuel<0∨32768<s.fuel∨s.clause≠0∨b<0∨64<b∨64 - b<(s.stack.length:Int)
instance (c:List Ins) (s:Sta) (b:Int):Decidable (Kl c s b):=by unfold Kl; infer_instance
def Ih(c:List Ins)(s:Sta)(b:Int):Int:=if s.status≠0 then 211 else if(GH c).2≠0 then(GH c).2 else if Kl c s b then 1 else 0
noncomputable def e9:List D→Option D:=Dd (α:=List Ins×Sta×Int) (fun a=>[.slc (nz 3 (a.1.map CZ)) (a.1.map CZ) false,Ec a.2.1,.int .i64 a.2.2]) (fun a=>a.1.length≤4294967296) (fun a=>.int .i64 (Ih a.1 a.2.1 a.2.2))
theorem yQ(c:List Ins)(s:Sta)(b:Int)(h:c.length≤4294967296):e9 [.slc (nz 3 (c.map CZ)) (c.map CZ) false,Ec s,.int .i64 b]=some (.int .i64 (Ih c s b)):=
 DW (fun⟨a0,a1,E⟩ ⟨b0,b1,I⟩ h=>by simp only[Aa,D.slc.injEq,D.int.injEq,true_and,and_true,J9,V7]at h; simp[h]) (c,s,b) h
theorem Ykq(c:List Ins)(s:Sta)(b:Int)(h:c.length≤4294967296):@wW GG (tb [(47,Zj)] []) W9.code (C4 [.slc (nz 3 (c.map CZ)) (c.map CZ) false,Ec s,.int .i64 b]) [] ⟨Dg W9.res (.int .i64 (Ih c s b))⟩:=by
 have hv:=nO c (by omega);unfold W9
 by_cases E:s.status=0
 ·by_cases I:(GH c).2=0
  ·have e:Ih c s b=if Kl c s b then 1 else 0:=by unfold Ih; rw[if_neg (by simp[E]),if_neg (by simp[I])]
   rw[e]
   by_cases J:s.pc<0
   ·rw[if_pos (.inl J)];simp (disch:=first|omega|decide) only[push_cast,↓reduceIte,Cz,Jh,Ju,J8,E,hv,I,J]
   by_cases M:(c.length:Int)≤s.pc
   ·rw[if_pos (.inr (.inl M))];simp (disch:=first|omega|decide) only[push_cast,↓reduceIte,Cz,Jh,Ju,J8,E,hv,I,J,M]
   by_cases N:s.fuel<0
   ·rw[if_pos (.inr (.inr (.inl N)))];simp (disch:=first|omega|decide) only[push_cast,↓reduceIte,Cz,Jh,Ju,JT,J8,E,hv,I,J,M,N]
   by_cases O:32768<s.fuel
   ·rw[if_pos (.inr (.inr (.inr (.inl O))))];simp (disch:=first|omega|decide) only[push_cast,↓reduceIte,Cz,Jh,Ju,JT,J8,E,hv,I,J,M,N,O]
   by_cases U:s.clause=0
   ·by_cases V:b<0
    ·rw[if_pos (.inr (.inr (.inr (.inr (.inr (.inl V))))))];simp (disch:=first|omega|decide) only[push_cast,↓reduceIte,Cz,Jh,Ju,JT,J8,M1,E,hv,I,J,M,N,O,U,V]
    by_cases Y:64<b
    ·rw[if_pos (.inr (.inr (.inr (.inr (.inr (.inr (.inl Y)))))))];simp (disch:=first|omega|decide) only[push_cast,↓reduceIte,Cz,Jh,Ju,JT,J8,M1,E,hv,I,J,M,N,O,U,V,Y]
    by_cases q8:64 - b<(s.stack.length:Int)
    ·rw[if_pos (.inr (.inr (.inr (.inr (.inr (.inr (.inr q8)))))))];simp (disch:=first|omega|decide) only[push_cast,↓reduceIte,Cz,Jh,Ju,JT,J8,M1,OW,HB,Fh,E,hv,I,J,M,N,O,U,V,Y,q8]
    ·rw[if_neg (by unfold Kl; omega)];simp (disch:=first|omega|decide) only[push_cast,↓reduceIte,Cz,Jh,Ju,JT,J8,M1,OW,HB,Fh,E,hv,I,J,M,N,O,U,V,Y,q8]
   ·rw[if_pos (.inr (.inr (.inr (.inr (.inl U)))))];simp (disch:=first|omega|decide) only[push_cast,↓reduceIte,Cz,Jh,Ju,JT,J8,M1,E,hv,I,J,M,N,O,U]
  ·rw[show Ih c s b=(GH c).2 by unfold Ih; rw[if_neg (by simp[E]),if_pos I]];simp (disch:=first|omega|decide) only[push_cast,↓reduceIte,Cz,Jh,J8,E,hv,I]
 ·rw[show Ih c s b=211 from if_pos E];simp (disch:=first|omega|decide) only[push_cast,↓reduceIte,Cz,Jh,J8,E]
theorem Yp4:Contract Tryz.prog GG 108 e9:=
 D9 yHf (DB (all_cons sv all_nil) all_nil) (fun a h=>Ykq a.1 a.2.1 a.2.2 h)
variable {c:List Ins}
theorem oW(h:(GH c).2=0):c.length≤4096∧0<c.length∧c.all F7=true∧∃ s,Gr c.length c 0 (G7 c.length) 0=some s∧s≤64:=by
 unfold GH at h
 split at h
 ·simp at h
 split at h
 ·simp at h
 rename_i J E;have M:¬ c.length=0:=fun e=>E (.inl e)
 have I:c.all F7=true:=by
  cases hb:c.all F7 with
  |true=>rfl
  |false=>exact absurd (.inr hb) E
 cases hv:Gr c.length c 0 (G7 c.length) 0 with
 |none=>rw[hv]at h; simp[Jt]at h
 |some s=>
  rw[hv]at h;simp only[Jt]at h
  split at h
  ·simp at h
  ·exact⟨by omega,by omega,I,s,rfl,by omega⟩
theorem Yev(hv:Fe v)(h:Ih c s b=0):aOK c v s b∧s.status=0∧s.clause=0∧(GH c).2=0:=by
 unfold Ih at h
 split at h
 ·simp at h
 split at h
 ·rename_i I; exact absurd h I
 split at h
 ·simp at h
 rename_i O I M;have J:s.status=0:=by omega
 have E:(GH c).2=0:=by omega
 obtain⟨a1,U,N,_⟩:=oW E;unfold Kl at M;exact⟨⟨hv,by omega,by omega,by omega,by omega,by omega,by omega,N,by omega,by omega⟩,J,by omega,E⟩
def KF:Sta:=⟨0,0,0,0,[]⟩
def Mx(f:Int):Sta:=if f<0∨32768<f then KF else {KF with fuel:=f}
def OS(f:Int):Int:=if f<0∨32768<f then 1 else 0
theorem tQ:DF [.int .i64 0,.int .i64 0,.int .i64 0,.int .i64 0,.slc 0 [] true] []=some [.int .i64 0,.int .i64 0,.int .i64 0,.int .i64 0,.slc 0 [] true]:=(rfl)
theorem Yo9(f:Int):DF [.int .i64 0,.int .i64 0,.int .i64 0,.int .i64 0,.slc 0 [] true] [(1,1,.int .i64 f)]=some [.int .i64 0,.int .i64 f,.int .i64 0,.int .i64 0,.slc 0 [] true]:=(rfl)
noncomputable def fb:List D→Option D:=Dd (α:=Int) (fun a=>[.int .i64 a]) (fun a=>True) (fun a=>.tup [Ec (Mx a),.int .i64 (OS a)])
theorem zF(f:Int):fb [.int .i64 f]=some (.tup [Ec (Mx f),.int .i64 (OS f)]):=
 DW (fun a b h=>by simp only[Aa,D.int.injEq,true_and,and_true]at h; simp[h]) (f) trivial
theorem Ykp(f:Int):@wW GG (tb [] []) W6.code (C4 [.int .i64 f]) [] ⟨Dg W6.res (.tup [Ec (Mx f),.int .i64 (OS f)])⟩:=by
 unfold W6
 by_cases E:f<0
 ·rw[show Mx f=KF from if_pos (.inl E),show OS f=1 from if_pos (.inl E)];simp (disch:=first|omega|decide) only[push_cast,↓reduceIte,Cz,KB,E,tQ,K2,Lb];rfl
 ·by_cases I:32768<f
  ·rw[show Mx f=KF from if_pos (.inr I),show OS f=1 from if_pos (.inr I)];simp (disch:=first|omega|decide) only[push_cast,↓reduceIte,Cz,KB,E,I,tQ,K2,Lb];rfl
  ·rw[show Mx f={KF with fuel:=f} from if_neg (by omega),show OS f=0 from if_neg (by omega)];simp (disch:=first|omega|decide) only[push_cast,↓reduceIte,Cz,KB,E,I,Yo9,K2,Lb];rfl
theorem Yp3:Contract Tryz.prog GG 48 fb:=
 D9 yHi (DB all_nil all_nil) (fun a h=>Ykp a)
def JY(c:List Ins)(s:Sta):Ins:=c.getD s.pc.toNat default
def HP(o:Opn):Sta:=⟨o.pc,o.fuel,o.status,o.clause,o.top⟩
def MO:Opn:=⟨0,0,0,0,[],0,Dn⟩
def Zz(c:List Ins)(o:Opn):Prop:=0<o.fuel∧0<o.depth∧(o.top.length:Int)<IQ (JY c (HP o)).op
instance (c:List Ins) (o:Opn):Decidable (Zz c o):=by unfold Zz; infer_instance
def PU(s:Sta)(o:Opn):Opn:=⟨s.pc,s.fuel,s.status,s.clause,s.stack,o.depth,o.rest⟩
def Jg(c:List Ins)(o:Opn):Int:=if Ih c (HP o) o.depth=0 then(if Zz c o then 390 else 0)else Ih c (HP o) o.depth
def LN(c:List Ins)(v:Int×List Int)(o:Opn):Opn:=if Jg c o=0 then PU (Gx v o.depth (HP o) (JY c (HP o))) o else MO
theorem Tr(cs:List D):DF cs []=some cs:=(rfl)
theorem Ts(o:Opn):DF [.int .i64 0,.int .i64 0,.int .i64 0,.int .i64 0,.slc 0 [] true] [(0,1,.int .i64 o.pc),(1,1,.int .i64 o.fuel),(2,1,.int .i64 o.status),(3,1,.int .i64 o.clause),(4,1,El o.top)]=some (Er (HP o)):=(rfl)
theorem To(s:Sta):D.agg (Er s)=Ec s:=(rfl)
theorem kN(x:Ins)(st:St):E3 st 0 (.eptr (CZ x) 0)=some (.eptr (CZ x) 0):=(rfl)
theorem mQ(st:St)(x:Ins):E1 st 1 false (.eptr (CZ x) 0)=some (.int .i64 x.op):=(rfl)
theorem dZ(s:Sta)(o:Opn):DF (Ey 0 0 0 0 (.slc 0 [] true) 0 Dn) [(0,1,.int .i64 s.pc),(1,1,.int .i64 s.fuel),(2,1,.int .i64 s.status),(3,1,.int .i64 s.clause),(4,1,El s.stack),(5,1,.int .i64 o.depth),(6,32,C0 o.rest)]=some (EJ (PU s o)):=mJ ..
theorem cw(a b c d:Int)(t:D)(k:Int)(r:Dig)(o:Opn):DY (some ⟨false,1,Ey a b c d t k r,false⟩) 38 0 (.agg (EJ o))=some ⟨false,1,EJ o,false⟩:=Ti ..
theorem bW(lent:Bool)(o:Opn):Dq (some ⟨false,1,EJ o,lent⟩) 38 true 0=some (DN o):=Q1 ..
noncomputable def fc:List D→Option D:=Dd (α:=List Ins×(Int×List Int)×Opn) (fun a=>[.slc (nz 3 (a.1.map CZ)) (a.1.map CZ) false,Ev a.2.1,DN a.2.2]) (fun a=>a.1.length≤4294967296∧Fe a.2.1) (fun a=>.tup [DN (LN a.1 a.2.1 a.2.2),.int .i64 (Jg a.1 a.2.2)])
theorem zG(c:List Ins)(v:Int×List Int)(o:Opn)(h:c.length≤4294967296∧Fe v):fc [.slc (nz 3 (c.map CZ)) (c.map CZ) false,Ev v,DN o]=some (.tup [DN (LN c v o),.int .i64 (Jg c o)]):=
 DW (fun⟨a0,a1,E⟩ ⟨b0,b1,I⟩ h=>by simp only[Aa,D.slc.injEq,and_true,J9,QG,KS]at h; simp[h]) (c,v,o) h
theorem Yko(c:List Ins)(v:Int×List Int)(o:Opn)(h:c.length≤4294967296∧Fe v):@wW GG (tb [(108,e9),(109,V3),(110,cu)] []) XO.code (C4 [.slc (nz 3 (c.map CZ)) (c.map CZ) false,Ev v,DN o]) [] ⟨Dg XO.res (.tup [DN (LN c v o),.int .i64 (Jg c o)])⟩:=by
 obtain⟨hc,hv⟩:=h;have J:=yQ c (HP o) o.depth hc;unfold XO;have l0:=sC false o.pc o.fuel o.status o.clause (El o.top) o.depth o.rest;have l1:=sD false o.pc o.fuel o.status o.clause (El o.top) o.depth o.rest;have M:=bU false o.pc o.fuel o.status o.clause (El o.top) o.depth o.rest;have N:=sE false o.pc o.fuel o.status o.clause (El o.top) o.depth o.rest;have O:=bV false o.pc o.fuel o.status o.clause (El o.top) o.depth o.rest;have U:=Tc false o.pc o.fuel o.status o.clause (El o.top) o.depth o.rest;have l6:=sF false o.pc o.fuel o.status o.clause (El o.top) o.depth o.rest;rw[← J7]at l0 l1 M N O U l6
 by_cases I:Ih c (HP o) o.depth=0
 ·obtain⟨ha,hs,af,ah⟩:=Yev hv I;have ae:o.pc.toNat<c.length:=by have:=ha.p0; have:=ha.p1; simp only[HP]at *; omega
  have Y:=fun st=>Tt st c false o.pc.toNat ae;rw[show((o.pc.toNat:Nat):Int)=o.pc by have:=ha.p0; simp only[HP]at *; omega]at Y;have Y:∀ st:St,F5 st 3 (.slc (nz 3 (c.map CZ)) (c.map CZ) false) (.int .i64 o.pc)=some (.eptr (CZ (JY c (HP o))) 0):=Y;have hn:=po (JY c (HP o)).op;rw[I]at J
  by_cases h2:Zz c o
  ·have e:Jg c o=390:=by unfold Jg; rw[if_pos I,if_pos h2]
   rw[show LN c v o=MO from if_neg (by rw[e]; decide),e];obtain⟨V,q2,q3⟩:=h2;simp (disch:=first|omega|decide) only[push_cast,↓reduceIte,Cz,CA,Fb,My,OY,FD,KB,l0,l1,M,N,O,U,Ts,To,N3,Lp,M9,J,V,q2,HB,Y,kN,mQ,hn,q3,Tr,Ti,Q1,Yx];rfl
  ·have e:Jg c o=0:=by unfold Jg; rw[if_pos I,if_neg h2]
   rw[show LN c v o=PU (Gx v o.depth (HP o) (JY c (HP o))) o from if_pos e,e];have E:=Yid c v (HP o) o.depth ha;rw[show c.getD (HP o).pc.toNat default=JY c (HP o)from rfl]at E;generalize Gx v o.depth (HP o) (JY c (HP o))=s at*
   by_cases V:0<o.fuel
   ·by_cases q2:0<o.depth
    ·have q3:¬ (o.top.length:Int)<IQ (JY c (HP o)).op:=fun q=>h2 ⟨V,q2,q⟩;simp (disch:=first|omega|decide) only[push_cast,↓reduceIte,Cz,CA,Fb,My,OY,FD,KB,l0,l1,M,N,O,U,l6,Ts,To,N3,Lp,M9,Wg,J,V,q2,HB,Y,kN,mQ,hn,q3,Gz hv,Ez,FE,E,cy,Ju,JT,J8,M1,OW,dZ,cw,bW,FA]
    ·simp (disch:=first|omega|decide) only[push_cast,↓reduceIte,Cz,CA,Fb,My,OY,FD,KB,l0,l1,M,N,O,U,l6,Ts,To,N3,Lp,M9,Wg,J,V,q2,Gz hv,Ez,FE,E,cy,Ju,JT,J8,M1,OW,dZ,cw,bW,FA]
   ·simp (disch:=first|omega|decide) only[push_cast,↓reduceIte,Cz,CA,Fb,My,OY,FD,KB,l0,l1,M,N,O,U,l6,Ts,To,N3,Lp,M9,Wg,J,V,Gz hv,Ez,FE,E,cy,Ju,JT,J8,M1,OW,dZ,cw,bW,FA]
 ·have e:Jg c o=Ih c (HP o) o.depth:=if_neg I;rw[show LN c v o=MO from if_neg (by rw[e]; exact I),e];simp (disch:=first|omega|decide) only[push_cast,↓reduceIte,Cz,CA,Fb,My,OY,FD,KB,l0,l1,M,N,O,U,Ts,To,N3,Lp,M9,J,I,Tr,Ti,Q1,Yx];rfl
theorem Yp2:Contract Tryz.prog GG 55 fc:=
 D9 uk (DB (all_cons Yp4 (all_cons tC (all_cons Vv all_nil))) all_nil) (fun a h=>Yko a.1 a.2.1 a.2.2 h)
def Gw(c:List Ins):D:=.slc (nz 3 (c.map CZ)) (c.map CZ) false
theorem tV{a b:List Ins}:Gw a=Gw b↔a=b:=by
 refine⟨fun h=>?_,fun h=>by rw[h]⟩;simp only[Gw,D.slc.injEq,and_true]at h;exact(List.map_inj_right (fun x y h=>QE.1 h)).1 h.2
def fX(s:Sta):PI.Obj:=⟨false,1,Er s,false⟩
inductive RunY (y:List D→St→Option (D×St)) (k kc kv:Nat):List Sta→Nat→St→St→Prop
 |stop {s:Sta} {l:List Sta} {i:Nat} {st st1:St} (h:y [.int .i64 (i:Int),Ec s] st=some (.bool false,st1)):RunY y k kc kv (s::l) i st st1
 |last {s:Sta} {i:Nat} {st st1:St} (h:y [.int .i64 (i:Int),Ec s] st=some (.bool true,st1)) (hk:st1[k]?=some (fX s)):RunY y k kc kv [s] i st st1
 |next {s s':Sta} {l:List Sta} {i:Nat} {st st1 st2:St} (h:y [.int .i64 (i:Int),Ec s] st=some (.bool true,st1)) (hk:st1[k]?=some (fX s)) (hc:st1[kc]?=st[kc]?) (hv:st1[kv]?=st[kv]?)
   (hl:RunY y k kc kv (s'::l) (i+1) (st1.set k (fX s')) st2):RunY y k kc kv (s::s'::l) i st st2
def gF(c:List Ins)(out:Int)(i:Nat)(D:Nat→Int):Prop:=
 ∀ j,i≤j→j<c.length→0≤D j→¬ JR (c.getD j default) (D j)∧D j≤out∧FN (c.getD j default) (D j)≤out∧
  ∀ n∈JZ (c.getD j default) j,(j:Int)<n∧n<c.length∧D n.toNat=FN (c.getD j default) (D j)
structure Good (c:List Ins) (D:Nat→Int) (s:Sta):Prop where
 st:s.status=0
 cl:s.clause=0
 p0:0≤s.pc
 p1:s.pc<c.length
 d:D s.pc.toNat=s.stack.length
 u0:0≤s.fuel
 u1:s.fuel≤32768
structure Last (s:Sta):Prop where
 st:s.status≠0
 s0:0≤s.status
 s1:s.status≤100000
 l:s.stack.length≤64
theorem Good.len{D:Nat→Int}(E:gF c 64 0 D)(h:Good c D s):s.stack.length≤64:=by
 have I:=h.d;have J:=h.p0;have M:=h.p1;have:=(E s.pc.toNat (by omega) (by omega) (by omega)).2.1;omega
theorem Good.ready{D:Nat→Int}(hv:(GH c).2=0)(E:gF c 64 0 D)(h:Good c D s):Ih c s 0=0:=by
 unfold Ih;have hl:=h.len E;have I:=h.st;have J:=h.p0;have M:=h.p1;have N:=h.u0;have O:=h.u1;have U:=h.cl;rw[if_neg (by omega),if_neg (by omega),if_neg (by unfold Kl; omega)]
theorem Ycm(h:c.all F7=true)(hj:j<c.length):F7 (c.getD j default)=true:=by
 grind
theorem zo(h:F7 x=true):1≤x.op∧x.op≤16:=⟨(of_decide_eq_true h).1,(of_decide_eq_true h).2.1⟩
theorem Yfo{op:Int}(h:1≤op∧op≤16):IQ op=(Ea op).1:=by
 have:op=1∨op=2∨op=3∨op=4∨op=5∨op=6∨op=7∨op=8∨op=9∨op=10∨op=11∨op=12∨op=13∨op=14∨op=15∨op=16:=by omega
 rcases this with rfl | rfl | rfl | rfl | rfl | rfl | rfl | rfl | rfl | rfl | rfl | rfl | rfl | rfl | rfl | rfl <;> rfl
theorem Good.step{D:Nat→Int}(hf:c.all F7=true)(V:gF c 64 0 D)(h:Good c D s) :
  Last (Gx v 0 s (JY c s))∨(Good c D (Gx v 0 s (JY c s))∧s.pc<(Gx v 0 s (JY c s)).pc∧(Gx v 0 s (JY c s)).fuel=s.fuel - 1):=by
 have hl:=h.len V;obtain⟨Y,h2,h3,h4,h5,h6,h7⟩:=h;have hj:s.pc.toNat<c.length:=by omega
 have ab:F7 (JY c s)=true:=Ycm hf hj;have ac:=zo ab;obtain⟨O,q2,q3,q4⟩:=V s.pc.toNat (by omega) hj (by omega);rw[show c.getD s.pc.toNat default=JY c s from rfl]at O q3 q4;generalize JY c s=x at*;rw[h5]at O q3 q4;have a3:=Yfo ac;unfold Gx
 by_cases hu:s.fuel=0
 ·rw[if_pos hu];exact .inl ⟨by simp,by simp,by simp,hl⟩
 rw[if_neg hu]
 have af:¬ ((Dj s).stack.length:Int)<IQ x.op:=by
  unfold JR at O
  show ¬ ((s.stack.length:Int)<IQ x.op)
  omega
 have hex:Gu v 0 (Dj s) x=DG v 0 (Dj s) x:=if_neg af
 have nx:∀ (n:Int),n∈JZ x s.pc.toNat→s.pc<n∧n<c.length∧D n.toNat=FN x s.stack.length:=fun n hn=>by
  grind
 have I:x.op≠14→x.op≠15→x.op≠16→s.pc<s.pc+1∧s.pc+1<c.length∧D (s.pc+1).toNat=FN x s.stack.length:=fun a b d=>by
  refine nx (s.pc+1) ?_;unfold JZ;grind
 have a0:x.op=13∨x.op=14→s.pc<x.n∧x.n<c.length∧D x.n.toNat=FN x s.stack.length:=fun a=>by
  refine nx x.n ?_;unfold JZ;grind
 -- a6 each outcome comes to
 have a7:∀ e,Gu v 0 (Dj s) x=.err e→Last (FT (Dj s) (Gu v 0 (Dj s) x)):=fun e he=>by
  have:=tN he;rw[he];exact⟨by simp only[FT]; omega,by simp only[FT]; omega,by simp only[FT]; omega,hl⟩
 have E:∀ k push pc,Gu v 0 (Dj s) x=.pop k push pc→k≤s.stack.length→((s.stack.length - k+push.toList.length:Nat):Int)=FN x s.stack.length→(s.pc<pc.getD (s.pc+1)∧pc.getD (s.pc+1)<c.length∧D (pc.getD (s.pc+1)).toNat=FN x s.stack.length)→
   Good c D (FT (Dj s) (Gu v 0 (Dj s) x))∧s.pc<(FT (Dj s) (Gu v 0 (Dj s) x)).pc∧(FT (Dj s) (Gu v 0 (Dj s) x)).fuel=s.fuel - 1:=fun k push pc he hk bd U=>by
  rw[he];refine⟨⟨Y,h2,?_,U.2.1,?_,?_,?_⟩,U.1,rfl⟩
  ·show 0≤pc.getD (s.pc+1); omega
  ·show D (pc.getD (s.pc+1)).toNat=((s.stack.take (s.stack.length - k)++push.toList).length:Int)
   grind
  ·show 0≤s.fuel - 1; omega
  ·show s.fuel - 1≤32768; omega
 have hd:(Ea x.op).1≤s.stack.length:=by unfold JR at O; omega
 by_cases o1:x.op=1
 ·have he:Gu v 0 (Dj s) x=.pop 0 (some x.n) none:=by
   rw[hex]; unfold DG;rw[if_pos o1,if_neg];have:FN x s.stack.length=s.stack.length+1:=by unfold FN; rw[o1]; simp[Ea]
   show ¬ (64:Int)≤0+s.stack.length
   omega
  refine .inr (E _ _ _ he (by omega) ?_ (I (by omega) (by omega) (by omega)));unfold FN; rw[o1]; simp[Ea]
 by_cases o2:x.op=2
 ·have a9:¬ (64:Int)≤0+(Dj s).stack.length:=by
   have:FN x s.stack.length=s.stack.length+1:=by unfold FN; rw[o2]; simp[Ea]
   show ¬ (64:Int)≤0+s.stack.length
   omega
  by_cases b1:NQ v.1 (Le x.n)=0
  ·have he:Gu v 0 (Dj s) x=.err 181:=by
    rw[hex]; unfold DG;grind
   grind
  by_cases b2:Eg v.2 x.n.toNat < -9007199254740992∨9007199254740992<Eg v.2 x.n.toNat
  ·have he:Gu v 0 (Dj s) x=.err 3:=by
    rw[hex]; unfold DG;grind
   grind
  have he:Gu v 0 (Dj s) x=.pop 0 (some (Eg v.2 x.n.toNat)) none:=by
   rw[hex]; unfold DG;grind
  refine .inr (E _ _ _ he (by omega) ?_ (I (by omega) (by omega) (by omega)));unfold FN; rw[o2]; simp[Ea]
 by_cases J:x.op=12
 ·have he:Gu v 0 (Dj s) x=.pop 1 (some (if x.n≤C7 (Dj s) 0∧C7 (Dj s) 0≤x.m then 1 else 0)) none:=by
   rw[hex]; unfold DG;grind
  have:(Ea x.op).1=1:=by rw[J]; rfl
  refine .inr (E _ _ _ he (by omega) ?_ (I (by omega) (by omega) (by omega)));unfold FN; rw[J]; simp[Ea]; omega
 by_cases M:x.op=13
 ·have he:Gu v 0 (Dj s) x=.pop 1 none (if C7 (Dj s) 0=0 then some x.n else none):=by
   rw[hex]; unfold DG;grind
  have:(Ea x.op).1=1:=by rw[M]; rfl
  refine .inr (E _ _ _ he (by omega) ?_ ?_)
  ·unfold FN; rw[M]; simp[Ea]; omega
  ·grind
 by_cases N:x.op=14
 ·have he:Gu v 0 (Dj s) x=.set x.n s.status s.clause:=by
   rw[hex]; unfold DG;rw[if_neg o1,if_neg o2,if_neg J,if_neg M,if_pos N]; rfl
  obtain⟨m1,m2,m3⟩:=a0 (.inr N)
  right
  rw[he];refine⟨⟨Y,h2,?_,m2,?_,?_,?_⟩,m1,rfl⟩
  ·show 0≤x.n; omega
  ·show D x.n.toNat=(s.stack.length:Int)
   rw[m3]; unfold FN; rw[N]; simp[Ea]
  ·show 0≤s.fuel - 1; omega
  ·show s.fuel - 1≤32768; omega
 by_cases a1:x.op=15
 ·have he:Gu v 0 (Dj s) x=.set s.pc 1 x.n:=by
   rw[hex]; unfold DG;rw[if_neg o1,if_neg o2,if_neg J,if_neg M,if_neg N,if_pos a1]; rfl
  left
  rw[he];exact⟨by simp[FT],by simp[FT],by simp[FT],hl⟩
 by_cases be:x.op=16
 ·have he:Gu v 0 (Dj s) x=.err 180:=by
   rw[hex]; unfold DG;grind
  grind
 by_cases b1:(DR x.op (C7 (Dj s) 1) (C7 (Dj s) 0)).2=0
 ·have he:Gu v 0 (Dj s) x=.pop 2 (some (DR x.op (C7 (Dj s) 1) (C7 (Dj s) 0)).1) none:=by
   rw[hex]; unfold DG;grind
  have e2:Ea x.op=(2,1):=by
   unfold Ea;grind
  rw[e2]at hd;refine .inr (E _ _ _ he (by omega) ?_ (I (by omega) (by omega) (by omega)));unfold FN; rw[e2]; simp; omega
 ·have he:Gu v 0 (Dj s) x=.err (DR x.op (C7 (Dj s) 1) (C7 (Dj s) 0)).2:=by
   rw[hex]; unfold DG;grind
  grind
structure Der where
 code:List Ins
 env:Int×List Int
 am:Int
 er:Int
 lv:List Dig
 deriving Inhabited
section
variable {v:Int×List Int} (hv:Fe v) (lent:Bool) (cs L:D) (a e:Int)
include hv
end
structure okS (s:Sta):Prop where
 l:s.stack.length≤4294967296
 t:s.status≤1000000
theorem Sr(st:St):∀ {A:List D} (B:List D),A.all Eo=true→DQ st (A++B)=(DQ st B).map (A++·)
 |[],B,_=>by simp
 |d::A,B,h=>by
  simp only[A3,Af]at h;rw[Ae,DQ,aD st h.1,Sr st B h.2];cases DQ st B <;> rfl
theorem Wl(v:Int×List Int):(Eh v).all Eo=true:=by
 rw[dY]; exact Pu (v.1::v.2)
theorem DL(S l:St)(k:Nat):(S++l)[S.length+k]?=l[k]?:=by
 rw[AI (by omega)]; congr 1; omega
theorem EL(S l:St):(S++l)[S.length]?=l[0]?:=DL S l 0
theorem DM(S l:St)(k:Nat)(x:PI.Obj):(S++l).set (S.length+k) x=S++l.set k x:=by
 rw[Cb _ _ (by omega)]; congr 2; omega
theorem EM(S l:St)(x:PI.Obj):(S++l).set S.length x=S++l.set 0 x:=DM S l 0 x
theorem LZ(fr:Frame)(st:St)(t n:Nat)(ag:Bool)(l:List PRes):DK ⟨fr,st⟩ (.cell t n ag::l)=(E1 st n ag (fr t)).bind fun d=>(DK ⟨fr,st⟩ l).map (d::·):=by
 simp only[DK];cases E1 st n ag (fr t) <;> cases DK ⟨fr,st⟩ l <;> rfl
def HF(p:Dig×Dig):D:=.agg (CY p.1++CY p.2)
theorem cK{a b:Dig×Dig}:HF a=HF b↔a=b:=by
 refine⟨fun h=>?_,fun h=>by rw[h]⟩;obtain⟨a1,J⟩:=a;obtain⟨b1,M⟩:=b;simp only[HF,D.agg.injEq]at h;obtain⟨E,I⟩:=A2 h (by rw[DJ,DJ]);rw[N5.1 E,N5.1 I]
theorem Ypr(p:Dig×Dig):(CY p.1++CY p.2).all D.isCell=true:=by
 rw[Bw,KC (fun _=>rfl),KC (fun _=>rfl)]; rfl
theorem Yau(p:Dig×Dig):(CY p.1++CY p.2).length=64:=by simp[DJ]
theorem iy(p:Dig×Dig):Dx (HF p)=some (CY p.1++CY p.2):=by
 rw[show Dx (HF p)=if(CY p.1++CY p.2).all D.isCell then some (CY p.1++CY p.2)else none from rfl,if_pos (Ypr p)]
theorem gQ(lent:Bool)(p:Dig×Dig):Dq (some ⟨false,1,CY p.1++CY p.2,lent⟩) 64 true 0=some (HF p):=KT 1 lent _ 64 (Yau p)
theorem gw(p:Dig×Dig):OA 2 32 true (HF p) (.int .i64 0)=some (C0 p.1):=
 mK (A:=[]) (B:=CY p.1) (C:=CY p.2) rfl rfl (DJ _)
theorem gv(p:Dig×Dig):OA 2 32 true (HF p) (.int .i64 1)=some (C0 p.2):=
 mK (A:=CY p.1) (B:=CY p.2) (C:=[]) (by rw[Ad]) (DJ _) (DJ _)
theorem lZ(p:Dig×Dig):IF (HF p)=true:=by
 simp only[HF,IF,Bw];rw[show(CY p.1).all Eo=true from Pt _,show(CY p.2).all Eo=true from Pt _]; rfl
theorem gL(p:Dig×Dig):hk (HF p)=[]:=R5 (lZ p)
theorem cq(n:Nat)(σ:List Nat)(p:Dig×Dig):Ef n σ (HF p)=HF p:=Pj n σ (lZ p)
def D1(p:Int×Dig):D:=.agg (.int .i64 p.1::CY p.2)
def OQ(cl:Dig×Dig)(d:Dig):Int:=if cl.1=d then 0 else if cl.2=d then 1 else -1
def G8(cl:Dig×Dig)(r:Dig×Int):Int×Dig:=if r.2=0 then(OQ cl r.1,r.1)else(0,Dn)
def E5(cl:Dig×Dig):PI.Obj:=⟨false,1,CY cl.1++CY cl.2,false⟩
def EU(p:Int×Dig):PI.Obj:=⟨false,1,.int .i64 p.1::CY p.2,false⟩
def sw(f:Nat)(sp:List D→St→Option (D×St))(ds:List D)(st:St)(r:D×St):Prop:=∃ (cl:Dig×Dig) (caps:List D) (d:Dig) (e:Int),StOK st∧ds=[HF cl,.clo f caps]∧
 sp caps (st++[E5 cl,EU (0,Dn)])=some (.tup [C0 d,.int .i64 e],st++[E5 cl,EU (0,Dn)])∧r=(.tup [D1 (G8 cl (d,e)),.int .i64 e],st)
theorem om(f:Nat)(sp:List D→St→Option (D×St)):Hw (sw f sp):=by
 rintro ds st r O ⟨cl,J,d,e,_,rfl,M,rfl⟩ ⟨N,I,U,V,_,h,E,rfl⟩;simp only[Aa,D.clo.injEq,and_true,true_and,cK]at h;obtain⟨rfl,rfl⟩:=h;rw[M]at E;simp only[C3,Dk,D.tup.injEq,Aa,MA,D.int.injEq,true_and,and_true]at E;obtain⟨rfl,rfl⟩:=E;rfl
noncomputable def Qy(f:Nat)(sp:List D→St→Option (D×St)):List D→St→Option (D×St):=E2 (sw f sp)
theorem Sl{S:St}(h:StOK S)(l:St)(hl:∀ o∈l,o.els.all Eo=true):StOK (S++l):=
 h.app _ fun o E _ x I=>Pj _ _ (Xu (Aj.1 (hl o E) x I))
theorem LD(d:Dig):(CY d).all Eo=true:=Pt d
theorem QP(E:Dig×Dig):(E5 E).els.all Eo=true:=by
 simp only[E5,Bw,LD]; rfl
theorem Sz(p:Int×Dig):(EU p).els.all Eo=true:=by
 simp only[EU,A3,LD]; rfl
theorem L8{S l:St}(h:StOK S):cut S.length (S++l)=S:=tc h rfl
theorem Yft(n:Nat)(a:Int)(d:Dig)(e:Int):Hn n (.tup [.agg (.int .i64 a::CY d),.int .i64 e])=.tup [.agg (.int .i64 a::CY d),.int .i64 e]:=by
 have h:G3 n (.agg (.int .i64 a::CY d))=.agg (.int .i64 a::CY d):=by
  rw[← dJ]; exact Pj n [] (d:=.agg (.int .i64 a::CY d)) (by simp only[IF,A3,LD]; rfl)
 simp only[Hn,Ax,Bk,h];rfl
theorem Ro(p:Int×Dig)(a:Int)(d:Dig):DY (some (EU p)) 33 0 (.agg (.int .i64 a::CY d))=some (EU (a,d)):=
 Lx 1 _ _ 33 (by simp[DJ]) (by simp[DJ]) (by rw[A3,KC (fun _=>rfl)]; rfl)
theorem Rb(p:Int×Dig):Dq (some (EU p)) 33 true 0=some (D1 p):=KT 1 false _ 33 (by simp[DJ])
theorem Yua(E:Dig×Dig):Dq (some (E5 E)) 64 true 0=some (HF E):=gQ false E
theorem ee(a:Int)(d:Dig):DF (.int .i64 0::CY Dn) [(0,1,.int .i64 a),(1,32,C0 d)]=some (.int .i64 a::CY d):=by
 refine(IK (cs:=.int .i64 0::CY Dn) (cs':=.int .i64 a::CY Dn) (A:=[]) (B:=[.int .i64 0]) (xs:=[.int .i64 a]) rfl rfl rfl rfl rfl rfl rfl).trans ?_;refine(IK (cs:=.int .i64 a::CY Dn) (cs':=.int .i64 a::CY d) (A:=[.int .i64 a]) (B:=CY Dn) (C:=[]) (xs:=CY d) (by simp) (by simp) rfl (DJ _) rfl (DJ _) (KC (fun _=>rfl) d)).trans ?_;rfl
theorem Zm(n:Nat)(p:Int×Dig)(e:Int):Hn n (.tup [D1 p,.int .i64 e])=.tup [D1 p,.int .i64 e]:=Yft n p.1 p.2 e
set_option maxHeartbeats 4000000 in
set_option maxRecDepth 20000 in
theorem lX(f:Nat)(hf:f<5000000)(sp:List D→St→Option (D×St))(hc:IContract Tryz.prog GG f sp):IContract Tryz.prog GG 45 (Qy f sp):=by
 refine Xt (T:=tb [] [(f,sp)]) uo (DB all_nil (all_cons hc all_nil)) ?_;intro ds st r hr;obtain⟨cl,I,d,e,E,rfl,h2,rfl⟩:=Iv hr;unfold ju;have hT:(tb [] [(f,sp)]).i f=some sp:=by rw[TX,ov,if_pos rfl]
 have Y:Kk (tb [] [(f,sp)]) (.clo f I)=some (sp,[],I):=by rw[tI _ _ _ hf,hT]; rfl
 have hz:(.int .i64 0::CY Dn:List D)=(.int .i64 0::CY Dn:List D):=rfl;simp (disch:=first|omega|decide) only[push_cast,↓reduceIte,Cz,CB,iy,Y,Ag,Ae,Ai];rw[show st++[⟨false,1,CY cl.1++CY cl.2,false⟩,⟨false,1,.int .i64 0::CY Dn,false⟩]=st++[E5 cl,EU (0,Dn)]from rfl,h2];simp (disch:=first|omega|decide) only[push_cast,↓reduceIte,Cz,CA,CB,Ag,Ae,Ai,Ab,Ak,Ap,Am,CA,DL,DM]
 by_cases he:e=0
 ·subst he
  have aa:StOK (st++[E5 cl,EU (0,Dn),⟨false,1,CY d,false⟩]):=Sl E _ (fun o ho=>by
   simp only[Aw,AB,or_false]at ho;rcases ho with rfl | rfl | rfl
   ·exact QP cl
   ·exact Sz _
   ·exact LD d)
  have J:(st++[E5 cl,EU (0,Dn),⟨false,1,CY d,false⟩]).length=st.length+3:=by simp
  have O:st.length+1<st.length+3:=by omega
  have U:st.length+2<st.length+3:=by omega
  have hR:∀ (fr:Frame) (l:St),(L7 fr [4,6,19,20]).all (fun k=>decide (k<st.length+3))=true→restrict [4,6,19,20] (st++[E5 cl,EU (0,Dn),⟨false,1,CY d,false⟩]).length ⟨fr,st++E5 cl::EU (0,Dn)::⟨false,1,CY d,false⟩::l⟩=⟨GK (Ja fr (st.length+3) [] [4,6,19,20]),st++[E5 cl,EU (0,Dn),⟨false,1,CY d,false⟩]⟩:=fun fr l h=>by
   have:=jt (keep:=[4,6,19,20]) (fr:=fr) (l:=l) aa J.symm (fun k hk=>of_decide_eq_true (Aj.1 h k hk));rw[Ag]at this;rw[J];exact this
  have M:=hR;simp only[J]at M;simp (disch:=first|omega|decide) only[push_cast,↓reduceIte,Cz,CB,EL,Yua]
  refine GF (fun i:Nat=>[(4,.ptr (st.length+1) 0),(6,.ptr (st.length+2) 0),(19,HF cl),(20,.int .i64 (i:Int))]) (fun _=>st++[E5 cl,EU (0,Dn),⟨false,1,CY d,false⟩])
   (fun i=>i≤2∧(0<i→¬ cl.1=d)∧(1<i→¬ cl.2=d)) (fun i=>2 - i) 0 ?_ ⟨by omega,fun h=>absurd h (by omega),fun h=>absurd h (by omega)⟩ ?_
  ·simp (disch:=first | omega | decide | (simp only[push_cast,↓EH,↓reduceIte,Cz,CG,CE,CA,Nat.reduceSub,CD,CT,CJ,Int.reduceLE,CL,CB,CQ,CP,CX,CR,↓CC,gL,O,U,decide_true]; done)) only[push_cast,↓reduceIte,Cz,↓CC,↓hR,cq,OZ]
  rintro i ⟨hi,N,V⟩;unfold j0
  match i,hi,N,V with
  |0,_,_,_=>
   have c0:=gw cl
   by_cases q:cl.1=d
   ·rw[show G8 cl (d,0)=(0,d) by unfold G8 OQ; rw[if_pos rfl,if_pos q]];simp (disch:=first|omega|decide) only[push_cast,↓reduceIte,Cz,CA,CJ,CB,↓CC,Ag,Ae,Ai,Ab,Ak,Ap,Am,CA,DL,DM,c0,q,ee,Ro,Rb,Zm,LZ,L8 E]
   ·simp (disch:=first | omega | decide | (simp only[push_cast,↓EH,↓reduceIte,Cz,CG,CE,CA,Nat.reduceSub,CD,CT,CJ,Int.reduceLE,CL,CB,CQ,CP,CX,CR,↓CC,gL,O,U,decide_true]; done)) only[push_cast,↓reduceIte,Cz,CA,CJ,CP,↓CC,↓M,cq,OZ,Ag,Ae,Ai,Ab,Ak,Ap,Am,CA,DL,DM,c0,q,DP];refine Fi 1 (by exact⟨by omega,fun _=>q,fun h=>absurd h (by omega)⟩) (by omega) ?_;simp (disch:=first|omega|decide) only[push_cast,↓CC] <;> rfl
  |1,_,N,_=>
   have c1:=gv cl;have q0:=N (by omega)
   by_cases q:cl.2=d
   ·rw[show G8 cl (d,0)=(1,d) by unfold G8 OQ; rw[if_pos rfl,if_neg q0,if_pos q]];simp (disch:=first|omega|decide) only[push_cast,↓reduceIte,Cz,CA,CJ,CB,↓CC,Ag,Ae,Ai,Ab,Ak,Ap,Am,CA,DL,DM,c1,q,ee,Ro,Rb,Zm,LZ,L8 E]
   ·simp (disch:=first | omega | decide | (simp only[push_cast,↓EH,↓reduceIte,Cz,CG,CE,CA,Nat.reduceSub,CD,CT,CJ,Int.reduceLE,CL,CB,CQ,CP,CX,CR,↓CC,gL,O,U,decide_true]; done)) only[push_cast,↓reduceIte,Cz,CA,CJ,CP,↓CC,↓M,cq,OZ,Ag,Ae,Ai,Ab,Ak,Ap,Am,CA,DL,DM,c1,q,DP];refine Fi 2 (by exact⟨by omega,fun _=>q0,fun _=>q⟩) (by omega) ?_;simp (disch:=first|omega|decide) only[push_cast,↓CC] <;> rfl
  |2,_,N,V=>
   rw[show G8 cl (d,0)=(-1,d) by unfold G8 OQ; rw[if_pos rfl,if_neg (N (by omega)),if_neg (V (by omega))]];simp (disch:=first|omega|decide) only[push_cast,↓reduceIte,Cz,CA,CJ,CB,↓CC,Ab,Ak,Ap,Am,CA,DL,DM,ee,Ro,Rb,Zm,LZ,L8 E]
 ·have hv:G8 cl (d,e)=(0,Dn):=if_neg he;rw[hv];simp (disch:=first|omega|decide) only[push_cast,↓reduceIte,Cz,CB,he,DL,DM,L8 E,Ro,Rb,Zm,Tr,LZ]
theorem lW(c:List Ins):([.slc (nz 3 (c.map CZ)) (c.map CZ) false]:List D).all Eo=true:=by
 simp[Eo,Kq]
def GO(c:List Ins)(v:Int×List Int):Dig×Int:=if c.length=0 then(EI,0)else if(GH c).2≠0 then(Dn,(GH c).2)else(Mn c v (Mx (c.length+1)),0)
def rB(ds:List D)(st:St)(r:D×St):Prop:=∃ (kc kv:Nat) (c:List Ins) (v:Int×List Int) (lc lv:Bool),StOK st∧ds=[.ptr kc 0,.ptr kv 0]∧st[kc]?=some ⟨false,1,[Gw c],lc⟩∧st[kv]?=some ⟨false,1,Eh v,lv⟩∧c.length≤9223372036854775807∧Fe v∧
 r=(.tup [C0 (GO c v).1,.int .i64 (GO c v).2],st)
theorem Yvn:Hw rB:=by
 rintro ds st r Y ⟨kc,kv,c,v,lc,lv,_,rfl,J,M,_,_,rfl⟩ ⟨N,O,c',v',U,V,_,h,E,I,_,_,rfl⟩;simp only[Aa,D.ptr.injEq,and_true]at h;obtain⟨rfl,rfl⟩:=h;rw[J]at E;rw[M]at I;simp only[C3,Obj.mk.injEq,Aa,and_true,true_and,tV]at E I;obtain⟨rfl,_⟩:=E;obtain rfl:v=v':=KS.1 (congrArg D.agg I.1);rfl
noncomputable def ZN:List D→St→Option (D×St):=E2 rB
theorem O4(n:Nat)(d:Dig)(e:Int):Hn n (.tup [C0 d,.int .i64 e])=.tup [C0 d,.int .i64 e]:=by
 have h:G3 n (C0 d)=C0 d:=by rw[← dJ]; exact mX n [] d
 simp only[Hn,Ax,Bk,h];rfl
theorem PJ(a d:Dig):DY (some ⟨false,1,CY a,false⟩) 32 0 (C0 d)=some ⟨false,1,CY d,false⟩:=Lx 1 _ _ 32 (DJ _) (DJ _) (KC (fun _=>rfl) d)
set_option maxHeartbeats 4000000 in
set_option maxRecDepth 20000 in
theorem Vo:IContract Tryz.prog GG 46 ZN:=by
 refine Xt (T:=tb [(20,Qm),(47,Zj),(48,fb),(49,dC)] []) uH (DB (all_cons Yq (all_cons sv (all_cons Yp3 (all_cons Yv7 all_nil)))) all_nil) ?_;intro ds st r Y;obtain⟨kc,kv,c,v,lc,lv,I,rfl,N,O,hc,hv,rfl⟩:=Iv Y
 have Dp:∀ l:St,(st++l)[kc]?=some ⟨false,1,[.slc (nz 3 (c.map CZ)) (c.map CZ) false],lc⟩:=fun l=>by
  rw[Au (Ac.1 N).1]; exact N
 have U:∀ l:St,(st++l)[kv]?=some ⟨false,1,Eh v,lv⟩:=fun l=>by
  rw[Au (Ac.1 O).1]; exact O
 have V:=nO c hc;have cp:=Sc;unfold jG
 by_cases M:c.length=0
 ·rw[show GO c v=(EI,0)from if_pos M];have E:(c.length:Int)=0:=by omega
  simp (disch:=first|omega|decide) only[push_cast,↓reduceIte,Cz,Dp,E,cp,EL,EM,O4,L8 I,LZ,PJ]
 by_cases J:(GH c).2=0
 ·rw[show GO c v=(Mn c v (Mx (c.length+1)),0) by unfold GO; rw[if_neg M,if_neg (by simp[J])]];have E:¬ (c.length:Int)=0:=by omega
  obtain⟨ae,_⟩:=oW J;have cs:=zF ((c.length:Int)+1);rw[show OS ((c.length:Int)+1)=0 from if_neg (by omega)]at cs
  have cd:=Ybb c v (Mx ((c.length:Int)+1)) ⟨by omega,hv,by
   rw[show Mx ((c.length:Int)+1)={KF with fuel:=(c.length:Int)+1} from if_neg (by omega)]; exact Bg _⟩
  simp (disch:=first|omega|decide) only[push_cast,↓reduceIte,Cz,Dp,U,E,J,V,cs,cd,DP,KB,N3,Lp,Gz hv,Ez,M9,Ag,Ae,Ai,Ab,Ak,Ap,Am,DL,DM,EL,EM,O4,L8 I,LZ,PJ]
 ·rw[show GO c v=(Dn,(GH c).2) by unfold GO; rw[if_neg M,if_pos J]];have E:¬ (c.length:Int)=0:=by omega
  simp (disch:=first|omega|decide) only[push_cast,↓reduceIte,Cz,Dp,E,J,V,Ai,EL,EM,O4,L8 I,LZ,PJ,Tr]
noncomputable def WD:List D→Option D:=Dd (α:=List Ins×(Int×List Int)×(Dig×Dig)) (fun a=>[.slc (nz 3 (a.1.map CZ)) (a.1.map CZ) false,Ev a.2.1,HF a.2.2]) (fun a=>a.1.length≤9223372036854775807∧Fe a.2.1) (fun a=>.tup [D1 (G8 a.2.2 (GO a.1 a.2.1)),.int .i64 (GO a.1 a.2.1).2])
theorem yNm(c:List Ins)(v:Int×List Int)(E:Dig×Dig)(h:c.length≤9223372036854775807∧Fe v):WD [.slc (nz 3 (c.map CZ)) (c.map CZ) false,Ev v,HF E]=some (.tup [D1 (G8 E (GO c v)),.int .i64 (GO c v).2]):=
 DW (fun⟨a0,a1,I⟩ ⟨b0,b1,J⟩ h=>by simp only[Aa,D.slc.injEq,and_true,J9,KS,cK]at h; simp[h]) (c,v,E) h
set_option maxHeartbeats 4000000 in
set_option maxRecDepth 20000 in
theorem Yc7(c:List Ins)(v:Int×List Int)(E:Dig×Dig)(h:c.length≤9223372036854775807∧Fe v):@wW GG (tb [] [(45,Qy 46 ZN)]) XQ.code (C4 [.slc (nz 3 (c.map CZ)) (c.map CZ) false,Ev v,HF E]) [] ⟨Dg XQ.res (.tup [D1 (G8 E (GO c v)),.int .i64 (GO c v).2])⟩:=by
 obtain⟨hc,hv⟩:=h;unfold XQ;have O:(CY E.1++CY E.2).all Eo=true:=QP E
 have J:StOK [⟨false,1,[.slc (nz 3 (c.map CZ)) (c.map CZ) false],false⟩,⟨false,1,Eh v,false⟩,E5 E,EU (0,Dn)]:=by
  refine Sl (S:=[]) (fun o I=>by cases I) _ (fun o I=>?_);simp only[Aw,AB,or_false]at I;rcases I with rfl | rfl | rfl | rfl
  ·exact lW c
  ·exact Wl v
  ·exact QP E
  ·exact Sz _
 have M:=Sl J [E5 E,EU (0,Dn)] (fun o I=>by
  simp only[Aw,AB,or_false]at I;rcases I with rfl | rfl
  ·exact QP E
  ·exact Sz _)
 have hj:Qy 46 ZN [HF E,.clo 46 [.ptr 0 0,.ptr 1 0]] [⟨false,1,[.slc (nz 3 (c.map CZ)) (c.map CZ) false],false⟩,⟨false,1,Eh v,false⟩,E5 E,EU (0,Dn)]=some (.tup [D1 (G8 E (GO c v)),.int .i64 (GO c v).2],[⟨false,1,[.slc (nz 3 (c.map CZ)) (c.map CZ) false],false⟩,⟨false,1,Eh v,false⟩,E5 E,EU (0,Dn)]):=
  KP (om _ _) ⟨E,[.ptr 0 0,.ptr 1 0],(GO c v).1,(GO c v).2,J,rfl,KP Yvn ⟨0,1,c,v,false,false,M,rfl,rfl,rfl,hc,hv,rfl⟩,rfl⟩
 have N:=Ro (0,Dn);have lv:=Rb;simp only[E5,EU,D1]at hj N lv;simp (disch:=first|omega|decide) only[push_cast,↓reduceIte,Cz,CA,Fb,iy,gQ,hj,D1,N,lv]
theorem Yih:Contract Tryz.prog GG 14 WD:=
 D9 (T:=tb [] [(45,Qy 46 ZN)]) um (DB all_nil (all_cons (lX _ (by decide) _ Vo) all_nil)) (fun a h=>Yc7 a.1 a.2.1 a.2.2 h)
theorem Yq3(v:Int×List Int)(b:Int)(s:Sta)(x:Ins):(Gx v b s x).stack.length≤s.stack.length+1:=by
 have h:∀ o:Out,(FT (Dj s) o).stack.length≤s.stack.length+1:=by
  intro o
  cases o with
  |err e=>exact Nat.le_succ _
  |set p t c=>exact Nat.le_succ _
  |pop k push pc=>
   show(s.stack.take (s.stack.length - k)++push.toList).length≤_
   rw[Ab,AQ];have:push.toList.length≤1:=by cases push <;> simp
   omega
 unfold Gx
 split
 ·exact Nat.le_succ _
 ·exact h _
theorem yd(c:List Ins)(v:Int×List Int)(o:Opn):(LN c v o).top.length≤o.top.length+1:=by
 unfold LN
 split
 ·exact Yq3 v o.depth (HP o) _
 ·simp[MO]
def E6(c:List Ins)(v:Int×List Int)(b:Dig)(o:Opn):Dig×Int:=if b=EI then(b,0)else if F1 c v o≠b then(Dn,390)else if o.status≠0 then(EI,0)else(F1 c v (LN c v o),Jg c o)
def ra(ds:List D)(st:St)(r:D×St):Prop:=∃ (kb kc kv ko:Nat) (b:Dig) (c:List Ins) (v:Int×List Int) (o:Opn) (lb lc lv lo:Bool),StOK st∧ds=[.ptr kb 0,.ptr kc 0,.ptr kv 0,.ptr ko 0]∧st[kb]?=some ⟨false,1,CY b,lb⟩∧st[kc]?=some ⟨false,1,[Gw c],lc⟩∧st[kv]?=some ⟨false,1,Eh v,lv⟩∧st[ko]?=some ⟨false,1,EJ o,lo⟩∧c.length≤4294967296∧Fe v∧o.top.length≤4294967295∧
 r=(.tup [C0 (E6 c v b o).1,.int .i64 (E6 c v b o).2],st)
theorem Ys9:Hw ra:=by
 rintro ds st r r' ⟨kb,kc,kv,ko,b,c,v,o,lb,lc,lv,lo,_,rfl,N,O,U,V,_,_,_,rfl⟩ ⟨Y,aa,ab,ac,b',c',v',o',ad,ae,af,ah,_,h,E,I,J,M,_,_,_,rfl⟩;simp only[Aa,D.ptr.injEq,and_true]at h;obtain⟨rfl,rfl,rfl,rfl⟩:=h;rw[N]at E;rw[O]at I;rw[U]at J;rw[V]at M;simp only[C3,Obj.mk.injEq,Aa,and_true,true_and,tV,N5]at E I J M;obtain⟨rfl,_⟩:=E;obtain⟨rfl,_⟩:=I;obtain rfl:v=v':=KS.1 (congrArg D.agg J.1);obtain rfl:o=o':=QG.1 (congrArg D.agg M.1);rfl
noncomputable def ij:List D→St→Option (D×St):=E2 ra
theorem ZD(lent:Bool)(d:Dig):Dq (some ⟨false,1,CY d,lent⟩) 32 true 0=some (C0 d):=KT 1 lent _ 32 (DJ d)
theorem F6(lent:Bool)(o:Opn):Dq (some ⟨false,1,EJ o,lent⟩) 38 true 0=some (DN o):=by rw[DN,J7]; exact Q1 ..
theorem MB(lent:Bool)(o:Opn):Dq (some ⟨false,1,EJ o,lent⟩) 1 false 2=some (.int .i64 o.status):=by rw[J7]; exact bU ..
theorem Gn(o:Opn):DY (some ⟨false,1,Ey 0 0 0 0 (.slc 0 [] true) 0 Dn,false⟩) 38 0 (DN o)=some ⟨false,1,EJ o,false⟩:=by rw[DN,J7]; exact Ti ..
set_option maxHeartbeats 8000000 in
set_option maxRecDepth 20000 in
theorem Vn:IContract Tryz.prog GG 54 ij:=by
 refine Xt (T:=tb [(20,Qm),(40,RL),(55,fc)] []) uz (DB (all_cons Yq (all_cons s8 (all_cons Yp2 all_nil))) all_nil) ?_;intro ds st r hr;obtain⟨kb,kc,kv,ko,b,c,v,o,lb,lc,lv,lo,I,rfl,Y,h1,h2,h3,hc,hv,a3,rfl⟩:=Iv hr
 have FV:∀ l:St,(st++l)[kb]?=some ⟨false,1,CY b,lb⟩:=fun l=>by
  rw[Au (Ac.1 Y).1]; exact Y
 have Dp:∀ l:St,(st++l)[kc]?=some ⟨false,1,[.slc (nz 3 (c.map CZ)) (c.map CZ) false],lc⟩:=fun l=>by
  rw[Au (Ac.1 h1).1]; exact h1
 have M:∀ l:St,(st++l)[kv]?=some ⟨false,1,Eh v,lv⟩:=fun l=>by
  rw[Au (Ac.1 h2).1]; exact h2
 have N:∀ l:St,(st++l)[ko]?=some ⟨false,1,EJ o,lo⟩:=fun l=>by
  rw[Au (Ac.1 h3).1]; exact h3
 have O:=Sc;have V:=fI c v o ⟨hc,hv,by omega⟩;have co:=zG c v o ⟨hc,hv⟩;have a4:=yd c v o;have ad:=fI c v (LN c v o) ⟨hc,hv,by omega⟩;unfold jC
 by_cases E:b=EI
 ·rw[show E6 c v b o=(b,0)from if_pos E];simp (disch:=first|omega|decide) only[push_cast,↓reduceIte,Cz,FV,ZD,E,O,EL,EM,O4,L8 I,LZ,PJ]
 by_cases J:F1 c v o=b
 ·by_cases U:o.status=0
  ·rw[show E6 c v b o=(F1 c v (LN c v o),Jg c o) by unfold E6; rw[if_neg E,if_neg (by simp[J]),if_neg (by simp[U])]];simp (disch:=first|omega|decide) only[push_cast,↓reduceIte,Cz,FV,Dp,M,N,ZD,E,J,U,O,V,ad,co,Gz hv,Ez,FE,FA,Jk,F6,MB,Gn,OY,FD,Ag,Ae,Ai,Ab,Ak,Ap,Am,DL,DM,EL,EM,O4,L8 I,LZ,PJ]
  ·rw[show E6 c v b o=(EI,0) by unfold E6; rw[if_neg E,if_neg (by simp[J]),if_pos U]];simp (disch:=first|omega|decide) only[push_cast,↓reduceIte,Cz,FV,Dp,M,N,ZD,E,J,U,O,V,Gz hv,Ez,FA,F6,MB,Am,EL,EM,O4,L8 I,LZ,PJ]
 ·rw[show E6 c v b o=(Dn,390) by unfold E6; rw[if_neg E,if_pos J]];simp (disch:=first|omega|decide) only[push_cast,↓reduceIte,Cz,FV,Dp,M,N,ZD,E,J,O,V,Gz hv,Ez,FA,F6,EL,EM,O4,L8 I,LZ,PJ,Tr]
noncomputable def R6:List D→Option D:=Dd (α:=List Ins×(Int×List Int)×Dig×(Dig×Dig)×Opn) (fun a=>[.slc (nz 3 (a.1.map CZ)) (a.1.map CZ) false,Ev a.2.1,C0 a.2.2.1,HF a.2.2.2.1,DN a.2.2.2.2]) (fun a=>a.1.length≤4294967296∧Fe a.2.1∧a.2.2.2.2.top.length≤4294967295) (fun a=>.tup [D1 (G8 a.2.2.2.1 (E6 a.1 a.2.1 a.2.2.1 a.2.2.2.2)),.int .i64 (E6 a.1 a.2.1 a.2.2.1 a.2.2.2.2).2])
theorem pd(c:List Ins)(v:Int×List Int)(b:Dig)(E:Dig×Dig)(o:Opn)(h:c.length≤4294967296∧Fe v∧o.top.length≤4294967295):R6 [.slc (nz 3 (c.map CZ)) (c.map CZ) false,Ev v,C0 b,HF E,DN o]=some (.tup [D1 (G8 E (E6 c v b o)),.int .i64 (E6 c v b o).2]):=
 DW (fun⟨a0,a1,I,J,M⟩ ⟨b0,b1,N,O,U⟩ h=>by simp only[Aa,D.slc.injEq,MA,and_true,J9,QG,KS,cK]at h; simp[h]) (c,v,b,E,o) h
noncomputable def PT:Tbl:=tb [] [(45,Qy 54 ij)]
set_option maxHeartbeats 8000000 in
set_option maxRecDepth 20000 in
theorem Yk8(c:List Ins)(v:Int×List Int)(b:Dig)(E:Dig×Dig)(o:Opn)(h:c.length≤4294967296∧Fe v∧o.top.length≤4294967295):@wW GG PT XE.code (C4 [.slc (nz 3 (c.map CZ)) (c.map CZ) false,Ev v,C0 b,HF E,DN o]) [] ⟨Dg XE.res (.tup [D1 (G8 E (E6 c v b o)),.int .i64 (E6 c v b o).2])⟩:=by
 obtain⟨hc,hv,N⟩:=h;unfold XE
 have O:(EJ o).all Eo=true:=by
  rw[J7];simp only[Ey,A3,LD];simp[Eo,El,Kq]
 have J:StOK [⟨false,1,[.slc (nz 3 (c.map CZ)) (c.map CZ) false],false⟩,⟨false,1,Eh v,false⟩,⟨false,1,CY b,false⟩,E5 E,⟨false,1,EJ o,false⟩,EU (0,Dn)]:=by
  refine Sl (S:=[]) (fun o I=>by cases I) _ (fun x I=>?_);simp only[Aw,AB,or_false]at I;rcases I with rfl | rfl | rfl | rfl | rfl | rfl
  ·exact lW c
  ·exact Wl v
  ·exact LD b
  ·exact QP E
  ·exact O
  ·exact Sz _
 have M:=Sl J [E5 E,EU (0,Dn)] (fun o I=>by
  simp only[Aw,AB,or_false]at I;rcases I with rfl | rfl
  ·exact QP E
  ·exact Sz _)
 have hj:Qy 54 ij [HF E,.clo 54 [.ptr 2 0,.ptr 0 0,.ptr 1 0,.ptr 4 0]] [⟨false,1,[.slc (nz 3 (c.map CZ)) (c.map CZ) false],false⟩,⟨false,1,Eh v,false⟩,⟨false,1,CY b,false⟩,E5 E,⟨false,1,EJ o,false⟩,EU (0,Dn)]=some (.tup [D1 (G8 E (E6 c v b o)),.int .i64 (E6 c v b o).2],[⟨false,1,[.slc (nz 3 (c.map CZ)) (c.map CZ) false],false⟩,⟨false,1,Eh v,false⟩,⟨false,1,CY b,false⟩,E5 E,⟨false,1,EJ o,false⟩,EU (0,Dn)]):=
  KP (om _ _) ⟨E,[.ptr 2 0,.ptr 0 0,.ptr 1 0,.ptr 4 0],(E6 c v b o).1,(E6 c v b o).2,J,rfl,KP Ys9 ⟨2,0,1,4,b,c,v,o,false,false,false,false,M,rfl,rfl,rfl,rfl,rfl,hc,hv,N,rfl⟩,rfl⟩
 have U:=Ro (0,Dn);have lv:=Rb;simp only[E5,EU,D1]at hj U lv;simp (disch:=first|omega|decide) only[push_cast,↓reduceIte,Cz,CA,PT,Fb,iy,My,gQ,hj,D1,U,lv]
theorem Yqg:Contract Tryz.prog GG 16 R6:=
 D9 (T:=PT) tZ (DB all_nil (all_cons (lX _ (by decide) _ Vn) all_nil)) (fun a h=>Yk8 a.1 a.2.1 a.2.2.1 a.2.2.2.1 a.2.2.2.2 h)
noncomputable def Ydz:List D→Option D:=Dd (α:=Int×Dig×List Dig) (fun a=>[.int .i64 a.1,C0 a.2.1,.slc (nz 32 (a.2.2.map C0)) (a.2.2.map C0) false]) (fun a=>0≤a.1∧a.1<4611686018427387904∧a.2.2.length≤4294967296) (fun a=>C0 (MQ a.1.toNat a.2.1 a.2.2))
theorem Yre(i:Int)(x:Dig)(p:List Dig)(h:0≤i∧i<4611686018427387904∧p.length≤4294967296):Ydz [.int .i64 i,C0 x,.slc (nz 32 (p.map C0)) (p.map C0) false]=some (C0 (MQ i.toNat x p)):=
 DW (fun⟨a0,a1,E⟩ ⟨b0,b1,I⟩ h=>by simp only[Aa,D.slc.injEq,D.int.injEq,dU,MA,true_and,and_true]at h; simp[h]) (i,x,p) h
noncomputable def Py:List D→Option D:=Dd (α:=(Int×Dig)×Int×Dig×List Dig) (fun a=>[.agg (.int .i64 (CU a.1)::CY (CV a.1)),.int .i64 a.2.1,C0 a.2.2.1,.slc (nz 32 (a.2.2.2.map C0)) (a.2.2.2.map C0) false]) (fun a=>-9223372036854775808≤a.2.1∧a.2.1<9223372036854775808) (fun a=>.bool (Hc a.1 a.2.1 a.2.2.1 a.2.2.2))
theorem XP(c:Int×Dig)(i:Int)(x:Dig)(p:List Dig)(h:-9223372036854775808≤i∧i<9223372036854775808):Py [.agg (.int .i64 (CU c)::CY (CV c)),.int .i64 i,C0 x,.slc (nz 32 (p.map C0)) (p.map C0) false]=some (.bool (Hc c i x p)):=
 DW (fun⟨a0,a1,E,I⟩ ⟨b0,b1,J,M⟩ h=>by simp only[Aa,D.slc.injEq,D.int.injEq,D.agg.injEq,dU,MA,N5,true_and,and_true]at h; simp[h,Cp]) (c,i,x,p) h
set_option maxHeartbeats 4000000 in
set_option maxRecDepth 20000 in
theorem yK3(c:Int×Dig)(i:Int)(x:Dig)(p:List Dig)(h:-9223372036854775808≤i∧i<9223372036854775808):@wW GG (tb [(25,QM),(95,Sx)] []) X9.code (C4 [.agg (.int .i64 (CU c)::CY (CV c)),.int .i64 i,C0 x,.slc (nz 32 (p.map C0)) (p.map C0) false]) [] ⟨Dg X9.res (.bool (Hc c i x p))⟩:=by
 obtain⟨n,r⟩:=c;unfold X9;simp (disch:=omega) only[push_cast,↓reduceIte,Cz,Oi];refine E8 (fun J=>?_) (fun J=>?_)
 ·have e:Hc (n,r) i x p=false:=by unfold Hc; simp; omega
  simp (disch:=omega) only[push_cast,↓reduceIte,Cz,J,e]
 ·have U:0≤n∧n≤65536:=by
   by_cases hb:n<0∨65536<n
   ·rw[SB hb]at J; omega
   ·omega
  obtain⟨e1,Y,e3⟩:=fA U.1 U.2;simp (disch:=omega) only[push_cast,↓reduceIte,Cz,J];refine E8 (fun M=>?_) (fun M=>?_)
  ·have e:Hc (n,r) i x p=false:=by unfold Hc; simp; omega
   simp (disch:=omega) only[push_cast,↓reduceIte,Cz,M,e]
  ·simp (disch:=omega) only[push_cast,↓reduceIte,Cz,M,Yl8];refine E8 (fun N=>?_) (fun N=>?_)
   ·have e:Hc (n,r) i x p=false:=by unfold Hc; simp; omega
    simp (disch:=omega) only[push_cast,↓reduceIte,Cz,N,e]
   ·simp (disch:=omega) only[push_cast,↓reduceIte,Cz,N];refine E8 (fun I=>?_) (fun I=>?_)
    ·have e:Hc (n,r) i x p=decide (MQ i.toNat x p=r):=by
      unfold Hc;simp only[show 0≤Ek n from Y,show 0≤i by omega,show i<2 ^ (Ek n).toNat by omega,I,true_and]
     rw[e];simp (disch:=omega) only[push_cast,↓reduceIte,Cz,I];have hp:p.length≤16:=by omega
     have ab:(2:Int) ^ (Ek n).toNat≤2 ^ 16:=eJ (by omega)
     refine GF (fun q:Nat×Dig=>[(1,.int .i64 i),(3,.slc (nz 32 (p.map C0)) (p.map C0) false),(4,.ptr 0 0),(6,.ptr 1 0),(33,.int .i64 (p.length:Int)),(34,.int .i64 (q.1:Int))])
      (fun q=>[⟨false,1,.int .i64 n::CY r,false⟩,⟨false,1,CY q.2,false⟩])
      (fun q=>q.1≤p.length∧MQ i.toNat x p=MQ (i.toNat / 2 ^ q.1) q.2 (p.drop q.1)) (fun q=>p.length - q.1) (0,x) (by simp only[push_cast,↓reduceIte,Cz,CG,CE,CA,I] <;> rfl) ⟨Bg _,by simp⟩ ?_
     rintro⟨j,y⟩ ⟨O,E⟩;simp only at O E;unfold j8;simp only[push_cast,↓reduceIte,Cz];refine E8 (fun h7=>?_) (fun h7=>?_)
     ·rw[nU p j (by omega),MQ,Nat.div_div_eq_div_mul,← Nat.pow_succ]at E;have h8:=Ye0 j;have h9:0≤i / 2 ^ j:=Ck (by omega) (by omega);have ac:i / 2 ^ j≤i:=Cf _ (by omega)
      have ad:(i / 2 ^ j) % 2=((i.toNat / 2 ^ j % 2:Nat):Int):=by
       have:i=(i.toNat:Int):=by omega
       rw[this]; simp
      simp (disch:=omega) only[push_cast,↓reduceIte,Cz,ic,Yqz];refine E8 (fun V=>?_) (fun V=>?_)
      ·rw[if_pos (show i.toNat / 2 ^ j % 2=0 by omega)]at E;simp (disch:=omega) only[push_cast,↓reduceIte,Cz,CG,CE,CA,Lt,LF,DP];refine Fi (j+1,Ij y (p.getD j default)) ⟨by show j+1≤_; omega,E⟩ (by show p.length - (j+1)<p.length - j; omega) ?_;rfl
      ·rw[if_neg (show ¬ i.toNat / 2 ^ j % 2=0 by omega)]at E;simp (disch:=omega) only[push_cast,↓reduceIte,Cz,CG,CE,CA,Lt,LF,DP];refine Fi (j+1,Ij (p.getD j default) y) ⟨by show j+1≤_; omega,E⟩ (by show p.length - (j+1)<p.length - j; omega) ?_;rfl
     ·rw[List.drop_of_length_le (by omega)]at E;have E:MQ i.toNat x p=y:=E;simp (disch:=omega) only[push_cast,↓reduceIte,Cz,CA,E]
    ·have e:Hc (n,r) i x p=false:=by
      unfold Hc;simp;intro _ _ _ O;exact absurd O I
     simp (disch:=omega) only[push_cast,↓reduceIte,I,e]
theorem yNp:Contract Tryz.prog GG 124 Py:=
 D9 uO (DB (all_cons VQ (all_cons fv all_nil)) all_nil) (fun a h=>yK3 a.1 a.2.1 a.2.2.1 a.2.2.2 h)
end Go.Proofs.YtijnglngaogdjaaGreatDoor.PI
