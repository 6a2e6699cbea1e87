/-
  court: the law of a case between the derivation and other leaves.
  Conditions: none; these are lemmas.
-/
import Derived.Test.YtijnglngaogdjaaGreatDoorCtW
import Derived.Test.YtijnglngaogdjaaGreatDoorCtE
open Int renaming reduceAdd→CZ,reduceLT→CT,reduceNatCast'→CL
open List renaming replicate→CQ
open Nat renaming reduceAdd→CJ,reduceEqDiff→CI,reduceLT→CP,reduceLeDiff→CM,reduceMul→CN
namespace Go.Proofs.YtijnglngaogdjaaGreatDoor.PI
open Go
set_option linter.unusedSimpArgs false
set_option linter.unusedVariables false
def GM(n:Int)(c:Int×Dig):Mv:={GH with kd:=1,pt:=1,am:=n,cm:=c}
def kX(n:Int)(c:Int×Dig)(now:Int):Prop:=EK n∧0≤now∧now≤1073741824∧0≤c.1∧c.1≤65536
section
variable {n ct:Int} {c:Int×Dig} {now:Int} (h:kX n c now) (hm:now≤1073738824)
end
theorem zv:DN [(.int .i64 0),(.int .i64 0),(.int .i64 0),(.int .i64 0),(.int .i64 0)] [(0,1,.int .i64 1)]=some (Ht ⟨1,0,0,0,0⟩):=rfl
variable {s:Sta}{v:Int×List Int}{c:List Ins}
theorem nv{b:Dig}(n:Int)(hl:s.stack.length≤64)(hb:b=DV c v s)(E:¬ b=Dp) :
  FH c v b (FA s n)=if s.status≠0 then(Dp,0)else(Gs c v (LO c v (FA s n)),Lq c (FA s n)):=by
 unfold FH;rw[if_neg E,if_neg (by rw[iX (RG s n) hl,hb]; simp)];rfl
theorem Yui{b:Dig}(n:Int)(hl:s.stack.length≤64)(hb:b=DV c v s)(E:¬ b=Dp)(I:s.status=0)(J:Hj c s 0=0)(hk:¬ Qp c (FA s n)) :
  FH c v b (FA s n)=(DV c v (JI c v s),0):=by
 obtain⟨M,U⟩:=Yuj (v:=v) (RG s n) hl J hk;rw[nv n hl hb E,if_neg (by simp[I]),M,U]
variable {n:Int}
theorem YDh(h:Qp c (FA s n)):max n 0<Gk (Hn c s).op:=by
 obtain⟨_,I,E⟩:=h;rw[mU c (RG s n)]at E
 have J:((FA s n).top.length:Int)=s.stack.length - LM s n:=by
  have:=jz s n;simp only[FA,AL];omega
 have M:(FA s n).depth=(LM s n:Int):=rfl;rw[J]at E;rw[M]at I;unfold LM at I E;omega
theorem RunOK.get:∀ {l:List Sta} {i:Nat} {s:Sta},RunOK c v l→l[i]?=some s→(i+1<l.length→s.status=0∧Hj c s 0=0∧l[i+1]?=some (JI c v s))∧(i+1=l.length→s.status≠0)
 |[],i,s,h,_=>h.elim
 |[x],i,s,h,hi=>by
  cases i with
  |zero=>
   obtain rfl:=AB hi;exact⟨fun q=>by simp at q,fun _=>h⟩
  |succ i=>simp at hi
 |x::y::l,i,s,h,hi=>by
  obtain⟨E,I,J,M⟩:=h
  cases i with
  |zero=>
   obtain rfl:=AB hi;exact⟨fun _=>⟨E,I,by rw[J]; rfl⟩,fun q=>by simp at q⟩
  |succ i=>
   have:=RunOK.get M (i:=i) (s:=s) (by simpa using hi);refine⟨fun q=>?_,fun q=>this.2 (by simpa using q)⟩;obtain⟨a,b,d⟩:=this.1 (by simpa using q);exact⟨a,b,by simpa using d⟩
theorem YCp(op:Int):Gk op≤2:=by
 unfold Gk
 split
 ·decide
 ·split <;> decide
theorem kK(hv:(Fk c).2=0):∀ x∈HU c v,x.stack.length≤64:=by
 obtain⟨D,l,E,I,_,_,J⟩:=P1 (v:=v) hv;rw[I];intro x M;rcases J x M with h | h
 ·exact h.len E
 ·exact h.l
theorem So{y c M:Int}(hc:0<c)(E:y<M*c)(I:-y<M*c):-M<y.tdiv c∧y.tdiv c<M:=by
 rcases Ch y 0 with h | h
 ·have e:y.tdiv c=-((-y) / c):=by
   rw[← Bq (by omega),Int.neg_tdiv,Int.neg_neg]
  have J:=Int.ediv_lt_of_lt_mul hc I;have U:=BB (show 0≤-y by omega) (show 0≤c by omega);omega
 ·have e:y.tdiv c=y / c:=Bq h;have J:=Int.ediv_lt_of_lt_mul hc E;have U:=BB h (show 0≤c by omega);omega
variable {a b:Int}
theorem XF(E:EK a)(hb:1≤b):EK (NL a b):=by
 unfold EK at E
 have key:-9007199254740993<NL a b∧NL a b<9007199254740993:=by
  unfold NL
  split
  ·rename_i h
   have I:a<0:=by
    rcases Ch a 0 with q | q
    ·exact q
    ·have:=Int.tmod_nonneg b q; omega
   have J:b≠1:=by rintro rfl; simp at h
   exact So (by omega) (by omega) (by omega)
  ·exact So (by omega) (by omega) (by omega)
 unfold EK; omega
theorem Yxp(E:EK a)(hb:1≤b):EK (NL (2*a+b) (2*b)):=by
 unfold EK at E
 have key:-9007199254740993<NL (2*a+b) (2*b)∧NL (2*a+b) (2*b)<9007199254740993:=by
  unfold NL
  split
  ·exact So (by omega) (by omega) (by omega)
  ·exact So (by omega) (by omega) (by omega)
 unfold EK; omega
theorem VT(E:EK a)(hb:1≤b):EK (TD a b):=by
 unfold EK at E
 have key:-9007199254740993<TD a b∧TD a b<9007199254740993:=by
  unfold TD
  split
  ·rename_i h
   have I:0<a:=by
    rcases Ch 0 a with q | q
    ·exact q
    ·have:=Int.tmod_nonneg b (show 0≤-a by omega);rw[Int.neg_tmod]at this; omega
   have J:b≠1:=by rintro rfl; simp at h
   exact So (by omega) (by omega) (by omega)
  ·exact So (by omega) (by omega) (by omega)
 unfold EK; omega
theorem m4(c:Int):EK (KR c).1∧0≤(KR c).2:=by
 unfold KR
 split
 ·rename_i h;exact⟨PQ.1 h,CB _⟩
 ·exact⟨by unfold EK; simp,by simp⟩
theorem Nd:EK 0:=by unfold EK; omega
theorem zV:EK 1:=by unfold EK; omega
variable {m:Int}
theorem mF(E:EK a)(hb:EK b):EK (Ew a b m).1∧0≤(Ew a b m).2:=by
 unfold Ew
 split
 ·split
  ·exact⟨Nd,by simp⟩
  ·rename_i h;refine⟨?_,by simp⟩;dsimp only
   split
   ·exact Yxp E (by omega)
   split
   ·exact XF E (by omega)
   ·exact VT E (by omega)
 ·exact⟨Nd,by simp⟩
theorem w8{op:Int}(E:EK a)(hb:EK b):EK (Ec op a b).1∧0≤(Ec op a b).2:=by
 unfold Ec
 split
 ·unfold Ib
  split
  ·exact m4 _
  ·exact⟨Nd,by simp⟩
 split
 ·unfold H3
  split
  ·exact m4 _
  ·exact⟨Nd,by simp⟩
 split
 ·unfold H5
  split
  ·exact m4 _
  ·exact⟨Nd,by simp⟩
 split; · exact⟨by unfold EK at *; dsimp only; omega,by simp⟩
 split; · exact⟨by unfold EK at *; dsimp only; omega,by simp⟩
 split; · exact mF E hb
 split; · exact mF E hb
 split; · exact mF E hb
 split
 ·refine⟨?_,by simp⟩;dsimp only
  split
  ·exact zV
  ·exact Nd
 ·exact⟨Nd,by simp⟩
structure AmtS (s:Sta):Prop where
 a:∀ n∈s.stack,EK n
 p:s.status=1→0<s.stack.length
theorem w6{l:List Int}{i:Nat}(h:∀ n∈l,EK n):EK (Ee l i):=by
 unfold Ee;rw[Ai]
 cases e:l[i]? with
 |none=>exact Nd
 |some n=>exact h n (An e)
theorem Yvj{x:Ins}(I:GI x=true)(E:∀ n∈s.stack,EK n)(J:s.status=0)(hn:Gk x.op≤s.stack.length):AmtS (F4 s (DQ v b s x)):=by
 have t:∀ i,EK (Dd s i):=fun i=>w6 E;have er:∀ e:Int,0≤e→AmtS (F4 s (.err e)):=fun e he=>⟨E,fun q=>by have q:10+e=1:=q; omega⟩
 have pp:∀ (k:Nat) (p:Option Int) (pc:Option Int),(∀ n,p=some n→EK n)→AmtS (F4 s (.pop k p pc)):=fun k p pc M=>by
  refine⟨fun n hn=>?_,fun q=>by have q:s.status=1:=q; omega⟩;have hn:n∈s.stack.take (s.stack.length - k)++p.toList:=hn;grind
 unfold DQ
 split
 ·split
  ·grind
  ·refine pp _ _ _ fun n e=>?_;cases e;have:=p8 I;unfold EK; omega
 split
 ·split
  ·grind
  split
  ·grind
  split
  ·grind
  ·rename_i h;refine pp _ _ _ fun n e=>?_;cases e;unfold EK; omega
 split
 ·refine pp _ _ _ fun n e=>?_;simp only[AN]at e;subst e
  split
  ·exact zV
  ·exact Nd
 split
 ·grind
 split
 ·exact⟨E,fun q=>by have q:s.status=1:=q; omega⟩
 split
 ·rename_i h;refine⟨E,fun _=>?_⟩;have:Gk x.op=1:=by rw[h]; rfl
  show 0<s.stack.length
  omega
 split
 ·grind
 split
 ·refine pp _ _ _ fun n e=>?_;simp only[AN]at e;subst e;exact(w8 (t 1) (t 0)).1
 ·exact er _ (w8 (t 1) (t 0)).2
theorem Yzt{x:Ins}(I:GI x=true)(E:∀ n∈s.stack,EK n)(J:s.status=0):AmtS (E7 v b s x):=by
 unfold E7
 split
 ·exact⟨E,fun q=>by have q:(220:Int)=1:=q; omega⟩
 ·unfold Gi
  split
  ·exact⟨E,fun q=>by have q:(10:Int)+200=1:=q; omega⟩
  ·rename_i h;exact Yvj (s:=Dk s) I E J (by omega)
theorem rG{c:List Ins}{v:Int×List Int}:∀ (f:Nat) (s:Sta),AmtS s→∀ x∈JB c v f s,AmtS x
 |0,s,h,x,E=>by
  simp only[JB,AM]at E;grind
 |f+1,s,h,x,E=>by
  simp only[JB,Aw]at E;rcases E with rfl | E
  ·exact h
  ·split at E
   ·rename_i J;refine rG f (JI c v s) ?_ x E;unfold JI
    split
    ·rename_i I
     have hv:(Fk c).2=0:=by
      unfold Hj at I;omega
     have hb:¬ HO c s 0:=by
      intro hb;unfold Hj at I;grind
     unfold HO at hb;exact Yzt (jQ (Nh hv).2.2.1 (by omega)) h.a J
    ·exact⟨(fun n hn=>by cases hn),fun q=>by have q:(0:Int)=1:=q; omega⟩
   ·cases E
theorem uf:∀ x∈HU c v,AmtS x:=by
 refine rG _ _ ?_;unfold Gl
 split
 ·exact⟨(fun n hn=>by cases hn),fun q=>by have q:(0:Int)=1:=q; omega⟩
 ·exact⟨(fun n hn=>by cases hn),fun q=>by have q:(0:Int)=1:=q; omega⟩
theorem Yux(h:AmtS s):EK (D4 s).1:=by
 unfold D4
 split
 ·exact w6 h.a
 split
 ·exact Nd
 ·exact Nd
variable {l:List Sta}
theorem Yfm(h:l≠[]):IH l∈l:=by
 unfold IH;rw[Cl h];grind
theorem Yfn(h:l≠[]):l[l.length - 1]?=some (IH l):=by
 unfold IH;rw[Cl h,List.getLast_eq_getElem,Am];rfl
theorem Yn2(hn:1≤n)(E:AmtS s):(s.status=1→0<(FA s n).top.length)∧(s.status=1→X5 (FA s n).top=(D4 s).1)∧(s.status≠1→(D4 s).1=0):=by
 have hk:s.status=1→LM s n<s.stack.length:=by
  intro h;have:=E.p h;unfold LM;omega
 refine⟨fun h=>?_,fun h=>?_,fun h=>?_⟩
 ·have:=hk h;simp only[FA,AL]; omega
 ·have J:=hk h;have I:=E.p h;unfold D4;rw[if_pos ⟨h,I⟩];unfold Dd Iv Ee X5;simp only[FA,AL,Ai,BN]
  congr 2
  omega
 ·unfold D4;grind
variable {k:Nat}
theorem Yb3(a b:List Dig){h:Int}(hk:(k:Int)≤h)(I:h≤16):HH (D8 a b h k)=true:=by
 have E:=Qg a b h k hk;exact YZ a b (by omega) (by omega) I E.1 E.2
theorem vB(a b:List Dig)(E:(a.length:Int)≤65536)(hb:(b.length:Int)≤65536):0≤J8 a b∧J8 a b≤16:=by
 have I:=Mq (n:=max (a.length:Int) (b.length:Int)) (by omega) (by omega);unfold J8;omega
theorem fN(a b:List Dig)(J:(a.length:Int)≤65536)(hb:(b.length:Int)≤65536) :
  KA (Er a) (Er b)=(if D3 a (J8 a b).toNat 0=D3 b (J8 a b).toNat 0 then Gd else Fl a b (J8 a b) (J8 a b) 0)∧GY (Er a) (Er b)=(if D3 a (J8 a b).toNat 0=D3 b (J8 a b).toNat 0 then 380 else 0):=by
 have U:=vB a b J hb;have d1:=Mq (n:=(a.length:Int)) (by omega) (by omega);have d2:=Mq (n:=(b.length:Int)) (by omega) (by omega);have V:J8 a b=max (DL a.length) (DL b.length):=sN (by omega) (by omega) (by omega) (by omega);have r1:(Er a).1=(a.length:Int):=by rw[Rd a (by omega)]
 have M:(Er b).1=(b.length:Int):=by rw[Rd b (by omega)]
 have p1:=tH a (by omega) (J8 a b).toNat (by omega);have Y:=tH b (by omega) (J8 a b).toNat (by omega)
 have e:MH (Er a) (Er b)=Fl a b (J8 a b) (J8 a b) 0:=by
  unfold MH Fl LG;grind
 unfold KA GY;have E:¬ DL (a.length:Int)<0:=by omega
 have I:¬ DL (b.length:Int)<0:=by omega
 rw[e,r1,M,if_neg E,if_neg I,if_neg E,if_neg I];exact⟨rfl,rfl⟩
variable {N:Nat}
theorem Yhn(a b:List Dig)(J:N≤16):SE [D1 (D8 a b N N)]=some (.tup [.int .i64 (idxS a b N N),.agg (E4 (ES a (idxS a b N N) Dp) (ES b (idxS a b N N) Dp)),.bool true]):=by
 have:=SW (D8 a b N N)
 have e:KC (D8 a b N N)=true:=by
  unfold KC;rw[Yb3 a b (by omega) (by omega),YBm,Int.sub_self];rfl
 have E:(D8 a b N N).n0=ES a (idxS a b N N) Dp:=by
  show D3 a ((N:Int) - (N:Int)).toNat (idxS a b N N)=_
  rw[Int.sub_self]; rfl
 have I:(D8 a b N N).n1=ES b (idxS a b N N) Dp:=by
  show D3 b ((N:Int) - (N:Int)).toNat (idxS a b N N)=_
  rw[Int.sub_self]; rfl
 simp only[Kv,HR,HS,e,if_true,E,I]at this;exact this
theorem yYp{t:List Sta}(M:RunOK c v t)(hl:∀ x∈t,x.stack.length≤64){i:Nat}(hi:t[i]?=some s)(I:¬ DV c v s=Dp)(hn:2≤n) :
  FH c v (DV c v s) (FA s n)=(((t.map (DV c v))[i+1]?).getD Dp,0):=by
 have J:=hl s (An hi);obtain⟨g1,g2⟩:=M.get hi;have aa:i<t.length:=(Ac.1 hi).1;rw[AF]
 by_cases q:i+1<t.length
 ·obtain⟨E,U,V⟩:=g1 q;rw[Yui n J rfl I E U (fun Y=>by have:=YDh Y; have:=YCp (Hn c s).op; omega),V];rfl
 ·have E:=g2 (by omega);rw[nv n J rfl I,if_pos E,Be (by omega)];rfl
def GS(x:Cse)(A B:List Dig)(h:Int)(k:Nat):Cse:={x with b:=D8 A B h k}
theorem ja(A B:List Dig)(hk:k≤N)(I:N≤16):KC (D8 A B N k)=decide (k=N):=by
 have hv:HH (D8 A B N k)=true:=by
  have E:=Qg A B N k (by omega);exact YZ A B (by omega) (by omega) (by omega) E.1 (by rw[show((N:Int) - ((N:Int) - (k:Int))).toNat=((N:Int) - ((N:Int) - k)).toNat from rfl]; exact E.2)
 unfold KC;rw[hv,Bu,YBm];grind
theorem zo(A B:List Dig)(E:N≤16):Kv (D8 A B N N)=idxS A B N N∧HR (D8 A B N N)=ES A (idxS A B N N) Dp∧HS (D8 A B N N)=ES B (idxS A B N N) Dp:=by
 have J:=ja A B (Ay N) E;simp only[decide_true]at J;have I:=SW (D8 A B N N);rw[Yhn A B E]at I;simp only[AN,D.tup.injEq,Aa,D.int.injEq,D.agg.injEq,YEx,true_and,and_true]at I;grind
theorem zy{A B:List Dig}{N:Nat}(E:D3 A N 0≠D3 B N 0):∀ k:Nat,k≤N→D3 A (N - k) (idxS A B N k)≠D3 B (N - k) (idxS A B N k)
 |0,_=>by simpa[idxS]using E
 |k+1,hk=>by
  have J:=zy E k (by omega);have I:=Qg A B N k (by omega);have e:N - k=(N - (k+1))+1:=by omega
  rw[e,Uz _ _ _ I.1,Uz _ _ _ I.1]at J;have M:((N:Int) - (k:Int) - 1).toNat=N - (k+1):=by omega
  show D3 A (N - (k+1)) (No A B ((N:Int) - k) (idxS A B N k))≠D3 B (N - (k+1)) (No A B ((N:Int) - k) (idxS A B N k))
  unfold No;grind
variable {now:Int}{A B:List Dig}
theorem Ypj{x:Cse}(hk:k<N)(V:N≤16)(I:(A.length:Int)≤65536)(J:x.ph=2)(m:Mv)(hm:m.pt=0∧m.lf=EY A (D8 A B N k)∧m.rt=EX A (D8 A B N k)) :
  Oe c v (GS x A B N k) m now=({x with b:=EI (D8 A B N k) 0 (EY A (D8 A B N k)) (EX A (D8 A B N k))},0):=by
 obtain⟨Y,h2,h3⟩:=hm;have E:=Qg A B N k (by omega);obtain⟨a1,M,U⟩:=UY A B A (h:=N) (lv:=(N:Int) - k) (i:=idxS A B N k) I (by omega) (by omega) (by omega) E.1 E.2;obtain⟨⟨t1,t2⟩,_⟩:=rZ A B (h:=N) (lv:=(N:Int) - k) (i:=idxS A B N k) (p:=0) (.inl rfl) (by omega) (by omega) (by omega) E.1 E.2;simp only[if_true]at t1 t2;have e:D8 A B N k=Fl A B N ((N:Int) - k) (idxS A B N k):=rfl;rw[← e]at a1 M U t1 t2;unfold Oe GS;rw[if_pos (show({x with b:=D8 A B N k}:Cse).ph=2 from J)];dsimp only;have q:∀ l r:Dig,(EI (D8 A B N k) 0 l r).r=(D8 A B N k).r:=fun _ _=>rfl;grind
theorem Ypi{x:Cse}{now:Int}(hk:k<N)(af:N≤16)(Y:(A.length:Int)≤65536)(hB:(B.length:Int)≤65536)(hx:x.ph=2)(m:Mv)(hm:m.pt=1∧m.lf=EY B (D8 A B N k)∧m.rt=EX B (D8 A B N k)) :
  Oe c v {x with b:=EI (D8 A B N k) 0 (EY A (D8 A B N k)) (EX A (D8 A B N k))} m now=Io c v {GS x A B N (k+1)with dl:=now+1440} now:=by
 obtain⟨h1,h2,h3⟩:=hm;have E:=Qg A B N k (by omega);obtain⟨a1,I,J⟩:=UY A B A (h:=N) (lv:=(N:Int) - k) (i:=idxS A B N k) Y (by omega) (by omega) (by omega) E.1 E.2;obtain⟨b1,M,U⟩:=UY A B B (h:=N) (lv:=(N:Int) - k) (i:=idxS A B N k) hB (by omega) (by omega) (by omega) E.1 E.2;obtain⟨_,t3,t4⟩:=rZ A B (h:=N) (lv:=(N:Int) - k) (i:=idxS A B N k) (p:=0) (.inl rfl) (by omega) (by omega) (by omega) E.1 E.2;simp only[if_true,Int.sub_zero]at t3 t4;rw[Ylj]at t3;have e:D8 A B N k=Fl A B N ((N:Int) - k) (idxS A B N k):=rfl;rw[← e]at a1 I J b1 M U t3 t4
 have V:¬ (D8 A B N (k+1)).r=(EI (D8 A B N k) 0 (D3 A ((N:Int) - k - 1).toNat (2*idxS A B N k)) (D3 A ((N:Int) - k - 1).toNat (2*idxS A B N k+1))).r:=by
  have q1:(D8 A B N (k+1)).r=N - ((N:Int) - ((k+1:Nat):Int)):=rfl;have q2:(EI (D8 A B N k) 0 (D3 A ((N:Int) - k - 1).toNat (2*idxS A B N k)) (D3 A ((N:Int) - k - 1).toNat (2*idxS A B N k+1))).r=N - ((N:Int) - (k:Int)):=rfl;omega
 unfold Oe;rw[if_pos (show({x with b:=EI (D8 A B N k) 0 (EY A (D8 A B N k)) (EX A (D8 A B N k))}:Cse).ph=2 from hx)];dsimp only;rw[h1,h2,h3,I,J,M,U,t3,t4,if_pos rfl,if_neg V];rfl
theorem wZ(E:Bool)(a b:Dig):G7 FK E (C9 a) (C9 b)=some (.bool (decide (a=b) != E)):=yG E a b
theorem Yec(o:Opn):(Ff o).all D.isCell=true:=by
 rw[KD,E1];simp[D.isCell,I0,Ey]
section
variable (x:Mv) (j q:D) (r:List (Nat×Nat×D))
end
def LJ(n:Int)(own:Int×Dig):Cse:=⟨⟨1,0,0,0,0⟩,0,1,1,1450,n,0,own,(0,Dt),Gd,-1,0,-1,[]⟩
theorem YCi{own:Int×Dig}(h:0≤own.1∧own.1≤65536):(EK n→Gc 0 1 n own 10=0∧Lc ⟨1,0,0,0,0⟩ 0 1 n own 10=LJ n own)∧(¬ EK n→Gc 0 1 n own 10=1):=by
 refine⟨fun ha=>Ym6 ⟨by omega,by omega,by omega,by omega,by omega,ha.1,ha.2,by omega,by omega⟩ h,fun ha=>(Yed (k:=bP) ?_).1⟩;unfold EK at ha; omega
def R0(seed:UInt8)(i:Nat):Dig:=⟨seed::UInt8.ofNat i::7::CQ 29 0,by simp⟩
def NN(L:List Dig)(k:Int)(seed:UInt8)(i:Nat):Dig:=if i<L.length∧(i:Int)<k then L.getD i default else R0 seed i
def HN(L:List Dig)(k:Int)(seed:UInt8)(n:Nat):List Dig:=(List.range n).map (NN L k seed)
theorem Yh4(L:List Dig)(k:Int)(E:UInt8)(n:Nat):HN L k E (n+1)=HN L k E n++[NN L k E n]:=by
 simp[HN,List.range_succ]
theorem pR(L:List Dig)(k:Int)(E:UInt8)(n:Nat):(HN L k E n).length=n:=by simp[HN]
theorem qY(E b:UInt8):DN (C8 Dt) [(0,1,Dn E),(1,1,Dn b),(2,1,.int .u8 7)]=some (C8 ⟨E::b::7::CQ 29 0,by simp⟩):=by
 have I:C8 Dt=(CQ 32 (0:UInt8)).map Dn:=rfl;have J:D.int .u8 7=Dn 7:=rfl;rw[I,J,MT Dn (fun _=>rfl) _ _ _ _ (by simp),MT Dn (fun _=>rfl) _ _ _ _ (by simp),MT Dn (fun _=>rfl) _ _ _ _ (by simp),N4];rfl
noncomputable def YX:List D→Option D:=Dl (α:=List Dig×Int×UInt8×Int) (fun a=>[.slc (nz 32 (a.1.map C9)) (a.1.map C9) false,.int .i64 a.2.1,Dn a.2.2.1,.int .i64 a.2.2.2]) (fun a=>0≤a.2.2.2∧a.2.2.2≤4294967000∧a.1.length≤4294967296) (fun a=>.slc (nz 32 ((HN a.1 a.2.1 a.2.2.1 a.2.2.2.toNat).map C9)) ((HN a.1 a.2.1 a.2.2.1 a.2.2.2.toNat).map C9) false)
theorem yPh(l:List Dig)(k:Int)(s:UInt8)(n:Int)(h:0≤n∧n≤4294967000∧l.length≤4294967296):YX [.slc (nz 32 (l.map C9)) (l.map C9) false,.int .i64 k,Dn s,.int .i64 n]=some (.slc (nz 32 ((HN l k s n.toNat).map C9)) ((HN l k s n.toNat).map C9) false):=
 D7 (fun⟨a0,a1,E,I⟩ ⟨b0,b1,J,M⟩ h=>by simp only[Aa,D.slc.injEq,D.int.injEq,KM,pK,true_and,and_true]at h; simp[h]) (l,k,s,n) h
set_option maxHeartbeats 4000000 in
set_option maxRecDepth 20000 in
theorem Ya7(l:List Dig)(k:Int)(s:UInt8)(n:Int)(h:0≤n∧n≤4294967000∧l.length≤4294967296):@wW GG (tb [] []) aS.code (Dc [.slc (nz 32 (l.map C9)) (l.map C9) false,.int .i64 k,Dn s,.int .i64 n]) [] ⟨Dq aS.res (.slc (nz 32 ((HN l k s n.toNat).map C9)) ((HN l k s n.toNat).map C9) false)⟩:=by
 obtain⟨I,J,M⟩:=h;obtain⟨m,rfl⟩:=A6 I;unfold aS;simp (disch:=first|omega|decide) only[push_cast,↓reduceIte,Yer 32 0]
 refine F0 (fun i:Nat=>[(0,.slc (nz 32 (l.map C9)) (l.map C9) false),(1,.int .i64 k),(2,Dn s),(3,.int .i64 (m:Int)),(9,D6 32 0 ((HN l k s i).map C9)),(10,.int .i64 (i:Int))])
  (fun i=>Dz 32 ((HN l k s i).map C9)) (fun i=>i≤m) (fun i=>m - i) 0 (by simp only[push_cast,↓reduceIte,CI,↓CL] <;> rfl) (by omega) ?_
 intro i hi;unfold pg;simp (disch:=first|omega|decide) only[push_cast,↓reduceIte,CI];refine E3 (fun g1=>?_) (fun g1=>?_)
 ·have hl:=pR l k s i;have e:=Yh4 l k s i
  by_cases g2:(i:Int)<(l.length:Int)
  ·by_cases E:(i:Int)<k
   ·rw[show NN l k s i=l.getD i default from if_pos ⟨by omega,E⟩]at e;simp (disch:=first|omega|decide) only[push_cast,↓reduceIte,CI,g2,E,DM,KH];refine E5 (i+1) (by show i+1≤m; omega) (by show m - (i+1)<m - i; omega) ?_;rw[e];simp only[push_cast,Bi] <;> rfl
   ·rw[show NN l k s i=R0 s i from if_neg (fun q=>E q.2)]at e;simp (disch:=first|omega|decide) only[push_cast,↓reduceIte,CI,g2,E,DM,MM,qY];refine E5 (i+1) (by show i+1≤m; omega) (by show m - (i+1)<m - i; omega) ?_;rw[e];simp only[push_cast,Bi] <;> rfl
  ·rw[show NN l k s i=R0 s i from if_neg (fun q=>by omega)]at e;simp (disch:=first|omega|decide) only[push_cast,↓reduceIte,CI,g2,DM,MM,qY];refine E5 (i+1) (by show i+1≤m; omega) (by show m - (i+1)<m - i; omega) ?_;rw[e];simp only[push_cast,Bi] <;> rfl
 ·obtain rfl:i=m:=by omega
  simp (disch:=first|omega|decide) only[push_cast,↓reduceIte,CI]
theorem Yi7:Contract Tryz.prog GG 21 YX:=
 Eg yn5 (DJ all_nil all_nil) (fun a h=>Ya7 a.1 a.2.1 a.2.2.1 a.2.2.2 h)
theorem YBe(x:Mv)(sz:Nat)(j q:D)(o:Opn):DT (some ⟨false,sz,EF x j q,false⟩) 38 100 (Ef o)=some ⟨false,sz,EF {x with op:=o} (Ey o.top) q,false⟩:=Lt (l:=G8 x j q) (X:=HL o (Ey o.top)) rfl rfl (NW x j q) rfl (by rw[VF]; rfl) (by rw[VF,KD]; exact UF ..) (by rw[VF]; exact Yec o)
theorem rX(x:Mv)(sz:Nat)(j q:D)(p:List Dig):DT (some ⟨false,sz,EF x j q,false⟩) 1 138 (FL p)=some ⟨false,sz,EF {x with path:=p} j (FL p),false⟩:=Lt (l:=G8 x j q) (X:=[.c (FL p)]) rfl rfl (NW x j q) rfl rfl rfl rfl
theorem YBk(x y:Mv)(sz:Nat)(t q t' E:D)(I:t'.isCell=true)(J:E.isCell=true):DT (some ⟨false,sz,EF x t q,false⟩) 144 0 (.agg (EF y t' E))=some ⟨false,sz,EF y t' E,false⟩:=LS sz _ _ 144 (UE _ _ _) (UE _ _ _) (jx y I J)
theorem Yw2(st:St)(m:Mv){t q t' E:D}(J:DC st t=some t')(M:DC st q=some E):DX st (.agg (EF m t q))=some (.agg (EF m t' E)):=by
 have I:∀ t q,EF m t q=Dg [.c (.int .i64 m.kd),.c (.int .i64 m.pt),.c (.int .i64 m.am),.c (.int .i64 m.cm.1),.g m.cm.2,.g m.lf,.g m.rt,.c (.int .i64 m.op.pc),.c (.int .i64 m.op.fuel),.c (.int .i64 m.op.status),.c (.int .i64 m.op.clause)]++(t::(Dg [.c (.int .i64 m.op.depth),.g m.op.rest]++(q::Ht m.key))):=fun t q=>by
  simp[EF,G8,HL,Dg,Sg.cs,mM]
 have s1:(Dg [.c (.int .i64 m.kd),.c (.int .i64 m.pt),.c (.int .i64 m.am),.c (.int .i64 m.cm.1),.g m.cm.2,.g m.lf,.g m.rt,.c (.int .i64 m.op.pc),.c (.int .i64 m.op.fuel),.c (.int .i64 m.op.status),.c (.int .i64 m.op.clause)]).all Es=true:=by simp[Dg,Sg.cs,Es,Lw]
 have s2:(Dg [.c (.int .i64 m.op.depth),.g m.op.rest]).all Es=true:=by simp[Dg,Sg.cs,Es,Lw]
 have U:(Ht m.key).all Es=true:=by simp[Ht,Es]
 have i3:D5 st (Ht m.key)=some (Ht m.key):=by
  have:=OY st [] U;simpa[D5]using this
 rw[I,I];simp only[DX,OY st _ s1,D5,OY st _ s2,i3,J,M];rfl
def HT(d:Der)(l:List Dig)(x:Cse)(p:Int):Mv:=
 let i:=(FY x p).1
 {GH with kd:=3,pt:=p,op:=if(E0 d.code d.env i).2=0 then FA (E0 d.code d.env i).1 3 else GH.op,path:=if Js l i=0 then IX l i else []}
theorem PW(d:Der)(l:List Dig)(x:Cse)(p:Int):HT d l x p={GH with kd:=3,pt:=p,op:=if(E0 d.code d.env (FY x p).1).2=0 then FA (E0 d.code d.env (FY x p).1).1 3 else GH.op,path:=if Js l (FY x p).1=0 then IX l (FY x p).1 else []}:=rfl
noncomputable def YY:List D→Option D:=Dl (α:=Der×List Dig×Cse×Int) (fun a=>[Fv a.1,.slc (nz 32 (a.2.1.map C9)) (a.2.1.map C9) false,Dv a.2.2.1,.int .i64 a.2.2.2]) (fun a=>a.1.code.length≤9223372036854775807∧EA a.1.env∧(E0 a.1.code a.1.env (FY a.2.2.1 a.2.2.2).1).1.stack.length≤4294967296) (fun a=>Gy (HT a.1 a.2.1 a.2.2.1 a.2.2.2))
theorem yPc(d:Der)(l:List Dig)(x:Cse)(p:Int)(h:d.code.length≤9223372036854775807∧EA d.env∧(E0 d.code d.env (FY x p).1).1.stack.length≤4294967296):YY [Fv d,.slc (nz 32 (l.map C9)) (l.map C9) false,Dv x,.int .i64 p]=some (Gy (HT d l x p)):=
 D7 (fun⟨a0,a1,E,I⟩ ⟨b0,b1,J,M⟩ h=>by simp only[Aa,D.slc.injEq,D.int.injEq,KM,true_and,and_true,pW,N3]at h; simp[h]) (d,l,x,p) h
set_option maxHeartbeats 4000000 in
set_option maxRecDepth 20000 in
theorem Ya5(d:Der)(l:List Dig)(x:Cse)(p:Int)(h:d.code.length≤9223372036854775807∧EA d.env∧(E0 d.code d.env (FY x p).1).1.stack.length≤4294967296):@wW GG (tb [(34,dI),(39,jN),(42,dN),(38,jM)] []) aT.code (Dc [Fv d,.slc (nz 32 (l.map C9)) (l.map C9) false,Dv x,.int .i64 p]) [] ⟨Dq aT.res (Gy (HT d l x p))⟩:=by
 obtain⟨hc,hv,J⟩:=h;have V:=uq x p;rw[PW];obtain⟨i,hi⟩:∃ i,(FY x p).1=i:=⟨_,rfl⟩;rw[hi]at V J;rw[hi];have cs:=Yai d i ⟨hc,hv⟩;obtain⟨s,hs⟩:∃ s,(E0 d.code d.env i).1=s:=⟨_,rfl⟩;obtain⟨e,he⟩:∃ e,(E0 d.code d.env i).2=e:=⟨_,rfl⟩;rw[hs,he]at cs;rw[hs]at J;rw[hs,he];have vo:=uF s 3 J;have Y:=Yan l i
 have e1:DN EG [(0,1,.int .i64 3),(1,1,.int .i64 p)]=some (EF {GH with kd:=3,pt:=p} (.slc 0 [] true) (.slc 0 [] true)):=by
  rw[OE,Ru,S2,RE]
 have bz:DH (.agg EG)=some (EF GH (.slc 0 [] true) (.slc 0 [] true)):=by rw[OE]; exact yK _
 generalize IX l i=P at*;generalize Js l i=f at*;have so:DT (some ⟨false,1,EF {GH with kd:=3,pt:=p} (.slc 0 [] true) (.slc 0 [] true),false⟩) 38 100 (Ef (FA s 3))=some ⟨false,1,EF {GH with kd:=3,pt:=p,op:=FA s 3} (Ey (FA s 3).top) (.slc 0 [] true),false⟩:=YBe ..;have a0:∀ o:Opn,∀ t,DT (some ⟨false,1,EF {GH with kd:=3,pt:=p,op:=o} t (.slc 0 [] true),false⟩) 1 138 (.slc (nz 32 (P.map C9)) (P.map C9) false)=some ⟨false,1,EF {GH with kd:=3,pt:=p,op:=o,path:=P} t (FL P),false⟩:=fun o t=>rX ..;have a1:DT (some ⟨false,1,EF {GH with kd:=3,pt:=p} (.slc 0 [] true) (.slc 0 [] true),false⟩) 1 138 (.slc (nz 32 (P.map C9)) (P.map C9) false)=some ⟨false,1,EF {GH with kd:=3,pt:=p,path:=P} (.slc 0 [] true) (FL P),false⟩:=rX ..;have sm:∀ (X:Mv) (t q:D),t.isCell=true→q.isCell=true→DT (some ⟨false,1,EF GH (.slc 0 [] true) (.slc 0 [] true),false⟩) 144 0 (.agg (EF X t q))=some ⟨false,1,EF X t q,false⟩:=fun X t q E J=>YBk _ _ _ _ _ _ _ E J;have im:∀ (st:St) (X:Mv) (t q t' q':D),DC st t=some t'→DC st q=some q'→DX st (.agg (EF X t q))=some (.agg (EF X t' q')):=fun st X t q t' q' E J=>Yw2 st X E J;unfold aT
 by_cases E:e=0
 ·by_cases I:f=0
  ·rw[if_pos E,if_pos I];have M:=fun st=>im st {GH with kd:=3,pt:=p,op:=FA s 3,path:=P} (Ey (FA s 3).top) (FL P) (Ey (FA s 3).top) (FL P) (by simp[DC,Ey,IJ]) (by simp[DC,IJ]);have U:=sm {GH with kd:=3,pt:=p,op:=FA s 3,path:=P} (Ey (FA s 3).top) (FL P) rfl rfl;simp (disch:=first|omega|decide) only[push_cast,↓reduceIte,CI,CJ,Sc,Su hv,Ss,Sz,Fj,FD,Gt,EP,FO,V,cs,vo,Y,e1,bz,bK,so,a0,M,U,Is,Kp,IW,KI,N5,U5,eq_true E,eq_true I,decide_true];rfl
  ·rw[if_pos E,if_neg I];have M:=fun st=>im st {GH with kd:=3,pt:=p,op:=FA s 3} (Ey (FA s 3).top) (.slc 0 [] true) (Ey (FA s 3).top) (.slc 0 [] false) (by simp[DC,Ey,IJ]) rfl;have U:=sm {GH with kd:=3,pt:=p,op:=FA s 3} (Ey (FA s 3).top) (.slc 0 [] true) rfl rfl;simp (disch:=first|omega|decide) only[push_cast,↓reduceIte,CI,CJ,Sc,Su hv,Ss,Sz,Fj,FD,Gt,EP,FO,V,cs,vo,Y,e1,bz,bK,so,M,U,Is,Kp,IW,KI,N5,U5,eq_true E,eq_false I,decide_true,decide_false];rfl
 ·by_cases I:f=0
  ·rw[if_neg E,if_pos I];have M:=fun st=>im st {GH with kd:=3,pt:=p,path:=P} (.slc 0 [] true) (FL P) (.slc 0 [] false) (FL P) rfl (by simp[DC,IJ]);have U:=sm {GH with kd:=3,pt:=p,path:=P} (.slc 0 [] true) (FL P) rfl rfl;simp (disch:=first|omega|decide) only[push_cast,↓reduceIte,CI,CJ,Sc,Su hv,Ss,Sz,Fj,FD,Gt,EP,FO,V,cs,Y,e1,bz,bK,a1,M,U,Is,Kp,U5,eq_false E,eq_true I,decide_true,decide_false];rfl
  ·rw[if_neg E,if_neg I];have M:=fun st=>im st {GH with kd:=3,pt:=p} (.slc 0 [] true) (.slc 0 [] true) (.slc 0 [] false) (.slc 0 [] false) rfl rfl;have U:=sm {GH with kd:=3,pt:=p} (.slc 0 [] true) (.slc 0 [] true) rfl rfl;simp (disch:=first|omega|decide) only[push_cast,↓reduceIte,CI,CJ,Sc,Su hv,Ss,Sz,Fj,FD,Gt,EP,FO,V,cs,Y,e1,bz,M,U,Is,Kp,U5,eq_false E,eq_false I,decide_false];rfl
theorem Yi2:Contract Tryz.prog GG 28 YY:=
 Eg yn4 (DJ (all_cons yZ (all_cons Yyu (all_cons yV (all_cons Yy0 all_nil)))) all_nil) (fun a h=>Ya5 a.1 a.2.1 a.2.2.1 a.2.2.2 h)
theorem aZ(L:List Dig)(i:Nat)(h:i<L.length):ES L (i:Int) Dp=L.getD i default:=by
 unfold ES; rw[if_pos (by omega),AR]
theorem gu(L:List Dig)(i:Int)(h:(L.length:Int)≤i):ES L i Dp=Dp:=by
 unfold ES; rw[if_neg (by omega)]
variable {p:Int}{X:Cse}
theorem Yms{j:Int}(E:X.ph=3)(hb:GY X.c0 X.c1=0)(I:Kv X.b=j)(hj:1≤j)(J:p=0∨p=1):FY X p=(j - 1,true):=by
 have M:Gx X p=j:=by
  unfold Gx;omega
 unfold FY;grind
variable {L:List Dig}
set_option maxRecDepth 20000 in
theorem Yex(V:(Fk c).2=0)(Y:L=(HU c v).map (DV c v))(a6:∀ x∈L,x≠Dp)(hn:L.length≤64)(hp:p=0∨p=1)(ac:X.ph=3)(hb:GY X.c0 X.c1=0){j:Int}(hj:1≤j)(hd:Kv X.b=j)(E:Ik X p=Er L)(d:Der)(ad:d.code=c)(ae:d.env=v) :
  Oh c v X (HT d L X p)=(FG X (MK (HR X.b,HS X.b) (ES L j Dp)),0):=by
 have hq:=Yms ac hb hd hj hp;obtain⟨Dm,tl,hD,ht,hr,bc,hg⟩:=P1 (v:=v) V;have I:=kK (v:=v) V;have ah:(HU c v).length=L.length:=by rw[Y]; simp
 obtain⟨i,hi⟩:∃ i:Nat,j - 1=(i:Int):=⟨(j - 1).toNat,by omega⟩;have bd:1≤L.length:=by rw[← ah,ht]; simp
 have r1:(Er L).1=(L.length:Int):=by rw[Rd L (by omega)]
 have hM:∀ b:Dig,∀ o:Opn,FH c v b o=(ES L j Dp,0)→((if(FH c v b o).2=0 then(FG X (HG (HR X.b,HS X.b) (FH c v b o)).1,(0:Int))else(X,(FH c v b o).2))=(FG X (MK (HR X.b,HS X.b) (ES L j Dp)),0)):=by
  intro b o h;rw[h,if_pos rfl];rfl
 have a0:Js L (i:Int)=0∨(Js L (i:Int)≠0∧(2:Int) ^ (DL L.length).toNat≤(i:Int)):=by
  unfold Js;omega
 have ab:∀ x:Dig,D3 L 0 (i:Int)=x→(2:Int) ^ (DL (Ik X p).1).toNat≤(i:Int)∨HC (Ik X p) (i:Int) x (HT d L X p).path=true:=by
  intro x hx;rw[E,r1];rcases a0 with h | ⟨_,h⟩
  ·refine .inr ?_;rw[PW,hq,hi]
   show HC (Er L) (i:Int) x (if Js L (i:Int)=0 then IX L (i:Int)else [])=true
   rw[if_pos h,← hx];refine nG L (i:Int) (by omega) (by omega) ?_;unfold Js at h;omega
  ·exact .inl h
 unfold Oh;rw[show(HT d L X p).pt=p from rfl,hq,if_pos rfl,hb,if_neg (by decide)];dsimp only;rw[hi]
 by_cases a1:i<L.length
 ·obtain⟨s,M⟩:∃ s,(HU c v)[i]?=some s:=⟨_,Am (by omega)⟩
  have be:E0 d.code d.env (i:Int)=(s,0):=by
   rw[ad,ae]; unfold E0; rw[if_pos V,if_neg (by omega),AR,M]
  have bf:(HT d L X p).op=FA s 3:=by
   rw[PW,hq,hi];grind
  have a2:=I s (An M);have bg:=iX (c:=c) (v:=v) (RG s 3) a2;have a3:L.getD i default=DV c v s:=by rw[Y,Ai,AF,M]; rfl
  have a4:¬ DV c v s=Dp:=by
   grind
  have a5:=yYp (c:=c) (v:=v) (t:=HU c v) (i:=i) (s:=s) (ht ▸ hr) I M a4 (n:=3) (by decide)
  have J:(((HU c v).map (DV c v))[i+1]?).getD Dp=ES L j Dp:=by
   rw[← Y,show j=((i+1:Nat):Int) by omega]
   by_cases h:i+1<L.length
   ·rw[aZ L (i+1) h,Ai,Am h]; rfl
   ·rw[gu L _ (by omega),Be (by omega)]; rfl
  rw[J]at a5;have U:D3 L 0 (i:Int)=DV c v s:=by rw[← a3]; exact aZ L i a1
  grind
 ·have U:D3 L 0 (i:Int)=Dp:=gu L _ (by omega);have J:ES L j Dp=Dp:=gu L _ (by omega);rw[if_pos (show(Ik X p).1≤(i:Int) by rw[E,r1]; omega),if_pos (ab _ U)];exact hM _ _ (by rw[J]; exact if_pos rfl)
def Hv(n m:Int)(A B:List Dig):Cse:=⟨⟨1,0,0,0,0⟩,0,1,2,1450,n,m,Er A,Er B,Gd,-1,0,-1,[]⟩
def GU(c:List Ins)(v:Int×List Int)(n m:Int)(A B:List Dig)(N k:Nat):Cse:=if k<N then GS (Hv n m A B) A B N k else(Io c v (GS (Hv n m A B) A B N N) 10).1
theorem Yci(c:List Ins)(v:Int×List Int)(hk:k<N)(E:N≤16):Io c v (GS X A B N k) now=(GS X A B N k,0):=by
 have h:=ja A B (N:=N) (k:=k) (by omega) E;rw[decide_eq_false (by omega)]at h;unfold Io;rw[if_neg (by rw[show(GS X A B N k).b=D8 A B N k from rfl,h]; decide)]
theorem sk(v:Int×List Int)(E:N≤16)(I:(Fk c).2=0)(hc:c.length≠0):(Io c v (GS X A B N N) now).2=0∧(Io c v (GS X A B N N) now).1=if idxS A B N N=0 then FG (GS X A B N N) (MK (ES A 0 Dp,ES B 0 Dp) (Ho c v).1)else Ll (GS X A B N N) now:=by
 have h:=ja A B (N:=N) (k:=N) (Ay N) E;rw[decide_eq_true rfl]at h;obtain⟨d1,d2,d3⟩:=zo A B E;have hf:(Ho c v).2=0:=by unfold Ho; rw[if_neg hc,if_neg (by rw[I]; decide)]
 unfold Io;rw[if_pos (show KC (GS X A B N N).b=true from h),show(GS X A B N N).b=D8 A B N N from rfl,d1,d2,d3]
 by_cases hj:idxS A B N N=0
 ·rw[if_pos hj,if_pos hj,if_pos hf,hj];refine⟨rfl,?_⟩
  show FG (GS X A B N N) (HG (ES A 0 Dp,ES B 0 Dp) (Ho c v)).1=_
  unfold HG;grind
 ·grind
def Hs(p:Int)(l r:Dig):Mv:={GH with kd:=2,pt:=p,lf:=l,rt:=r}
theorem Xe(E:(A.length:Int)≤65536)(I:(B.length:Int)≤65536):∃ N:Nat,J8 A B=(N:Int)∧N≤16:=by
 have h:=vB A B E I;exact⟨(J8 A B).toNat,by omega,by omega⟩
theorem Yzo(v:Int×List Int)(M:(A.length:Int)≤65536)(U:(B.length:Int)≤65536)(V:J8 A B=(N:Int))(h1:1≤N)(E:N≤16)(Y:D3 A N 0≠D3 B N 0)(hm:EK m) :
  FZ c v (LJ n (Er A)) (GM m (Er B)) 10=0∧F9 c v (LJ n (Er A)) (GM m (Er B)) 10=GU c v n m A B N 0:=by
 obtain⟨b1,I⟩:=fN A B M U;rw[V,AR,if_neg Y]at b1 I;have hs:Fl A B N N 0=D8 A B N 0:=by unfold D8 idxS; rw[show((N:Int) - ((0:Nat):Int))=(N:Int) by omega]
 rw[hs]at b1;have hr:GU c v n m A B N 0=GS (Hv n m A B) A B N 0:=if_pos (by omega);rw[hr];refine Mm (y:=GS (Hv n m A B) A B N 0) (e:=0) (.inl rfl) ⟨by simp[GM],by decide,by decide,.inr rfl⟩ (by show(10:Int)≤1450; omega) ?_;have J:=Yci c v (X:=Hv n m A B) (A:=A) (B:=B) (N:=N) (k:=0) (now:=10) (by omega) E;rw[← J];simp[GW,GM,MX,LJ,hm,b1,I,GS,Hv]
theorem Ycx(hk:k<N)(E:N≤16)(I:(A.length:Int)≤65536) :
  FZ c v (GU c v n m A B N k) (Hs 0 (EY A (D8 A B N k)) (EX A (D8 A B N k))) 10=0∧F9 c v (GU c v n m A B N k) (Hs 0 (EY A (D8 A B N k)) (EX A (D8 A B N k))) 10={Hv n m A B with b:=EI (D8 A B N k) 0 (EY A (D8 A B N k)) (EX A (D8 A B N k))}:=by
 rw[show GU c v n m A B N k=GS (Hv n m A B) A B N k from if_pos hk];refine Mm (y:={Hv n m A B with b:=EI (D8 A B N k) 0 (EY A (D8 A B N k)) (EX A (D8 A B N k))}) (e:=0) (.inr (.inl rfl)) ⟨by simp[Hs],by decide,by decide,.inl rfl⟩ (by show(10:Int)≤1450; omega) ?_;rw[← Ypj (c:=c) (v:=v) (now:=10) (x:=Hv n m A B) hk E I rfl (Hs 0 (EY A (D8 A B N k)) (EX A (D8 A B N k))) ⟨rfl,rfl,rfl⟩];rfl
theorem Ycw(hk:k<N)(E:N≤16)(J:(A.length:Int)≤65536)(M:(B.length:Int)≤65536)(U:(Fk c).2=0)(hc:c.length≠0) :
  FZ c v {Hv n m A B with b:=EI (D8 A B N k) 0 (EY A (D8 A B N k)) (EX A (D8 A B N k))} (Hs 1 (EY B (D8 A B N k)) (EX B (D8 A B N k))) 10=0∧F9 c v {Hv n m A B with b:=EI (D8 A B N k) 0 (EY A (D8 A B N k)) (EX A (D8 A B N k))} (Hs 1 (EY B (D8 A B N k)) (EX B (D8 A B N k))) 10=GU c v n m A B N (k+1):=by
 have I:=Ypi (c:=c) (v:=v) (now:=10) (x:=Hv n m A B) hk E J M rfl (Hs 1 (EY B (D8 A B N k)) (EX B (D8 A B N k))) ⟨rfl,rfl,rfl⟩;have V:({GS (Hv n m A B) A B N (k+1)with dl:=10+1440}:Cse)=GS (Hv n m A B) A B N (k+1):=rfl;rw[V]at I
 have Y:Io c v (GS (Hv n m A B) A B N (k+1)) 10=(GU c v n m A B N (k+1),0):=by
  by_cases h:k+1<N
  ·rw[Yci c v h E,show GU c v n m A B N (k+1)=GS (Hv n m A B) A B N (k+1)from if_pos h]
  ·obtain rfl:N=k+1:=by omega
   rw[show GU c v n m A B (k+1) (k+1)=(Io c v (GS (Hv n m A B) A B (k+1) (k+1)) 10).1 from if_neg h];exact Prod.ext rfl (sk v E U hc).1
 rw[Y]at I;refine Mm (y:=GU c v n m A B N (k+1)) (e:=0) (.inr (.inl rfl)) ⟨by simp[Hs],by decide,by decide,.inr rfl⟩ (by show(10:Int)≤1450; omega) ?_;rw[← I];rfl
def He(p:Int)(L O:List Dig):List Dig:=if p=0 then L else O
def Hf(p:Int)(L O:List Dig):List Dig:=if p=0 then O else L
theorem Yf0{p:Int}(E:p=0∨p=1){L O:List Dig}{j:Int}(h:ES (He p L O) j Dp≠ES (Hf p L O) j Dp):MK (ES (He p L O) j Dp,ES (Hf p L O) j Dp) (ES L j Dp)=p:=by
 unfold MK;rcases E with rfl | rfl
 ·exact if_pos rfl
 ·rw[if_neg (show ¬ ES (He 1 L O) j Dp=ES L j Dp from h),if_pos (show ES (Hf 1 L O) j Dp=ES L j Dp from rfl)]
theorem rF(X:Cse)(E:p=0∨p=1):(FG X p).ph=4∧(FG X p).wn=p∧(FG X p).am=Oc X p:=by
 unfold FG;rw[if_neg (by omega)];exact⟨rfl,rfl,rfl⟩
variable {O:List Dig}
theorem Yx9(M:(Fk c).2=0)(hc:c.length≠0)(hL:L=(HU c v).map (DV c v))(ad:∀ x∈L,x≠Dp)(hn:L.length≤64)(hO:O.length≤64)(I:p=0∨p=1)(hN:J8 (He p L O) (Hf p L O)=(N:Int))(V:N≤16)(hd:D3 (He p L O) N 0≠D3 (Hf p L O) N 0)(d:Der)(a6:d.code=c)(a7:d.env=v) :
  ((GU c v n m (He p L O) (Hf p L O) N N).ph=4∧(GU c v n m (He p L O) (Hf p L O) N N).wn=p∧(GU c v n m (He p L O) (Hf p L O) N N).am=(if p=0 then n else m))∨
  ((GU c v n m (He p L O) (Hf p L O) N N).ph=3∧FZ c v (GU c v n m (He p L O) (Hf p L O) N N) (HT d L (GU c v n m (He p L O) (Hf p L O) N N) p) 10=0∧
   (F9 c v (GU c v n m (He p L O) (Hf p L O) N N) (HT d L (GU c v n m (He p L O) (Hf p L O) N N) p) 10).ph=4∧
   (F9 c v (GU c v n m (He p L O) (Hf p L O) N N) (HT d L (GU c v n m (He p L O) (Hf p L O) N N) p) 10).wn=p∧
   (F9 c v (GU c v n m (He p L O) (Hf p L O) N N) (HT d L (GU c v n m (He p L O) (Hf p L O) N N) p) 10).am=(if p=0 then n else m)):=by
 obtain⟨A,hA⟩:∃ A,He p L O=A:=⟨_,rfl⟩;obtain⟨B,hB⟩:∃ B,Hf p L O=B:=⟨_,rfl⟩;have lA:(A.length:Int)≤65536:=by rw[← hA]; unfold He; split <;> omega
 have lB:(B.length:Int)≤65536:=by rw[← hB]; unfold Hf; split <;> omega
 have hj:=@Yf0 p I L O (idxS A B N N);rw[hA,hB]at hN hd hj ⊢;have Y:=zy hd N (Ay N);rw[BG]at Y;have hj:=hj Y;obtain⟨Dm,tl,hD,ht,hr,bh,hg⟩:=P1 (v:=v) M;have a9:=Qg A B N N (by omega);have e1:=sk v (X:=Hv n m A B) (A:=A) (B:=B) (N:=N) (now:=10) V M hc;have hR:GU c v n m A B N N=(Io c v (GS (Hv n m A B) A B N N) 10).1:=if_neg (Nat.lt_irrefl N);rw[hR,e1.2];obtain⟨j,E⟩:∃ j,idxS A B N N=j:=⟨_,rfl⟩;rw[E]at hj a9 ⊢
 have aa:∀ X:Cse,X.a0=n→X.a1=m→Oc X p=if p=0 then n else m:=by
  intro X J h1; unfold Oc; rw[J,h1]
 by_cases J:j=0
 ·left
  rw[if_pos J]
  have hf:(Ho c v).1=ES L 0 Dp:=by
   have ba:0<L.length:=by rw[hL,ht]; simp
   unfold Ho;rw[if_neg hc,if_neg (by rw[M]; decide)]
   show DV c v (Gl (c.length+1))=_
   have:=aZ L 0 ba;rw[show((0:Nat):Int)=0 from rfl]at this;rw[this,hL,ht]; rfl
  rw[J]at hj;rw[hf,hj];obtain⟨r1,r2,r3⟩:=rF (GS (Hv n m A B) A B N N) I;exact⟨r1,r2,by rw[r3]; exact aa _ rfl rfl⟩
 ·right
  rw[if_neg J];obtain⟨b1,b2⟩:=fN A B lA lB;rw[hN,AR,if_neg hd]at b2;obtain⟨d1,d2,d3⟩:=zo A B V
  have a4:Ik (Ll (GS (Hv n m A B) A B N N) 10) p=Er L:=by
   unfold Ik;rcases I with rfl | rfl
   ·rw[if_pos rfl]; show Er A=_; rw[← hA]; rfl
   ·rw[if_neg (by decide)]; show Er B=_; rw[← hB]; rfl
  have ab:=Yex M hL ad hn (X:=Ll (GS (Hv n m A B) A B N N) 10) I rfl b2 (j:=j) (by omega) (by rw[← E]; exact d1) a4 d a6 a7;rw[show HR (Ll (GS (Hv n m A B) A B N N) 10).b=ES A j Dp by rw[← E]; exact d2,show HS (Ll (GS (Hv n m A B) A B N N) 10).b=ES B j Dp by rw[← E]; exact d3,hj]at ab
  obtain⟨p1,U⟩:=Mm (c:=c) (v:=v) (x:=Ll (GS (Hv n m A B) A B N N) 10) (m:=HT d L (Ll (GS (Hv n m A B) A B N N) 10) p) (now:=10) (.inr (.inr rfl)) ⟨⟨by show(1:Int)≤3; omega,by show(3:Int)≤7; omega⟩,by decide,by decide,I⟩ (by show(10:Int)≤1450; omega) (by
   rw[← ab,PW]; rfl)
  rw[if_pos rfl]at U;obtain⟨r1,r2,r3⟩:=rF (Ll (GS (Hv n m A B) A B N N) 10) I;exact⟨rfl,p1,by rw[U]; exact r1,by rw[U]; exact r2,by rw[U,r3]; exact aa _ rfl rfl⟩
theorem Yjy(E:(A.length:Int)≤65536)(I:(B.length:Int)≤65536)(J:J8 A B=(N:Int)):GY (Er A) (Er B)=if D3 A N 0=D3 B N 0 then 380 else 0:=by
 have h:=(fN A B E I).2;rwa [J,AR]at h
def L2(n m:Int)(A B:List Dig):Cse:=⟨⟨1,0,0,0,0⟩,0,1,3,1450,n,m,Er A,Er B,Gd,-1,0,-1,[]⟩
theorem YF5(v:Int×List Int)(hb:GY (Er A) (Er B)=380)(hm:EK m)(hc:c.length≠0) :
  FZ c v (LJ n (Er A)) (GM m (Er B)) 10=0∧F9 c v (LJ n (Er A)) (GM m (Er B)) 10=if n=m then JJ {LJ n (Er A)with a1:=m,c1:=Er B} 1 m else L2 n m A B:=by
 have E:¬ c=[]:=fun q=>hc (by rw[q]; rfl)
 by_cases h:n=m
 ·rw[if_pos h];refine Mm (y:=JJ {LJ n (Er A)with a1:=m,c1:=Er B} 1 m) (e:=0) (.inl rfl) ⟨by simp[GM],by decide,by decide,.inr rfl⟩ (by show(10:Int)≤1450; omega) ?_;simp[GW,GM,MX,LJ,hm,hb,h,FG,Oc]
 ·rw[if_neg h];refine Mm (y:=L2 n m A B) (e:=0) (.inl rfl) ⟨by simp[GM],by decide,by decide,.inr rfl⟩ (by show(10:Int)≤1450; omega) ?_;simp[GW,GM,MX,LJ,hm,hb,h,E,Ll,L2]
theorem YEv(he:(Fk c).2=0)(hL:L=(HU c v).map (DV c v))(hn:L.length≤64)(Y:p=0∨p=1)(hb:GY (Er (He p L O)) (Er (Hf p L O))=380)(a3:n≠m)(J:(if p=0 then n else m)=(D4 (IH (HU c v))).1)(d:Der)(a4:d.code=c)(a5:d.env=v) :
  FZ c v (L2 n m (He p L O) (Hf p L O)) (HT d L (L2 n m (He p L O) (Hf p L O)) p) 10=0∧
   (F9 c v (L2 n m (He p L O) (Hf p L O)) (HT d L (L2 n m (He p L O) (Hf p L O)) p) 10).ph=4∧
   (F9 c v (L2 n m (He p L O) (Hf p L O)) (HT d L (L2 n m (He p L O) (Hf p L O)) p) 10).wn=p∧
   (F9 c v (L2 n m (He p L O) (Hf p L O)) (HT d L (L2 n m (He p L O) (Hf p L O)) p) 10).am=(D4 (IH (HU c v))).1:=by
 obtain⟨X,M⟩:∃ X,L2 n m (He p L O) (Hf p L O)=X:=⟨_,rfl⟩;have x1:X.ph=3:=by rw[← M]; rfl
 have x2:GY X.c0 X.c1=380:=by rw[← M]; exact hb
 have x3:Ik X p=Er L:=by
  rw[← M]; unfold Ik;rcases Y with rfl | rfl
  ·rw[if_pos rfl]; rfl
  ·rw[if_neg (by decide)]; rfl
 have x4:X.a0=n∧X.a1=m∧X.dl=1450:=by rw[← M]; exact⟨rfl,rfl,rfl⟩
 rw[M];obtain⟨Dm,tl,hD,ht,hr,b5,hg⟩:=P1 (v:=v) he;have af:=kK (v:=v) he;have ah:HU c v≠[]:=by rw[ht]; simp
 obtain⟨s,hs⟩:∃ s,IH (HU c v)=s:=⟨_,rfl⟩;rw[hs]at J ⊢;have I:(HU c v)[(HU c v).length - 1]?=some s:=by rw[← hs]; exact Yfn ah
 have ba:(HU c v).length=L.length:=by rw[hL]; simp
 have b6:1≤L.length:=by rw[← ba,ht]; simp
 have r1:(Er L).1=(L.length:Int):=by rw[Rd L (by omega)]
 obtain⟨i,hi⟩:∃ i:Nat,(L.length:Int) - 1=(i:Int):=⟨L.length - 1,by omega⟩;have bb:(HU c v).length - 1=i:=by omega
 rw[bb]at I
 have E:FY X p=((i:Int),true):=by
  have h1:Gx X p=(L.length:Int):=by unfold Gx; rw[x2,if_pos rfl,x3,r1]
  unfold FY;rw[if_pos ⟨x1,Y⟩,h1,if_neg (by omega),hi]
 have bc:=af s (An I);have bd:AmtS s:=uf s (An I);have hs0:s.status≠0:=(RunOK.get (ht ▸ hr) I).2 (by omega);have be:L.getD i default=DV c v s:=by rw[hL,Ai,AF,I]; rfl
 have bf:D3 L 0 (i:Int)=DV c v s:=by rw[← be]; exact aZ L i (by omega)
 have ab:(i:Int)<2 ^ (DL L.length).toNat:=Int.lt_of_lt_of_le (by omega:(i:Int)<(L.length:Int)) (jX (by omega) (by omega));have U:=nG L (i:Int) (by omega) (by omega) ab;rw[bf]at U
 have V:E0 d.code d.env (i:Int)=(s,0):=by
  rw[a4,a5]; unfold E0; rw[if_pos he,if_neg (by omega),AR,I]
 have bg:(HT d L X p).op=FA s 3:=by
  rw[PW,E]
  show(if(E0 d.code d.env (i:Int)).2=0 then FA (E0 d.code d.env (i:Int)).1 3 else GH.op)=_
  rw[V,if_pos rfl]
 have bh:(HT d L X p).path=IX L (i:Int):=by
  rw[PW,E]
  show(if Js L (i:Int)=0 then IX L (i:Int)else [])=_
  rw[if_pos (by unfold Js; rw[if_neg (by omega),if_pos ⟨by omega,ab⟩])]
 have b1:=iX (c:=c) (v:=v) (RG s 3) bc;obtain⟨t1,t2,t3⟩:=Yn2 (s:=s) (n:=3) (by decide) bd
 have ho:Oh c v X (HT d L X p)=(Rv X (D4 s).1,0):=by
  unfold Oh;rw[show(HT d L X p).pt=p from rfl,E,if_pos rfl,if_pos x2,x3,bg,bh,b1,if_pos U];have V:(FA s 3).status=s.status:=rfl;rw[V]
  by_cases E:s.status=1
  ·rw[if_pos ⟨hs0,.inr (t1 E)⟩,if_pos E,t2 E]
  ·rw[if_pos ⟨hs0,.inl E⟩,if_neg E,t3 E]
 obtain⟨p1,p2⟩:=Mm (c:=c) (v:=v) (x:=X) (m:=HT d L X p) (now:=10) (.inr (.inr x1)) ⟨⟨by show(1:Int)≤3; omega,by show(3:Int)≤7; omega⟩,by decide,by decide,Y⟩ (by rw[x4.2.2]; decide) (by
  rw[← ho,PW]; rfl)
 rw[if_pos rfl]at p2;refine⟨p1,by rw[p2]; rfl,?_,by rw[p2]; rfl⟩;rw[p2]
 show K3 X (D4 s).1=p
 unfold K3;rw[x4.1,x4.2.1,← J];rcases Y with rfl | rfl
 ·rw[if_pos rfl,if_pos rfl]
 ·rw[if_neg (show ¬ (1:Int)=0 by decide),if_neg a3,if_pos rfl]
section
variable (x:Mv) (j q:D) (r:List (Nat×Nat×D))
theorem Xi(d:Dig):DN (EF x j q) ((36,32,C9 d)::r)=DN (EF {x with lf:=d} j q) r:=IY (l:=G8 x j q) (X:=[.g d]) rfl rfl (NW x j q) rfl (by simp[Dg,Sg.cs,D.cells,C9]) (by simp[Dg,Sg.cs,D2]) (by simp[Dg,Sg.cs,I0])
theorem Xh(d:Dig):DN (EF x j q) ((68,32,C9 d)::r)=DN (EF {x with rt:=d} j q) r:=IY (l:=G8 x j q) (X:=[.g d]) rfl rfl (NW x j q) rfl (by simp[Dg,Sg.cs,D.cells,C9]) (by simp[Dg,Sg.cs,D2]) (by simp[Dg,Sg.cs,I0])
end
theorem Yha(p:Int)(l r:Dig):DN EG [(0,1,.int .i64 2),(1,1,.int .i64 p),(36,32,C9 l),(68,32,C9 r)]=some (EF (Hs p l r) (.slc 0 [] true) (.slc 0 [] true)):=by
 rw[OE,Ru,S2,Xi,Xh,RE]; rfl
abbrev LY(a b:List Dig):List D:=[FL a,FL b]
theorem xp:DH (.agg [.slc 0 [] true,.slc 0 [] true])=some [.slc 0 [] true,.slc 0 [] true]:=rfl
theorem xX(a b:List Dig):DT (some ⟨false,1,[.slc 0 [] true,.slc 0 [] true],false⟩) 2 0 (.agg (LY a b))=some ⟨false,1,LY a b,false⟩:=rfl
theorem U7(a b:List Dig)(lent:Bool):DA (some ⟨false,1,LY a b,lent⟩) 1 false 1=some (FL b):=rfl
theorem ir(n:Nat)(σ:List Nat)(a b:List Dig):(LY a b).map (Ez n σ)=LY a b:=Mr n σ (by simp[LY,Es,IJ])
theorem mI(a b:List Dig):(LY a b).flatMap hk=[]:=MU (by simp[LY,Es,IJ])
theorem xU(a b n:Int):DT (some ⟨false,1,[.int .i64 a,.int .i64 b],false⟩) 1 0 (.int .i64 n)=some ⟨false,1,[.int .i64 n,.int .i64 b],false⟩:=rfl
theorem xV(a b n:Int):DT (some ⟨false,1,[.int .i64 a,.int .i64 b],false⟩) 1 1 (.int .i64 n)=some ⟨false,1,[.int .i64 a,.int .i64 n],false⟩:=rfl
theorem xW(a b c d:Int):DT (some ⟨false,1,[.int .i64 a,.int .i64 b],false⟩) 2 0 (.agg [.int .i64 c,.int .i64 d])=some ⟨false,1,[.int .i64 c,.int .i64 d],false⟩:=rfl
theorem yY4(E:(Fk c).2=0)(I:L=(HU c v).map (DV c v)):2≤L.length:=by
 obtain⟨Dm,J,hD,M,U,aa,hg⟩:=P1 (v:=v) E;obtain⟨ab,ac,ad,_⟩:=Nh E
 have V:(Gl ((c.length:Int)+1)).status=0:=by
  rw[show Gl ((c.length:Int)+1)={FX with fuel:=(c.length:Int)+1} from if_neg (by omega)]; rfl
 have Y:=(RunOK.get (i:=0) (s:=Gl ((c.length:Int)+1)) (by exact U) (by simp)).2;have:¬ (Gl ((c.length:Int)+1)::J).length=1:=fun q=>Y (by omega) V;rw[I,M];simp only[Bd,Ah]at this ⊢;omega
theorem P5(n:Nat)(σ:List Nat)(v:Int×List Int):(D0 v).map (Ez n σ)=D0 v:=Mr n σ (P8 v)
theorem PO(v:Int×List Int):(D0 v).flatMap hk=[]:=MU (P8 v)
theorem Qa(n:Nat)(σ:List Nat)(d:Der):(Dr (Eh d.code) d.env d.am d.er (H6 d.lv)).map (Ez n σ)=Dr (Eh d.code) d.env d.am d.er (H6 d.lv):=Mr n σ (jY d)
theorem PY(d:Der):(Dr (Eh d.code) d.env d.am d.er (H6 d.lv)).flatMap hk=[]:=MU (jY d)
theorem tr(s:Int)(g:Dig):(.int .i64 s::C8 g).all Es=true:=by simp[Es,Lw]
theorem jl(n:Nat)(σ:List Nat)(s:Int)(g:Dig):(.int .i64 s::C8 g).map (Ez n σ)=.int .i64 s::C8 g:=Mr n σ (tr s g)
theorem gz(s:Int)(g:Dig):(.int .i64 s::C8 g).flatMap hk=[]:=MU (tr s g)
theorem iv(n:Nat)(σ:List Nat)(a b:Int):([.int .i64 a,.int .i64 b]:List D).map (Ez n σ)=[.int .i64 a,.int .i64 b]:=rfl
theorem mJ(a b:Int):([.int .i64 a,.int .i64 b]:List D).flatMap hk=[]:=rfl
theorem Ydd(n:Nat)(σ:List Nat)(x:Bis):(Di x).map (Ez n σ)=Di x:=Mr n σ (eT x)
theorem Yos(x:Bis):(Di x).flatMap hk=[]:=MU (eT x)
theorem YA8:(1:Int) - 0=1:=(rfl)
theorem YA7:(1:Int) - 1=0:=(rfl)
def Yl(a b c:Cse)(j:Nat):Cse:=if j=0 then a else if j=1 then b else c
theorem yf(a b c:Cse):Yl a b c 0=a:=rfl
theorem yg(a b c:Cse):Yl a b c 1=b:=rfl
theorem ym(a b c:Cse):Yl a b c 2=c:=rfl
theorem Yq6(s:List Dig)(x:Bis)(l r:Dig):EY s (EI x 0 l r)=EY s x:=rfl
theorem Yq5(s:List Dig)(x:Bis)(l r:Dig):EX s (EI x 0 l r)=EX s x:=rfl
theorem Yq7(s:List Dig)(x:Bis)(l r:Dig):F7 s (EI x 0 l r)=F7 s x:=rfl
theorem yXh{α:Type}[Inhabited α](l:List α)(i:Nat)(h:i<l.length):l.take (i+1)=l.take i++[l.getD i default]:=by
 rw[List.take_succ,Am h,Ai,Am h]; rfl
theorem rW(E:(Fk c).2=0)(n:Int):(E0 c v n).1.stack.length≤64:=by
 unfold E0;rw[if_pos E]
 split
 ·exact A4 _
 ·split
  ·rename_i s I;exact kK (v:=v) E s (An I)
  ·exact A4 _
theorem Yee{d:Der}(E:(Fk d.code).2=0)(L:List Dig)(x:Cse)(p:Int):(HT d L x p).op.top.length≤64:=by
 rw[PW]
 show(if(E0 d.code d.env (FY x p).1).2=0 then FA (E0 d.code d.env (FY x p).1).1 3 else GH.op).top.length≤64
 split
 ·show(List.drop _ _).length≤64
  rw[AL];have:=rW (v:=d.env) E (FY x p).1;omega
 ·exact A4 _
set_option maxHeartbeats 4000000 in
set_option maxRecDepth 20000 in
theorem yDh(c:List Ins)(hc:c.length≤maxLen)(v:Int×List Int)(hv:v.2.length=16)(right:Int)(kd:-9223372036854775808≤right)(ke:right<9223372036854775808)(fr:Int)(m7:-9223372036854775808≤fr)(m8:fr<9223372036854775808)(ac:UInt8)(size:Int)(kf:-9223372036854775808≤size)(kg:size<9223372036854775808):@wW GG (tb [(18,dQ),(19,bU),(20,N2),(21,YX),(22,dS),(23,T3),(24,MS),(25,Mp),(26,N9),(27,cJ),(28,YY)] []) aV.code (Dc [.slc (nz 3 (c.map Da)) (c.map Da) false,EJ v,.int .i64 right,.int .i64 fr,Dn ac,.int .i64 size]) [] ⟨Dq aV.res (.bool true)⟩:=by
 have dh:c.length≤9223372036854775807:=AS hc lD;have E:EA v:=hv;have cr:=Yp0 c v ⟨dh,E⟩;have lc:∀ st,Fc st false (.slc (nz 3 (c.map Da)) (c.map Da) false)=some (.int .i64 (c.length:Int)):=fun st=>by simp[Fc,JV,Fm]
 unfold aV
 by_cases b2:¬ (Fk c).2=0
 ·have I:EA (Ix c v).env:=by rw[show Ix c v=Ot from if_neg b2]; rfl
  have M:True:=trivial;have U:True:=trivial;have ll:True:=trivial
  by_cases g1:(40:Int)<c.length
  ·simp (disch:=first|omega|decide) only[push_cast,↓reduceIte,CI,Qd,FV,Gq E,ET,F1,NQ,PU I,lc,decide_true,cr,g1]
  ·generalize (Fk c).2=e at*;simp (disch:=first|omega|decide) only[push_cast,↓reduceIte,CI,Qd,FV,Gq E,ET,F1,NQ,PU I,lc,decide_false,cr,g1,eq_false b2]
 have he:=Decidable.not_not.1 b2;obtain⟨nh,n0,n1,_⟩:=Nh he;obtain⟨Dm,tl,hD,ht,hr,k0,hg⟩:=P1 (v:=v) he;obtain⟨R,hR⟩:∃ R,Ix c v=R:=⟨_,rfl⟩;have ah:R.code=c:=by rw[← hR]; unfold Ix; rw[if_pos he]
 have b4:R.env=v:=by rw[← hR]; unfold Ix; rw[if_pos he]
 obtain⟨L,hL⟩:∃ L,R.lv=L:=⟨_,rfl⟩;have ab:L=(HU c v).map (DV c v):=by rw[← hL,← hR]; unfold Ix; rw[if_pos he]
 have n2:L.length=tl.length+1:=by rw[ab,ht]; simp
 have Y:=yY4 he ab;have I:EA R.env:=by rw[b4]; exact E
 obtain⟨am,a8⟩:∃ am,(D4 (IH (HU c v))).1=am:=⟨_,rfl⟩;have k2:R.am=am:=by rw[← hR,← a8]; unfold Ix; rw[if_pos he]
 rw[hR,he]at cr;have U:∀ lent,DA (some ⟨false,1,Dr (Eh R.code) R.env R.am R.er (H6 R.lv),lent⟩) 1 false 20=some (.slc (nz 32 (L.map C9)) (L.map C9) false):=fun lent=>by rw[Ywa I,hL]; rfl
 have M:∀ lent,DA (some ⟨false,1,Dr (Eh R.code) R.env R.am R.er (H6 R.lv),lent⟩) 1 false 18=some (.int .i64 am):=fun lent=>by rw[Yn0 I,k2]
 have ll:∀ st,Fc st false (.slc (nz 32 (L.map C9)) (L.map C9) false)=some (.int .i64 (L.length:Int)):=fun st=>by simp[Fc,JV,Fm]
 by_cases g1:(40:Int)<c.length
 ·simp (disch:=first|omega|decide) only[push_cast,↓reduceIte,CI,Qd,FV,Gq E,ET,F1,NQ,PU I,lc,decide_true,cr,g1]
 by_cases g2:right<0
 ·simp (disch:=first|omega|decide) only[push_cast,↓reduceIte,CI,Qd,FV,Gq E,ET,F1,NQ,PU I,lc,decide_true,decide_false,cr,g1,g2]
 by_cases g3:1<right
 ·simp (disch:=first|omega|decide) only[push_cast,↓reduceIte,CI,Qd,FV,Gq E,ET,F1,NQ,PU I,lc,decide_true,decide_false,cr,g1,g2,g3]
 by_cases g4:size<0
 ·simp (disch:=first|omega|decide) only[push_cast,↓reduceIte,CI,Qd,FV,Gq E,ET,F1,NQ,PU I,lc,decide_true,decide_false,cr,g1,g2,g3,g4]
 by_cases g5:64<size
 ·simp (disch:=first|omega|decide) only[push_cast,↓reduceIte,CI,Qd,FV,Gq E,ET,F1,NQ,PU I,lc,decide_true,decide_false,cr,g1,g2,g3,g4,g5]
 have g6:¬ (64:Int)<(L.length:Int):=by omega
 have g7:¬ (L.length:Int)=0:=by omega
 simp (disch:=first|omega|decide) only[push_cast,↓reduceIte,CI,Qd,FV,Gq E,ET,F1,NQ,PU I,U,lc,ll,decide_true,decide_false,cr,g1,g2,g3,g4,g5,g6,eq_false g7];have d0:=P7;refine F0 (fun i:Nat=>[(0,.slc (nz 3 (c.map Da)) (c.map Da) false),(2,.int .i64 right),(3,.int .i64 fr),(4,Dn ac),(5,.int .i64 size),(7,.ptr 0 0),(13,.ptr 1 0),(15,.int .i64 (i:Int))]) (fun _=>[⟨false,1,D0 v,false⟩,⟨false,1,Dr (Eh R.code) R.env R.am R.er (H6 R.lv),false⟩]) (fun i=>i≤L.length∧∀ x∈L.take i,x≠Dp) (fun i=>L.length - i) 0 (by simp only[push_cast,↓reduceIte,CI,CP,CM,CJ,↓CL,P5,PO,Qa,PY] <;> rfl) ⟨A4 _,by intro x hx; simp at hx⟩ ?_;rintro i ⟨hi,a9⟩;unfold pr;simp (disch:=first|omega|decide) only[push_cast,↓reduceIte,CI,U,ll];refine E3 (fun d2=>?_) (fun d2=>?_)
 ·have h4:i<L.length:=by omega
  have ix:=fun st=>KH st 32 C9 L false .i64 (i:Int) (by omega) (by omega);rw[show((i:Int)).toNat=i from by omega]at ix;have d3:=yXh L i h4;obtain⟨x,hx⟩:∃ x,L.getD i default=x:=⟨_,rfl⟩;rw[hx]at ix d3
  by_cases b5:x=Dp
  ·simp (disch:=first|omega|decide) only[push_cast,↓reduceIte,CI,CJ,U,ix,d0,wZ,eq_true b5,decide_true]
  ·simp (disch:=first|omega|decide) only[push_cast,↓reduceIte,CI,CP,CM,CJ,U,ix,d0,wZ,eq_false b5,decide_false,DM];refine E5 (i+1) ⟨by show i+1≤L.length; omega,?_⟩ (by show L.length - (i+1)<L.length - i; omega) ?_
   ·rw[d3];intro y hy;rcases AO.1 hy with h | h
    ·exact a9 y h
    ·rw[AM.1 h]; exact b5
   ·simp only[push_cast,P5,PO,Qa,PY] <;> rfl
 ·have h5:∀ x∈L,x≠Dp:=by
   rw[AG (by omega)]at a9; exact a9
  have b6:¬ (i:Int)<(L.length:Int):=d2;clear a9 ht hr k0 hg hD;have s0:0≤size:=by omega
  have s1:size≤64:=by omega
  have b7:=yPh L fr ac size ⟨s0,by omega,by omega⟩;obtain⟨O,hO⟩:∃ O,HN L fr ac size.toNat=O:=⟨_,rfl⟩;have k5:O.length≤64:=by rw[← hO,pR]; omega
  rw[hO]at b7
  have ne:EK am:=by
   rw[← a8];refine Yux (uf _ (Yfm ?_));intro q;rw[q]at ab;rw[ab]at Y;simp at Y
  have n3:EK 77:=by unfold EK; omega
  have hp:right=0∨right=1:=by omega
  obtain⟨A,hA⟩:∃ A,A=He right L O:=⟨_,rfl⟩;obtain⟨B,hB⟩:∃ B,B=Hf right L O:=⟨_,rfl⟩;obtain⟨n,hn⟩:∃ n:Int,n=if right=0 then am else 77:=⟨_,rfl⟩
  obtain⟨m,hm⟩:∃ m:Int,m=if right=0 then 77 else am:=⟨_,rfl⟩
  obtain⟨pv,J⟩:∃ pv:D,pv=.int .i64 right:=⟨_,rfl⟩
  obtain⟨lA,lB,l2⟩:A.length≤64∧B.length≤64∧(2≤A.length∨2≤B.length):=by
   rw[hA,hB]; unfold He Hf; split <;> omega
  obtain⟨nO,mO⟩:EK n∧EK m:=by
   rw[hn,hm]; split <;> exact⟨by assumption,by assumption⟩
  have a5:(if right=0 then n else m)=am:=by
   rw[hn,hm]; split <;> rfl
  have a6:n=m↔am=77:=by
   rw[hn,hm]; split <;> omega
  have Y:(if right=0 then A else B)=L:=by
   rw[hA,hB]; unfold He Hf; split <;> rfl
  have sp:∀ k:Nat,(k:Int)=1 - right→DT (some ⟨false,1,LY L L,false⟩) 1 k (.slc (nz 32 (O.map C9)) (O.map C9) false)=some ⟨false,1,LY A B,false⟩:=by
   intro k hk;rw[hA,hB];rcases id hp with rfl | rfl
   ·obtain rfl:k=1:=by omega
    rfl
   ·obtain rfl:k=0:=by omega
    rfl
  obtain⟨N,hN,ba⟩:=Xe (A:=A) (B:=B) (by omega) (by omega)
  have d4:max (DL (A.length:Int)) (DL (B.length:Int))=(N:Int):=by
   rw[← sN (by omega) (by omega) (by omega) (by omega)]; exact hN
  have d5:1≤N:=by
   have h:=jX (n:=max (A.length:Int) (B.length:Int)) (by omega) (by omega);rw[show DL (max (A.length:Int) (B.length:Int))=(N:Int)from hN,AR]at h;apply Decidable.byContradiction;intro q;obtain rfl:N=0:=by omega
   rw[Int.pow_zero]at h;omega
  have aa:(A.length:Int)≤65536:=by omega
  have ae:(B.length:Int)≤65536:=by omega
  have bE:=Yjy (A:=A) (B:=B) aa ae hN;have cc:=Zl (Er A) (Er B);have rA:(Er A).1=(A.length:Int):=by rw[Rd A (by omega)]
  have rB:(Er B).1=(B.length:Int):=by rw[Rd B (by omega)]
  have cd:=ux A;have ce:=ux B;rw[show Kb A=0 from if_pos (by omega)]at cd;rw[show Kb B=0 from if_pos (by omega)]at ce;have d6:Mp [.int .i64 (A.length:Int)]=some (.int .i64 (DL (A.length:Int))):=MW _;have d7:Mp [.int .i64 (B.length:Int)]=some (.int .i64 (DL (B.length:Int))):=MW _;have q1:=UJ ⟨1,0,0,0,0⟩ 0 1 n (Er A) 10;have O1:=(YCi (n:=n) (own:=Er A) (by omega)).1 nO;rw[O1.1,O1.2]at q1;have y1:=Oa c v (LJ n (Er A)) (GM m (Er B)) 10 ⟨by omega,E,by simp[GM,GH]⟩
  have fa:DN EG [(0,1,.int .i64 1),(1,1,.int .i64 1),(2,1,.int .i64 m),(3,33,.agg (.int .i64 (Er B).1::C8 (Er B).2))]=some (EF (GM m (Er B)) (.slc 0 [] true) (.slc 0 [] true)):=by
   rw[OE,Ru,S2,lV,YEj,RE]; rfl
  have i1:∀ st,DX st (.agg (EF (GM m (Er B)) (.slc 0 [] true) (.slc 0 [] true)))=some (Gy (GM m (Er B))):=fun st=>QK st _ ⟨rfl,rfl⟩;have fp:DN [.slc 0 [] true,.slc 0 [] true] [(0,1,.slc (nz 32 (L.map C9)) (L.map C9) false),(1,1,.slc (nz 32 (L.map C9)) (L.map C9) false)]=some (LY L L):=rfl;have a7:=fun y=>yPc R L y right ⟨by rw[ah]; exact dh,I,AS (rW (by rw[ah]; exact he) _) (by omega)⟩;have cg:=fun y=>Oa c v y (HT R L y right) 10 ⟨by omega,E,AS (Yee (by rw[ah]; exact he) _ _ _) (by omega)⟩;have d8:∀ st m,DX st (Gy m)=some (Gy m):=YDw;have n4:∀ st,DX st (.agg (Di Gd))=some (D1 Gd):=fun st=>zA st _
  by_cases hd:D3 A N 0=D3 B N 0
  ·rw[if_pos hd]at bE;have an:=YF5 v (c:=c) (n:=n) (m:=m) (A:=A) (B:=B) bE mO (by omega);rw[an.1,an.2]at y1;rw[bE]at cc;obtain⟨bb,ma⟩:∃ bb,KA (Er A) (Er B)=bb:=⟨_,rfl⟩;rw[ma]at cc
   obtain⟨V,mb,hx⟩:∃ V,(if n=m then JJ {LJ n (Er A)with a1:=m,c1:=Er B} 1 m else L2 n m A B)=V∧((am=77∧V.ph=4∧V.wn=1∧V.am=am)∨(¬ am=77∧V.ph=3∧FZ c v V (HT R L V right) 10=0∧(F9 c v V (HT R L V right) 10).ph=4∧(F9 c v V (HT R L V right) 10).wn=right∧(F9 c v V (HT R L V right) 10).am=am)):=by
    refine⟨_,rfl,?_⟩
    by_cases hq:n=m
    ·rw[if_pos hq];refine .inl ⟨a6.1 hq,rfl,rfl,?_⟩
     show m=am
     rw[← a5]
     split <;> omega
    ·rw[if_neg hq];have ed:=YEv (O:=O) (n:=n) (m:=m) he ab (by omega) hp (by rw[← hA,← hB]; exact bE) hq (by rw[a5,a8]) R ah b4;rw[← hA,← hB,a8]at ed;exact .inr ⟨fun q=>hq (a6.2 q),rfl,ed⟩
   rw[mb]at y1;have bc:=a7 V;have py:=cg V;generalize mc:Er A=ra at*;generalize md:Er B=rb at*;generalize LJ n ra=xo at*;generalize GM m rb=mo at*;obtain⟨me,bd⟩:=ra;obtain⟨mf,be⟩:=rb;dsimp only at rA rB;subst rA rB;have mg:(V.ph=2)=False:=eq_false (by rcases hx with h | h <;> omega);rcases id hp with rfl | rfl
   all_goals
    simp only[reduceIte,Int.reduceEq]at hn hm Y;simp (disch:=first|omega|decide) only[push_cast,↓reduceIte,CI,CJ,CN,Gq E,ET,F1,M,U,Ku,Y0,SQ,MO,zv,mB,PJ,Vx,Tj,O4,FD,FN,Gt,EP,FO,EH,w9,ck,xW,xU,xV,mP,xp,xX,U7,decide_true,decide_false,eq_false b6,Fy,YA8,YA7,b7,fp,sp,cd,ce,← hn,← hm,q1,fa,i1,QV,y1,d6,d7,d4,mg,cc];refine F0 (fun _:Nat=>[(0,.slc (nz 3 (c.map Da)) (c.map Da) false),(2,pv),(7,.ptr 0 0),(13,.ptr 1 0),(16,.ptr 2 0),(21,.ptr 5 0),(22,.ptr 6 0),(24,.int .i64 (N:Int)),(25,.int .i64 (N:Int))]) (fun _=>[⟨false,1,D0 v,false⟩,⟨false,1,Dr (Eh R.code) R.env R.am R.er (H6 R.lv),false⟩,⟨false,1,LY A B,false⟩,⟨false,1,.int .i64 (A.length:Int)::C8 bd,false⟩,⟨false,1,.int .i64 (B.length:Int)::C8 be,false⟩,⟨false,1,[.int .i64 n,.int .i64 m],false⟩,⟨false,1,Dh V (Dw V.jn),false⟩,⟨false,1,Di bb,false⟩]) (fun _=>True) (fun _=>0) 0 (by simp only[push_cast,↓reduceIte,CI,CP,CM,CJ,P5,PO,Qa,PY,ir,mI,P4,PN,jl,gz,iv,mJ,J,Ydd,Yos] <;> rfl) trivial ?_;intro k hk;unfold gm;rcases hx with⟨h7,a3,m0,h9⟩ | ⟨h7,a3,p0,p2,p3,p4⟩
    ·simp (disch:=first|omega|decide) only[push_cast,↓reduceIte,CI,CJ,CN,MO,FN,NT,Pu,EH,mP,decide_true,decide_false,Int.reduceEq,J,a3,h9,m0,M,eq_true (a6.2 h7)]
    ·rw[p0]at py;simp (disch:=first|omega|decide) only[push_cast,↓reduceIte,CI,CJ,CN,Gq E,ET,F1,Su I,Ss,Sz,MO,Tj,O4,FD,FN,NT,Pu,Gt,EP,FO,EH,U7,decide_true,decide_false,Int.reduceEq,J,a3,bc,d8,zK,py,p2,p3,p4,M,Y]
  ·rw[if_neg hd]at bE;have an:=Yzo v (n:=n) (m:=m) (c:=c) aa ae hN d5 ba hd mO;rw[an.1,an.2]at y1
   have d9:∀ k<N,(GU c v n m A B N k).ph=2∧(GU c v n m A B N k).b=D8 A B N k:=fun k h=>by
    rw[show GU c v n m A B N k=GS (Hv n m A B) A B N k from if_pos h]; exact⟨rfl,rfl⟩
   have a3:=(d9 0 d5).1;have ed:=Yx9 (v:=v) (p:=right) (n:=n) (m:=m) he (by omega) ab h5 (by omega) k5 hp (N:=N) (by rw[← hA,← hB]; exact hN) ba (by rw[← hA,← hB]; exact hd) R ah b4;rw[← hA,← hB,a5]at ed;have bc:=a7 (GU c v n m A B N N);have py:=cg (GU c v n m A B N N);obtain⟨y,hy⟩:∃ y,GU c v n m A B N N=y:=⟨_,rfl⟩;rw[hy]at ed bc py;clear a7 cg;generalize mc:Er A=ra at*;generalize md:Er B=rb at*;generalize LJ n ra=xo at*;generalize GM m rb=mo at*;obtain⟨me,bd⟩:=ra;obtain⟨mf,be⟩:=rb;dsimp only at rA rB;subst rA rB;rcases id hp with rfl | rfl
   all_goals
    simp only[reduceIte,Int.reduceEq]at hn hm Y;simp (disch:=first|omega|decide) only[push_cast,↓reduceIte,CI,CJ,CN,Gq E,ET,F1,M,U,Ku,Y0,SQ,MO,zv,mB,PJ,Vx,Tj,O4,FD,FN,Gt,EP,FO,EH,w9,ck,xW,xU,xV,mP,xp,xX,U7,decide_true,decide_false,eq_false b6,Fy,YA8,YA7,b7,fp,sp,cd,ce,← hn,← hm,q1,fa,i1,QV,y1,d6,d7,d4,eq_true a3];refine F0 (fun k:Nat=>[(0,.slc (nz 3 (c.map Da)) (c.map Da) false),(2,pv),(7,.ptr 0 0),(13,.ptr 1 0),(16,.ptr 2 0),(21,.ptr 5 0),(22,.ptr 6 0),(24,.int .i64 (N:Int)),(25,.int .i64 (k:Int))]) (fun k=>[⟨false,1,D0 v,false⟩,⟨false,1,Dr (Eh R.code) R.env R.am R.er (H6 R.lv),false⟩,⟨false,1,LY A B,false⟩,⟨false,1,.int .i64 (A.length:Int)::C8 bd,false⟩,⟨false,1,.int .i64 (B.length:Int)::C8 be,false⟩,⟨false,1,[.int .i64 n,.int .i64 m],false⟩,⟨false,1,Dh (GU c v n m A B N k) (Dw (GU c v n m A B N k).jn),false⟩]) (fun k=>k≤N) (fun k=>N - k) 0 (by simp only[push_cast,↓reduceIte,CI,CP,CM,CJ,↓CL,P5,PO,Qa,PY,ir,mI,P4,PN,jl,gz,iv,mJ,J] <;> rfl) (A4 _) ?_;intro k hk;unfold gm
    by_cases c5:k<N
    ·have kb:(k:Int)≤16:=by omega
     obtain⟨m3,c6⟩:=d9 k c5;have m1:=Ycx (c:=c) (v:=v) (n:=n) (m:=m) (B:=B) c5 ba aa;have m2:=Ycw (c:=c) (v:=v) (n:=n) (m:=m) c5 ba aa ae he (by omega);simp (disch:=first|omega|decide) only[push_cast,↓reduceIte,CI,FN,decide_true,eq_true m3,kb];obtain⟨xm,ha⟩:∃ xm:Cse,({Hv n m A B with b:=EI (D8 A B N k) 0 (EY A (D8 A B N k)) (EX A (D8 A B N k))}:Cse)=xm:=⟨_,rfl⟩;rw[ha]at m1 m2;have hf:xm.b=EI (D8 A B N k) 0 (EY A (D8 A B N k)) (EX A (D8 A B N k)):=by rw[← ha]
     have hr:=Qg A B N k (by omega);have aA:=UY A B A (h:=N) (lv:=(N:Int) - k) (i:=idxS A B N k) aa (by omega) (by omega) (by omega) hr.1 hr.2;have aB:=UY A B B (h:=N) (lv:=(N:Int) - k) (i:=idxS A B N k) ae (by omega) (by omega) (by omega) hr.1 hr.2;have cA:=sF A (D8 A B N k);have cB:=sF B (EI (D8 A B N k) 0 (EY A (D8 A B N k)) (EX A (D8 A B N k)));rw[show F7 A (D8 A B N k)=0 from aA.1]at cA;rw[Yq6,Yq5,Yq7,show F7 B (D8 A B N k)=0 from aB.1,← hf]at cB;have p1:=Oa c v (GU c v n m A B N k) (Hs 0 (EY A (D8 A B N k)) (EX A (D8 A B N k))) 10 ⟨by omega,E,by simp[Hs,GH]⟩;have p2:=Oa c v xm (Hs 1 (EY B (D8 A B N k)) (EX B (D8 A B N k))) 10 ⟨by omega,E,by simp[Hs,GH]⟩;rw[m1.1,m1.2]at p1;rw[m2.1,m2.2]at p2;clear aA aB hr m1 m2;have fd:=Yha;have hh:∀ st p l r,DX st (.agg (EF (Hs p l r) (.slc 0 [] true) (.slc 0 [] true)))=some (Gy (Hs p l r)):=fun st p l r=>QK st _ ⟨rfl,rfl⟩;obtain⟨xk,h0⟩:∃ xk,GU c v n m A B N k=xk:=⟨_,rfl⟩;obtain⟨xn,h1⟩:∃ xn,GU c v n m A B N (k+1)=xn:=⟨_,rfl⟩;rw[h0]at p1 c6;rw[h1]at p2;rw[h0];generalize EY A (D8 A B N k)=l0 at*;generalize EX A (D8 A B N k)=r0 at*;generalize EY B (D8 A B N k)=l1 at*;generalize EX B (D8 A B N k)=r1 at*;rw[← c6]at cA;clear c6 hf;refine F0 (fun j:Nat=>[(0,.slc (nz 3 (c.map Da)) (c.map Da) false),(2,pv),(7,.ptr 0 0),(13,.ptr 1 0),(16,.ptr 2 0),(21,.ptr 5 0),(22,.ptr 6 0),(24,.int .i64 (N:Int)),(25,.int .i64 (k:Int)),(28,.int .i64 (j:Int))]) (fun j=>[⟨false,1,D0 v,false⟩,⟨false,1,Dr (Eh R.code) R.env R.am R.er (H6 R.lv),false⟩,⟨false,1,LY A B,false⟩,⟨false,1,.int .i64 (A.length:Int)::C8 bd,false⟩,⟨false,1,.int .i64 (B.length:Int)::C8 be,false⟩,⟨false,1,[.int .i64 n,.int .i64 m],false⟩,⟨false,1,Dh (Yl xk xm xn j) (Dw (Yl xk xm xn j).jn),false⟩]) (fun j=>j≤2) (fun j=>2 - j) 0 (by rw[yf]; simp only[push_cast,↓reduceIte,CI,CP,CM,CJ,↓CL,P5,PO,Qa,PY,ir,mI,P4,PN,jl,gz,iv,mJ,J] <;> rfl) (by omega) ?_;intro j hj;unfold pw;rcases(by omega:j=0∨j=1∨j=2)with rfl | rfl | rfl
     ·rw[yf];simp (disch:=first|omega|decide) only[push_cast,↓EZ,↓reduceIte,CI,CP,CM,CJ,CN,CT,CZ,↓CL,Gq E,ET,F1,MO,Tj,O4,FD,Og,Gt,EP,FO,EH,and_self,decide_true,J,cA,fd,hh,QV,p1,DM,P5,Qa,P4];refine E5 1 (by show 1≤2; omega) (by show 2 - 1<2 - 0; omega) ?_;rw[yg];simp only[push_cast,↓CL,PO,PY,PN,J] <;> rfl
     ·rw[yg];simp (disch:=first|omega|decide) only[push_cast,↓EZ,↓reduceIte,CI,CP,CM,CJ,CN,CT,CZ,↓CL,Gq E,ET,F1,Tj,O4,FD,Og,Gt,EP,FO,EH,U7,and_self,decide_true,J,cB,fd,hh,QV,p2,DM,P5,Qa,P4];refine E5 2 (by show 2≤2; omega) (by show 2 - 2<2 - 1; omega) ?_;rw[ym];simp only[push_cast,↓CL,PO,PY,PN,J] <;> rfl
     ·rw[ym];simp (disch:=first|omega|decide) only[push_cast,↓reduceIte,CI,CP,CM,CJ,CT,↓CL,and_self,decide_false,J,DM];refine E5 (k+1) (by show k+1≤N; omega) (by show N - (k+1)<N - k; omega) ?_;rw[h1];simp only[push_cast,P5,PO,Qa,PY,P4,PN,J] <;> rfl
    ·obtain rfl:k=N:=by omega
     rw[hy];rcases ed with⟨p1,p2,p3⟩ | ⟨p1,p0,p2,p3,p4⟩
     ·simp (disch:=first|omega|decide) only[push_cast,↓reduceIte,CI,CJ,FN,NT,Pu,decide_true,decide_false,Int.reduceEq,J,p1,p2,p3,M]
     ·rw[p0]at py;simp (disch:=first|omega|decide) only[push_cast,↓reduceIte,CI,CJ,CN,Gq E,ET,F1,Su I,Ss,Sz,MO,Tj,O4,FD,FN,NT,Pu,Gt,EP,FO,EH,U7,decide_true,decide_false,Int.reduceEq,J,p1,bc,d8,zK,py,p2,p3,p4,M,Y]
theorem law_CourtDecides:Contract Tryz.prog GG 4 (S4 [.slc tyIns,tyEv,.int .i64,.int .i64,.int .u8,.int .i64]):=by
 refine lE ykc (T:=tb [(18,dQ),(19,bU),(20,N2),(21,YX),(22,dS),(23,T3),(24,MS),(25,Mp),(26,N9),(27,cJ),(28,YY)] []) (DJ (all_cons Yy1 (all_cons XJ (all_cons RA (all_cons Yi7 (all_cons Yyz (all_cons yO (all_cons gE (all_cons QQ (all_cons cX (all_cons YFn (all_cons Yi2 all_nil))))))))))) all_nil) ?_;intro xs h;obtain⟨x0,xs,rfl,h0,h⟩:=SX h;obtain⟨x1,xs,rfl,h1,h⟩:=SX h;obtain⟨x2,xs,rfl,h2,h⟩:=SX h;obtain⟨x3,xs,rfl,h3,h⟩:=SX h;obtain⟨x4,xs,rfl,h4,h⟩:=SX h;obtain⟨x5,xs,rfl,h5,h⟩:=SX h;obtain rfl:=yZr h;obtain⟨y0,rfl,E⟩:=You h0;obtain⟨y1,rfl,I⟩:=YEg h1;obtain⟨y2,rfl,J,M⟩:=PM h2;obtain⟨y3,rfl,U,V⟩:=PM h3;obtain⟨y4,rfl⟩:=YEe h4;obtain⟨y5,rfl,Y,aa⟩:=PM h5;exact yDh y0 E y1 I y2 J M y3 U V y4 y5 Y aa
end Go.Proofs.YtijnglngaogdjaaGreatDoor.PI
