/-
  court: what an accepted opening of the last state proves.
  Conditions: none; these are lemmas.
-/
import Derived.Test.YtijnglngaogdjaaGreatDoorCtE
import Derived.Test.YtijnglngaogdjaaGreatDoorArZa
open Int renaming reduceNeg→CL
open Nat renaming reduceAdd→CJ,reduceEqDiff→CI,reduceLT→CP,reduceLeDiff→CN,reduceMul→CO
set_option linter.unusedVariables false
set_option linter.unusedSimpArgs false
namespace Go.Proofs.YtijnglngaogdjaaGreatDoor.PI
open Go
set_option linter.unusedSimpArgs false
set_option linter.unusedVariables false
theorem R4{y c M:Int}(hc:0<c)(E:y<M*c)(I:-y<M*c):-M<y.tdiv c∧y.tdiv c<M:=by
 rcases Ci y 0 with h | h
 ·have e:y.tdiv c=-((-y) / c):=by
   rw[← Bq (by omega),Int.neg_tdiv,Int.neg_neg]
  have J:=Int.ediv_lt_of_lt_mul hc I;have N:=BD (show 0≤-y by omega) (show 0≤c by omega);omega
 ·have e:y.tdiv c=y / c:=Bq h;have J:=Int.ediv_lt_of_lt_mul hc E;have N:=BD h (show 0≤c by omega);omega
variable {a b:Int}
theorem Xf(E:EI a)(hb:1≤b):EI (NB a b):=by
 unfold EI at E
 have key:-9007199254740993<NB a b∧NB a b<9007199254740993:=by
  unfold NB
  split
  ·rename_i h
   have I:a<0:=by
    rcases Ci a 0 with q | q
    ·exact q
    ·have:=Int.tmod_nonneg b q; omega
   have J:b≠1:=by rintro rfl; simp at h
   exact R4 (by omega) (by omega) (by omega)
  ·exact R4 (by omega) (by omega) (by omega)
 unfold EI; omega
theorem Yu1(E:EI a)(hb:1≤b):EI (NB (2*a+b) (2*b)):=by
 unfold EI at E
 have key:-9007199254740993<NB (2*a+b) (2*b)∧NB (2*a+b) (2*b)<9007199254740993:=by
  unfold NB
  split
  ·exact R4 (by omega) (by omega) (by omega)
  ·exact R4 (by omega) (by omega) (by omega)
 unfold EI; omega
theorem VA(E:EI a)(hb:1≤b):EI (Tl a b):=by
 unfold EI at E
 have key:-9007199254740993<Tl a b∧Tl a b<9007199254740993:=by
  unfold Tl
  split
  ·rename_i h
   have I:0<a:=by
    rcases Ci 0 a with q | q
    ·exact q
    ·have:=Int.tmod_nonneg b (show 0≤-a by omega);rw[Int.neg_tmod]at this; omega
   have J:b≠1:=by rintro rfl; simp at h
   exact R4 (by omega) (by omega) (by omega)
  ·exact R4 (by omega) (by omega) (by omega)
 unfold EI; omega
theorem lA(c:Int):EI (KC c).1∧0≤(KC c).2:=by
 unfold KC
 split
 ·rename_i h;exact⟨Px.1 h,CB _⟩
 ·exact⟨by unfold EI; simp,by simp⟩
theorem OF:EI 0:=by unfold EI; omega
theorem xJ:EI 1:=by unfold EI; omega
variable {m:Int}
theorem kX(E:EI a)(hb:EI b):EI (Er a b m).1∧0≤(Er a b m).2:=by
 unfold Er
 split
 ·split
  ·exact⟨OF,by simp⟩
  ·rename_i h;refine⟨?_,by simp⟩;dsimp only
   split
   ·exact Yu1 E (by omega)
   split
   ·exact Xf E (by omega)
   ·exact VA E (by omega)
 ·exact⟨OF,by simp⟩
theorem uY{op:Int}(E:EI a)(hb:EI b):EI (D6 op a b).1∧0≤(D6 op a b).2:=by
 unfold D6
 split
 ·unfold HI
  split
  ·exact lA _
  ·exact⟨OF,by simp⟩
 split
 ·unfold Hz
  split
  ·exact lA _
  ·exact⟨OF,by simp⟩
 split
 ·unfold HD
  split
  ·exact lA _
  ·exact⟨OF,by simp⟩
 split; · exact⟨by unfold EI at *; dsimp only; omega,by simp⟩
 split; · exact⟨by unfold EI at *; dsimp only; omega,by simp⟩
 split; · exact kX E hb
 split; · exact kX E hb
 split; · exact kX E hb
 split
 ·refine⟨?_,by simp⟩;dsimp only
  split
  ·exact xJ
  ·exact OF
 ·exact⟨OF,by simp⟩
structure AmtS (s:Sta):Prop where
 a:∀ n∈s.stack,EI n
 p:s.status=1→0<s.stack.length
theorem YCr{l:List Int}{i:Nat}(h:∀ n∈l,EI n):EI (Eb l i):=by
 unfold Eb;rw[Al]
 cases e:l[i]? with
 |none=>exact OF
 |some n=>exact h n (Ap e)
variable {s:Sta}{v:Int×List Int}
theorem Yss{x:Ins}(I:Gl x=true)(E:∀ n∈s.stack,EI n)(J:s.status=0)(hn:I7 x.op≤s.stack.length):AmtS (FL s (DT v b s x)):=by
 have t:∀ i,EI (Dd s i):=fun i=>YCr E;have er:∀ e:Int,0≤e→AmtS (FL s (.err e)):=fun e he=>⟨E,fun q=>by have q:10+e=1:=q; omega⟩
 have pp:∀ (k:Nat) (p:Option Int) (pc:Option Int),(∀ n,p=some n→EI n)→AmtS (FL s (.pop k p pc)):=fun k p pc M=>by
  refine⟨fun n hn=>?_,fun q=>by have q:s.status=1:=q; omega⟩;have hn:n∈s.stack.take (s.stack.length - k)++p.toList:=hn;grind
 unfold DT
 split
 ·split
  ·grind
  ·refine pp _ _ _ fun n e=>?_;cases e;have:=oO I;unfold EI; omega
 split
 ·split
  ·grind
  split
  ·grind
  split
  ·grind
  ·rename_i h;refine pp _ _ _ fun n e=>?_;cases e;unfold EI; omega
 split
 ·refine pp _ _ _ fun n e=>?_;simp only[AO]at e;subst e
  split
  ·exact xJ
  ·exact OF
 split
 ·grind
 split
 ·exact⟨E,fun q=>by have q:s.status=1:=q; omega⟩
 split
 ·rename_i h;refine⟨E,fun _=>?_⟩;have:I7 x.op=1:=by rw[h]; rfl
  show 0<s.stack.length
  omega
 split
 ·grind
 split
 ·refine pp _ _ _ fun n e=>?_;simp only[AO]at e;subst e;exact(uY (t 1) (t 0)).1
 ·exact er _ (uY (t 1) (t 0)).2
theorem Yw4{x:Ins}(I:Gl x=true)(E:∀ n∈s.stack,EI n)(J:s.status=0):AmtS (FO v b s x):=by
 unfold FO
 split
 ·exact⟨E,fun q=>by have q:(220:Int)=1:=q; omega⟩
 ·unfold G1
  split
  ·exact⟨E,fun q=>by have q:(10:Int)+200=1:=q; omega⟩
  ·rename_i h;exact Yss (s:=Ds s) I E J (by omega)
theorem pk{c:List Ins}{v:Int×List Int}:∀ (f:Nat) (s:Sta),AmtS s→∀ x∈Jj c v f s,AmtS x
 |0,s,h,x,E=>by
  simp only[Jj,AN]at E;grind
 |f+1,s,h,x,E=>by
  simp only[Jj,Ax]at E;rcases E with rfl | E
  ·exact h
  ·split at E
   ·rename_i J;refine pk f (Kl c v s) ?_ x E;unfold Kl
    split
    ·rename_i I
     have hv:(FE c).2=0:=by
      unfold HW at I;omega
     have hb:¬ JY c s 0:=by
      intro hb;unfold HW at I;grind
     unfold JY at hb;exact Yw4 (p6 (ON hv).2.2.1 (by omega)) h.a J
    ·exact⟨(fun n hn=>by cases hn),fun q=>by have q:(0:Int)=1:=q; omega⟩
   ·cases E
variable {c:List Ins}
theorem yZ0:∀ x∈Ko c v,AmtS x:=by
 refine pk _ _ ?_;unfold GF
 split
 ·exact⟨(fun n hn=>by cases hn),fun q=>by have q:(0:Int)=1:=q; omega⟩
 ·exact⟨(fun n hn=>by cases hn),fun q=>by have q:(0:Int)=1:=q; omega⟩
theorem Ydr{l:List Sta}(h:l≠[]):l[l.length - 1]?=some (JD l):=by
 unfold JD;rw[List.getLast?_eq_some_getLast h,List.getLast_eq_getElem,Am];rfl
variable {n:Int}
theorem Ylp(hn:1≤n)(E:AmtS s):(s.status=1→0<(Hv s n).top.length)∧(s.status=1→SG (Hv s n).top=(DZ s).1)∧(s.status≠1→(DZ s).1=0):=by
 have hk:s.status=1→Nh s n<s.stack.length:=by
  intro h;have:=E.p h;unfold Nh;omega
 refine⟨fun h=>?_,fun h=>?_,fun h=>?_⟩
 ·have:=hk h;simp only[Hv,AQ]; omega
 ·have J:=hk h;have I:=E.p h;unfold DZ;rw[if_pos ⟨h,I⟩];unfold Dd Nm Eb SG;simp only[Hv,AQ,Al,BO]
  congr 2
  omega
 ·unfold DZ;grind
def IS:Nat→Dig→Dig→List Dig→Bool
 |_,_,_,[]=>false
 |i,x,y,q::r=>
  let a:=if i % 2=0 then ET x q else ET q x
  let b:=if i % 2=0 then ET y q else ET q y
  decide (a=b∧x≠y) || IS (i / 2) a b r
theorem n6:∀ (p:List Dig) (i:Nat) (x y:Dig),x≠y→Ju i x p=Ju i y p→IS i x y p=true
 |[],i,x,y,h,e=>absurd e h
 |q::r,i,x,y,h,e=>by
  simp only[Ju]at e;simp only[IS,A6,decide_eq_true_eq]
  by_cases E:(if i % 2=0 then ET x q else ET q x)=(if i % 2=0 then ET y q else ET q y)
  ·grind
  ·exact .inr (n6 r _ _ _ E e)
theorem TB:∀ a:Bool,(a != a)=false:=by intro a; cases a <;> rfl
theorem Mt(E:Bool)(a b:Dig):GM Fg E (C9 a) (C9 b)=some (.bool (decide (a=b) != E)):=wy E a b
noncomputable def YC:List D→Option D:=Dk (α:=Int×Dig×Dig×List Dig) (fun a=>[.int .i64 a.1,C9 a.2.1,C9 a.2.2.1,.slc (nz 32 (a.2.2.2.map C9)) (a.2.2.2.map C9) false]) (fun a=>0≤a.1∧a.1<4611686018427387904∧a.2.2.2.length≤4294967296) (fun a=>.bool (IS a.1.toNat a.2.1 a.2.2.1 a.2.2.2))
theorem yN1(i:Int)(x:Dig)(y:Dig)(p:List Dig)(h:0≤i∧i<4611686018427387904∧p.length≤4294967296):YC [.int .i64 i,C9 x,C9 y,.slc (nz 32 (p.map C9)) (p.map C9) false]=some (.bool (IS i.toNat x y p)):=
 D7 (fun⟨a0,a1,E,I⟩ ⟨b0,b1,J,M⟩ h=>by simp only[Aa,D.slc.injEq,D.int.injEq,Li,KZ,true_and,and_true]at h; simp[h]) (i,x,y,p) h
set_option maxHeartbeats 4000000 in
set_option maxRecDepth 20000 in
theorem yZl(i:Int)(x:Dig)(y:Dig)(p:List Dig)(h:0≤i∧i<4611686018427387904∧p.length≤4294967296):@wW GG (tb [(95,PX)] []) Z8.code (Dc [.int .i64 i,C9 x,C9 y,.slc (nz 32 (p.map C9)) (p.map C9) false]) [] ⟨Dn Z8.res (.bool (IS i.toNat x y p))⟩:=by
 unfold Z8;simp (disch:=first|omega|decide) only[push_cast,↓reduceIte,CI]
 refine F9 (fun q:Nat×Int×Dig×Dig=>[(0,.int .i64 q.2.1),(3,.slc (nz 32 (p.map C9)) (p.map C9) false),(5,.ptr 0 0),(6,.ptr 1 0),(9,.int .i64 (q.1:Int))])
  (fun q=>[⟨false,1,C8 q.2.2.1,false⟩,⟨false,1,C8 q.2.2.2,false⟩])
  (fun q=>q.1≤p.length∧0≤q.2.1∧q.2.1≤i∧IS i.toNat x y p=IS q.2.1.toNat q.2.2.1 q.2.2.2 (p.drop q.1)) (fun q=>p.length - q.1) (0,i,x,y) (by simp only[push_cast,↓reduceIte,CI,CP,CN,CJ] <;> rfl) ⟨Bh _,h.1,CB _,rfl⟩ ?_
 rintro⟨j,k,u,w⟩ ⟨V,Y,h3,E⟩;simp only at V Y h3 E;unfold nC;simp (disch:=first|omega|decide) only[push_cast,↓reduceIte,CI];refine EU (fun h5=>?_) (fun h5=>?_)
 ·rw[jh p j (by omega),IS]at E;have U:(k / 2).toNat=k.toNat / 2:=by omega
  have N:=fun st=>Ks st 32 C9 p false .i64 (j:Int) (by omega) (by omega);rw[show((j:Int)).toNat=j from by omega]at N;generalize p.getD j default=q at*
  by_cases O:k % 2=1
  ·rw[if_neg (show ¬ k.toNat % 2=0 by omega),if_neg (show ¬ k.toNat % 2=0 by omega)]at E
   by_cases J:ET q u=ET q w
   ·by_cases M:u=w
    ·have I:IS i.toNat x y p=IS (k / 2).toNat (ET q u) (ET q w) (p.drop (j+1)):=by rw[E,U]; simp[M]
     simp (disch:=first|omega|decide) only[push_cast,↓reduceIte,CI,CP,CN,CJ,N,HP,Mt,P9,eq_true O,M,decide_true,TB,DN,OU];refine E2 (j+1,k / 2,ET q u,ET q w) ⟨by show j+1≤_; omega,by show 0≤k / 2; omega,by show k / 2≤i; omega,I⟩ (by show p.length - (j+1)<p.length - j; omega) ?_;grind
    ·have I:IS i.toNat x y p=true:=by rw[E]; simp[J,M]
     simp (disch:=first|omega|decide) only[push_cast,↓reduceIte,CI,CJ,N,HP,Mt,P9,eq_true O,J,eq_false M,decide_true,decide_false,I]
   ·have I:IS i.toNat x y p=IS (k / 2).toNat (ET q u) (ET q w) (p.drop (j+1)):=by rw[E,U]; simp[J]
    simp (disch:=first|omega|decide) only[push_cast,↓reduceIte,CI,CP,CN,CJ,N,HP,Mt,P9,eq_true O,eq_false J,decide_true,decide_false,DN,OU];refine E2 (j+1,k / 2,ET q u,ET q w) ⟨by show j+1≤_; omega,by show 0≤k / 2; omega,by show k / 2≤i; omega,I⟩ (by show p.length - (j+1)<p.length - j; omega) ?_;rfl
  ·rw[if_pos (show k.toNat % 2=0 by omega),if_pos (show k.toNat % 2=0 by omega)]at E
   by_cases J:ET u q=ET w q
   ·by_cases M:u=w
    ·have I:IS i.toNat x y p=IS (k / 2).toNat (ET u q) (ET w q) (p.drop (j+1)):=by rw[E,U]; simp[M]
     simp (disch:=first|omega|decide) only[push_cast,↓reduceIte,CI,CP,CN,CJ,N,HP,Mt,P9,eq_false O,M,decide_true,decide_false,TB,DN,OU];refine E2 (j+1,k / 2,ET u q,ET w q) ⟨by show j+1≤_; omega,by show 0≤k / 2; omega,by show k / 2≤i; omega,I⟩ (by show p.length - (j+1)<p.length - j; omega) ?_;grind
    ·have I:IS i.toNat x y p=true:=by rw[E]; simp[J,M]
     simp (disch:=first|omega|decide) only[push_cast,↓reduceIte,CI,CJ,N,HP,Mt,P9,eq_false O,J,eq_false M,decide_true,decide_false,I]
   ·have I:IS i.toNat x y p=IS (k / 2).toNat (ET u q) (ET w q) (p.drop (j+1)):=by rw[E,U]; simp[J]
    simp (disch:=first|omega|decide) only[push_cast,↓reduceIte,CI,CP,CN,CJ,N,HP,Mt,P9,eq_false O,eq_false J,decide_false,DN,OU];refine E2 (j+1,k / 2,ET u q,ET w q) ⟨by show j+1≤_; omega,by show 0≤k / 2; omega,by show k / 2≤i; omega,I⟩ (by show p.length - (j+1)<p.length - j; omega) ?_;rfl
 ·rw[List.drop_of_length_le (by omega)]at E;have E:IS i.toNat x y p=false:=E;simp (disch:=first|omega|decide) only[push_cast,↓reduceIte,CJ,E]
theorem Yg0:Contract Tryz.prog GG 41 YC:=
 Ed zQ (DI (all_cons Si all_nil) all_nil) (fun a h=>yZl a.1 a.2.1 a.2.2.1 a.2.2.2 h)
theorem Yck(o:Opn):(EW o).all D.isCell=true:=by
 rw[J8,EP];simp[D.isCell,Jf,EB]
section
variable (x:Mv) (j q:D) (r:List (Nat×Nat×D))
theorem WV(o:Opn):DO (Fo x j q) ((100,38,D0 o)::r)=DO (Fo {x with op:=o} (EB o.top) q) r:=Iw (l:=HC x j q) (X:=HB o (EB o.top)) rfl rfl (Pr x j q) rfl (by rw[Vh]; rfl) (by rw[Vh,J8]; exact Uu ..) (by rw[Vh]; exact Yck o)
theorem Yu8(p:List Dig):DO (Fo x j q) ((138,1,IL p)::r)=DO (Fo {x with path:=p} j (IL p)) r:=Iw (l:=HC x j q) (X:=[.c (IL p)]) rfl rfl (Pr x j q) rfl rfl rfl rfl
end
def JA(p:Int)(o:Opn)(l:List Dig):Mv:={Nw with kd:=3,pt:=p,op:=o,path:=l}
theorem oi(p:Int)(o:Opn)(l:List Dig):DO EM [(0,1,.int .i64 3),(1,1,.int .i64 p),(100,38,D0 o),(138,1,.slc (nz 32 (l.map C9)) (l.map C9) false)]=some (I5 (JA p o l)):=by
 rw[Rg,SM,XH,WV,Yu8,S0]; rfl
theorem N8(m:Mv):D.agg (I5 m)=G0 m:=rfl
def M9(n:Int)(own:Int×Dig):Cse:=⟨⟨1,0,0,0,0⟩,0,1,1,1450,n,0,own,(0,Du),Gz,-1,0,-1,[]⟩
def F4(n m:Int)(own:Int×Dig):Cse:=⟨⟨1,0,0,0,0⟩,0,1,3,1450,n,m,own,own,Gz,-1,0,-1,[]⟩
variable {own:Int×Dig}
theorem Yzm(h:0≤own.1∧own.1≤65536):(EI n→FW 0 1 n own 10=0∧KY ⟨1,0,0,0,0⟩ 0 1 n own 10=M9 n own)∧(¬ EI n→FW 0 1 n own 10=1):=by
 refine⟨fun ha=>Ykt ⟨by omega,by omega,by omega,by omega,by omega,ha.1,ha.2,by omega,by omega⟩ h,fun ha=>(Ycl (k:=aS) ?_).1⟩;unfold EI at ha; omega
theorem Xv(h:0≤own.1∧own.1≤65536)(hc:c.length≠0)(E:n≠m):(EI m→FQ c v (M9 n own) (G5 m own) 10=0∧GD c v (M9 n own) (G5 m own) 10=F4 n m own)∧(¬ EI m→FQ c v (M9 n own) (G5 m own) 10=1):=by
 have hb:=eE own h;have I:¬ c=[]:=fun q=>hc (by rw[q]; rfl);refine⟨fun ha=>OC (y:=F4 n m own) (e:=0) (.inl rfl) ⟨by simp[G5],by decide,by decide,.inr rfl⟩ (by show(10:Int)≤1450; omega) ?_,fun ha=>(OC (y:=M9 n own) (e:=1) (.inl rfl) ⟨by simp[G5],by decide,by decide,.inr rfl⟩ (by show(10:Int)≤1450; omega) ?_).1⟩
 ·simp[Gw,G5,M8,M9,ha,hb,E,I,Ra,F4]
 ·simp[Gw,G5,M8,M9,ha]
variable {p:Int}
theorem vF(h:1≤own.1∧own.1≤65536)(E:p=0∨p=1):Hw (F4 n m own) p=(own.1 - 1,true):=by
 have hb:=eE own ⟨by omega,h.2⟩
 have I:GN (F4 n m own) p=own.1:=by
  unfold GN;rw[if_pos (show Hb (F4 n m own).c0 (F4 n m own).c1=380 from hb)];unfold Jp
  split <;> rfl
 unfold Hw;rw[if_pos ⟨rfl,E⟩,I,if_neg (by omega)]
theorem vE(c:List Ins)(v:Int×List Int)(h:1≤own.1∧own.1≤65536)(E:p=0∨p=1)(o:Opn)(l:List Dig):Ng c v (F4 n m own) (JA p o l)=
  if GA own (own.1 - 1) (FV c v o) l=true then(if o.status≠0∧(o.status≠1∨0<o.top.length)then(ML (F4 n m own) (if o.status=1 then SG o.top else 0),0)else(F4 n m own,390))else(F4 n m own,40):=by
 have hb:=eE own ⟨by omega,h.2⟩;have I:=vF (n:=n) (m:=m) h E;have hc:Jp (F4 n m own) p=own:=by unfold Jp; split <;> rfl
 unfold Ng;rw[show(JA p o l).pt=p from rfl,I,if_pos rfl,if_pos (show Hb (F4 n m own).c0 (F4 n m own).c1=380 from hb),hc];rfl
theorem vG(c:List Ins)(v:Int×List Int)(E:p=0∨p=1)(o:Opn)(l:List Dig){y:Cse}{e:Int}(h:Ng c v (F4 n m own) (JA p o l)=(y,e)):FQ c v (F4 n m own) (JA p o l) 11=e∧GD c v (F4 n m own) (JA p o l) 11=if e=0 then y else GZ:=
 OC (y:=y) (e:=e) (.inr (.inr rfl)) ⟨by simp[JA],by decide,by decide,E⟩ (by show(11:Int)≤1450; omega) (by
  rw[← h];simp[Gw,JA])
theorem Yku(c:List Ins)(v:Int×List Int)(h:1≤own.1∧own.1≤65536)(I:p=0∨p=1)(o:Opn)(l:List Dig)(N:FQ c v (F4 n m own) (JA p o l) 11=0):o.status≠0∧(GD c v (F4 n m own) (JA p o l) 11).ph=4∧GA own (own.1 - 1) (FV c v o) l=true:=by
 obtain⟨⟨y,e⟩,E⟩:∃ q,Ng c v (F4 n m own) (JA p o l)=q:=⟨_,rfl⟩;obtain⟨J,M⟩:=vG c v I o l E;rw[N]at J;subst J;rw[if_pos rfl]at M;rw[M];rw[vE c v h I]at E
 split at E
 ·rename_i hi
  split at E
  ·rename_i O;simp only[Az]at E;obtain⟨rfl,_⟩:=E;exact⟨O.1,rfl,hi⟩
  ·simp at E
 ·simp at E
theorem Yl3{i:Int}{x y:Dig}{l:List Dig}(E:GA own i x l=true)(I:GA own i y l=true):x=y∨IS i.toNat x y l=true:=by
 unfold GA at E I;simp only[decide_eq_true_eq]at E I
 by_cases h:x=y
 ·exact .inl h
 ·exact .inr (n6 l _ _ _ h (E.2.2.2.2.trans I.2.2.2.2.symm))
theorem Ycm(c:List Ins)(v:Int×List Int)(h:1≤own.1∧own.1≤65536)(I:p=0∨p=1){k:Int}(hk:1≤k)(O:AmtS s)(J:s.status≠0)(hl:s.stack.length≤64)(l:List Dig)(hi:GA own (own.1 - 1) (Es c v s) l=true) :
  FQ c v (F4 n m own) (JA p (Hv s k) l) 11=0∧GD c v (F4 n m own) (JA p (Hv s k) l) 11=ML (F4 n m own) (DZ s).1:=by
 have M:=Ync (c:=c) (v:=v) (vB s k) hl;obtain⟨t1,t2,t3⟩:=Ylp hk O
 have U:Ng c v (F4 n m own) (JA p (Hv s k) l)=(ML (F4 n m own) (DZ s).1,0):=by
  rw[vE c v h I,M,if_pos hi];have N:(Hv s k).status=s.status:=rfl;rw[N]
  by_cases E:s.status=1
  ·rw[if_pos ⟨J,.inr (t1 E)⟩,if_pos E,t2 E]
  ·rw[if_pos ⟨J,.inl E⟩,if_neg E,t3 E]
 have:=vG c v I _ _ U;rwa [if_pos rfl]at this
set_option maxHeartbeats 4000000 in
set_option maxRecDepth 20000 in
theorem yE5(c:List Ins)(hc:c.length≤maxLen)(v:Int×List Int)(hv:v.2.length=16)(N:Int×Int)(c1:-9223372036854775808≤N.1)(c2:N.1<9223372036854775808)(c3:-9223372036854775808≤N.2)(c4:N.2<9223372036854775808)(p:Int)(kb:-9223372036854775808≤p)(kc:p<9223372036854775808)(o:Opn)(ho:o.top.length≤maxLen)(n:Int)(kd:-9223372036854775808≤n)(ke:n<9223372036854775808):@wW GG (tb [(18,cw),(19,aT),(22,cz),(23,TX),(24,MH),(34,TY),(38,cy),(39,cI),(40,Qr),(41,YC),(42,T3),(43,R9)] []) ak.code (Dc [.slc (nz 3 (c.map Da)) (c.map Da) false,Ez v,.agg [.int .i64 (Prod.fst N),.int .i64 (Prod.snd N)],.int .i64 p,D0 o,.int .i64 n]) [] ⟨Dn ak.res (.bool true)⟩:=by
 have c5:c.length≤9223372036854775807:=AT hc jY;have J:EA v:=hv;obtain⟨a0,a1⟩:=N;have V:=Ynn c v ⟨c5,J⟩;have lc:∀ st,ER st false (.slc (nz 3 (c.map Da)) (c.map Da) false)=some (.int .i64 (c.length:Int)):=fun st=>by simp[ER,Jq,E4]
 have l4:∀ lent,Dy (some ⟨false,1,EW o,lent⟩) 1 false 4=some (EB o.top):=fun lent=>by rw[J8]; exact aC ..
 have lo:∀ st,ER st false (EB o.top)=some (.int .i64 (o.top.length:Int)):=fun st=>by simp[ER,Jq,E4,EB]
 unfold ak
 by_cases cb:¬ (FE c).2=0
 ·have E:EA (H4 c v).env:=by rw[show H4 c v=N5 from if_neg cb]; rfl
  have M:True:=trivial;have I:True:=trivial;have ll:True:=trivial
  by_cases g1:(40:Int)<c.length
  ·simp (disch:=first|omega|decide) only[push_cast,↓reduceIte,CI,CJ,CL,Kh,E8,FI J,ED,Fu,J6,Hp,Js,Kd E,lc,decide_true,V,g1]
  ·generalize (FE c).2=e at*;simp (disch:=first|omega|decide) only[push_cast,↓reduceIte,CI,CJ,CL,Kh,E8,FI J,ED,Fu,J6,Hp,Js,Kd E,lc,decide_false,V,g1,eq_false cb]
 have he:=Cz.1 cb;obtain⟨kf,kg,kh,_⟩:=ON he;obtain⟨Dm,tl,hD,ht,hr,k0,hg⟩:=cM (v:=v) he;have dd:=zZ (v:=v) he;obtain⟨R,hR⟩:∃ R,H4 c v=R:=⟨_,rfl⟩;have c6:R.code=c:=by rw[← hR]; unfold H4; rw[if_pos he]
 have c7:R.env=v:=by rw[← hR]; unfold H4; rw[if_pos he]
 obtain⟨L,hL⟩:∃ L,R.lv=L:=⟨_,rfl⟩;have cd:L=(Ko c v).map (Es c v):=by rw[← hL,← hR]; unfold H4; rw[if_pos he]
 have k6:L.length=tl.length+1:=by rw[cd,ht]; simp
 have E:EA R.env:=by rw[c7]; exact J
 have de:Ko c v≠[]:=by rw[ht]; simp
 obtain⟨s,hs⟩:∃ s,JD (Ko c v)=s:=⟨_,rfl⟩;have d7:R.am=(DZ s).1:=by rw[← hR,← hs]; unfold H4; rw[if_pos he]
 rw[hR,he]at V;have I:∀ lent,Dy (some ⟨false,1,Dr (Et R.code) R.env R.am R.er (JB R.lv),lent⟩) 1 false 20=some (.slc (nz 32 (L.map C9)) (L.map C9) false):=fun lent=>by rw[Ytj E,hL]; rfl
 have M:∀ lent,Dy (some ⟨false,1,Dr (Et R.code) R.env R.am R.er (JB R.lv),lent⟩) 1 false 18=some (.int .i64 (DZ s).1):=fun lent=>by rw[Yln E,d7]
 have ll:∀ st,ER st false (.slc (nz 32 (L.map C9)) (L.map C9) false)=some (.int .i64 (L.length:Int)):=fun st=>by simp[ER,Jq,E4]
 by_cases g1:(40:Int)<c.length
 ·simp (disch:=first|omega|decide) only[push_cast,↓reduceIte,CI,CJ,CL,Kh,E8,FI J,ED,Fu,J6,Hp,Js,Kd E,lc,decide_true,V,g1]
 have g2:¬ (L.length:Int)=0:=by omega
 have g3:¬ (64:Int)<(L.length:Int):=by omega
 by_cases Y:a0=a1
 ·simp (disch:=first|omega|decide) only[push_cast,↓reduceIte,CI,CJ,CO,CL,Kh,E8,FI J,ED,Fu,J6,Lb,Lc,Ee,Hp,Js,Kd E,I,lc,ll,decide_true,decide_false,V,g1,eq_false g2,g3,eq_true Y]
 by_cases g5:p<0
 ·simp (disch:=first|omega|decide) only[push_cast,↓reduceIte,CI,CJ,CO,CL,Kh,E8,FI J,ED,Fu,J6,Lb,Lc,Ee,Hp,Js,Kd E,I,lc,ll,decide_true,decide_false,V,g1,eq_false g2,g3,eq_false Y,g5]
 by_cases g6:1<p
 ·simp (disch:=first|omega|decide) only[push_cast,↓reduceIte,CI,CJ,CO,CL,Kh,E8,FI J,ED,Fu,J6,Lb,Lc,Ee,Hp,Js,Kd E,I,lc,ll,decide_true,decide_false,V,g1,eq_false g2,g3,eq_false Y,g5,g6]
 by_cases g7:(80:Int)<o.top.length
 ·simp (disch:=first|omega|decide) only[push_cast,↓reduceIte,CI,CJ,CO,CL,Kh,E8,FI J,ED,Fu,J6,Lb,Lc,Ee,Hp,l4,Js,Kd E,I,lc,ll,decide_true,decide_false,V,g1,eq_false g2,g3,eq_false Y,g5,g6,lo,g7]
 have hp:p=0∨p=1:=by omega
 have r1:(KT L).1=(L.length:Int):=by rw[yVz L (by omega)]
 have rt:=yYy L;rw[show KP L=0 from if_pos (by omega)]at rt;obtain⟨last,U⟩:∃ last:Int,(L.length:Int) - 1=last:=⟨_,rfl⟩;have k7:=NP (n:=(L.length:Int)) (by omega) (by omega);have c8:last<2 ^ (D1 L.length).toNat:=Int.lt_of_lt_of_le (by omega:last<(L.length:Int)) (Yfl (by omega) (by omega));have b4:=yJm L last (by omega) (by omega) c8;have aa:=yYz L last;rw[show LO L last=0 by unfold LO; rw[if_neg (by omega),if_pos ⟨by omega,c8⟩]]at aa;have c9:(I9 L last).length≤4294967296:=AT (yWs L last) (by decide);obtain⟨P,hP⟩:∃ P,I9 L last=P:=⟨_,rfl⟩;rw[hP]at aa c9 b4;have b5:(Ko c v)[(Ko c v).length - 1]?=some s:=by rw[← hs]; exact Ydr de
 have d8:(Ko c v).length=L.length:=by rw[cd]; simp
 have da:last.toNat=(Ko c v).length - 1:=by rw[d8]; omega
 have d9:=dd s (Ap b5);have ha:AmtS s:=yZ0 s (Ap b5);have hs0:s.status≠0:=(RunOK.get (ht ▸ hr) b5).2 (by omega);have db:L.getD last.toNat default=Es c v s:=by rw[cd,Al,AJ,da,b5]; rfl
 have hf:HK L 0 last=Es c v s:=by rw[← db]; show GB L last DU=_; unfold GB; rw[if_pos (by omega)]
 rw[hf]at b4;obtain⟨own,dh⟩:∃ own,KT L=own:=⟨_,rfl⟩;rw[dh]at rt r1 b4;have ce:1≤own.1∧own.1≤65536:=by omega
 have cf:own.1 - 1=last:=by omega
 obtain⟨O1,O2⟩:=Yzm (n:=a0) (own:=own) (by omega);obtain⟨A1,A2⟩:=Xv (c:=c) (v:=v) (n:=a0) (m:=a1) (own:=own) (by omega) (by omega) Y;have q1:=Um ⟨1,0,0,0,0⟩ 0 1 a0 own 10
 by_cases b6:¬ EI a0
 ·rw[O2 b6]at q1;obtain⟨w,g⟩:=own;simp (disch:=first|omega|decide) only[push_cast,↓reduceIte,CI,CJ,CO,CL,Kh,E8,FI J,ED,Fu,J6,Lb,Lc,Ee,Hp,l4,Js,Kd E,I,lc,ll,Hy,Mc,Ll,MW,Mu,Kq,LD,MR,Ly,decide_true,decide_false,Int.reduceEq,V,g1,eq_false g2,g3,eq_false Y,g5,g6,lo,g7,rt,q1]
 have b6:=Cz.1 b6;rw[(O1 b6).1,(O1 b6).2]at q1;have y1:=OP c v (M9 a0 own) (G5 a1 own) 10 ⟨by omega,J,by simp[G5,Nw]⟩
 have fa:DO EM [(0,1,.int .i64 1),(1,1,.int .i64 1),(2,1,.int .i64 a1),(3,33,.agg (.int .i64 own.1::C8 own.2))]=some (Fo (G5 a1 own) (.slc 0 [] true) (.slc 0 [] true)):=by
  rw[Rg,SM,XH,kx,yx,S0]; rfl
 have i1:∀ st,DW st (.agg (Fo (G5 a1 own) (.slc 0 [] true) (.slc 0 [] true)))=some (G0 (G5 a1 own)):=fun st=>RQ st _ ⟨rfl,rfl⟩
 by_cases b7:¬ EI a1
 ·rw[A2 b7]at y1;generalize GD c v (M9 a0 own) (G5 a1 own) 10=z1 at*;generalize M9 a0 own=z0 at*;generalize G5 a1 own=m1 at*;obtain⟨w,g⟩:=own;simp (disch:=first|omega|decide) only[push_cast,↓reduceIte,CI,CJ,CO,CL,Kh,E8,FI J,ED,Fu,J6,Lb,Lc,Ee,Hp,l4,Js,Kd E,I,lc,ll,Hy,Mc,Ll,MW,Mu,Kq,LD,MR,Ly,Fs,Ga,EH,Fy,decide_true,decide_false,Int.reduceEq,V,g1,eq_false g2,g3,eq_false Y,g5,g6,lo,g7,rt,q1,fa,i1,L8,y1]
 have b7:=Cz.1 b7;rw[(A1 b7).1,(A1 b7).2]at y1;have ae:=sW (F4 a0 a1 own) p;rw[vF ce hp,cf]at ae;have af:=yYt R last ⟨by rw[c6]; exact c5,E⟩;rw[c6,c7,show H2 c v last=(s,0) by unfold H2; rw[if_pos he,if_neg (by omega),da,b5]]at af;have a3:=X7 c v o ⟨by omega,J,by omega⟩;have a4:=sw s (max 1 n) (by omega);have y2:=OP c v (F4 a0 a1 own) (JA p o P) 11 ⟨by omega,J,by show o.top.length≤_; omega⟩;have y3:=OP c v (F4 a0 a1 own) (JA p (Hv s (max 1 n)) P) 11 ⟨by omega,J,by show(Hv s (max 1 n)).top.length≤_; simp only[Hv,AQ]; omega⟩;have hF:=Yku c v (n:=a0) (m:=a1) ce hp o P;rw[cf]at hF;have hI:=fun h=>Yl3 (own:=own) (i:=last) (x:=FV c v o) (y:=Es c v s) (l:=P) h b4;have ca:=yN1 last (FV c v o) (Es c v s) P ⟨by omega,by omega,c9⟩;have hM:=Ycm c v (n:=a0) (m:=a1) ce hp (k:=max 1 n) (by omega) ha hs0 d9 P (by rw[cf]; exact b4);rw[hM.1,hM.2]at y3;have f3:=oi p o P;have f4:=oi p (Hv s (max 1 n)) P;obtain⟨am,h4⟩:∃ am,(DZ s).1=am:=⟨_,rfl⟩;rw[h4]at y3 M
 have en:∀ w,w=JR (F4 a0 a1 own) am→R9 [Dt (ML (F4 a0 a1 own) am),.int .i64 0,.int .i64 4,.int .i64 w,.int .i64 am]=some (.bool true):=fun w hw=>by
  have:=Ul (ML (F4 a0 a1 own) am) 0 4 w am;rwa [decide_eq_true ⟨rfl,.inl rfl,rfl,hw.symm,rfl⟩]at this
 have ew:JR (F4 a0 a1 own) am=if a0=am then 0 else if a1=am then 1 else -1:=rfl
 have bb:=fun st=>Ks st 32 C9 L false .i64 last (by omega) (by omega);rw[db]at bb;generalize FQ c v (F4 a0 a1 own) (JA p o P) 11=e2 at*;generalize GD c v (F4 a0 a1 own) (JA p o P) 11=z2 at*;generalize JR (F4 a0 a1 own) am=wn at*;generalize ML (F4 a0 a1 own) am=z3 at*;generalize F4 a0 a1 own=z4 at*;generalize M9 a0 own=z0 at*;generalize G5 a1 own=m1 at*;generalize JA p o P=m2 at*;generalize JA p (Hv s (max 1 n)) P=m3 at*;generalize Hv s (max 1 n)=o3 at*;generalize FV c v o=cl at*;generalize Es c v s=dg at*
 have key:(e2≠0)∨(e2=0∧o.status≠0∧z2.ph=4∧cl=dg)∨(e2=0∧o.status≠0∧z2.ph=4∧cl≠dg∧IS last.toNat cl dg P=true):=by
  by_cases h:e2=0
  ·obtain⟨k1,k2,k3⟩:=hF h
   by_cases hd:cl=dg
   ·exact .inr (.inl ⟨h,k1,k2,hd⟩)
   ·exact .inr (.inr ⟨h,k1,k2,hd,(hI k3).resolve_left hd⟩)
  ·exact .inl h
 have b8:(a0=am∧wn=0)∨(a0≠am∧a1=am∧wn=1)∨(a0≠am∧a1≠am∧wn=-1):=by
  rw[ew]
  by_cases h:a0=am
  ·exact .inl ⟨h,if_pos h⟩
  ·by_cases h2:a1=am
   ·exact .inr (.inl ⟨h,h2,by rw[if_neg h,if_pos h2]⟩)
   ·exact .inr (.inr ⟨h,h2,by rw[if_neg h,if_neg h2]⟩)
 clear hF hI ew O1 O2 A1 A2;obtain⟨w,g⟩:=own;rcases key with k1 | ⟨k1,k2,k3,k4⟩ | ⟨k1,k2,k3,k4,k5⟩
 ·rcases b8 with⟨b1,b2⟩ | ⟨b1,b2,b3⟩ | ⟨b1,b2,b3⟩
  ·have b3:¬ a1=am:=fun q=>Y (b1.trans q.symm);have O:=en 0 b2.symm;simp (disch:=first|omega|decide) only[push_cast,↓reduceIte,CI,CJ,CO,CL,Kh,E8,FI J,ED,Fu,J6,Lb,Lc,Ee,Hp,FF,l4,Fl,Js,Kd E,Ok E,M,Oi,OA,I,lc,ll,Hy,Mc,Ll,MW,Mu,Kq,LD,MR,Ly,Fs,Ga,EH,Fy,decide_true,decide_false,V,g1,eq_false g2,g3,eq_false Y,g5,g6,lo,g7,rt,q1,fa,i1,L8,y1,E1,U,ae,aa,af,a3,a4,y2,y3,f3,f4,N8,Of,Oj,He,Iv,Hd,Il,Kx,NL,eq_false k1,eq_true b1,eq_false b3,O]
  ·have O:=en 1 b3.symm;simp (disch:=first|omega|decide) only[push_cast,↓reduceIte,CI,CJ,CO,CL,Kh,E8,FI J,ED,Fu,J6,Lb,Lc,Ee,Hp,FF,l4,Fl,Js,Kd E,Ok E,M,Oi,OA,I,lc,ll,Hy,Mc,Ll,MW,Mu,Kq,LD,MR,Ly,Fs,Ga,EH,Fy,decide_true,decide_false,V,g1,eq_false g2,g3,eq_false Y,g5,g6,lo,g7,rt,q1,fa,i1,L8,y1,E1,U,ae,aa,af,a3,a4,y2,y3,f3,f4,N8,Of,Oj,He,Iv,Hd,Il,Kx,NL,eq_false k1,eq_false b1,eq_true b2,O]
  ·have O:=en (-1) b3.symm;simp (disch:=first|omega|decide) only[push_cast,↓reduceIte,CI,CJ,CO,CL,Kh,E8,FI J,ED,Fu,J6,Lb,Lc,Ee,Hp,FF,l4,Fl,Js,Kd E,Ok E,M,Oi,OA,I,lc,ll,Hy,Mc,Ll,MW,Mu,Kq,LD,MR,Ly,Fs,Ga,EH,Fy,decide_true,decide_false,V,g1,eq_false g2,g3,eq_false Y,g5,g6,lo,g7,rt,q1,fa,i1,L8,y1,E1,U,ae,aa,af,a3,a4,y2,y3,f3,f4,N8,Of,Oj,He,Iv,Hd,Il,Kx,NL,eq_false k1,eq_false b1,eq_false b2,O]
 ·subst k1;rcases b8 with⟨b1,b2⟩ | ⟨b1,b2,b3⟩ | ⟨b1,b2,b3⟩
  ·have b3:¬ a1=am:=fun q=>Y (b1.trans q.symm);have O:=en 0 b2.symm;simp (disch:=first|omega|decide) only[push_cast,↓reduceIte,CI,CJ,CO,CL,Kh,E8,FI J,ED,Fu,J6,Lb,Lc,Ee,Hp,FF,K0,l4,Fl,Js,Kd E,Ok E,M,Oi,OA,I,lc,ll,Hy,Mc,Ll,MW,Mu,Kq,LD,MR,Ly,Fs,Fz,Ga,EH,Fy,decide_true,decide_false,V,g1,eq_false g2,g3,eq_false Y,g5,g6,lo,g7,rt,q1,fa,i1,L8,y1,E1,U,ae,aa,af,a3,a4,y2,y3,f3,f4,N8,Of,Oj,He,Iv,Hd,Il,Kx,NL,eq_false k2,eq_true k3,k4,bb,Mt,TB,eq_true b1,eq_false b3,O]
  ·have O:=en 1 b3.symm;simp (disch:=first|omega|decide) only[push_cast,↓reduceIte,CI,CJ,CO,CL,Kh,E8,FI J,ED,Fu,J6,Lb,Lc,Ee,Hp,FF,K0,l4,Fl,Js,Kd E,Ok E,M,Oi,OA,I,lc,ll,Hy,Mc,Ll,MW,Mu,Kq,LD,MR,Ly,Fs,Fz,Ga,EH,Fy,decide_true,decide_false,V,g1,eq_false g2,g3,eq_false Y,g5,g6,lo,g7,rt,q1,fa,i1,L8,y1,E1,U,ae,aa,af,a3,a4,y2,y3,f3,f4,N8,Of,Oj,He,Iv,Hd,Il,Kx,NL,eq_false k2,eq_true k3,k4,bb,Mt,TB,eq_false b1,eq_true b2,O]
  ·have O:=en (-1) b3.symm;simp (disch:=first|omega|decide) only[push_cast,↓reduceIte,CI,CJ,CO,CL,Kh,E8,FI J,ED,Fu,J6,Lb,Lc,Ee,Hp,FF,K0,l4,Fl,Js,Kd E,Ok E,M,Oi,OA,I,lc,ll,Hy,Mc,Ll,MW,Mu,Kq,LD,MR,Ly,Fs,Fz,Ga,EH,Fy,decide_true,decide_false,V,g1,eq_false g2,g3,eq_false Y,g5,g6,lo,g7,rt,q1,fa,i1,L8,y1,E1,U,ae,aa,af,a3,a4,y2,y3,f3,f4,N8,Of,Oj,He,Iv,Hd,Il,Kx,NL,eq_false k2,eq_true k3,k4,bb,Mt,TB,eq_false b1,eq_false b2,O]
 ·subst k1;rw[k5]at ca;rcases b8 with⟨b1,b2⟩ | ⟨b1,b2,b3⟩ | ⟨b1,b2,b3⟩
  ·have b3:¬ a1=am:=fun q=>Y (b1.trans q.symm);have O:=en 0 b2.symm;simp (disch:=first|omega|decide) only[push_cast,↓reduceIte,CI,CJ,CO,CL,Kh,E8,FI J,ED,Fu,J6,Lb,Lc,Ee,Hp,FF,K0,l4,Fl,Js,Kd E,Ok E,M,Oi,OA,I,lc,ll,Hy,Mc,Ll,MW,Mu,Kq,LD,MR,Ly,Fs,Fz,Ga,EH,Fy,decide_true,decide_false,V,g1,eq_false g2,g3,eq_false Y,g5,g6,lo,g7,rt,q1,fa,i1,L8,y1,E1,U,ae,aa,af,a3,a4,y2,y3,f3,f4,N8,Of,Oj,He,Iv,Hd,Il,Kx,NL,eq_false k2,eq_true k3,eq_false k4,bb,Mt,ca,eq_true b1,eq_false b3,O]
  ·have O:=en 1 b3.symm;simp (disch:=first|omega|decide) only[push_cast,↓reduceIte,CI,CJ,CO,CL,Kh,E8,FI J,ED,Fu,J6,Lb,Lc,Ee,Hp,FF,K0,l4,Fl,Js,Kd E,Ok E,M,Oi,OA,I,lc,ll,Hy,Mc,Ll,MW,Mu,Kq,LD,MR,Ly,Fs,Fz,Ga,EH,Fy,decide_true,decide_false,V,g1,eq_false g2,g3,eq_false Y,g5,g6,lo,g7,rt,q1,fa,i1,L8,y1,E1,U,ae,aa,af,a3,a4,y2,y3,f3,f4,N8,Of,Oj,He,Iv,Hd,Il,Kx,NL,eq_false k2,eq_true k3,eq_false k4,bb,Mt,ca,eq_false b1,eq_true b2,O]
  ·have O:=en (-1) b3.symm;simp (disch:=first|omega|decide) only[push_cast,↓reduceIte,CI,CJ,CO,CL,Kh,E8,FI J,ED,Fu,J6,Lb,Lc,Ee,Hp,FF,K0,l4,Fl,Js,Kd E,Ok E,M,Oi,OA,I,lc,ll,Hy,Mc,Ll,MW,Mu,Kq,LD,MR,Ly,Fs,Fz,Ga,EH,Fy,decide_true,decide_false,V,g1,eq_false g2,g3,eq_false Y,g5,g6,lo,g7,rt,q1,fa,i1,L8,y1,E1,U,ae,aa,af,a3,a4,y2,y3,f3,f4,N8,Of,Oj,He,Iv,Hd,Il,Kx,NL,eq_false k2,eq_true k3,eq_false k4,bb,Mt,ca,eq_false b1,eq_false b2,O]
theorem law_CourtProves:Contract Tryz.prog GG 9 (SH [.slc tyIns,tyEv,tI2,.int .i64,tyOpn,.int .i64]):=by
 refine jZ zT (T:=tb [(18,cw),(19,aT),(22,cz),(23,TX),(24,MH),(34,TY),(38,cy),(39,cI),(40,Qr),(41,YC),(42,T3),(43,R9)] []) (DI (all_cons Ywe (all_cons Xj (all_cons Ywb (all_cons wM (all_cons fH (all_cons wN (all_cons Ywc (all_cons Yv6 (all_cons kU (all_cons Yg0 (all_cons wK (all_cons wL all_nil)))))))))))) all_nil) ?_;intro xs h;obtain⟨x0,xs,rfl,h0,h⟩:=Sy h;obtain⟨x1,xs,rfl,h1,h⟩:=Sy h;obtain⟨x2,xs,rfl,h2,h⟩:=Sy h;obtain⟨x3,xs,rfl,h3,h⟩:=Sy h;obtain⟨x4,xs,rfl,h4,h⟩:=Sy h;obtain⟨x5,xs,rfl,h5,h⟩:=Sy h;obtain rfl:=yX0 h;obtain⟨y0,rfl,E⟩:=Ymi h0;obtain⟨y1,rfl,I⟩:=YBg h1;obtain⟨y2,z2,rfl,⟨J,M⟩,N,O⟩:=Yuz h2;obtain⟨y3,rfl,U,V⟩:=LC h3;obtain⟨y4,rfl,Y⟩:=Yux h4;obtain⟨y5,rfl,aa,ab⟩:=LC h5;exact yE5 y0 E y1 I (y2,z2) J M N O y3 U V y4 Y y5 aa ab
end Go.Proofs.YtijnglngaogdjaaGreatDoor.PI
