/-
  Integers: what the pure operations do within their bounds.
  Conditions: none; these are lemmas.
-/
import Derived.Test.YtijnglngaogdjaaGreatDoorEngR
import Derived.ChangeArms
import Derived.Lib.LaidTab
import Derived.ChangeSame
open Bool renaming false→f_,true→t_
open Option renaming some→s_
open BitVec renaming ofInt→C0
open List renaming range→C3,replicate→CZ
open UInt64 renaming ofNat→Dh
set_option maxHeartbeats 8000000
set_option maxRecDepth 20000
set_option linter.unusedSimpArgs false
set_option linter.unusedVariables false
noncomputable section
namespace Go.Proofs.YtijnglngaogdjaaGreatDoor.PI
open Go Go.RowKit
inductive Ty where
 |bool
 |int (k:IntKind)
 |str
 |slc (e:Ty)
 |agg (fs:List Ty)
 /-- a slice whose elements' type is told of in another way -/
 |opq (Q:D→Prop)
 deriving Inhabited
mutual
def Ty.size:Ty→Nat
 |.agg fs=>Ty.sizes fs
 |_=>1
def Ty.sizes:List Ty→Nat
 |[]=>0
 |f::r=>f.size+Ty.sizes r
end
inductive Has:Ty→D→Prop
 |bool (b:Bool):Has .bool (.bool b)
 |int (k:IntKind) (n:Int):(Lit.int k n).wf=t_→Has (.int k) (.int k n)
 |str (s:List UInt8):s.length≤maxLen→Has .str (.str s)
 |slc (e:Ty) (els:List D):(∀ (i:Nat) x,els[i]?=s_ x→Has e x)→els.length≤maxLen→Has (.slc e) (.slc (nz e.size els) els f_)
 |opq (Q:D→Prop) (sz:Nat) (els:List D):Q (.slc (nz sz els) els f_)→Has (.opq Q) (.slc (nz sz els) els f_)
 |agg (fs:List Ty) (xs:List D):fs.length=xs.length→(∀ (i:Nat) f x,fs[i]?=s_ f→xs[i]?=s_ x→Has f x)→Has (.agg fs) (.agg (xs.flatMap D.cells))
def gV(P:Program):Nat→List Field→List Ty→Bool
 |_,[],[]=>t_
 |o,f::fs,t::ts=>f.offset == o && P.cellsOf f.type == t.size && gV P (o+t.size) fs ts
 |_,_,_=>f_
def T3(tf:TypeId→Option Ty):List Field→Option (List Ty)
 |[]=>s_ []
 |f::fs=>match tf f.type,T3 tf fs with
  |some t,s_ ts=>s_ (t::ts)
  |_,_=>none
inductive TyD (P:Program):TypeId→D→Prop
 |bool (t:TypeId) (b:Bool):P.underlying t=s_ .bool→TyD P t (.bool b)
 |int (t:TypeId) (k:IntKind) (n:Int):P.underlying t=s_ (.int k)→(Lit.int k n).wf=t_→TyD P t (.int k n)
 |str (t:TypeId) (s:List UInt8):P.underlying t=s_ .string→s.length≤maxLen→TyD P t (.str s)
 |slc (t e:TypeId) (els:List D):P.underlying t=s_ (.slice e)→(∀ x∈els,TyD P e x)→els.length≤maxLen→TyD P t (.slc (nz (P.cellsOf e) els) els f_)
 |agg (t:TypeId) (fs:Array Field) (xs:List D):P.underlying t=s_ (.struct fs)→fs.toList.length=xs.length→(∀ (i:Nat) f x,fs.toList[i]?=s_ f→xs[i]?=s_ x→TyD P f.type x)→TyD P t (.agg (xs.flatMap D.cells))
 |arr (t:TypeId) (m:Nat) (e:TypeId) (xs:List D):P.underlying t=s_ (.array m e)→xs.length=m→(∀ x∈xs,TyD P e x)→TyD P t (.agg (xs.flatMap D.cells))
def Yq(P:Program):Nat→Nat→List Field→Bool
 |o,n,[]=>o == n
 |o,n,f::fs=>f.offset == o && Yq P (o+P.cellsOf f.type) n fs
def Sn(P:Program)(S:List TypeId)(t:TypeId):Bool:=match P.underlying t with
 |some .bool|some (.int _)|some .string=>P.cellsOf t == 1
 |some (.slice e)=>S.contains e && decide (0<P.cellsOf e) && P.cellsOf t == 1
 |some (.struct fs)=>fs.toList.all (fun f=>S.contains f.type) && Yq P 0 (P.cellsOf t) fs.toList
 |some (.array m e)=>S.contains e && P.cellsOf t == m*P.cellsOf e
 |_=>f_
def LG(P:Program)(S:List TypeId):Bool:=S.all (Sn P S)
def YOl(P:Program)(t:TypeId):List TypeId:=match P.underlying t with
 |some (.slice e)|some (.array _ e)=>[e]
 |some (.struct fs)=>fs.toList.map (·.type)
 |_=>[]
def R9(P:Program):Nat→List TypeId→List TypeId
 |0,S=>S
 |n+1,S=>R9 P n ((S++S.flatMap (YOl P)).eraseDups)
def GU(P:Program):Nat→TypeId→Option Ty
 |0,_=>none
 |n+1,t=>match P.underlying t with
  |some .bool=>s_ .bool
  |some (.int k)=>s_ (.int k)
  |some .string=>s_ .str
  |some (.slice e)=>match GU P n e with
   |some x=>if P.cellsOf e == x.size && decide (0<x.size)then s_ (.slc x)else none
   |none=>if LG P (R9 P 6 [t]) && (R9 P 6 [t]).contains t then s_ (.opq (TyD P t))else none
  |some (.struct fs)=>match T3 (GU P n) fs.toList with
   |some ts=>if gV P 0 fs.toList ts && P.cellsOf t == Ty.sizes ts then s_ (.agg ts)else none
   |none=>none
  |some (.array m e)=>match GU P n e with
   |some x=>if P.cellsOf e == x.size && P.cellsOf t == m*x.size then s_ (.agg (CZ m x))else none
   |none=>none
  |_=>none
def Yb(w:World):Nat→Nat→Prop:=fun b o=>(w.cell? ⟨b,o,none⟩).isSome=t_
def Lg(w:World):Ghost:={β:=id,γ:=id,Im:=Yb w}
variable {cs:List Value}{a:Addr}
section
variable {H:Type} {enc:TypeId×Value→H} {P:Program} {w:World}
def RepL(w:World)(xs:List D)(cs:List Value):Prop:=xs.length=cs.length∧(∀ (j:Nat) y v,xs[j]?=s_ y→cs[j]?=s_ v→RepV w (Lg w) [] y v)∧∀ y∈xs,y.pure1=t_
theorem RepL.nil:RepL w [] []:=⟨rfl,fun j y v h=>by simp at h,fun y h=>by cases h⟩
theorem RepL.append{xs ys:List D}{ds:List Value}(h:RepL w xs cs)(M:RepL w ys ds):RepL w (xs++ys) (cs++ds):=by
 refine⟨by simp[h.1,M.1],fun j y v E hv=>?_,fun y E=>?_⟩
 ·rcases A5 j xs.length with hj|hj
  ·rw[Av hj]at E;rw[Av (by rw[← h.1]; exact hj)]at hv;exact h.2.1 j y v E hv
  ·rw[AJ hj]at E;rw[AJ (by rw[← h.1]; exact hj),← h.1]at hv;exact M.2.1 _ y v E hv
 ·rcases AM.1 E with E|E
  ·exact h.2.2 y E
  ·exact M.2.2 y E
theorem RepL.one{x:D}{v:Value}(h:RepV w (Lg w) [] x v)(E:x.pure1=t_):RepL w x.cells [v]:=by
 rw[Zd E];refine⟨rfl,fun j y u M hu=>?_,fun y M=>?_⟩
 ·grind
 ·grind
theorem Yx6{s:ByteArray}:RepV w (Lg w) [] (.str s.data.toList) (.string s):=kz s _ rfl
mutual
def wt:D→Nat
 |.slc _ els _=>HT els+1
 |.agg l=>HT l
 |.str s=>s.length+1
 |.int _ _=>1
 |.bool _=>1
 |_=>0
def HT:List D→Nat
 |[]=>0
 |d::l=>wt d+HT l
end
mutual
def blk{H:Type}:DataW H→Nat
 |.lit (.string s)=>s.length+1
 |.lit _=>1
 |.nil=>1
 |.slice e _=>G0 e+1
 |.agg p=>G0 p
 |_=>0
def G0{H:Type}:List (DataW H)→Nat
 |[]=>0
 |d::l=>blk d+G0 l
end
theorem Uu:∀ (a b:List D),HT (a++b)=HT a+HT b
 |[],b=>by simp[HT]
 |x::a,b=>by rw[Ag,HT,HT,Uu a b]; omega
theorem fN(d:D):HT d.cells=wt d:=by cases d <;> simp[D.cells,HT,wt]
theorem qR:∀ (a:List D) (b:List (DataW H)),a.length=b.length→(∀ (i:Nat) x y,a[i]?=s_ x→b[i]?=s_ y→wt x≤blk y)→HT a≤G0 b
 |[],b,_,_=>by simp[HT]
 |x::a,[],h,_=>by simp at h
 |x::a,y::b,h,hle=>by
  have N:=hle 0 x y rfl rfl;have h2:=qR a b (by simpa using h) (fun i x y E M=>hle (i+1) x y (by simpa using E) (by simpa using M));simp only[HT,G0];omega
def ra(enc:TypeId×Value→H)(P:Program)(w:World)(sp:Nat→Bool)(t:TypeId)(ty:Ty):Prop:=
 ∀ (fuel:Nat) (cs:List Value) (x:DataW H×List MemPlace),DataW.trod enc P w 0 sp t_ fuel t cs=s_ x→∃ d,Has ty d∧RepL w d.cells cs∧cs.length=ty.size∧((∃ fs,ty=.agg fs)∨d.pure1=t_)∧wt d≤blk x.1
theorem yq{sp:Nat→Bool}{tf:TypeId→Option Ty}(N:∀ t ty,tf t=s_ ty→ra enc P w sp t ty)(fuel:Nat)(cs:List Value):∀ (fs:List Field) (E:List Ty) (o:Nat) (ys:List (DataW H×List MemPlace)),
  T3 tf fs=s_ E→gV P o fs E=t_→fs.mapM (fun f=>DataW.trod enc P w 0 sp t_ fuel f.type ((cs.drop f.offset).take (P.cellsOf f.type)))=s_ ys→
  ∃ xs:List D,E.length=xs.length∧(∀ (i:Nat) f x,E[i]?=s_ f→xs[i]?=s_ x→Has f x)∧RepL w (xs.flatMap D.cells) ((cs.drop o).take (Ty.sizes E))∧(o≤cs.length→o+Ty.sizes E≤cs.length)∧HT (xs.flatMap D.cells)≤G0 (ys.map (·.1))
 |[],E,o,ys,M,h2,h3=>by
  simp[T3]at M; subst M;exact⟨[],rfl,fun i f x h=>by simp at h,by simpa[Ty.sizes]using RepL.nil,fun h=>by simpa[Ty.sizes]using h,by simp[HT]⟩
 |f::fs,E,o,ys,M,h2,h3=>by
  unfold T3 at M
  split at M
  case h_2=>cases M
  rename_i t ad ht ae;simp only[Dp]at M; subst M;simp only[gV,Ad,beq_iff_eq]at h2;obtain⟨⟨e1,e2⟩,e3⟩:=h2;simp only[By,Bq,Az,BL,Dp]at h3;obtain⟨y,hy,ah,a0,rfl⟩:=h3;rw[e1,e2]at hy;obtain⟨d,d1,d2,d3,_,d5⟩:=N _ _ ht fuel _ _ hy;obtain⟨xs,x1,x2,x3,x4,x5⟩:=yq N fuel cs fs ad (o+t.size) ah ae e3 a0
  have hlen:o+t.size≤cs.length∨t.size=0:=by
   grind
  refine⟨d::xs,by simp[x1],?_,?_,?_,?_⟩
  ·grind
  ·have:=d2.append x3;simp only[Au,Ty.sizes];rw[CN,Bx];exact this
  ·intro ho;simp only[Ty.sizes];omega
  ·simp only[Au,Uu,fN,Aw,G0];omega
theorem xN{sp:Nat→Bool}{e:TypeId}{x:Ty}(E:ra enc P w sp e x)(hc:P.cellsOf e=x.size)(fuel:Nat)(cs:List Value):∀ (n k:Nat) (ys:List (DataW H×List MemPlace)),
  (List.range' k n).mapM (fun i=>DataW.trod enc P w 0 sp t_ fuel e ((cs.drop (i*P.cellsOf e)).take (P.cellsOf e)))=s_ ys→
  ∃ xs:List D,xs.length=n∧(∀ (i:Nat) y,xs[i]?=s_ y→Has x y)∧RepL w (xs.flatMap D.cells) ((cs.drop (k*x.size)).take (n*x.size))∧HT (xs.flatMap D.cells)≤G0 (ys.map (·.1))
 |0,k,ys,h=>⟨[],rfl,fun i y h=>by simp at h,by simpa using RepL.nil,by simp[HT]⟩
 |n+1,k,ys,h=>by
  simp only[B1,By,Bq,Az,BL,Dp]at h;obtain⟨y,M,N,aa,rfl⟩:=h;rw[hc]at M;obtain⟨d,d1,d2,d3,_,d5⟩:=E fuel _ _ M;obtain⟨xs,x1,x2,x3,x5⟩:=xN E hc fuel cs n (k+1) N aa;refine⟨d::xs,by simp[x1],?_,?_,?_⟩
  ·grind
  ·have:=d2.append x3;simp only[Au];rw[A6,Bz,Nat.add_comm (n*x.size),CN,Bx];grind
  ·simp only[Au,Uu,fN,Aw,G0];omega
theorem Ty.sizes_replicate(x:Ty):∀ m,Ty.sizes (CZ m x)=m*x.size
 |0=>by simp[Ty.sizes]
 |m+1=>by rw[BP,Ty.sizes,Ty.sizes_replicate x m,A6,Bz,Nat.add_comm]
theorem cells?_get{base:Nat}{n:Nat}(h:w.cells? base a n=s_ cs):cs.length=n∧∀ (j:Nat) v,cs[j]?=s_ v→w.cell? (a.add j)=s_ v:=by
 unfold World.cells? at h
 split at h
 ·have hl:cs.length=n:=by simpa using Lib.mapM_length h
  refine⟨hl,fun j v hv=>?_⟩;have hj:j<n:=by rw[← hl]; exact(Ab.1 hv).1
  obtain⟨b,hb,hf⟩:=Lib.mapM_at h j j (by simp[hj]);grind
 ·cases h
def pJ(enc:TypeId×Value→H)(P:Program)(w:World)(sp:Nat→Bool)(fuel:Nat)(t:TypeId):Prop:=
 ∀ (cs:List Value) (x:DataW H×List MemPlace),DataW.trod enc P w 0 sp t_ fuel t cs=s_ x→∃ d,TyD P t d∧RepL w d.cells cs∧cs.length=P.cellsOf t∧((∃ l,d=.agg l)∨d.pure1=t_)∧wt d≤blk x.1
theorem yF{sp:Nat→Bool}{fuel:Nat}(cs:List Value)(n:Nat):∀ (fs:List Field) (o:Nat) (ys:List (DataW H×List MemPlace)),(∀ f∈fs,pJ enc P w sp fuel f.type)→Yq P o n fs=t_→
  fs.mapM (fun f=>DataW.trod enc P w 0 sp t_ fuel f.type ((cs.drop f.offset).take (P.cellsOf f.type)))=s_ ys→
  ∃ xs:List D,fs.length=xs.length∧(∀ (i:Nat) f x,fs[i]?=s_ f→xs[i]?=s_ x→TyD P f.type x)∧RepL w (xs.flatMap D.cells) ((cs.drop o).take (n - o))∧o≤n∧HT (xs.flatMap D.cells)≤G0 (ys.map (·.1))
 |[],o,ys,_,E,N=>by
  simp only[Yq,beq_iff_eq]at E;subst E;exact⟨[],rfl,fun i f x h=>by simp at h,by simpa using RepL.nil,AF _,by simp[HT]⟩
 |f::fs,o,ys,M,E,N=>by
  simp only[Yq,Ad,beq_iff_eq]at E;obtain⟨e1,e3⟩:=E;simp only[By,Bq,Az,BL,Dp]at N;obtain⟨y,hy,ab,ac,rfl⟩:=N;rw[e1]at hy;obtain⟨d,d1,d2,d3,_,d5⟩:=M f (by simp) _ _ hy;obtain⟨xs,x1,x2,x3,x4,x5⟩:=yF cs n fs (o+P.cellsOf f.type) ab (fun g hg=>M g (by simp[hg])) e3 ac;refine⟨d::xs,by simp[x1],?_,?_,by omega,?_⟩
  ·grind
  ·have:=d2.append x3;simp only[Au];rw[show n - o=P.cellsOf f.type+(n - (o+P.cellsOf f.type)) by omega,CN,Bx];exact this
  ·simp only[Au,Uu,fN,Aw,G0];omega
theorem yx{sp:Nat→Bool}{fuel:Nat}{e:TypeId}(E:pJ enc P w sp fuel e)(cs:List Value):∀ (n k:Nat) (ys:List (DataW H×List MemPlace)),
  (List.range' k n).mapM (fun i=>DataW.trod enc P w 0 sp t_ fuel e ((cs.drop (i*P.cellsOf e)).take (P.cellsOf e)))=s_ ys→
  ∃ xs:List D,xs.length=n∧(∀ y∈xs,TyD P e y)∧RepL w (xs.flatMap D.cells) ((cs.drop (k*P.cellsOf e)).take (n*P.cellsOf e))∧HT (xs.flatMap D.cells)≤G0 (ys.map (·.1))
 |0,k,ys,h=>⟨[],rfl,(fun y h=>by cases h),by simpa using RepL.nil,by simp[HT]⟩
 |n+1,k,ys,h=>by
  simp only[B1,By,Bq,Az,BL,Dp]at h;obtain⟨y,hy,M,N,rfl⟩:=h;obtain⟨d,d1,d2,d3,_,d5⟩:=E _ _ hy;obtain⟨xs,x1,x2,x3,x5⟩:=yx E cs n (k+1) M N;refine⟨d::xs,by simp[x1],?_,?_,?_⟩
  ·grind
  ·have:=d2.append x3;simp only[Au];rw[A6,Bz,Nat.add_comm (n*P.cellsOf e),CN,Bx];grind
  ·simp only[Au,Uu,fN,Aw,G0];omega
theorem yXq{Q:D→Prop}{sz:Nat}{len cap:Nat}{bs:Nat→Nat}(N:0<sz)(ah:len≤cap)
  (E:∀ i,i<len→∃ d,Q d∧d.cells.length=sz∧(∀ (j:Nat) y,d.cells[j]?=s_ y→y.pure1=t_∧∃ v,w.cell? ((a.add (i*sz)).add j)=s_ v∧RepV w (Lg w) [] y v)∧wt d≤bs i) :
  ∃ els:List D,els.length=len∧(∀ x∈els,Q x)∧RepL w (D.slc (nz sz els) els f_).cells [.slice (s_ a) len cap]∧∀ (i:Nat) x,els[i]?=s_ x→wt x≤bs i:=by
 let f:Nat→D:=fun i=>if hi:i<len then(E i hi).choose else .junk
 have hf:∀ i (hi:i<len),f i=(E i hi).choose:=fun i hi=>by simp[f,hi]
 have ac:∀ (i:Nat) x,((C3 len).map f)[i]?=s_ x→∃ hi:i<len,x=(E i hi).choose:=by
  intro i x hx;simp only[AK,D0]at hx;obtain⟨i',M,rfl⟩:=hx;rw[Ab]at M;obtain⟨h2,h3⟩:=M;simp at h2 h3;grind
 refine⟨(C3 len).map f,by simp,fun x hx=>?_,?_,fun i x hx=>?_⟩
 ·grind
 ·refine RepL.one (RepV.nz (t:=f_) ?_) rfl;rcases BV len with h0|h0
  ·subst h0;exact .slcE _ f_ (s_ a) cap (fun h=>by cases h)
  ·have ab:a.spot=none:=by
    obtain⟨d1,d2,d3,_⟩:=(E 0 h0).choose_spec;obtain⟨_,v,M,_⟩:=d3 0 _ (Aj (by rw[d2]; exact N));rw[Ck]at M;have h2:(a.add 0).add 0=a:=by simp[Addr.add]
    rw[h2]at M;unfold World.cell? at M
    split at M
    ·split at M
     ·cases M
     ·rename_i hs; simpa using hs
    ·cases M
   obtain⟨b,off,spot⟩:=a;simp only at ab;subst ab;have hl:len=((C3 len).map f).length:=by simp
   conv=>rhs; rw[hl]
   refine RepV.slc_mk N ?_ (by simpa using ah) (fun h=>by cases h) ?_
   ·grind
   ·intro i j d hd;obtain⟨e',he,hj⟩:=IF hd;obtain⟨a0,rfl⟩:=ac i e' he;obtain⟨hp,v,hv,hr⟩:=(E i a0).choose_spec.2.2.1 j d hj;rw[LN,LN]at hv;refine⟨hp,?_,v,hv,hr⟩
    show(w.cell? ⟨b,off+i*sz+j,none⟩).isSome=t_
    rw[hv]; rfl
 ·grind
theorem wS{sp:Nat→Bool}{S:List TypeId}(hS:LG P S=t_):∀ (fuel:Nat) (t:TypeId),t∈S→pJ enc P w sp fuel t
 |0,t,_=>by intro cs x E; simp[DataW.trod]at E
 |fuel+1,t,ht=>by
  have ih:=fun t ht=>wS (sp:=sp) hS fuel t ht;have hc:Sn P S t=t_:=Ah.1 hS t ht;unfold Sn at hc;intro cs x E
  split at hc
  ·rename_i hu;simp only[beq_iff_eq]at hc;unfold DataW.trod at E;rw[hu]at E
   split at E <;> simp_all
   exact⟨_,.bool t _ hu,RepL.one (.bool _) rfl,.inr rfl,by rw[← E]; simp[wt,blk]⟩
  ·rename_i k hu;simp only[beq_iff_eq]at hc;unfold DataW.trod at E;rw[hu]at E
   split at E <;> simp_all
   rename_i k' m;obtain⟨⟨rfl,hw⟩,M⟩:=E;exact⟨_,.int t _ _ hu hw,RepL.one (.int _ _) rfl,.inr rfl,by rw[← M]; simp[wt,blk]⟩
  ·rename_i hu;simp only[beq_iff_eq]at hc;unfold DataW.trod at E;rw[hu]at E
   split at E <;> simp_all
   rename_i s;exact⟨_,.str t s.data.toList hu (by simpa using E.1),RepL.one Yx6 rfl,.inr rfl,by rw[← E.2]; simp[wt,blk]⟩
  ·rename_i e hu;simp only[Ad,Bi,decide_eq_true_eq,beq_iff_eq]at hc;obtain⟨⟨N,af⟩,ab⟩:=hc;rcases DataW.trod_slice hu E with⟨rfl,M⟩|⟨a,len,cap,elems,rest,m,hm,rfl,M,_,a7,bf,hlen,a8,_,_⟩
   ·refine⟨.slc (nz (P.cellsOf e) []) [] f_,.slc t e [] hu (fun x h=>by cases h) (AY _),RepL.one (.slcE _ f_ none 0 (fun h=>by cases h)) rfl,ab.symm,.inr rfl,by rw[M]; simp[wt,HT,blk]⟩
   ·obtain rfl:m=fuel:=by omega
    have ah:∀ i,i<len→∃ d,TyD P e d∧d.cells.length=P.cellsOf e∧(∀ (j:Nat) y,d.cells[j]?=s_ y→y.pure1=t_∧∃ v,w.cell? ((a.add (i*P.cellsOf e)).add j)=s_ v∧RepV w (Lg w) [] y v)∧wt d≤((elems[i]?).map fun y=>blk y.1).getD 0:=by
     intro i hi;have h1:=a8 i hi;rw[Aj (by omega)]at h1 ⊢;simp only[Az]at h1;obtain⟨cs',h2,h3⟩:=h1;obtain⟨d,d1,d2,d3,_,d5⟩:=ih e N cs' _ h3;obtain⟨h4,h5⟩:=cells?_get h2;refine⟨d,d1,by rw[d2.1,h4],fun j y hy=>⟨d2.2.2 y (An hy),?_⟩,by simpa using d5⟩;have hj:j<cs'.length:=by rw[← d2.1]; exact(Ab.1 hy).1
     exact⟨cs'[j],h5 j _ (Aj hj),d2.2.1 j y _ hy (Aj hj)⟩
    obtain⟨els,e1,e2,e3,e4⟩:=yXq af a7 ah;refine⟨_,.slc t e els hu e2 (by omega),e3,ab.symm,.inr rfl,?_⟩;rw[M];simp only[wt,blk];refine Nat.succ_le_succ (qR _ _ (by simp; omega) ?_);grind
  ·rename_i fs hu;simp only[Ad,Ah,Bi]at hc;obtain⟨N,a2⟩:=hc;unfold DataW.trod at E;rw[hu]at E;simp only at E
   split at E
   case isFalse=>cases E
   rename_i hl;simp only[D0]at E;obtain⟨ys,aa,rfl⟩:=E;obtain⟨xs,x1,x2,x3,x4,x5⟩:=yF cs (P.cellsOf t) fs.toList 0 ys (fun f hf=>ih f.type (N f hf)) a2 aa;refine⟨.agg (xs.flatMap D.cells),.agg t fs xs hu x1 x2,?_,hl,.inl ⟨_,rfl⟩,by simpa only[wt,blk]using x5⟩;rw[Bs,Nat.sub_zero,AL (by omega)]at x3;exact x3
  ·rename_i m e hu;simp only[Ad,Bi,beq_iff_eq]at hc;obtain⟨N,bg⟩:=hc;unfold DataW.trod at E;rw[hu]at E;simp only at E
   split at E
   case isFalse=>cases E
   rename_i hl;simp only[D0]at E;obtain⟨ys,aa,rfl⟩:=E;rw[Bo]at aa;obtain⟨xs,x1,x2,x3,x5⟩:=yx (ih e N) cs m 0 ys aa;refine⟨.agg (xs.flatMap D.cells),.arr t m e xs hu x1 x2,?_,hl,.inl ⟨_,rfl⟩,by simpa only[wt,blk]using x5⟩;rw[Ck,Bs,AL (by omega)]at x3;exact x3
  ·cases hc
theorem Yan{sp:Nat→Bool}:∀ (n:Nat) (t:TypeId) (ty:Ty),GU P n t=s_ ty→ra enc P w sp t ty
 |0,_,_,h=>by simp[GU]at h
 |n+1,t,ty,h=>by
  have ih:=Yan (sp:=sp) n;intro fuel cs x E;unfold GU at h
  cases fuel with
  |zero=>simp[DataW.trod]at E
  |succ fuel=>
  split at h
  ·rename_i hu;simp only[Dp]at h; subst h;unfold DataW.trod at E;rw[hu]at E
   split at E <;> simp_all
   exact⟨_,.bool _,RepL.one (.bool _) rfl,rfl,rfl,by rw[← E]; simp[wt,blk]⟩
  ·rename_i k hu;simp only[Dp]at h; subst h;unfold DataW.trod at E;rw[hu]at E
   split at E <;> simp_all
   rename_i k' m;obtain⟨⟨rfl,hw⟩,aa⟩:=E;exact⟨_,.int _ _ hw,RepL.one (.int _ _) rfl,rfl,rfl,by rw[← aa]; simp[wt,blk]⟩
  ·rename_i hu;simp only[Dp]at h; subst h;unfold DataW.trod at E;rw[hu]at E
   split at E <;> simp_all
   rename_i s;exact⟨_,.str s.data.toList (by simpa using E.1),RepL.one Yx6 rfl,rfl,rfl,by rw[← E.2]; simp[wt,blk]⟩
  ·rename_i e hu
   split at h
   case h_2=>
    split at h
    case isFalse=>cases h
    rename_i ab;simp only[Ad,Bi]at ab;simp only[Dp]at h; subst h;obtain⟨d,d1,d2,d3,d4,d5⟩:=wS ab.1 (fuel+1) t ab.2 cs x E
    have a0:P.cellsOf t=1:=by
     have:=Ah.1 ab.1 t ab.2;unfold Sn at this;grind
    rw[a0]at d3
    have:∃ sz els,d=.slc (nz sz els) els f_:=by
     cases d1 with
     |slc _ e' els M h2 h3=>exact⟨_,_,rfl⟩
     |agg _ fs xs M=>rw[hu]at M; cases M
     |arr _ m e' xs M=>rw[hu]at M; cases M
     |bool _ b M=>rw[hu]at M; cases M
     |int _ k n M=>rw[hu]at M; cases M
     |str _ s M=>rw[hu]at M; cases M
    obtain⟨sz,els,rfl⟩:=this;exact⟨_,.opq _ sz els d1,d2,d3,.inr rfl,d5⟩
   rename_i ex hex
   split at h
   case isFalse=>cases h
   rename_i hc;simp only[Ad,beq_iff_eq,decide_eq_true_eq]at hc;simp only[Dp]at h; subst h;rcases DataW.trod_slice hu E with⟨rfl,aa⟩|⟨a,len,cap,elems,rest,m,_,rfl,aa,_,a9,b3,hlen,ba,_,_⟩
   ·exact⟨_,.slc ex [] (fun i x h=>by simp at h) (AY _),RepL.one (.slcE _ f_ none 0 (fun h=>by cases h)) rfl,rfl,.inr rfl,by rw[aa]; simp[wt,HT,blk]⟩
   ·have N:∀ i (hi:i<len),∃ d,Has ex d∧d.cells.length=ex.size∧(∀ (j:Nat) y,d.cells[j]?=s_ y→y.pure1=t_∧∃ v,w.cell? ((a.add (i*ex.size)).add j)=s_ v∧RepV w (Lg w) [] y v)∧wt d≤blk (elems[i]'(by omega)).1:=by
     intro i hi;have M:=ba i hi;rw[hc.1,Aj (by omega)]at M;simp only[Az]at M;obtain⟨cs',h2,h3⟩:=M;obtain⟨d,d1,d2,d3,_,d5⟩:=ih e ex hex m cs' _ h3;obtain⟨h4,h5⟩:=cells?_get h2;refine⟨d,d1,by rw[d2.1,h4],fun j y hy=>⟨d2.2.2 y (An hy),?_⟩,d5⟩;have hj:j<cs'.length:=by rw[← d2.1]; exact(Ab.1 hy).1
     exact⟨cs'[j],h5 j _ (Aj hj),d2.2.1 j y _ hy (Aj hj)⟩
    let f:Nat→D:=fun i=>if hi:i<len then(N i hi).choose else .junk
    have hf:∀ i (hi:i<len),f i=(N i hi).choose:=fun i hi=>by simp[f,hi]
    have a3:∀ (i:Nat) x,((C3 len).map f)[i]?=s_ x→∃ hi:i<len,x=(N i hi).choose:=by
     grind
    refine⟨.slc (nz ex.size ((C3 len).map f)) ((C3 len).map f) f_,.slc ex _ (fun i x E=>?_) (by simp; omega),?_,rfl,.inr rfl,?_⟩
    ·grind
    ·refine RepL.one (RepV.nz (t:=f_) ?_) rfl;rcases BV len with h0|h0
     ·subst h0;exact .slcE _ f_ (s_ a) cap (fun h=>by cases h)
     ·have af:a.spot=none:=by
       obtain⟨d1,d2,d3,_⟩:=(N 0 h0).choose_spec;obtain⟨_,v,M,_⟩:=d3 0 _ (Aj (by rw[d2]; exact hc.2));rw[Ck]at M;have h2:(a.add 0).add 0=a:=by simp[Addr.add]
       rw[h2]at M;unfold World.cell? at M
       split at M
       ·split at M
        ·cases M
        ·rename_i hs; simpa using hs
       ·cases M
      obtain⟨b,off,spot⟩:=a;simp only at af;subst af;have hl:len=((C3 len).map f).length:=by simp
      conv=>rhs; rw[hl]
      refine RepV.slc_mk hc.2 ?_ (by simpa using a9) (fun h=>by cases h) ?_
      ·grind
      ·intro i j d hd;obtain⟨e',he,hj⟩:=IF hd;obtain⟨bb,rfl⟩:=a3 i e' he;obtain⟨hp,v,hv,hr⟩:=(N i bb).choose_spec.2.2.1 j d hj;rw[LN,LN]at hv;refine⟨hp,?_,v,hv,hr⟩
       show(w.cell? ⟨b,off+i*ex.size+j,none⟩).isSome=t_
       rw[hv]; rfl
    ·rw[aa];simp only[wt,blk];refine Nat.succ_le_succ (qR _ _ (by simp; omega) ?_);grind
  ·rename_i fs hu
   split at h
   case h_2=>cases h
   rename_i ts bc
   split at h
   case isFalse=>cases h
   rename_i hc;simp only[Ad,beq_iff_eq]at hc;simp only[Dp]at h; subst h;unfold DataW.trod at E;rw[hu]at E;simp only at E
   split at E
   case isFalse=>cases E
   rename_i hl;simp only[D0]at E;obtain⟨ys,ac,rfl⟩:=E;obtain⟨xs,x1,x2,x3,x4,x5⟩:=yq ih fuel cs fs.toList ts 0 ys bc hc.1 ac;refine⟨.agg (xs.flatMap D.cells),.agg ts xs x1 x2,?_,by rw[hl,hc.2]; rfl,.inl ⟨ts,rfl⟩,by simpa only[wt,blk]using x5⟩;rw[Bs,AL (by omega)]at x3;exact x3
  ·rename_i m e hu
   split at h
   case h_2=>cases h
   rename_i ex hex
   split at h
   case isFalse=>cases h
   rename_i hc;simp only[Ad,beq_iff_eq]at hc;simp only[Dp]at h; subst h;unfold DataW.trod at E;rw[hu]at E;simp only at E
   split at E
   case isFalse=>cases E
   rename_i hl;simp only[D0]at E;obtain⟨ys,ac,rfl⟩:=E;rw[Bo]at ac;obtain⟨xs,x1,x2,x3,x5⟩:=xN (ih e ex hex) hc.1 fuel cs m 0 ys ac;refine⟨.agg (xs.flatMap D.cells),.agg _ xs (by simp[x1]) ?_,?_,by rw[hl,hc.2]; exact(Ty.sizes_replicate ex m).symm,.inl ⟨_,rfl⟩,by simpa only[wt,blk]using x5⟩
   ·grind
   ·rw[Ck,Bs,AL (by omega)]at x3;exact x3
  ·cases h
end
end Go.Proofs.YtijnglngaogdjaaGreatDoor.PI
namespace Go.Proofs.YtijnglngaogdjaaGreatDoor.PI
open Go Go.RowKit Go.ChangeShapes
variable {v:Value}{a:Addr}{n:Nat}{before:List MemPlace}{args:Array Value}{s:ChangeSpec}{tys:List Ty}{sp:List D→Option D}{fn:Func}{G:DB}
section
variable {H:Type} {enc:TypeId×Value→H} {P:Program} {W W':World}
theorem Ow{α β:Type}{f g:α→Option β}:∀ {l:List α} {r:List β},l.mapM f=s_ r→(∀ x y,x∈l→y∈r→f x=s_ y→g x=s_ y)→l.mapM g=s_ r
 |[],r,h,_=>by simpa using h
 |a::l,r,h,E=>by
  simp only[By,Bq,Az,BL,Dp]at h ⊢;obtain⟨b,hb,N,M,rfl⟩:=h;exact⟨b,E a b (by simp) (by simp) hb,N,Ow M (fun x y hx hy=>E x y (by simp[hx]) (by simp[hy])),rfl⟩
theorem cell?_below(hb:Below W.heap.size W W')(h:W.cell? a=s_ v):W'.cell? a=s_ v:=by have E:=World.block_lt_of_cell? W a h;rw[← h];simp only[World.cell?,hb.block a.block E]
theorem cells?_below(hb:Below W.heap.size W W'){b:Nat}{cs:List Value}(h:W.cells? b a n=s_ cs):W'.cells? b a n=s_ cs:=by
 unfold World.cells? at h ⊢
 split at h
 ·rename_i E;rw[if_pos E];exact Ow h fun x y _ _ M=>cell?_below hb M
 ·cases h
theorem wR(hb:Below W.heap.size W W'){S:List TypeId}(hS:LG P S=t_):∀ (fuel:Nat) (t:TypeId),t∈S→∀ (cs:List Value) (x:DataW H×List MemPlace),DataW.trod enc P W 0 (fun _=>t_) t_ fuel t cs=s_ x→
  ∀ M:Nat→Bool,(∀ p∈x.2,M p.block=t_)→DataW.trod enc P W' 0 M t_ fuel t cs=s_ x
 |0,t,_=>by intro cs x E; simp[DataW.trod]at E
 |fuel+1,t,ht=>by
  have ih:=wR hb hS fuel;intro cs x E M ah;have hc:Sn P S t=t_:=Ah.1 hS t ht;unfold Sn at hc
  split at hc
  ·rename_i hu;unfold DataW.trod at E ⊢;grind
  ·rename_i k hu;unfold DataW.trod at E ⊢;grind
  ·rename_i hu;unfold DataW.trod at E ⊢;grind
  ·rename_i e hu;simp only[Ad,Bi,decide_eq_true_eq,beq_iff_eq]at hc;obtain⟨⟨aa,a4⟩,_⟩:=hc
   have ab:∀ (b:Addr) (y:DataW H×List MemPlace),(∀ p∈y.2,M p.block=t_)→(W.cells? 0 b (P.cellsOf e)).bind (DataW.trod enc P W 0 (fun _=>t_) t_ fuel e)=s_ y→(W'.cells? 0 b (P.cellsOf e)).bind (DataW.trod enc P W' 0 M t_ fuel e)=s_ y:=by
    intro b y N h1;simp only[Az]at h1 ⊢;obtain⟨cs',h2,h3⟩:=h1;exact⟨cs',cells?_below hb h2,ih e aa cs' y h3 M N⟩
   unfold DataW.trod at E ⊢;rw[hu]at E ⊢
   split at E
   all_goals try (first|(rename_i heq _; cases heq; done)|(rename_i heq; cases heq; done))
   all_goals try (simp_all; done)
   rename_i e' a len cap heq;cases heq;simp only[if_true]at E ⊢
   split at E
   case isFalse=>cases E
   rename_i af;rw[if_pos af];simp only[Az,D0]at E ⊢;obtain⟨elems,h1,rest,h2,rfl⟩:=E;have hle:elems.length=len:=by simpa using Lib.mapM_length h1
   have a7:rest.length=cap - len:=by simpa using Lib.mapM_length h2
   have aa:∀ y∈elems++rest,∀ p∈y.2,M p.block=t_:=fun y N p hp=>ah p (by
    grind)
   refine⟨elems,Ow h1 (fun i y _ N hi=>ab _ y (aa y (by simp[N])) hi),rest,?_,rfl⟩;rcases BV cap with h0|h0
   ·grind
   ·have a0:M a.block=t_:=ah (.cell a.block (a.off+0)) (by
     simp only[AM]
     left
     simp only[MemPlace.row,A1,AV];simp_all)
    rw[if_pos a0];exact Ow h2 (fun i y _ N hi=>ab _ y (aa y (by simp[N])) hi)
  ·rename_i fs hu;simp only[Ad,Ah,Bi]at hc;unfold DataW.trod at E ⊢;rw[hu]at E ⊢;simp only at E ⊢
   split at E
   case isFalse=>cases E
   rename_i hl;rw[if_pos hl];simp only[D0]at E ⊢;obtain⟨ys,ad,rfl⟩:=E;refine⟨ys,Ow ad (fun f y hf N hi=>?_),rfl⟩;grind
  ·rename_i m e hu;simp only[Ad,Bi,beq_iff_eq]at hc;unfold DataW.trod at E ⊢;rw[hu]at E ⊢;simp only at E ⊢
   split at E
   case isFalse=>cases E
   rename_i hl;rw[if_pos hl];simp only[D0]at E ⊢;obtain⟨ys,ad,rfl⟩:=E;refine⟨ys,Ow ad (fun i y _ N hi=>?_),rfl⟩;grind
  ·cases hc
theorem xg(hb:Below W.heap.size W W'):∀ (n:Nat) (t:TypeId) (ty:Ty),GU P n t=s_ ty→∀ (fuel:Nat) (cs:List Value) (x:DataW H×List MemPlace),DataW.trod enc P W 0 (fun _=>t_) t_ fuel t cs=s_ x→
  ∀ M:Nat→Bool,(∀ p∈x.2,M p.block=t_)→DataW.trod enc P W' 0 M t_ fuel t cs=s_ x
 |0,_,_,h=>by simp[GU]at h
 |n+1,t,ty,h=>by
  have ih:=xg hb n;intro fuel cs x E M ab;unfold GU at h
  cases fuel with
  |zero=>simp[DataW.trod]at E
  |succ fuel=>
  split at h
  ·rename_i hu;unfold DataW.trod at E ⊢;grind
  ·rename_i k hu;unfold DataW.trod at E ⊢;grind
  ·rename_i hu;unfold DataW.trod at E ⊢;grind
  ·rename_i e hu
   split at h
   case h_2=>
    split at h
    case isFalse=>cases h
    rename_i ac;simp only[Ad,Bi]at ac;exact wR hb ac.1 (fuel+1) t ac.2 cs x E M ab
   rename_i ex hex
   split at h
   case isFalse=>cases h
   rename_i hc;simp only[Ad,beq_iff_eq,decide_eq_true_eq]at hc;have a4:0<P.cellsOf e:=by rw[hc.1]; exact hc.2
   have ad:∀ (b:Addr) (y:DataW H×List MemPlace),(∀ p∈y.2,M p.block=t_)→(W.cells? 0 b (P.cellsOf e)).bind (DataW.trod enc P W 0 (fun _=>t_) t_ fuel e)=s_ y→(W'.cells? 0 b (P.cellsOf e)).bind (DataW.trod enc P W' 0 M t_ fuel e)=s_ y:=by
    intro b y N h1;simp only[Az]at h1 ⊢;obtain⟨cs',h2,h3⟩:=h1;exact⟨cs',cells?_below hb h2,ih e ex hex fuel cs' y h3 M N⟩
   unfold DataW.trod at E ⊢;rw[hu]at E ⊢
   split at E
   all_goals try (first|(rename_i heq _; cases heq; done)|(rename_i heq; cases heq; done))
   all_goals try (simp_all; done)
   rename_i e' a len cap heq;cases heq;simp only[if_true]at E ⊢
   split at E
   case isFalse=>cases E
   rename_i ah;rw[if_pos ah];simp only[Az,D0]at E ⊢;obtain⟨elems,h1,rest,h2,rfl⟩:=E;have hle:elems.length=len:=by simpa using Lib.mapM_length h1
   have a9:rest.length=cap - len:=by simpa using Lib.mapM_length h2
   have a0:∀ y∈elems++rest,∀ p∈y.2,M p.block=t_:=fun y N p hp=>ab p (by
    grind)
   refine⟨elems,Ow h1 (fun i y _ N hi=>ad _ y (a0 y (by simp[N])) hi),rest,?_,rfl⟩;rcases BV cap with h0|h0
   ·grind
   ·have a2:M a.block=t_:=ab (.cell a.block (a.off+0)) (by
     simp only[AM]
     left
     simp only[MemPlace.row,A1,AV];simp_all)
    rw[if_pos a2];exact Ow h2 (fun i y _ N hi=>ad _ y (a0 y (by simp[N])) hi)
  ·rename_i fs hu
   split at h
   case h_2=>cases h
   rename_i ts a1;unfold DataW.trod at E ⊢;rw[hu]at E ⊢;simp only at E ⊢
   split at E
   case isFalse=>cases E
   rename_i hl;rw[if_pos hl];simp only[D0]at E ⊢;obtain⟨ys,aa,rfl⟩:=E
   have a8:∀ f∈fs.toList,∃ ty,GU P n f.type=s_ ty:=by
    clear aa hl hu h;generalize fs.toList=l at a1
    induction l generalizing ts with
    |nil=>intro f hf; cases hf
    |cons f0 l ba=>
     unfold T3 at a1;grind
   refine⟨ys,Ow aa (fun f y hf N hi=>?_),rfl⟩;grind
  ·rename_i m e hu
   split at h
   case h_2=>cases h
   rename_i ex hex;unfold DataW.trod at E ⊢;rw[hu]at E ⊢;simp only at E ⊢
   split at E
   case isFalse=>cases E
   rename_i hl;rw[if_pos hl];simp only[D0]at E ⊢;obtain⟨ys,aa,rfl⟩:=E;refine⟨ys,Ow aa (fun i y _ N hi=>?_),rfl⟩;grind
  ·cases h
theorem yH(hb:Below W.heap.size W W'){n:Nat}:∀ (M:List TypeId) (tys:List Ty) (vs:List Value) (ds:List (DataW H)) (N:List MemPlace),M.mapM (GU P n)=s_ tys→DataW.TrodAll enc P W 0 (fun _=>t_) t_ M vs ds N→
  ∀ E:Nat→Bool,(∀ p∈N,E p.block=t_)→DataW.TrodAll enc P W' 0 E t_ M vs ds N
 |[],_,[],[],N,_,h=>fun _ _=>h
 |t::M,tys,v::vs,d::ds,N,ht,h=>by
  intro E aa;simp only[By,Bq,Az,BL,Dp]at ht;obtain⟨ty,h1,ab,h2,rfl⟩:=ht;obtain⟨p,q,⟨fuel,h3⟩,h4,rfl⟩:=h;exact⟨p,q,⟨fuel,xg hb n t ty h1 fuel _ _ h3 E (fun x hx=>aa x (by simp[hx]))⟩,yH hb M ab vs ds q h2 h4 E (fun x hx=>aa x (by simp[hx])),rfl⟩
 |[],_,_::_,_,_,_,h=>by cases h
 |[],_,[],_::_,_,_,h=>by cases h
 |_::_,_,[],_,_,_,h=>by cases h
 |_::_,_,_::_,[],_,_,h=>by cases h
theorem Yh9{sp:Nat→Bool}{t:TypeId}{ty:Ty}{d:DataW H}{ps:List MemPlace}(E:GU P n t=s_ ty)(hv:Value.okWide P W .any 0 t v)(h:DataW.Trod enc P W 0 sp t_ t v d ps) :
  ∃ x,Has ty x∧(RepV W (Lg W) [] x v∧purA x=t_)∧wt x≤blk d:=by
 obtain⟨fuel,h⟩:=h;obtain⟨x,N,h2,h3,h4,h5⟩:=Yan n t ty E fuel _ _ h;refine⟨x,N,?_,h5⟩
 have M:(∀ cs,v≠.agg cs)→x.pure1=t_→RepV W (Lg W) [] x v∧purA x=t_:=by
  intro ad hp;have ae:v.cells=#[v]:=by cases v <;> first|rfl|exact absurd rfl (ad _)
  rw[Zd hp,ae]at h2;refine⟨h2.2.1 0 x v rfl rfl,?_⟩;cases x <;> first|exact hp|(simp[D.pure1]at hp; done)
 have ab:∀ cs l,v=.agg cs→x=.agg l→RepV W (Lg W) [] x v∧purA x=t_:=by
  intro cs l e1 e2;subst e1; subst e2;refine⟨?_,?_⟩
  ·have:=RepV.agg (w:=W) (g:=Lg W) (st:=[]) l cs.toList (by simpa[D.cells,Value.cells]using h2.1) (fun i d u hd hu=>h2.2.1 i d u hd (by simpa[Value.cells]using hu));omega
  ·simp only[purA,Ah];exact h2.2.2
 unfold Value.okWide at hv
 cases n with
 |zero=>simp[GU]at E
 |succ n=>
 unfold GU at E
 split at E
 ·rename_i hu;simp only[Dp]at E; subst E;cases N;exact M (fun cs e=>by subst e; simp[hu,Cell.okWide,Cell.ok]at hv) rfl
 ·rename_i k hu;simp only[Dp]at E; subst E;cases N;exact M (fun cs e=>by subst e; simp[hu,Cell.okWide,Cell.ok]at hv) rfl
 ·rename_i hu;simp only[Dp]at E; subst E;cases N;exact M (fun cs e=>by subst e; simp[hu,Cell.okWide,Cell.ok]at hv) rfl
 ·rename_i e hu
  split at E
  case h_2=>
   split at E
   case isFalse=>cases E
   simp only[Dp]at E; subst E;cases N;exact M (fun cs e=>by subst e; simp[hu,Cell.okWide,Cell.ok]at hv) rfl
  split at E
  case isFalse=>cases E
  simp only[Dp]at E; subst E;cases N;exact M (fun cs e=>by subst e; simp[hu,Cell.okWide,Cell.ok]at hv) rfl
 ·rename_i fs hu
  split at E
  case h_2=>cases E
  split at E
  case isFalse=>cases E
  simp only[Dp]at E; subst E;simp only[hu]at hv;obtain⟨cs,rfl,_,_⟩:=hv
  cases N with
  |agg _ xs _ _=>exact ab cs _ rfl rfl
 ·rename_i m e hu
  split at E
  case h_2=>cases E
  split at E
  case isFalse=>cases E
  simp only[Dp]at E; subst E;simp only[hu]at hv;obtain⟨cs,rfl,_,_⟩:=hv
  cases N with
  |agg _ xs _ _=>exact ab cs _ rfl rfl
 ·cases E
inductive HasAll:List Ty→List D→Prop
 |nil:HasAll [] []
 |cons {t:Ty} {ts:List Ty} {x:D} {xs:List D}:Has t x→HasAll ts xs→HasAll (t::ts) (x::xs)
theorem vX{sp:Nat→Bool}{n:Nat}:∀ (M:List TypeId) (tys:List Ty) (vs:List Value) (ds:List (DataW H)) (N:List MemPlace),M.mapM (GU P n)=s_ tys→(∀ (j:Nat) t v,M[j]?=s_ t→vs[j]?=s_ v→Value.okWide P W .any 0 t v)→DataW.TrodAll enc P W 0 sp t_ M vs ds N→
  ∃ xs,HasAll tys xs∧xs.length=vs.length∧(∀ (i:Nat) d v,xs[i]?=s_ d→vs[i]?=s_ v→RepV W (Lg W) [] d v)∧(∀ d∈xs,purA d=t_)∧HT xs≤G0 ds
 |[],tys,[],[],N,E,_,_=>by
  simp at E; subst E;exact⟨[],.nil,rfl,fun i d v h=>by simp at h,(fun d h=>by cases h),by simp[HT]⟩
 |t::M,tys,v::vs,d::ds,N,E,hv,h=>by
  simp only[By,Bq,Az,BL,Dp]at E;obtain⟨ty,h1,aa,h2,rfl⟩:=E;obtain⟨p,q,h3,h4,rfl⟩:=h;obtain⟨x,x1,⟨x2,x3⟩,x5⟩:=Yh9 h1 (hv 0 t v rfl rfl) h3;obtain⟨xs,y1,y2,y3,y4,y5⟩:=vX M aa vs ds q h2 (fun j t v E ab=>hv (j+1) t v (by simpa using E) (by simpa using ab)) h4;refine⟨x::xs,.cons x1 y1,by simp[y2],?_,?_,?_⟩
  ·grind
  ·grind
  ·simp only[HT,G0]; omega
 |[],_,_::_,_,_,_,_,h=>by cases h
 |[],_,[],_::_,_,_,_,h=>by cases h
 |_::_,_,[],_,_,_,_,h=>by cases h
 |_::_,_,_::_,[],_,_,_,h=>by cases h
theorem yQj{K N:Nat}(hC:Contract P G K sp)(ab:fn.params.toList.mapM (GU P n)=s_ tys)(E:s.vars=[])
  (M:∃ tb,fn.resultTypes=#[tb]∧P.underlying tb=s_ .bool)
  (a1:∀ (H:Type) (ds:List (DataW H)),ds.length=fn.params.size→(s.fn H ds).results=[.lit (.bool t_)]∧(s.fn H ds).args=ds∧(s.fn H ds).vars=[])
  (a2:∀ xs,HasAll tys xs→HT xs≤N→sp xs=s_ (.bool t_))
   {ds gs:List (DataW H)}  (hG:GlobOK G W (Lg W)) (hN:G0 ds≤N)
  (ae:∀ (j:Nat) t v,fn.params[j]?=s_ t→args[j]?=s_ v→Value.okWide P W .any 0 t v)
  (hW:DataW.Whole enc P fn.params.toList s.vars f_ W args.toList ds gs before) :
  Calls P K args W fun e W'=>∃ v,e=.returned v∧s.post enc P fn f_ t_ f_ f_ W args v W':=by
 obtain⟨tb,M,a4⟩:=M;have ac:=hW;obtain⟨p,q,hA,hV,rfl,b1,b2⟩:=hW;rw[E]at hV
 have a5:gs=[]∧q=[]:=by
  cases gs with
  |nil=>exact⟨rfl,hV⟩
  |cons a l=>cases hV
 obtain⟨rfl,rfl⟩:=a5;obtain⟨xs,x1,x2,x3,x4,x5⟩:=vX fn.params.toList tys args.toList ds p ab (fun j t v ht hv=>ae j t v (by simpa using ht) (by simpa using hv)) hA
 have hlen:∀ (ts:List TypeId) (vs:List Value) (ds:List (DataW H)) (ps:List MemPlace),DataW.TrodAll enc P W 0 (fun _=>t_) t_ ts vs ds ps→ds.length=ts.length:=by
  intro ts
  induction ts with
  |nil=>intro vs ds ps h; cases vs <;> cases ds <;> first|rfl|cases h
  |cons t ts ih=>
   intro vs ds ps h
   cases vs with
   |nil=>cases h
   |cons v vs=>
    cases ds with
    |nil=>cases h
    |cons d ds=>
     obtain⟨_,_,_,h4,_⟩:=h;grind
 have a6:ds.length=fn.params.size:=by simpa using hlen _ _ _ _ hA
 have hc:=hC W (Lg W) xs args.toList (.bool t_) (a2 xs x1 (AZ x5 hN)) hG (fun b o h=>h) x2 x3 x4;rw[BK]at hc;refine hc.mono ?_;rintro e W' ⟨v,g',rfl,h1,_,_,_,_,hb⟩;have hv:=Mm h1;subst hv;obtain⟨f1,f2,f3⟩:=a1 H ds a6;refine⟨_,rfl,ds,[],p++[],[],p,[],ac,?_,?_,?_,?_,fun h=>by cases h⟩
 ·rw[Af,f1,M];exact⟨[],[],⟨1,by unfold DataW.trod; simp[a4,Value.cells]⟩,rfl,rfl⟩
 ·rw[Af,f2];refine yH hb _ tys _ _ _ ab hA _ fun x hx=>?_;simpa using ac.lt x (by simpa using hx)
 ·rw[Af,f3,E];rfl
 ·refine⟨hb.os,hb.output,fun i hi=>?_⟩;rw[hb.block i hi];grind
theorem law_contract{K:Nat}(hC:Contract P G K sp)(aa:fn.params.toList.mapM (GU P n)=s_ tys)(E:s.vars=[])
  (ab:∃ tb,fn.resultTypes=#[tb]∧P.underlying tb=s_ .bool)
  (ac:∀ (H:Type) (ds:List (DataW H)),ds.length=fn.params.size→(s.fn H ds).results=[.lit (.bool t_)]∧(s.fn H ds).args=ds∧(s.fn H ds).vars=[])
  (ad:∀ xs,HasAll tys xs→sp xs=s_ (.bool t_))
   {ds gs:List (DataW H)}  (hG:GlobOK G W (Lg W))
  (M:∀ (j:Nat) t v,fn.params[j]?=s_ t→args[j]?=s_ v→Value.okWide P W .any 0 t v)
  (hW:DataW.Whole enc P fn.params.toList s.vars f_ W args.toList ds gs before) :
  Calls P K args W fun e W'=>∃ v,e=.returned v∧s.post enc P fn f_ t_ f_ f_ W args v W':=
 yQj (N:=G0 ds) hC aa E ab ac (fun xs h _=>ad xs h) hG (AF _) M hW
def RW(g:Nat)(k:IntKind)(zs:List Int):DB:=fun n=>if n=g then s_ (.agg (zs.map fun z=>.int k z))else none
theorem YEe{M:String}{k:IntKind}{zs:List Int}{g:Nat}(h:Lib.TabIs P W M k zs)(hg:P.globalNamed M=s_ g):GlobOK (RW g k zs) W (Lg W):=by
 intro n d E;simp only[RW,As,Dp]at E;obtain⟨rfl,rfl⟩:=E
 have hj:∀ (j:Nat) (d:D),(D.agg (zs.map fun z=>D.int k z)).cells[j]?=s_ d→d=.int k (zs.getD j 0)∧W.cell? ⟨n,j,none⟩=s_ (.int k (zs.getD j 0)):=by
  intro j d E;simp only[D.cells,AK,D0]at E;obtain⟨z,N,rfl⟩:=E;have aa:j<zs.length:=(Ab.1 N).1;exact⟨by simp[Ai,N],h.cell hg j aa⟩
 refine .eptr _ 0 n 0 (fun j=>.int k (zs.getD j 0)) (fun j d E=>?_) (fun j d E=>?_) (fun j d E=>?_)
 ·rw[(hj j d E).1]; rfl
 ·have:=(hj j d E).2;rw[Aq];exact⟨by show(W.cell? ⟨n,j,none⟩).isSome=t_; rw[this]; rfl,this⟩
 ·rw[(hj j d E).1]; exact .int _ _
end
end Go.Proofs.YtijnglngaogdjaaGreatDoor.PI
namespace Go.Proofs.YtijnglngaogdjaaGreatDoor.PI
open Go
def wD(x:UInt32):D:=.int .u32 (x.toNat:Int)
def qD(x:UInt64):D:=.int .u64 (x.toNat:Int)
theorem Sz(n:Nat):IntKind.wrap .u32 (n:Int)=((n % 2 ^ 32:Nat):Int):=by rfl
theorem VM(n:Nat):IntKind.wrap .u64 (n:Int)=((n % 2 ^ 64:Nat):Int):=by rfl
theorem TP(x y:UInt32):DF .add (wD x) (wD y)=s_ (wD (x+y)):=by rfl
theorem X6(x:UInt32):C0 32 (x.toNat:Int)=x.toBitVec:=by simp_all
theorem gg(x:UInt32):x.toNat % 2 ^ 32=x.toNat:=Bd x.toNat_lt
theorem YOx(x y:UInt32):DF .and (wD x) (wD y)=s_ (wD (x &&& y)):=by
 have h:(C0 (IntKind.bits .u32) (x.toNat:Int) &&& C0 (IntKind.bits .u32) (y.toNat:Int)).toNat=(x &&& y).toNat:=by
  show(C0 32 (x.toNat:Int) &&& C0 32 (y.toNat:Int)).toNat=_
  simp_all
 simp only[DF,wD,if_true,LY,Ae,h,Sz,gg]
theorem PK(x y:UInt32):DF .or (wD x) (wD y)=s_ (wD (x ||| y)):=by
 have h:(C0 (IntKind.bits .u32) (x.toNat:Int) ||| C0 (IntKind.bits .u32) (y.toNat:Int)).toNat=(x ||| y).toNat:=by
  show(C0 32 (x.toNat:Int) ||| C0 32 (y.toNat:Int)).toNat=_
  simp_all
 simp only[DF,wD,if_true,LY,Ae,h,Sz,gg]
theorem gx(x y:UInt32):DF .xor (wD x) (wD y)=s_ (wD (x ^^^ y)):=by
 have h:(C0 (IntKind.bits .u32) (x.toNat:Int) ^^^ C0 (IntKind.bits .u32) (y.toNat:Int)).toNat=(x ^^^ y).toNat:=by
  show(C0 32 (x.toNat:Int) ^^^ C0 32 (y.toNat:Int)).toNat=_
  simp_all
 simp only[DF,wD,if_true,LY,Ae,h,Sz,gg]
theorem YJ2(x:UInt32):LC .xor (wD x)=s_ (wD (~~~x)):=by
 have E:(IntKind.max .u32)=((4294967295:UInt32).toNat:Int):=by decide
 have h:(C0 (IntKind.bits .u32) ((4294967295:UInt32).toNat:Int) ^^^ C0 (IntKind.bits .u32) (x.toNat:Int)).toNat=(~~~x).toNat:=by
  show(C0 32 ((4294967295:UInt32).toNat:Int) ^^^ C0 32 (x.toNat:Int)).toNat=_
  rw[X6,X6,show(4294967295:UInt32).toBitVec=BitVec.allOnes 32 from rfl,BitVec.allOnes_xor];rfl
 simp only[LC,wD,LY,Ae,show IntKind.signed .u32=f_ from rfl,Ao,if_false,E,h,Sz,gg]
theorem Yn8(st:St)(b:UInt8):FZ st (.int .u32) (Dr b)=s_ (wD b.toUInt32):=by simp only[FZ,Dr,wD,Sz,UInt8.toNat_toUInt32];simp_all
theorem Yn5(st:St)(x:UInt32):FZ st (.int .u8) (wD x)=s_ (Dr x.toUInt8):=by rfl
theorem Yn7(st:St)(x:UInt64):FZ st (.int .u8) (qD x)=s_ (Dr x.toUInt8):=by rfl
theorem YJr(x:UInt32)(k:IntKind)(n:Nat)(h:n<32):DF .shl (wD x) (.int k (n:Int))=s_ (wD (x <<< (UInt32.ofNat n))):=by
 have e:(x <<< (UInt32.ofNat n)).toNat=x.toNat*2 ^ n % 2 ^ 32:=by
  rw[UInt32.toNat_shiftLeft,Nat.shiftLeft_eq,UInt32.toNat_ofNat',Bd (show n<2 ^ 32 by omega),Bd h]
 have E:((x.toNat:Int)*2 ^ n)=((x.toNat*2 ^ n:Nat):Int):=by push_cast; rfl
 simp only[DF,wD,MR,show ¬ ((n:Int)<0) by omega,if_false,Ae,AI,show IntKind.bits .u32=32 from rfl,BM (Cm h),E,Sz,e]
theorem YJp(x:UInt32)(k:IntKind)(n:Nat)(h:n<32):DF .shr (wD x) (.int k (n:Int))=s_ (wD (x >>> (UInt32.ofNat n))):=by
 have e:(x >>> (UInt32.ofNat n)).toNat=x.toNat / 2 ^ n:=by
  rw[UInt32.toNat_shiftRight,Nat.shiftRight_eq_div_pow,UInt32.toNat_ofNat',Bd (show n<2 ^ 32 by omega),Bd h]
 have E:(x.toNat:Int).fdiv (2 ^ n)=((x.toNat / 2 ^ n:Nat):Int):=by
  grind
 simp only[DF,wD,MR,show ¬ ((n:Int)<0) by omega,if_false,Ae,AI,show IntKind.bits .u32=32 from rfl,BM (Cm h),E,e]
theorem yJ(x:UInt64)(k:IntKind)(n:Nat)(h:n<64):DF .shl (qD x) (.int k (n:Int))=s_ (qD (x <<< (Dh n))):=by
 have e:(x <<< (Dh n)).toNat=x.toNat*2 ^ n % 2 ^ 64:=by
  rw[UInt64.toNat_shiftLeft,Nat.shiftLeft_eq,UInt64.toNat_ofNat',Bd (show n<2 ^ 64 by omega),Bd h]
 have E:((x.toNat:Int)*2 ^ n)=((x.toNat*2 ^ n:Nat):Int):=by push_cast; rfl
 simp only[DF,qD,MR,show ¬ ((n:Int)<0) by omega,if_false,Ae,AI,show IntKind.bits .u64=64 from rfl,BM (Cm h),E,VM,e]
theorem WA(x:UInt64)(k:IntKind)(n:Nat)(h:n<64):DF .shr (qD x) (.int k (n:Int))=s_ (qD (x >>> (Dh n))):=by
 have e:(x >>> (Dh n)).toNat=x.toNat / 2 ^ n:=by
  rw[UInt64.toNat_shiftRight,Nat.shiftRight_eq_div_pow,UInt64.toNat_ofNat',Bd (show n<2 ^ 64 by omega),Bd h]
 have E:(x.toNat:Int).fdiv (2 ^ n)=((x.toNat / 2 ^ n:Nat):Int):=by
  grind
 simp only[DF,qD,MR,show ¬ ((n:Int)<0) by omega,if_false,Ae,AI,show IntKind.bits .u64=64 from rfl,BM (Cm h),E,e]
variable {n:Int}
theorem On(E:-9223372036854775808≤n)(M:n<9223372036854775808):IntKind.wrap .i64 n=n:=by
 show(if(t_ && decide (n % (2 ^ 64:Int) ≥ (2 ^ (64 - 1):Int)))=t_ then n % (2 ^ 64:Int) - (2 ^ 64:Int)else n % (2 ^ 64:Int))=n
 grind
variable {a:Int}
theorem DQ{b:Int}(E:-9223372036854775808≤a+b)(M:a+b<9223372036854775808):DF .add (.int .i64 a) (.int .i64 b)=s_ (.int .i64 (a+b)):=by simp only[DF,if_true,Lh,Ae,On E M]
theorem EI{b:Int}(E:-9223372036854775808≤a - b)(M:a - b<9223372036854775808):DF .sub (.int .i64 a) (.int .i64 b)=s_ (.int .i64 (a - b)):=by simp only[DF,if_true,Lh,Ae,On E M]
theorem IA{b:Int}(E:-9223372036854775808≤a*b)(M:a*b<9223372036854775808):DF .mul (.int .i64 a) (.int .i64 b)=s_ (.int .i64 (a*b)):=by simp only[DF,if_true,Lh,Ae,On E M]
class Cont (α:Type):Type where
 mk::
 run:α→Prop
class Cont2 (α β:Type):Type where
 mk::
 run:α→β→Prop
class QC:Type where
 mk::
 run:Ex→Frame→St→Prop
class InvC:Type where
 mk::
 run:PS→Prop
class Br:Type where
 mk::
 run:Prop
def on{α:Type}(o:Option α)[k:Cont α]:Prop:=match o with
 |some a=>k.run a
 |none=>False
variable {α:Type}
theorem Yk0(a:α)(K:α→Prop):@on α (s_ a) ⟨K⟩=K a:=(rfl)
theorem YCc(k:Cont α):@on α none k=False:=(rfl)
def TL(d:D)[k:Cont Bool]:Prop:=match d with
 |.bool b=>k.run b
 |_=>False
theorem Yue(b:Bool)(K:Bool→Prop):@TL (.bool b) ⟨K⟩=K b:=(rfl)
def H7(b:Bool)[x:Br][y:Br]:Prop:=if b=t_ then x.run else y.run
theorem Yvl(x:Prop)(y:Br):@H7 t_ ⟨x⟩ y=x:=(rfl)
theorem Ymw(x:Br)(y:Prop):@H7 f_ x ⟨y⟩=y:=(rfl)
theorem YDs(b:Bool)(x y:Br):@H7 (!b) x y=@H7 b y x:=by cases b <;> rfl
variable {y:Prop}
theorem Ew{p:Prop}[Decidable p]{x:Prop}(E:p→x)(M:¬ p→y):@H7 (decide p) ⟨x⟩ ⟨y⟩:=by
 by_cases h:p
 ·rw[show decide p=t_ by simpa using h]; exact E h
 ·rw[show decide p=f_ by simpa using h]; exact M h
def ev(d:D)[k:Cont D]:Prop:=k.run d
theorem XL(d:D)(K:D→Prop):@ev d ⟨K⟩=K d:=(rfl)
def QY(d:D)(st:St)[k:Cont2 D St]:Prop:=k.run d st
theorem YMf(d:D)(st:St)(K:D→St→Prop):@QY d st ⟨K⟩=K d st:=(rfl)
def FF(T:Tbl)(op:POp)(ρ:PA→D)(st:St)(K:D→St→Prop):Prop:=@on _ (op.exec T ρ st) ⟨fun p=>K p.1 p.2⟩
def kG(fr:Frame)(g:Option (Nat×Bool))(x y:Prop):Prop:=match g with
 |none=>x
 |some (s,want)=>match fr s with
  |.bool b=>@H7 (b == want) ⟨x⟩ ⟨y⟩
  |.tup []=>y
  |_=>False
def GY(G:DB)(T:Tbl):List PI→Frame→St→(Frame→St→Prop)→Prop
 |[],fr,st,K=>K fr st
 |i::l,fr,st,K=>kG fr i.guard (FF T i.op (DL G fr) st fun d st'=>GY G T l (fr.put i.dst d) st' K) (GY G T l (fr.put i.dst (.tup [])) st K)
theorem Uk{G:DB}{T:Tbl}:∀ (l:List PI) (fr:Frame) (st:St) (K:Frame→St→Prop),GY G T l fr st K→∃ E st',Ft G T l ⟨fr,st⟩=s_ ⟨E,st'⟩∧K E st'
 |[],fr,st,K,h=>⟨fr,st,rfl,h⟩
 |i::l,fr,st,K,h=>by
  have yes:FF T i.op (DL G fr) st (fun d st'=>GY G T l (fr.put i.dst d) st' K)→i.wanted fr=s_ t_→∃ E st',Ft G T (i::l) ⟨fr,st⟩=s_ ⟨E,st'⟩∧K E st':=by
   intro h hw;unfold FF on at h
   split at h
   ·rename_i p hp;obtain⟨E,st',h1,h2⟩:=Uk l _ _ K h;exact⟨E,st',by simp only[Ft,PI.exec,hw,hp,h1],h2⟩
   ·exact h.elim
  have no:GY G T l (fr.put i.dst (.tup [])) st K→i.wanted fr=s_ f_→∃ E st',Ft G T (i::l) ⟨fr,st⟩=s_ ⟨E,st'⟩∧K E st':=by
   intro h hw;obtain⟨E,st',h1,h2⟩:=Uk l _ _ K h;exact⟨E,st',by simp only[Ft,PI.exec,hw,h1],h2⟩
  rw[GY]at h;unfold kG at h
  split at h
  ·rename_i M;exact yes h (by simp[PI.wanted,M])
  ·rename_i s want M
   split at h
   ·rename_i b hb;have hw:i.wanted fr=s_ (b == want):=by simp[PI.wanted,M,hb]
    cases N:(b == want)with
    |true=>rw[N]at h hw; exact yes h hw
    |false=>rw[N]at h hw; exact no h hw
   ·rename_i hb;exact no h (by simp[PI.wanted,M,hb])
   ·exact h.elim
def JC(T:Tbl)(op:POp)(ρ:PA→D)(st:St)(K:D→St→Prop)(X:Nat→D→St→Prop):Prop:=match op.exec T ρ st with
 |some p=>K p.1 p.2
 |none=>match op.execX T ρ st with
  |some r=>X r.1 r.2.1 r.2.2
  |none=>False
def M7(G:DB)(T:Tbl):List PI→Frame→St→(Frame→St→Prop)→(Nat→D→Frame→St→Prop)→Prop
 |[],fr,st,K,_=>K fr st
 |i::l,fr,st,K,X=>kG fr i.guard (JC T i.op (DL G fr) st (fun d st'=>M7 G T l (fr.put i.dst d) st' K X) (fun t d st'=>X t d fr st')) (M7 G T l (fr.put i.dst (.tup [])) st K X)
theorem ox{G:DB}{T:Tbl}:∀ (l:List PI) (fr:Frame) (st:St) (K:Frame→St→Prop) (X:Nat→D→Frame→St→Prop),M7 G T l fr st K X→
  (∃ E st',Ft G T l ⟨fr,st⟩=s_ ⟨E,st'⟩∧K E st')∨∃ t d E st',Ft G T l ⟨fr,st⟩=none∧Ko G T l ⟨fr,st⟩=s_ (t,d,⟨E,st'⟩)∧X t d E st'
 |[],fr,st,K,X,h=>.inl ⟨fr,st,rfl,h⟩
 |i::l,fr,st,K,X,h=>by
  have yes:JC T i.op (DL G fr) st (fun d st'=>M7 G T l (fr.put i.dst d) st' K X) (fun t d st'=>X t d fr st')→i.wanted fr=s_ t_→
    (∃ E st',Ft G T (i::l) ⟨fr,st⟩=s_ ⟨E,st'⟩∧K E st')∨∃ t d E st',Ft G T (i::l) ⟨fr,st⟩=none∧Ko G T (i::l) ⟨fr,st⟩=s_ (t,d,⟨E,st'⟩)∧X t d E st':=by
   intro h hw;unfold JC at h
   split at h
   ·rename_i p hp;rcases ox l _ _ K X h with⟨E,st',M,N⟩|⟨t,d,E,st',M,N,h3⟩
    ·exact .inl ⟨E,st',by simp only[Ft,PI.exec,hw,hp,M],N⟩
    ·exact .inr ⟨t,d,E,st',by simp only[Ft,PI.exec,hw,hp,M],by simp only[Ko,PI.exec,hw,hp,N],h3⟩
   ·rename_i hn
    split at h
    ·rename_i r hr;exact .inr ⟨r.1,r.2.1,fr,r.2.2,by simp only[Ft,PI.exec,hw,hn],by simp only[Ko,PI.exec,PI.execX,hw,hn,hr,Ae],h⟩
    ·exact h.elim
  have no:M7 G T l (fr.put i.dst (.tup [])) st K X→i.wanted fr=s_ f_→
    (∃ E st',Ft G T (i::l) ⟨fr,st⟩=s_ ⟨E,st'⟩∧K E st')∨∃ t d E st',Ft G T (i::l) ⟨fr,st⟩=none∧Ko G T (i::l) ⟨fr,st⟩=s_ (t,d,⟨E,st'⟩)∧X t d E st':=by
   intro h hw;rcases ox l _ _ K X h with⟨E,st',M,N⟩|⟨t,d,E,st',M,N,h3⟩
   ·exact .inl ⟨E,st',by simp only[Ft,PI.exec,hw,M],N⟩
   ·exact .inr ⟨t,d,E,st',by simp only[Ft,PI.exec,hw,M],by simp only[Ko,PI.exec,hw,N],h3⟩
  rw[M7]at h;unfold kG at h
  split at h
  ·rename_i hg;exact yes h (by simp[PI.wanted,hg])
  ·rename_i s want hg
   split at h
   ·rename_i b hb;have hw:i.wanted fr=s_ (b == want):=by simp[PI.wanted,hg,hb]
    cases ab:(b == want)with
    |true=>rw[ab]at h hw; exact yes h hw
    |false=>rw[ab]at h hw; exact no h hw
   ·rename_i hb;exact no h (by simp[PI.wanted,hg,hb])
   ·exact h.elim
variable {X:Nat→D→St→Prop}{st:St}{T:Tbl}
theorem Ymc{op:POp}{ρ:PA→D}{K E:D→St→Prop}{M:Nat→D→St→Prop}(h:JC T op ρ st K X)(hk:∀ d st,K d st→E d st)(N:∀ t d st,X t d st→M t d st):JC T op ρ st E M:=by unfold JC at h ⊢;grind
variable {fr:Frame}
theorem YDg{g:Option (Nat×Bool)}{x E M:Prop}(h:kG fr g x y)(N:x→E)(hy:y→M):kG fr g E M:=by
 unfold kG at h ⊢
 revert h
 split
 ·exact N
 ·split
  ·unfold H7;grind
  ·exact hy
  ·exact id
theorem nQ{G:DB}{T:Tbl}:∀ (l:List PI) (fr:Frame) (st:St) (K E:Frame→St→Prop) (X M:Nat→D→Frame→St→Prop),M7 G T l fr st K X→(∀ fr st,K fr st→E fr st)→(∀ t d fr st,X t d fr st→M t d fr st)→M7 G T l fr st E M
 |[],_,_,_,_,_,_,h,hk,_=>hk _ _ h
 |i::l,fr,st,K,E,X,M,h,hk,N=>by
  rw[M7]at h ⊢;exact YDg h (fun h=>Ymc h (fun _ _ h=>nQ l _ _ _ _ _ _ h hk N) fun _ _ _ h=>N _ _ _ _ h) fun h=>nQ l _ _ _ _ _ _ h hk N
class XC:Type where
 mk::
 run:Nat→D→Frame→St→Prop
class XC0:Type where
 mk::
 run:Nat→D→St→Prop
def QF(G:DB)(T:Tbl)(l:List PI)(fr:Frame)(st:St)[K:Cont2 Frame St][X:XC]:Prop:=M7 G T l fr st K.run X.run
def J8(T:Tbl)(op:POp)(ρ:PA→D)(st:St)[K:Cont2 D St][X:XC0]:Prop:=JC T op ρ st K.run X.run
theorem Yh7(G:DB)(T:Tbl)(fr:Frame)(st:St)(K:Frame→St→Prop)(X:XC):@QF G T [] fr st ⟨K⟩ X=K fr st:=(rfl)
def TK(o:Option (D×St))(p:Option (Nat×D×St))[K:Cont2 D St][X:XC0]:Prop:=match o with
 |some r=>K.run r.1 r.2
 |none=>match p with
  |some r=>X.run r.1 r.2.1 r.2.2
  |none=>False
theorem Yud(d:D)(st:St)(p:Option (Nat×D×St))(K:D→St→Prop)(X:XC0):@TK (s_ (d,st)) p ⟨K⟩ X=K d st:=(rfl)
theorem Yk1(t:Nat)(d:D)(st:St)(K:Cont2 D St)(X:Nat→D→St→Prop):@TK none (s_ (t,d,st)) K ⟨X⟩=X t d st:=(rfl)
def Yk(o:Option (List D→St→Option (D×St)))(ds:List D)(st:St):Option (D×St):=match o with
 |some sp=>sp ds st
 |none=>none
theorem Yfr(sp:List D→St→Option (D×St))(ds:List D)(st:St):Yk (s_ sp) ds st=sp ds st:=(rfl)
theorem Yfs(ds:List D)(st:St):Yk none ds st=none:=(rfl)
def Yl(o:Option (List D→St→Option (Nat×D×St)))(ds:List D)(st:St):Option (Nat×D×St):=match o with
 |some sp=>sp ds st
 |none=>none
theorem Yfp(sp:List D→St→Option (Nat×D×St))(ds:List D)(st:St):Yl (s_ sp) ds st=sp ds st:=(rfl)
theorem Yfq(ds:List D)(st:St):Yl none ds st=none:=(rfl)
theorem Yea(T:Tbl)(f:Nat)(args:List PA)(ρ:PA→D)(st:St)(K:Cont2 D St)(X:XC0):@J8 T (.icall f args) ρ st K X=@TK (Yk (T.i f) (args.map ρ) st) (Yl (T.x f) (args.map ρ) st) K X:=by rfl
def PT(d:D)(ds:List D):Option (Nat×List D):=match d with
 |.clo f caps=>if f<5000000 then s_ (f,ds++caps)else if f<10000000 then s_ (f - 5000000,caps++ds)else none
 |_=>none
theorem YR(T:Tbl)(x:PA)(args:List PA)(ρ:PA→D)(st:St)(K:Cont2 D St)(X:XC0)(f:Nat)(ds:List D)(h:PT (ρ x) (args.map ρ)=s_ (f,ds)):@J8 T (.callv x args) ρ st K X=@TK (Yk (T.i f) ds st) (Yl (T.x f) ds st) K X:=by simp only[J8,JC,POp.exec,TK,Yk,Yl,POp.execX,POp.callee];unfold PT at h;grind
def POp.tame:POp→Bool
 |.icall _ _ | .callv _ _=>f_
 |_=>t_
theorem Yh8(T:Tbl)(op:POp)(ρ:PA→D)(st:St)(K:Cont2 D St)(X:XC0)(h:op.tame=t_):@J8 T op ρ st K X=FF T op ρ st K.run:=by
 have:op.execX T ρ st=none:=by
  cases op <;> first|rfl|(simp[POp.tame]at h; done)
 simp only[J8,JC,FF,on,this];grind
def kF(fs:List (Option Foot))(b:Bool)(cs:List Nat)(f:Option Foot)(K:List (Option Foot)→Prop):Prop:=@H7 (OJ fs f cs) ⟨K (fs++[if b then f else none])⟩ ⟨False⟩
variable {f:Option Foot}{cs:List Nat}{fs:List (Option Foot)}
theorem jE{b:Bool}{K:List (Option Foot)→Prop}(h:kF fs b cs f K):OJ fs f cs=t_∧K (fs++[if b then f else none]):=by unfold kF H7 at h;grind
theorem Ymd{b:Bool}{K E:List (Option Foot)→Prop}(h:kF fs b cs f K)(hk:∀ fs,K fs→E fs):kF fs b cs f E:=by obtain⟨M,N⟩:=jE h;unfold kF H7;grind
def GD(G:DB)(T:Tbl):List (PI×Bool×List Nat)→List (Option Foot)→Frame→St→(Frame→St→Prop)→Prop
 |[],_,fr,st,K=>K fr st
 |i::l,fs,fr,st,K=>kG fr i.1.guard (kF fs i.2.1 i.2.2 (i.1.op.foot (DL G fr) st) fun fs'=>FF T i.1.op (DL G fr) st fun d st'=>GD G T l fs' (fr.put i.1.dst d) st' K)
   (kF fs i.2.1 i.2.2 (s_ QJ) fun fs'=>GD G T l fs' (fr.put i.1.dst (.tup [])) st K)
theorem Uj{G:DB}{T:Tbl}:∀ (l:List (PI×Bool×List Nat)) (fs:List (Option Foot)) (fr:Frame) (st:St) (K:Frame→St→Prop),GD G T l fs fr st K→∃ E st',HK G T l fs ⟨fr,st⟩=s_ ⟨E,st'⟩∧K E st'
 |[],_,fr,st,K,h=>⟨fr,st,rfl,h⟩
 |(i,b,cs)::l,fs,fr,st,K,h=>by
  have yes:kF fs b cs (i.op.foot (DL G fr) st) (fun N=>FF T i.op (DL G fr) st fun d st'=>GD G T l N (fr.put i.dst d) st' K)→i.wanted fr=s_ t_→∃ E st',HK G T ((i,b,cs)::l) fs ⟨fr,st⟩=s_ ⟨E,st'⟩∧K E st':=by
   intro h hw;obtain⟨h1,h⟩:=jE h;unfold FF on at h
   split at h
   ·rename_i p hp;obtain⟨E,st',h2,h3⟩:=Uj l _ _ _ K h;have hf:i.foot G ⟨fr,st⟩=i.op.foot (DL G fr) st:=by simp[PI.foot,hw]
    have hx:i.exec G T ⟨fr,st⟩=s_ ⟨fr.put i.dst p.1,p.2⟩:=by simp only[PI.exec,hw,hp]
    exact⟨E,st',by simp only[HK,hf,h1,if_true,hx,h2],h3⟩
   ·exact h.elim
  have no:kF fs b cs (s_ QJ) (fun N=>GD G T l N (fr.put i.dst (.tup [])) st K)→i.wanted fr=s_ f_→∃ E st',HK G T ((i,b,cs)::l) fs ⟨fr,st⟩=s_ ⟨E,st'⟩∧K E st':=by
   intro h hw;obtain⟨h1,h⟩:=jE h;obtain⟨E,st',h2,h3⟩:=Uj l _ _ _ K h;have hf:i.foot G ⟨fr,st⟩=s_ QJ:=by simp[PI.foot,hw]
   have hx:i.exec G T ⟨fr,st⟩=s_ ⟨fr.put i.dst (.tup []),st⟩:=by simp only[PI.exec,hw]
   exact⟨E,st',by simp only[HK,hf,h1,if_true,hx,h2],h3⟩
  rw[GD]at h;unfold kG at h
  split at h
  ·rename_i M;exact yes h (by simp only at M; simp[PI.wanted,M])
  ·rename_i s want M;simp only at M
   split at h
   ·rename_i b hb;have hw:i.wanted fr=s_ (b == want):=by simp[PI.wanted,M,hb]
    cases aa:(b == want)with
    |true=>rw[aa]at h hw; exact yes h hw
    |false=>rw[aa]at h hw; exact no h hw
   ·rename_i hb;exact no h (by simp[PI.wanted,M,hb])
   ·exact h.elim
theorem T8{G:DB}{T:Tbl}:∀ (l:List (PI×Bool×List Nat)) (fs:List (Option Foot)) (fr:Frame) (st:St) (K M:Frame→St→Prop),GD G T l fs fr st K→(∀ fr st,K fr st→M fr st)→GD G T l fs fr st M
 |[],_,_,_,_,_,h,hk=>hk _ _ h
 |i::l,fs,fr,st,K,M,h,hk=>by
  have N:kF fs i.2.1 i.2.2 (i.1.op.foot (DL G fr) st) (fun E=>FF T i.1.op (DL G fr) st fun d st'=>GD G T l E (fr.put i.1.dst d) st' K)→kF fs i.2.1 i.2.2 (i.1.op.foot (DL G fr) st) (fun E=>FF T i.1.op (DL G fr) st fun d st'=>GD G T l E (fr.put i.1.dst d) st' M):=by
   refine fun h=>Ymd h fun E=>?_;unfold FF on
   split
   ·exact fun h=>T8 l _ _ _ _ _ h hk
   ·exact id
  have h2:kF fs i.2.1 i.2.2 (s_ QJ) (fun E=>GD G T l E (fr.put i.1.dst (.tup [])) st K)→kF fs i.2.1 i.2.2 (s_ QJ) (fun E=>GD G T l E (fr.put i.1.dst (.tup [])) st M):=fun h=>Ymd h fun E h=>T8 l _ _ _ _ _ h hk;rw[GD]at h ⊢;unfold kG at h ⊢
  revert h
  split
  ·exact N
  ·split
   ·unfold H7;grind
   ·exact h2
   ·exact id
class FsC:Type where
 mk::
 run:List (Option Foot)→Prop
def wF(fs:List (Option Foot))(b:Bool)(cs:List Nat)(f:Option Foot)[K:FsC]:Prop:=kF fs b cs f K.run
theorem Hd(fs:List (Option Foot))(f:Option Foot)(K:List (Option Foot)→Prop):@wF fs f_ [] f ⟨K⟩=K (fs++[none]):=(rfl)
def fS(l:List (Option Foot))[K:FsC]:Prop:=K.run l
theorem YL4(l:List (Option Foot))(K:List (Option Foot)→Prop):@fS l ⟨K⟩=K l:=(rfl)
theorem YAm(fs:List (Option Foot))(f:Foot)(K:FsC):@wF fs t_ [] (s_ f) K=@fS (fs++[s_ f]) K:=(rfl)
theorem VX(fs:List (Option Foot))(b:Bool)(j:Nat)(cs:List Nat)(f:Foot)(K:FsC):@wF fs b (j::cs) (s_ f) K=@H7 (OJ fs (s_ f) (j::cs)) ⟨@fS (fs++[if b then s_ f else none]) K⟩ ⟨False⟩:=(rfl)
def Yr(a b:PS)[k:Cont PS]:Prop:=a=b∧k.run a
theorem Yes(a:PS)(K:PS→Prop):@Yr a a ⟨K⟩=K a:=by simp[Yr]
def W2(keep:List Nat)(n:Nat)(fr1:Frame)(st1:St)(fr2:Frame)(st2:St)(K:PS→Prop):Prop:=
 @H7 (st1.length == n+2 && st2.length == n+2) ⟨@Yr (restrictAt keep n [n,n+1] ⟨fr1,st1⟩) (restrictAt keep n [n+1,n] ⟨fr2,st2⟩) ⟨K⟩⟩ ⟨False⟩
variable {st1 st2:St}{fr1 fr2:Frame}{keep:List Nat}
theorem YGi{n:Nat}{K:PS→Prop}(h:W2 keep n fr1 st1 fr2 st2 K):gv keep n ⟨fr1,st1⟩ ⟨fr2,st2⟩=s_ (restrictAt keep n [n,n+1] ⟨fr1,st1⟩)∧K (restrictAt keep n [n,n+1] ⟨fr1,st1⟩):=by
 unfold W2 H7 at h
 split at h
 ·rename_i hl;simp only[Ad,beq_iff_eq]at hl;obtain⟨M,E⟩:=h;refine⟨?_,E⟩;unfold gv;grind
 ·exact h.elim
theorem YGj{n:Nat}{K E:PS→Prop}(h:W2 keep n fr1 st1 fr2 st2 K)(hk:∀ s,K s→E s):W2 keep n fr1 st1 fr2 st2 E:=by
 unfold W2 H7 at h ⊢
 split at h
 ·rename_i hl;rw[if_pos hl];exact⟨h.1,hk _ h.2⟩
 ·exact h.elim
def Jz(G:DB)(T:Tbl)(l:List (PI×Bool×List Nat))(fs:List (Option Foot))(fr:Frame)(st:St)[K:Cont2 Frame St]:Prop:=GD G T l fs fr st K.run
def Ij(G:DB)(T:Tbl)(l:List PI)(fr:Frame)(st:St)[K:Cont2 Frame St]:Prop:=GY G T l fr st K.run
def EC(T:Tbl)(op:POp)(ρ:PA→D)(st:St)[K:Cont2 D St]:Prop:=FF T op ρ st K.run
def kV(d:D)(want:Bool)[x:Br][y:Br]:Prop:=match d with
 |.bool b=>@H7 (b == want) x y
 |.tup []=>y.run
 |_=>False
theorem Ysa(G:DB)(T:Tbl)(fr:Frame)(st:St)(K:Frame→St→Prop):@Ij G T [] fr st ⟨K⟩=K fr st:=(rfl)
theorem Yd8(G:DB)(T:Tbl)(dst:Option Nat)(op:POp)(l:List PI)(fr:Frame)(st:St)(K:Cont2 Frame St) :
  @Ij G T ({dst,op,guard:=none}::l) fr st K=@EC T op (DL G fr) st ⟨fun d st'=>@Ij G T l (fr.put dst d) st' K⟩:=(rfl)
theorem Yd9(G:DB)(T:Tbl)(dst:Option Nat)(op:POp)(s:Nat)(E:Bool)(l:List PI)(fr:Frame)(st:St)(K:Cont2 Frame St) :
  @Ij G T ({dst,op,guard:=s_ (s,E)}::l) fr st K=@kV (fr s) E ⟨@EC T op (DL G fr) st ⟨fun d st'=>@Ij G T l (fr.put dst d) st' K⟩⟩ ⟨@Ij G T l (fr.put dst (.tup [])) st K⟩:=(rfl)
theorem yV7(G:DB)(T:Tbl)(dst:Option Nat)(op:POp)(l:List PI)(fr:Frame)(st:St)(K:Cont2 Frame St)(X:XC) :
  @QF G T ({dst,op,guard:=none}::l) fr st K X=@J8 T op (DL G fr) st ⟨fun d st'=>@QF G T l (fr.put dst d) st' K X⟩ ⟨fun t d st'=>X.run t d fr st'⟩:=(rfl)
theorem yV8(G:DB)(T:Tbl)(dst:Option Nat)(op:POp)(s:Nat)(E:Bool)(l:List PI)(fr:Frame)(st:St)(K:Cont2 Frame St)(X:XC) :
  @QF G T ({dst,op,guard:=s_ (s,E)}::l) fr st K X=@kV (fr s) E ⟨@J8 T op (DL G fr) st ⟨fun d st'=>@QF G T l (fr.put dst d) st' K X⟩ ⟨fun t d st'=>X.run t d fr st'⟩⟩ ⟨@QF G T l (fr.put dst (.tup [])) st K X⟩:=(rfl)
theorem YAl(T:Tbl)(op:POp)(ρ:PA→D)(st:St)(K:D→St→Prop)(X:XC0)(h:op.tame=t_):@J8 T op ρ st ⟨K⟩ X=@EC T op ρ st ⟨K⟩:=Yh8 T op ρ st ⟨K⟩ X h
theorem Ysc(G:DB)(T:Tbl)(fs:List (Option Foot))(fr:Frame)(st:St)(K:Frame→St→Prop):@Jz G T [] fs fr st ⟨K⟩=K fr st:=(rfl)
theorem Yeb(G:DB)(T:Tbl)(dst:Option Nat)(op:POp)(b:Bool)(cs:List Nat)(l:List (PI×Bool×List Nat))(fs:List (Option Foot))(fr:Frame)(st:St)(K:Cont2 Frame St) :
  @Jz G T (({dst,op,guard:=none},b,cs)::l) fs fr st K=@wF fs b cs (op.foot (DL G fr) st) ⟨fun E=>@EC T op (DL G fr) st ⟨fun d st'=>@Jz G T l E (fr.put dst d) st' K⟩⟩:=(rfl)
theorem Yec(G:DB)(T:Tbl)(dst:Option Nat)(op:POp)(s:Nat)(E:Bool)(b:Bool)(cs:List Nat)(l:List (PI×Bool×List Nat))(fs:List (Option Foot))(fr:Frame)(st:St)(K:Cont2 Frame St) :
  @Jz G T (({dst,op,guard:=s_ (s,E)},b,cs)::l) fs fr st K=@kV (fr s) E ⟨@wF fs b cs (op.foot (DL G fr) st) ⟨fun M=>@EC T op (DL G fr) st ⟨fun d st'=>@Jz G T l M (fr.put dst d) st' K⟩⟩⟩ ⟨@wF fs b cs (s_ QJ) ⟨fun M=>@Jz G T l M (fr.put dst (.tup [])) st K⟩⟩:=(rfl)
theorem YDf(b:Bool)(x y:Br):@kV (.bool b) t_ x y=@H7 b x y:=by cases b <;> rfl
theorem Yu9(b:Bool)(x y:Br):@kV (.bool b) f_ x y=@H7 b y x:=by cases b <;> rfl
theorem YLe(E:Bool)(x:Br)(y:Prop):@kV (.tup []) E x ⟨y⟩=y:=(rfl)
section
variable (T:Tbl) (ρ:PA→D) (st:St) (K:D→St→Prop)
theorem Js{β:Type}(o:Option α)(f:α→β)(K:β→Prop):@on β (o.map f) ⟨K⟩=@on α o ⟨fun a=>K (f a)⟩:=by cases o <;> rfl
theorem W8(x:PA):@EC T (.mov x) ρ st ⟨K⟩=@ev (ρ x) ⟨fun d=>K d st⟩:=(rfl)
def Yo(c x y:D):Option D:=match c with
 |.bool b=>s_ (if b then x else y)
 |_=>none
theorem Yff(x y:D):Yo (.bool t_) x y=s_ x:=(rfl)
theorem yYi(x y:D):Yo (.bool f_) x y=s_ y:=(rfl)
theorem Yfg(b c e:Bool):Yo (.bool b) (.bool c) (.bool e)=s_ (.bool (if b then c else e)):=by cases b <;> rfl
theorem YK3(c x y:PA):@EC T (.pick c x y) ρ st ⟨K⟩=@on _ (Yo (ρ c) (ρ x) (ρ y)) ⟨fun d=>K d st⟩:=by simp only[EC,FF,POp.exec,Yo];cases ρ c <;> rfl
def D4(d:D):Option (List D):=if d.cells.all D.isCell then s_ d.cells else none
theorem Xf(x:PA):@EC T (.box x) ρ st ⟨K⟩=@on _ (D4 (ρ x)) ⟨fun cs=>@QY (.ptr st.length 0) (st++[{row:=f_,sz:=1,els:=cs,lent:=f_}]) ⟨K⟩⟩:=by
 simp only[EC,FF,POp.exec,D4]
 split <;> rfl
theorem Xg(E:List D)(parts:List (Nat×Nat×PA)):@EC T (.bld E parts) ρ st ⟨K⟩=@on _ (Ed E (parts.map fun p=>(p.1,p.2.1,ρ p.2.2))) ⟨fun cs=>K (.agg cs) st⟩:=by simp only[EC,FF,POp.exec,Js]
def FP(sz:Nat)(els:List D):Option D:=if(els.all fun e=>e.cells.length == sz) && decide (0<sz) && decide (els.length*sz≤16777216)then s_ (.slc sz els t_)else none
theorem YLd(sz:Nat)(parts:List PA):@EC T (.bslc sz parts) ρ st ⟨K⟩=@on _ (EG st (parts.map ρ)) ⟨fun els=>@on _ (FP sz els) ⟨fun d=>@QY d (lend ((parts.map ρ).flatMap keys) st) ⟨K⟩⟩⟩:=by
 simp only[EC,FF,POp.exec]
 cases EG st (parts.map ρ)with
 |none=>rfl
 |some els=>
  simp only[on]
  by_cases h:((els.all fun e=>e.cells.length == sz) && decide (0<sz) && decide (els.length*sz≤16777216))=t_
  ·simp only[FP,h,if_true]; rfl
  ·simp only[FP,h,Ao,if_false]
theorem YK5(n:Nat)(ag:Bool)(p:PA):@EC T (.load n ag p) ρ st ⟨K⟩=@on _ (FL st n ag (ρ p)) ⟨fun d=>K d st⟩:=by simp only[EC,FF,POp.exec,Js]
theorem YK2(n:Nat)(p x:PA):@EC T (.stor n p x) ρ st ⟨K⟩=@on _ (Nb st n (ρ p) (ρ x)) ⟨fun st'=>K (.tup []) st'⟩:=by simp only[EC,FF,POp.exec,Js]
def rl(st:St)(d:D):Option D:=match d with
 |.ptr _ _ | .eptr _ _=>s_ d
 |.rptr key tot _ _=>if Fo st key tot then s_ d else none
 |_=>none
theorem YK4(x:PA):@EC T (.nilc x) ρ st ⟨K⟩=@on _ (rl st (ρ x)) ⟨fun d=>K d st⟩:=by
 simp only[EC,FF,POp.exec,rl]
 cases ρ x with
 |rptr key tot i off=>
  simp only
  split <;> rfl
 |_=>rfl
theorem Xh(op:BinOp)(x y:PA):@EC T (.bin op x y) ρ st ⟨K⟩=@on _ (DF op (ρ x) (ρ y)) ⟨fun d=>K d st⟩:=by simp only[EC,FF,POp.exec,Js]
theorem Xi(E:Bool)(x y:PA):@EC T (.beq E x y) ρ st ⟨K⟩=@on _ (NX E (ρ x) (ρ y)) ⟨fun d=>K d st⟩:=by simp only[EC,FF,POp.exec,Js]
theorem Xk(ks:List Nat)(E:Bool)(x y:PA):@EC T (.aeq ks E x y) ρ st ⟨K⟩=@on _ (Hu ks E (ρ x) (ρ y)) ⟨fun d=>K d st⟩:=by simp only[EC,FF,POp.exec,Js]
theorem pq(op:UnOp)(x:PA):@EC T (.un op x) ρ st ⟨K⟩=@on _ (LC op (ρ x)) ⟨fun d=>K d st⟩:=by simp only[EC,FF,POp.exec,Js]
theorem YLb(c:PConv)(x:PA):@EC T (.conv c x) ρ st ⟨K⟩=@on _ (FZ st c (ρ x)) ⟨fun d=>K d st⟩:=by simp only[EC,FF,POp.exec,Js]
def Pp(sz bytes:Nat)(zero ln cp:D):Option (Nat×Obj):=match Gk ln,Gk cp with
 |some l,s_ c=>if l≤c∧c≤4294967296∧c*bytes≤140737488355328∧0<sz∧zero.cells.length=sz∧zero.cells.all D.pure1=t_ then
   s_ (l,{row:=t_,sz,els:=CZ l zero,lent:=f_})else none
 |_,_=>none
theorem YC8(sz bytes:Nat)(E:D)(M N:PA):@EC T (.mkslc sz bytes E M N) ρ st ⟨K⟩=@on _ (Pp sz bytes E (ρ M) (ρ N)) ⟨fun r=>@QY (.row st.length r.1 0 r.1) (st++[r.2]) ⟨K⟩⟩:=by
 simp only[EC,FF,POp.exec,Pp]
 cases Gk (ρ M)with
 |none=>rfl
 |some l=>
  cases Gk (ρ N)with
  |none=>rfl
  |some c=>
   simp only
   split <;> rfl
theorem YC6(sz:Nat)(x:PA)(lo hi E:Option PA):@EC T (.slice sz x lo hi E) ρ st ⟨K⟩=@on _ (G5 st sz (ρ x) (lo.map ρ) (hi.map ρ) (E.map ρ)) ⟨fun d=>K d st⟩:=by simp only[EC,FF,POp.exec,Js]
theorem Yu7(n sz:Nat)(ag:Bool)(x:PA)(lo hi:Option PA):@EC T (.sliceA n sz ag x lo hi) ρ st ⟨K⟩=@on _ (P3 n sz ag (ρ x) (lo.map ρ) (hi.map ρ)) ⟨fun d=>K d st⟩:=by simp only[EC,FF,POp.exec,Js]
theorem Xc(off:Nat)(p:PA):@EC T (.fld off p) ρ st ⟨K⟩=@on _ (FE st off (ρ p)) ⟨fun d=>K d st⟩:=by simp only[EC,FF,POp.exec,Js]
theorem YLa(off n:Nat)(ag:Bool)(x:PA):@EC T (.fldv off n ag x) ρ st ⟨K⟩=@on _ (NQ off n ag (ρ x)) ⟨fun d=>K d st⟩:=by simp only[EC,FF,POp.exec,Js]
theorem YK8(sz:Nat)(x i:PA):@EC T (.idxS sz x i) ρ st ⟨K⟩=@on _ (GK st sz (ρ x) (ρ i)) ⟨fun d=>K d st⟩:=by simp only[EC,FF,POp.exec,Js]
theorem YK9(n sz:Nat)(p i:PA):@EC T (.idxA n sz p i) ρ st ⟨K⟩=@on _ (Jg st n sz (ρ p) (ρ i)) ⟨fun d=>K d st⟩:=by simp only[EC,FF,POp.exec,Js]
theorem Xb(x i:PA):@EC T (.idx x i) ρ st ⟨K⟩=@on _ (KZ (ρ x) (ρ i)) ⟨fun d=>K d st⟩:=by simp only[EC,FF,POp.exec,Js]
theorem YK7(E sz:Nat)(ag:Bool)(x i:PA):@EC T (.idxV E sz ag x i) ρ st ⟨K⟩=@on _ (Qw E sz ag (ρ x) (ρ i)) ⟨fun d=>K d st⟩:=by simp only[EC,FF,POp.exec,Js]
def EF(st:St)(str:Bool)(d:D):Option D:=if Iz d == str then(E7 st d).map fun(n:Nat)=>D.int .i64 (n:Int)else none
theorem Xa(E:Bool)(x:PA):@EC T (.len E x) ρ st ⟨K⟩=@on _ (EF st E (ρ x)) ⟨fun d=>K d st⟩:=by
 simp only[EC,FF,POp.exec,EF]
 split
 ·simp only[Js]
 ·rfl
theorem YK6(n:Nat):@EC T (.lenA n) ρ st ⟨K⟩=@ev (.int .i64 (n:Int)) ⟨fun d=>K d st⟩:=(rfl)
theorem Xj(sz bytes:Nat)(s x:PA):@EC T (.app sz bytes s x) ρ st ⟨K⟩=@on _ (Eg st sz bytes (ρ s) (ρ x)) ⟨fun r=>K r.1 r.2⟩:=(rfl)
def qd(sz:Nat):Option Obj:=if 1<sz∧sz≠1000003 then s_ {row:=f_,sz,els:=[],lent:=f_} else none
theorem YC9(sz:Nat):@EC T (.mkmap sz) ρ st ⟨K⟩=@on _ (qd sz) ⟨fun o=>@QY (.mapv st.length) (st++[o]) ⟨K⟩⟩:=by
 simp only[EC,FF,POp.exec,qd]
 split <;> rfl
theorem YDc(sz:Nat)(ks:List Nat)(m k v:PA):@EC T (.mapup sz ks m k v) ρ st ⟨K⟩=@on _ (Tp st sz ks (ρ m) (ρ k) (ρ v)) ⟨fun st'=>K (.tup []) st'⟩:=by simp only[EC,FF,POp.exec,Js]
theorem Yu8(sz:Nat)(ks:List Nat)(ok:Bool)(E:D)(m k:PA):@EC T (.mapget sz ks ok E m k) ρ st ⟨K⟩=@on _ (JU st sz ks ok E (ρ m) (ρ k)) ⟨fun d=>K d st⟩:=by simp only[EC,FF,POp.exec,Js]
theorem Xe(sz:Nat)(d s:PA):@EC T (.cpy sz d s) ρ st ⟨K⟩=@on _ (K0 st sz (ρ d) (ρ s)) ⟨fun r=>K r.1 r.2⟩:=(rfl)
def TM(isMax:Bool)(x y:D):Option D:=match x,y with
 |.int k a,.int _ b=>s_ (.int k (if isMax then(if b > a then b else a)else(if b<a then b else a)))
 |_,_=>none
theorem pr(E:Bool)(x y:PA):@EC T (.mm E x y) ρ st ⟨K⟩=@on _ (TM E (ρ x) (ρ y)) ⟨fun d=>K d st⟩:=by
 simp only[EC,FF,POp.exec,TM]
 cases ρ x with
 |int k a=>cases ρ y <;> rfl
 |_=>rfl
def PM(isMax:Bool)(x y z:D):Option D:=match x,y,z with
 |.int k a,.int _ b,.int _ c=>s_ (.int k (N0 isMax (N0 isMax a b) c))
 |_,_,_=>none
theorem W9(E:Bool)(x y z:PA):@EC T (.mm3 E x y z) ρ st ⟨K⟩=@on _ (PM E (ρ x) (ρ y) (ρ z)) ⟨fun d=>K d st⟩:=by
 simp only[EC,FF,POp.exec,PM]
 cases ρ x with
 |int k a=>cases ρ y <;> first|rfl|(cases ρ z <;> rfl)
 |_=>rfl
theorem YC7(f:Nat)(args:List PA):@EC T (.rcall f args) ρ st ⟨K⟩=@on _ (T.q f) ⟨fun sp=>@on _ (Jk sp (args.map ρ) st) ⟨fun d=>K d st⟩⟩:=by
 simp only[EC,FF,POp.exec]
 cases T.q f with
 |none=>rfl
 |some sp=>simp only[Yk0,Js]
theorem YDd(f:Nat)(args:List PA):@EC T (.icall f args) ρ st ⟨K⟩=@on _ (T.i f) ⟨fun sp=>@on _ (sp (args.map ρ) st) ⟨fun r=>K r.1 r.2⟩⟩:=by simp only[EC,FF,POp.exec];cases T.i f <;> rfl
def LH(T:Tbl)(d:D):Option ((List D→St→Option (D×St))×List D×List D):=match d with
 |.clo f caps=>if f<5000000 then(T.i f).map fun sp=>(sp,[],caps)else if f<10000000 then(T.i (f - 5000000)).map fun sp=>(sp,caps,[])else if caps.isEmpty then s_ (T.y (f - 10000000),[],[])else none
 |_=>none
theorem YDb(f:Nat)(args:List PA):@EC T (.mcall f args) ρ st ⟨K⟩=@on _ (T.m f) ⟨fun sp=>@on _ (sp (args.map ρ)) ⟨fun r=>@QY (r.1 st.length) (st++r.2 st.length) ⟨K⟩⟩⟩:=by
 simp only[EC,FF,POp.exec]
 cases T.m f with
 |none=>rfl
 |some sp=>
  simp only[on];cases sp (args.map ρ) <;> rfl
theorem YDe(x:PA)(args:List PA):@EC T (.callv x args) ρ st ⟨K⟩=@on _ (LH T (ρ x)) ⟨fun p=>@on _ (p.1 (p.2.1++(args.map ρ++p.2.2)) st) ⟨fun r=>K r.1 r.2⟩⟩:=by
 simp only[EC,FF,POp.exec,LH]
 cases ρ x with
 |clo f E=>
  simp only
  by_cases M:f<5000000
  ·simp only[if_pos M];cases T.i f <;> rfl
  ·by_cases h:f<10000000
   ·simp only[if_neg M,if_pos h]
    cases T.i (f - 5000000)with
    |none=>rfl
    |some sp=>simp only[Ae,on,Af]
   ·simp only[if_neg M,if_neg h]
    cases E with
    |nil=>simp only[List.isEmpty_nil,if_true,on,Af,Al]
    |cons a l=>rfl
 |_=>rfl
theorem YDa(f:Nat)(E:List PA):@EC T (.mkclo f E) ρ st ⟨K⟩=@ev (.clo f (E.map ρ)) ⟨fun d=>K d st⟩:=(rfl)
theorem YLc(f:Nat)(args:List PA):@EC T (.call f args) ρ st ⟨K⟩=@on _ (T.p f) ⟨fun sp=>@on _ (EG st (args.map ρ)) ⟨fun vs=>@on _ (sp vs) ⟨fun r=>@QY r (if r.noRef then st else lend ((args.map ρ).flatMap keys) st) ⟨K⟩⟩⟩⟩:=by
 simp only[EC,FF,POp.exec]
 cases T.p f with
 |none=>rfl
 |some sp=>
  cases EG st (args.map ρ)with
  |none=>rfl
  |some vs=>
   simp only[on];cases sp vs <;> rfl
def N1(d:D)(i:Nat):Option D:=match d with
 |.tup vs=>vs[i]?
 |_=>none
theorem Xd(x:PA)(i:Nat):@EC T (.ext x i) ρ st ⟨K⟩=@on _ (N1 (ρ x) i) ⟨fun d=>K d st⟩:=by
 simp only[EC,FF,POp.exec,N1]
 cases ρ x with
 |tup vs=>simp only[Js]
 |_=>rfl
theorem YMe(a:D)(l:List D):N1 (.tup (a::l)) 0=s_ a:=(rfl)
theorem YMd(a b:D)(l:List D):N1 (.tup (a::b::l)) 1=s_ b:=(rfl)
theorem YMc(a b c:D)(l:List D):N1 (.tup (a::b::c::l)) 2=s_ c:=(rfl)
end
theorem Ytu(fr:Frame)(s:Nat)(d:D):fr.put (s_ s) d=fr.set s d:=(rfl)
theorem Ytv(fr:Frame)(d:D):fr.put none d=fr:=(rfl)
theorem WD(G:DB)(fr:Frame)(n:Nat):DL G fr (.s n)=fr n:=(rfl)
theorem WE(G:DB)(fr:Frame)(d:D):DL G fr (.c d)=d:=(rfl)
theorem Kk(G:DB)(fr:Frame)(n:Nat)(d:D)(h:G n=s_ d):DL G fr (.g n)=.eptr d 0:=by simp[DL,h]
theorem YOt(a:D)(l:List D):Dm (a::l) 0=a:=(rfl)
theorem YOs(a b:D)(l:List D):Dm (a::b::l) 1=b:=(rfl)
theorem YOr(a b c:D)(l:List D):Dm (a::b::c::l) 2=c:=(rfl)
theorem YOq(a b c d:D)(l:List D):Dm (a::b::c::d::l) 3=d:=(rfl)
theorem YOp(a b c d e:D)(l:List D):Dm (a::b::c::d::e::l) 4=e:=(rfl)
theorem YOo(a b c d e f:D)(l:List D):Dm (a::b::c::d::e::f::l) 5=f:=(rfl)
theorem YOn(a b c d e f g:D)(l:List D):Dm (a::b::c::d::e::f::g::l) 6=g:=(rfl)
theorem YOm(a b c d e f g h:D)(l:List D):Dm (a::b::c::d::e::f::g::h::l) 7=h:=(rfl)
def NG(B:Frame→St→(Ex→Frame→St→Prop)→Prop)(cut:PS→PS):Nat→PS→(Ex→Frame→St→Prop)→Prop
 |0,_,_=>False
 |n+1,s,Q=>B (cut s).fr (cut s).st fun e fr st=>match e with
  |.next=>NG B cut n ⟨fr,st⟩ Q
  |e=>Q e fr st
def W(G:DB)(T:Tbl):PC→Frame→St→(Ex→Frame→St→Prop)→Prop
 |.skip,fr,st,Q=>Q .next fr st
 |.ops l,fr,st,Q=>GY G T l fr st (Q .next)
 |.any l,fr,st,Q=>GD G T l [] fr st (Q .next)
 |.any2 keep l1 l2,fr,st,Q=>GD G T l1 [] fr st fun fr1 st1=>GD G T l2 [] fr st fun fr2 st2=>W2 keep st.length fr1 st1 fr2 st2 fun s=>Q .next s.fr s.st
 |.seq a b,fr,st,Q=>W G T a fr st fun e fr' st'=>match e with
  |.next=>W G T b fr' st' Q
  |e=>Q e fr' st'
 |.cond c a b,fr,st,Q=>@TL (DL G fr c) ⟨fun v=>@H7 v ⟨W G T a fr st Q⟩ ⟨W G T b fr st Q⟩⟩
 |.block id c,fr,st,Q=>W G T c fr st fun e fr' st'=>match e with
  |.exit id'=>if id'=id then Q .next fr' st' else Q (.exit id') fr' st'
  |e=>Q e fr' st'
 |.loop keep c,fr,st,Q=>∃ n,NG (W G T c) (restrict keep st.length) n ⟨fr,st⟩ Q
 |.loopA keep c,fr,st,Q=>∃ n,NG (W G T c) (keepAll keep) n ⟨fr,st⟩ Q
 |.opsX l,fr,st,Q=>M7 G T l fr st (Q .next) (fun t d=>Q (.panic t d))
 |.pan l d1 t x,fr,st,Q=>GY G T l fr st fun fr' st'=>@H7 (Mt (DL G fr' x)) ⟨Q (.panic t (DL G fr' x)) (fr'.set d1 .junk) st'⟩ ⟨False⟩
 |.alt a b,fr,st,Q=>W G T a fr st Q∨(a.exec G T 0 ⟨fr,st⟩=none∧(∀ m,a.exec G T m ⟨fr,st⟩=none)∧W G T b fr st Q)
 |.range x ps a b,fr,st,Q=>∃ (n:Nat) (st':St) (e:Ex),(∀ m,n≤m→lM T (DL G fr x) (iz (a.exec G T m) (b.exec G T m) fr ps st.length) (st++[recO 0])=s_ st')∧ru st' st.length=s_ e∧Q e fr (st'.set st.length (recO 2))
 |.exit id,fr,st,Q=>Q (.exit id) fr st
 |.ret,fr,st,Q=>Q .ret fr st
 |.fail,_,_,_=>False
theorem Mb{G:DB}{T:Tbl}:∀ (c:PC) (fr:Frame) (st:St) (Q:Ex→Frame→St→Prop),W G T c fr st Q→
  ∃ (n:Nat) (e:Ex) (E:Frame) (st':St),(∀ m,n≤m→c.exec G T m ⟨fr,st⟩=s_ (e,⟨E,st'⟩))∧Q e E st'
 |.skip,fr,st,Q,h=>⟨0,.next,fr,st,fun _ _=>rfl,h⟩
 |.ops l,fr,st,Q,h=>by
  obtain⟨E,st',N,M⟩:=Uk l fr st _ h;exact⟨0,.next,E,st',fun m _=>by simp only[PC.exec,N],M⟩
 |.any l,fr,st,Q,h=>by
  obtain⟨E,st',N,M⟩:=Uj l [] fr st _ h;exact⟨0,.next,E,st',fun m _=>by simp only[PC.exec,N],M⟩
 |.any2 keep l1 l2,fr,st,Q,h=>by
  obtain⟨fr1,st1,N,M⟩:=Uj l1 [] fr st _ h;obtain⟨fr2,st2,h3,h4⟩:=Uj l2 [] fr st _ M;obtain⟨h5,h6⟩:=YGi h4;exact⟨0,.next,_,_,fun m _=>by simp only[PC.exec,N,h3,h5,Ae],h6⟩
 |.seq a b,fr,st,Q,h=>by
  obtain⟨n,e,E,st',N,M⟩:=Mb a fr st _ h
  cases e with
  |next=>
   obtain⟨n',e',ad,ae,h3,h4⟩:=Mb b E st' _ M;exact⟨n+n',e',ad,ae,fun m hm=>by simp only[PC.exec,N m (by omega),h3 m (by omega)],h4⟩
  |exit id=>exact⟨n,.exit id,E,st',fun m hm=>by simp only[PC.exec,N m hm],M⟩
  |ret=>exact⟨n,.ret,E,st',fun m hm=>by simp only[PC.exec,N m hm],M⟩
  |panic t d=>exact⟨n,.panic t d,E,st',fun m hm=>by simp only[PC.exec,N m hm],M⟩
 |.cond c a b,fr,st,Q,h=>by
  simp only[W,TL]at h
  split at h
  ·rename_i v hv
   cases v with
   |true=>
    obtain⟨n,e,E,st',N,M⟩:=Mb a fr st _ h;exact⟨n,e,E,st',fun m hm=>by simp only[PC.exec,hv,N m hm],M⟩
   |false=>
    obtain⟨n,e,E,st',N,M⟩:=Mb b fr st _ h;exact⟨n,e,E,st',fun m hm=>by simp only[PC.exec,hv,N m hm],M⟩
  ·exact h.elim
 |.block id c,fr,st,Q,h=>by
  obtain⟨n,e,E,st',N,M⟩:=Mb c fr st _ h
  cases e with
  |next=>exact⟨n,.next,E,st',fun m hm=>by simp only[PC.exec,N m hm],M⟩
  |ret=>exact⟨n,.ret,E,st',fun m hm=>by simp only[PC.exec,N m hm],M⟩
  |panic t d=>exact⟨n,.panic t d,E,st',fun m hm=>by simp only[PC.exec,N m hm],M⟩
  |exit a3=>
   simp only at M
   split at M
   ·rename_i hi;exact⟨n,.next,E,st',fun m hm=>by simp only[PC.exec,N m hm,hi,if_true],M⟩
   ·rename_i hi;exact⟨n,.exit a3,E,st',fun m hm=>by simp only[PC.exec,N m hm,hi,if_false],M⟩
 |.loop keep c,fr,st,Q,h=>by
  obtain⟨k,h⟩:=h
  have key:∀ (k:Nat) (s:PS),NG (W G T c) (restrict keep st.length) k s Q→∃ (n:Nat) (e:Ex) (E:Frame) (st':St),(∀ m q,n≤m→k≤q→KD (c.exec G T m) (restrict keep st.length) q s=s_ (e,⟨E,st'⟩))∧Q e E st':=by
   intro k
   induction k with
   |zero=>intro s h; exact h.elim
   |succ k ih=>
    intro s h;obtain⟨n,e,E,st',N,M⟩:=Mb c _ _ _ h;have ab:∀ m,n≤m→c.exec G T m (restrict keep st.length s)=s_ (e,⟨E,st'⟩):=N
    cases e with
    |next=>
     obtain⟨n',e',ad,ae,h3,h4⟩:=ih _ M;refine⟨n+n',e',ad,ae,fun m q hm hq=>?_,h4⟩;obtain⟨q,rfl⟩:∃ q',q=q'+1:=⟨q - 1,by omega⟩;simp only[KD,ab m (by omega)];grind
    |exit id=>
     refine⟨n,.exit id,E,st',fun m q hm hq=>?_,M⟩;obtain⟨q,rfl⟩:∃ q',q=q'+1:=⟨q - 1,by omega⟩;simp only[KD,ab m hm]
    |ret=>
     refine⟨n,.ret,E,st',fun m q hm hq=>?_,M⟩;obtain⟨q,rfl⟩:∃ q',q=q'+1:=⟨q - 1,by omega⟩;simp only[KD,ab m hm]
    |panic t d=>
     refine⟨n,.panic t d,E,st',fun m q hm hq=>?_,M⟩;obtain⟨q,rfl⟩:∃ q',q=q'+1:=⟨q - 1,by omega⟩;simp only[KD,ab m hm]
  obtain⟨n,e,E,st',N,M⟩:=key k _ h;exact⟨n+k,e,E,st',fun m hm=>by simp only[PC.exec]; exact N m m (by omega) (by omega),M⟩
 |.loopA keep c,fr,st,Q,h=>by
  obtain⟨k,h⟩:=h
  have key:∀ (k:Nat) (s:PS),NG (W G T c) (keepAll keep) k s Q→∃ (n:Nat) (e:Ex) (E:Frame) (st':St),(∀ m q,n≤m→k≤q→KD (c.exec G T m) (keepAll keep) q s=s_ (e,⟨E,st'⟩))∧Q e E st':=by
   intro k
   induction k with
   |zero=>intro s h; exact h.elim
   |succ k ih=>
    intro s h;obtain⟨n,e,E,st',N,M⟩:=Mb c _ _ _ h;have ab:∀ m,n≤m→c.exec G T m (keepAll keep s)=s_ (e,⟨E,st'⟩):=N
    cases e with
    |next=>
     obtain⟨n',e',ad,ae,h3,h4⟩:=ih _ M;refine⟨n+n',e',ad,ae,fun m q hm hq=>?_,h4⟩;obtain⟨q,rfl⟩:∃ q',q=q'+1:=⟨q - 1,by omega⟩;simp only[KD,ab m (by omega)];grind
    |exit id=>
     refine⟨n,.exit id,E,st',fun m q hm hq=>?_,M⟩;obtain⟨q,rfl⟩:∃ q',q=q'+1:=⟨q - 1,by omega⟩;simp only[KD,ab m hm]
    |ret=>
     refine⟨n,.ret,E,st',fun m q hm hq=>?_,M⟩;obtain⟨q,rfl⟩:∃ q',q=q'+1:=⟨q - 1,by omega⟩;simp only[KD,ab m hm]
    |panic t d=>
     refine⟨n,.panic t d,E,st',fun m q hm hq=>?_,M⟩;obtain⟨q,rfl⟩:∃ q',q=q'+1:=⟨q - 1,by omega⟩;simp only[KD,ab m hm]
  obtain⟨n,e,E,st',N,M⟩:=key k _ h;exact⟨n+k,e,E,st',fun m hm=>by simp only[PC.exec]; exact N m m (by omega) (by omega),M⟩
 |.range x ps a b,fr,st,Q,h=>by
  obtain⟨n,st',e,N,h3,M⟩:=h;exact⟨n,e,fr,_,fun m hm=>by simp only[PC.exec,N m hm,Bk,h3,Ae],M⟩
 |.opsX l,fr,st,Q,h=>by
  rcases ox l fr st _ _ h with⟨E,st',N,M⟩|⟨t,d,E,st',N,M,h3⟩
  ·exact⟨0,.next,E,st',fun m _=>by simp only[PC.exec,N],M⟩
  ·exact⟨0,.panic t d,E,st',fun m _=>by simp only[PC.exec,N,M,Ae],h3⟩
 |.pan l d1 t x,fr,st,Q,h=>by
  obtain⟨E,st',N,M⟩:=Uk l fr st _ h;unfold H7 at M
  split at M
  ·rename_i hi;exact⟨0,.panic t (DL G E x),E.set d1 .junk,st',fun m _=>by simp only[PC.exec,N,hi,if_true],M⟩
  ·grind
 |.alt a b,fr,st,Q,h=>by
  rcases h with h|⟨_,N,h⟩
  ·obtain⟨n,e,E,st',N,M⟩:=Mb a fr st _ h;exact⟨n,e,E,st',fun m hm=>by simp only[PC.exec,N m hm],M⟩
  ·obtain⟨n,e,E,st',M,h3⟩:=Mb b fr st _ h;exact⟨n,e,E,st',fun m hm=>by simp only[PC.exec,N m,M m hm],h3⟩
 |.exit id,fr,st,Q,h=>⟨0,.exit id,fr,st,fun _ _=>rfl,h⟩
 |.ret,fr,st,Q,h=>⟨0,.ret,fr,st,fun _ _=>rfl,h⟩
 |.fail,_,_,_,h=>h.elim
theorem fq{G:DB}{T:Tbl}:∀ (l:List PI) (fr:Frame) (st:St) (K E:Frame→St→Prop),GY G T l fr st K→(∀ fr st,K fr st→E fr st)→GY G T l fr st E
 |[],_,_,_,_,h,hk=>hk _ _ h
 |i::l,fr,st,K,E,h,hk=>by
  have M:FF T i.op (DL G fr) st (fun d st'=>GY G T l (fr.put i.dst d) st' K)→FF T i.op (DL G fr) st (fun d st'=>GY G T l (fr.put i.dst d) st' E):=by
   unfold FF on
   split
   ·exact fun h=>fq l _ _ _ _ h hk
   ·exact id
  have N:GY G T l (fr.put i.dst (.tup [])) st K→GY G T l (fr.put i.dst (.tup [])) st E:=fun h=>fq l _ _ _ _ h hk;rw[GY]at h ⊢;unfold kG at h ⊢
  split
  ·simp_all
  ·simp_all
   split
   ·simp_all;rename_i b hb;rename_i want _ _
    revert h
    unfold H7;grind
   ·simp_all
   ·simp_all
theorem LL{G:DB}{T:Tbl}:∀ (c:PC) (fr:Frame) (st:St) (Q M:Ex→Frame→St→Prop),W G T c fr st Q→(∀ e fr st,Q e fr st→M e fr st)→W G T c fr st M
 |.skip,fr,st,Q,M,h,E=>E _ _ _ h
 |.ops l,fr,st,Q,M,h,E=>fq l fr st _ _ h fun fr st h=>E _ _ _ h
 |.any l,fr,st,Q,M,h,E=>T8 l [] fr st _ _ h fun fr st h=>E _ _ _ h
 |.any2 keep l1 l2,fr,st,Q,M,h,E=>T8 l1 [] fr st _ _ h fun fr1 st1 h=>T8 l2 [] fr st _ _ h fun fr2 st2 h=>YGj h fun s h=>E _ _ _ h
 |.seq a b,fr,st,Q,M,h,E=>by
  refine LL a fr st _ _ h fun e N st' h=>?_
  cases e with
  |next=>exact LL b _ _ _ _ h E
  |exit id=>exact E _ _ _ h
  |ret=>exact E _ _ _ h
  |panic t d=>exact E _ _ _ h
 |.cond c a b,fr,st,Q,M,h,E=>by
  simp only[W,TL]at h ⊢
  split
  ·rename_i v hv;rw[hv]at h;simp only at h
   cases v with
   |true=>exact LL a _ _ _ _ h E
   |false=>exact LL b _ _ _ _ h E
  ·grind
 |.block id c,fr,st,Q,M,h,E=>by
  refine LL c fr st _ _ h fun e N st' h=>?_;grind
 |.loop keep c,fr,st,Q,M,h,E=>by
  obtain⟨k,h⟩:=h;refine⟨k,?_⟩
  have key:∀ (k:Nat) (s:PS),NG (W G T c) (restrict keep st.length) k s Q→NG (W G T c) (restrict keep st.length) k s M:=by
   intro k
   induction k with
   |zero=>intro s h; exact h
   |succ k ih=>
    intro s h;refine LL c _ _ _ _ h fun e N st' h=>?_;grind
  grind
 |.loopA keep c,fr,st,Q,M,h,E=>by
  obtain⟨k,h⟩:=h;refine⟨k,?_⟩
  have key:∀ (k:Nat) (s:PS),NG (W G T c) (keepAll keep) k s Q→NG (W G T c) (keepAll keep) k s M:=by
   intro k
   induction k with
   |zero=>intro s h; exact h
   |succ k ih=>
    intro s h;refine LL c _ _ _ _ h fun e N st' h=>?_;grind
  grind
 |.range x ps a b,fr,st,Q,M,h,E=>by
  obtain⟨n,st',e,h1,h3,h2⟩:=h;exact⟨n,st',e,h1,h3,E _ _ _ h2⟩
 |.opsX l,fr,st,Q,M,h,E=>nQ l fr st _ _ _ _ h (fun _ _ h=>E _ _ _ h) fun _ _ _ _ h=>E _ _ _ h
 |.pan l d1 t x,fr,st,Q,M,h,E=>fq l fr st _ _ h fun N st' h=>by
  unfold H7 at h ⊢;grind
 |.alt a b,fr,st,Q,M,h,E=>h.imp (fun h=>LL a _ _ _ _ h E) fun h=>⟨h.1,h.2.1,LL b _ _ _ _ h.2.2 E⟩
 |.exit id,fr,st,Q,M,h,E=>E _ _ _ h
 |.ret,fr,st,Q,M,h,E=>E _ _ _ h
 |.fail,_,_,_,_,h,_=>h.elim
variable {Q:Ex→Frame→St→Prop}{c:PC}{ι:Type}{G:DB}
theorem YO2(N:ι→List (Nat×D))(hs:ι→St)(P:ι→Prop)(μ:ι→Nat)(E:ι)
  (h0:restrict keep st.length ⟨fr,st⟩=⟨HC (N E),hs E⟩) (hP:P E)
  (ab:∀ i,P i→W G T c (HC (N i)) (hs i) fun e M st'=>match e with
   |.next=>∃ j,P j∧μ j<μ i∧restrict keep st.length ⟨M,st'⟩=⟨HC (N j),hs j⟩
   |e=>Q e M st'):W G T (.loop keep c) fr st Q:=by
 have key:∀ (n:Nat) (i:ι) (s:PS),μ i<n→P i→restrict keep st.length s=⟨HC (N i),hs i⟩→NG (W G T c) (restrict keep st.length) n s Q:=by
  intro n
  induction n with
  |zero=>intro i s h _ _; exact absurd h (Nat.not_lt_zero _)
  |succ n ih=>
   intro i s hi ac hr;simp only[NG,hr];refine LL c _ _ _ _ (ab i ac) fun e M st' h=>?_;grind
 exact⟨μ E+1,key _ E _ (CR _) hP h0⟩
def wW(G:DB)(T:Tbl)(c:PC)(fr:Frame)(st:St)[Q:QC]:Prop:=W G T c fr st Q.run
theorem JL(h:@wW G T c fr st ⟨Q⟩):W G T c fr st Q:=h
theorem gy(h:W G T c fr st Q):@wW G T c fr st ⟨Q⟩:=h
theorem YO0(G:DB)(T:Tbl)(fr:Frame)(st:St)(Q:Ex→Frame→St→Prop):@wW G T .skip fr st ⟨Q⟩=Q .next fr st:=(rfl)
theorem YD(G:DB)(T:Tbl)(l:List PI)(fr:Frame)(st:St)(Q:Ex→Frame→St→Prop):@wW G T (.ops l) fr st ⟨Q⟩=@Ij G T l fr st ⟨Q .next⟩:=(rfl)
theorem YE(G:DB)(T:Tbl)(l:List (PI×Bool×List Nat))(fr:Frame)(st:St)(Q:Ex→Frame→St→Prop):@wW G T (.any l) fr st ⟨Q⟩=@Jz G T l [] fr st ⟨Q .next⟩:=(rfl)
theorem YO5(G:DB)(T:Tbl)(keep:List Nat)(l1 E:List (PI×Bool×List Nat))(fr:Frame)(st:St)(Q:Ex→Frame→St→Prop):@wW G T (.any2 keep l1 E) fr st ⟨Q⟩=
  @Jz G T l1 [] fr st ⟨fun fr1 st1=>@Jz G T E [] fr st ⟨fun fr2 st2=>@H7 (st1.length == st.length+2 && st2.length == st.length+2) ⟨@Yr (restrictAt keep st.length [st.length,st.length+1] ⟨fr1,st1⟩) (restrictAt keep st.length [st.length+1,st.length] ⟨fr2,st2⟩) ⟨fun s=>Q .next s.fr s.st⟩⟩ ⟨False⟩⟩⟩:=(rfl)
def T2(G:DB)(T:Tbl)(b:PC)[Q:QC](e:Ex)(fr:Frame)(st:St):Prop:=match e with
 |.next=>W G T b fr st Q.run
 |e=>Q.run e fr st
theorem YA(G:DB)(T:Tbl)(a b:PC)(fr:Frame)(st:St)(Q:QC):@wW G T (.seq a b) fr st Q=@wW G T a fr st ⟨@T2 G T b Q⟩:=(rfl)
theorem Yij(G:DB)(T:Tbl)(b:PC)(Q:QC)(fr:Frame)(st:St):@T2 G T b Q .next fr st=@wW G T b fr st Q:=(rfl)
theorem Yik(G:DB)(T:Tbl)(b:PC)(Q:Ex→Frame→St→Prop)(E:Nat)(fr:Frame)(st:St):@T2 G T b ⟨Q⟩ (.exit E) fr st=Q (.exit E) fr st:=(rfl)
theorem Ysl(G:DB)(T:Tbl)(b:PC)(Q:Ex→Frame→St→Prop)(fr:Frame)(st:St):@T2 G T b ⟨Q⟩ .ret fr st=Q .ret fr st:=(rfl)
theorem Yeg(G:DB)(T:Tbl)(b:PC)(Q:Ex→Frame→St→Prop)(t:Nat)(d:D)(fr:Frame)(st:St):@T2 G T b ⟨Q⟩ (.panic t d) fr st=Q (.panic t d) fr st:=(rfl)
theorem YO1(G:DB)(T:Tbl)(l:List PI)(fr:Frame)(st:St)(Q:Ex→Frame→St→Prop):@wW G T (.opsX l) fr st ⟨Q⟩=@QF G T l fr st ⟨Q .next⟩ ⟨fun t d=>Q (.panic t d)⟩:=(rfl)
theorem YC(G:DB)(T:Tbl)(l:List PI)(d1 t:Nat)(x:PA)(fr:Frame)(st:St)(Q:Ex→Frame→St→Prop):@wW G T (.pan l d1 t x) fr st ⟨Q⟩=@Ij G T l fr st ⟨fun E st'=>@H7 (Mt (DL G E x)) ⟨Q (.panic t (DL G E x)) (E.set d1 .junk) st'⟩ ⟨False⟩⟩:=(rfl)
theorem YO4(G:DB)(T:Tbl)(c:PA)(a b:PC)(fr:Frame)(st:St)(Q:QC):@wW G T (.cond c a b) fr st Q=@TL (DL G fr c) ⟨fun v=>@H7 v ⟨@wW G T a fr st Q⟩ ⟨@wW G T b fr st Q⟩⟩:=(rfl)
def MG(id:Nat)[Q:QC](e:Ex)(fr:Frame)(st:St):Prop:=match e with
 |.exit id'=>if id'=id then Q.run .next fr st else Q.run (.exit id') fr st
 |e=>Q.run e fr st
theorem YGh(G:DB)(T:Tbl)(E:Nat)(c:PC)(fr:Frame)(st:St)(Q:QC):@wW G T (.block E c) fr st Q=@wW G T c fr st ⟨@MG E Q⟩:=(rfl)
theorem Yub(E:Nat)(Q:Ex→Frame→St→Prop)(fr:Frame)(st:St):@MG E ⟨Q⟩ .next fr st=Q .next fr st:=(rfl)
theorem YB9(E:Nat)(Q:Ex→Frame→St→Prop)(fr:Frame)(st:St):@MG E ⟨Q⟩ .ret fr st=Q .ret fr st:=(rfl)
theorem Yku(E:Nat)(Q:Ex→Frame→St→Prop)(t:Nat)(d:D)(fr:Frame)(st:St):@MG E ⟨Q⟩ (.panic t d) fr st=Q (.panic t d) fr st:=(rfl)
theorem YJy(M E:Nat)(Q:Ex→Frame→St→Prop)(fr:Frame)(st:St):@MG M ⟨Q⟩ (.exit E) fr st=if E=M then Q .next fr st else Q (.exit E) fr st:=(rfl)
theorem YO3(G:DB)(T:Tbl)(E:Nat)(fr:Frame)(st:St)(Q:Ex→Frame→St→Prop):@wW G T (.exit E) fr st ⟨Q⟩=Q (.exit E) fr st:=(rfl)
theorem YB(G:DB)(T:Tbl)(fr:Frame)(st:St)(Q:Ex→Frame→St→Prop):@wW G T .ret fr st ⟨Q⟩=Q .ret fr st:=(rfl)
def Ds(res:List PRes)(r:D)(e:Ex)(fr:Frame)(st:St):Prop:=match e with
 |.exit _ | .panic _ _=>False
 |_=>(Gh ⟨fr,st⟩ res).map Ec=s_ r
theorem Ys9(res:List PRes)(r:D)(fr:Frame)(st:St):Ds res r .ret fr st=((Gh ⟨fr,st⟩ res).map Ec=s_ r):=(rfl)
theorem Yjq(res:List PRes)(r:D)(fr:Frame)(st:St):Ds res r .next fr st=((Gh ⟨fr,st⟩ res).map Ec=s_ r):=(rfl)
def Ht(res:List PRes)[R:Cont2 D St](e:Ex)(fr:Frame)(st:St):Prop:=match e with
 |.exit _ | .panic _ _=>False
 |_=>@on _ (Eo ⟨fr,st⟩ res) ⟨fun l=>R.run (Ec l) st⟩
theorem Ya5(res:List PRes)(R:D→St→Prop)(fr:Frame)(st:St):@Ht res ⟨R⟩ .ret fr st=@on _ (Eo ⟨fr,st⟩ res) ⟨fun l=>R (Ec l) st⟩:=(rfl)
theorem vJ(res:List PRes)(R:D→St→Prop)(fr:Frame)(st:St):@Ht res ⟨R⟩ .next fr st=@on _ (Eo ⟨fr,st⟩ res) ⟨fun l=>R (Ec l) st⟩:=(rfl)
variable {ds:List D}{F:PF}
theorem Ya1{r:D}(h:W G T F.code (Dm ds) [] (Ds F.res r)):∃ fuel,F.run G T fuel ds=s_ r:=by
 obtain⟨n,e,N,st',M,E⟩:=Mb _ _ _ _ h;refine⟨n,?_⟩;unfold PF.run;rw[M n (AF _)]
 cases e with
 |next=>exact E
 |ret=>exact E
 |exit id=>exact E.elim
 |panic t d=>exact E.elim
theorem ng{R:D→St→Prop}(h:W G T F.code (Dm ds) st (@Ht F.res ⟨R⟩)):∃ fuel r st',(∀ m,fuel≤m→F.runI G T m ds st=s_ (r,st'))∧R r st':=by
 obtain⟨n,e,M,st',N,E⟩:=Mb _ _ _ _ h
 have key:∀ (E:@on _ (Eo ⟨M,st'⟩ F.res) ⟨fun l=>R (Ec l) st'⟩) (he:e=.next∨e=.ret),∃ fuel r st',(∀ m,fuel≤m→F.runI G T m ds st=s_ (r,st'))∧R r st':=by
  intro E he;unfold on at E
  split at E
  ·rename_i l hl;refine⟨n,Ec l,st',fun m hm=>?_,E⟩;unfold PF.runI;grind
  ·grind
 cases e with
 |next=>exact key E (.inl rfl)
 |ret=>exact key E (.inr rfl)
 |exit id=>exact E.elim
 |panic t d=>exact E.elim
def NV[X:XC0](e:Ex)(_:Frame)(st:St):Prop:=match e with
 |.panic t d=>X.run t d st
 |_=>False
theorem Yeu(X:Nat→D→St→Prop)(t:Nat)(d:D)(fr:Frame)(st:St):@NV ⟨X⟩ (.panic t d) fr st=X t d st:=(rfl)
theorem Yjm(h:W G T F.code (Dm ds) st (@NV ⟨X⟩)):∃ fuel t d st',(∀ m,fuel≤m→F.runX G T m ds st=s_ (t,d,st'))∧X t d st':=by
 obtain⟨n,e,N,st',M,E⟩:=Mb _ _ _ _ h
 cases e with
 |panic t d=>exact⟨n,t,d,st',fun m hm=>by unfold PF.runX; rw[M m hm],E⟩
 |_=>exact E.elim
def PJ(h:Nat→D→List D→St→Option St)(das:List D)(res:List PRes)[R:Cont2 D St](e:Ex)(fr:Frame)(st:St):Prop:=match e with
 |.exit _=>False
 |.panic t d=>@on _ (h t d das st) ⟨fun st3=>@on _ (Eo ⟨fr,st3⟩ res) ⟨fun l=>R.run (Ec l) st3⟩⟩
 |_=>@on _ (Eo ⟨fr,st⟩ res) ⟨fun l=>R.run (Ec l) st⟩
theorem Ytb(h:Nat→D→List D→St→Option St)(E:List D)(res:List PRes)(R:D→St→Prop)(fr:Frame)(st:St):@PJ h E res ⟨R⟩ .ret fr st=@on _ (Eo ⟨fr,st⟩ res) ⟨fun l=>R (Ec l) st⟩:=(rfl)
theorem Yjt(h:Nat→D→List D→St→Option St)(E:List D)(res:List PRes)(R:D→St→Prop)(fr:Frame)(st:St):@PJ h E res ⟨R⟩ .next fr st=@on _ (Eo ⟨fr,st⟩ res) ⟨fun l=>R (Ec l) st⟩:=(rfl)
theorem Yew(h:Nat→D→List D→St→Option St)(E:List D)(res:List PRes)(R:D→St→Prop)(t:Nat)(d:D)(fr:Frame)(st:St) :
  @PJ h E res ⟨R⟩ (.panic t d) fr st=@on _ (h t d E st) ⟨fun M=>@on _ (Eo ⟨fr,M⟩ res) ⟨fun l=>R (Ec l) M⟩⟩:=(rfl)
def RC(h:Nat→D→List D→St→Option St)(das:List D)(res:List PRes)(r:D)(e:Ex)(fr:Frame)(st:St):Prop:=match e with
 |.exit _=>False
 |.panic t d=>@on _ (h t d das st) ⟨fun st3=>(Gh ⟨fr,st3⟩ res).map Ec=s_ r⟩
 |_=>(Gh ⟨fr,st⟩ res).map Ec=s_ r
theorem Yju(h:Nat→D→List D→St→Option St)(E:List D)(res:List PRes)(r:D)(fr:Frame)(st:St):RC h E res r .ret fr st=((Gh ⟨fr,st⟩ res).map Ec=s_ r):=(rfl)
theorem Yex(h:Nat→D→List D→St→Option St)(E:List D)(res:List PRes)(r:D)(fr:Frame)(st:St):RC h E res r .next fr st=((Gh ⟨fr,st⟩ res).map Ec=s_ r):=(rfl)
theorem yX0(h:Nat→D→List D→St→Option St)(E:List D)(res:List PRes)(r:D)(t:Nat)(d:D)(fr:Frame)(st:St):RC h E res r (.panic t d) fr st=@on _ (h t d E st) ⟨fun M=>(Gh ⟨fr,M⟩ res).map Ec=s_ r⟩:=(rfl)
def RU(G:DB)(T:Tbl)(F:PFD)(H:Jc)(ds:List D)(st:St)(K:(Nat→D→List D→St→Option St)→List D→Ex→Frame→St→Prop):Prop:=
 @Ij G T F.pre (Dm ds) st ⟨fun fr1 st1=>@on _ (Ps (DL G fr1 F.hf) (F.ha.map (DL G fr1))) ⟨fun p=>@on _ (H p.1) ⟨fun h=>@wW G T F.code fr1 st1 ⟨K h p.2⟩⟩⟩⟩
theorem Yjn{F:PFD}{H:Jc}{K:(Nat→D→List D→St→Option St)→List D→Ex→Frame→St→Prop}(h:RU G T F H ds st K) :
  ∃ n s1 f aa N e M st',Ft G T F.pre ⟨Dm ds,st⟩=s_ s1∧Ps (DL G s1.fr F.hf) (F.ha.map (DL G s1.fr))=s_ (f,aa)∧H f=s_ N∧(∀ m,n≤m→F.code.exec G T m s1=s_ (e,⟨M,st'⟩))∧K N aa e M st':=by
 obtain⟨fr1,st1,h1,E⟩:=Uk _ _ _ _ h;simp only at E;unfold on at E
 split at E
 case h_2=>exact E.elim
 rename_i p hp;simp only at E
 split at E
 case h_2=>exact E.elim
 rename_i N hh;obtain⟨n,e,M,st',h3,h4⟩:=Mb _ _ _ _ (show W G T F.code fr1 st1 (K N p.2)from E);exact⟨n,⟨fr1,st1⟩,p.1,p.2,N,e,M,st',h1,hp,hh,h3,h4⟩
theorem YE4(fs:List (Option Foot))(g:Option Foot):OJ fs g []=t_:=(rfl)
theorem Ywi(fs:List (Option Foot))(g:Option Foot)(j:Nat)(r:List Nat):OJ fs g (j::r)=(pE fs[j]? g && OJ fs g r):=(rfl)
theorem YMr(f g:Foot):pE (s_ (s_ f)) (s_ g)=f.ok g:=(rfl)
theorem WK(r w M w':List Nat)(m E:Option Nat):Foot.ok ⟨r,w,m⟩ ⟨M,w',E⟩=(Iu w' r && Iu w' w && Iu w M && LX m M && LX m w' && LX E r && LX E w && (m.isNone || E.isNone)):=(rfl)
theorem Yxl(b:List Nat):Iu [] b=t_:=(rfl)
theorem Yra(k:Nat)(a b:List Nat):Iu (k::a) b=(!b.contains k && Iu a b):=by simp[Iu]
theorem Yhq(a:List Nat):LX none a=t_:=(rfl)
theorem Yhp(n:Nat):LX (s_ n) []=t_:=(rfl)
theorem Yaf(n k:Nat)(a:List Nat):LX (s_ n) (k::a)=(decide (k<n) && LX (s_ n) a):=(rfl)
theorem Yn0:QJ=⟨[],[],none⟩:=(rfl)
theorem Ykx:HH (none:Option α)=[]:=(rfl)
theorem Ykw(x:α):HH (s_ x)=[x]:=(rfl)
section
variable (ρ:PA→D) (st:St)
theorem Yne(n:Nat)(p x:PA):POp.foot ρ st (.stor n p x)=s_ ⟨hk (ρ x),hk (ρ p),none⟩:=(rfl)
theorem Yv4(x:PA):POp.foot ρ st (.box x)=s_ ⟨[],[],s_ st.length⟩:=(rfl)
theorem Ygo(a b:Nat)(z:D)(l c:PA):POp.foot ρ st (.mkslc a b z l c)=s_ ⟨[],[],s_ st.length⟩:=(rfl)
theorem Ygp(f:Nat)(l:List PA):POp.foot ρ st (.mcall f l)=s_ ⟨[],[],s_ st.length⟩:=(rfl)
def Sc(st:St)(s x:D):Option Foot:=match s with
 |.row key _ _ _=>s_ ⟨hk x,[key],none⟩
 |_=>s_ ⟨hk x,[],GI x st.length⟩
theorem Yxt(key tot off len:Nat)(x:D):Sc st (.row key tot off len) x=s_ ⟨hk x,[key],none⟩:=(rfl)
theorem Yxs(sz:Nat)(els:List D)(t:Bool)(x:D):Sc st (.slc sz els t) x=s_ ⟨hk x,[],GI x st.length⟩:=(rfl)
theorem Yxq(sz:Nat)(t:Bool)(n:Nat):GI (.slc sz [] t) n=none:=(rfl)
theorem Yrg(sz:Nat)(a:D)(l:List D)(t:Bool)(n:Nat):GI (.slc sz (a::l) t) n=s_ n:=(rfl)
theorem Yxp(key tot off len n:Nat):GI (.row key tot off len) n=s_ n:=(rfl)
theorem Yxr(key off m sz:Nat)(ag:Bool)(n:Nat):GI (.bsl key off m sz ag) n=s_ n:=(rfl)
theorem Yxo(s:List UInt8)(n:Nat):GI (.str s) n=s_ n:=(rfl)
theorem Yv5(a b:Nat)(s x:PA):POp.foot ρ st (.app a b s x)=Sc st (ρ s) (ρ x):=(rfl)
theorem Ynh(n:Nat)(ag:Bool)(x:PA):POp.foot ρ st (.load n ag x)=s_ ⟨hk (ρ x),[],none⟩:=by simp[POp.foot,POp.args]
theorem Ynf(x:PA):POp.foot ρ st (.nilc x)=s_ ⟨ME (ρ x),[],none⟩:=(rfl)
theorem YBl(key off:Nat):ME (.ptr key off)=[]:=(rfl)
theorem Ys8(E:D)(off:Nat):ME (.eptr E off)=[]:=(rfl)
theorem Ys7(key tot i off:Nat):ME (.rptr key tot i off)=[key]:=(rfl)
theorem Yv3(n:Nat)(x:PA):POp.foot ρ st (.fld n x)=s_ ⟨ME (ρ x),[],none⟩:=(rfl)
theorem Yni(n m:Nat)(x i:PA):POp.foot ρ st (.idxA n m x i)=s_ ⟨ME (ρ x),[],none⟩:=(rfl)
theorem Ygn(n:Nat)(x:PA)(a b c:Option PA):POp.foot ρ st (.slice n x a b c)=s_ ⟨((x::(HH a++HH b++HH c)).map ρ).flatMap hk,[],none⟩:=(rfl)
theorem Ynj(f:Nat)(l:List PA):POp.foot ρ st (.call f l)=s_ ⟨(l.map ρ).flatMap hk,[],none⟩:=(rfl)
theorem Ynk(n:Nat)(l:List PA):POp.foot ρ st (.bslc n l)=s_ ⟨(l.map ρ).flatMap hk,[],none⟩:=(rfl)
end
attribute [irreducible] kF GD wF Jz fS Yr on TL H7 ev QY FF kG kV GY W T2 MG Ds Ht wW Ij EC JC M7 QF J8 TK NV PJ RC
def EY:D→Bool
 |.int _ _ | .bool _ | .str _ | .clo _ [] | .nilf | .nilp=>t_
 |.slc sz els t=>!t && nz sz els == sz
 |_=>f_
def Jq:D→Bool
 |.agg l=>l.all EY
 |d=>EY d
variable {d:D}
theorem n8(st:St)(h:EY d=t_):D2 st d=s_ d:=by
 cases d with
 |clo f l=>cases l <;> simp_all [EY,D2,D.pure1]
 |slc sz els t=>simp_all [EY,D2]
 |_=>simp_all [EY,D2,D.pure1]
theorem SY(st:St):∀ {l:List D},l.all EY=t_→Es st l=s_ l
 |[],_=>rfl
 |d::l,h=>by
  simp only[AX,Ad]at h;simp only[Es,n8 st h.1,SY st h.2]
theorem O8(st:St)(h:Jq d=t_):Ej st d=s_ d:=by
 cases d with
 |agg l=>simp only[Ej,SY st h,Ae]
 |tup l=>simp[Jq,EY]at h
 |_=>exact n8 st (by simpa only[Jq]using h)
theorem n9(h:EY d=t_):FQ d=[]:=by cases d <;> simp_all [EY,FQ]
theorem Ql(h:Jq d=t_):keys d=[]:=by
 cases d with
 |agg l=>
  simp only[keys,Ca];simp only[Jq,Ah]at h;exact fun d E=>n9 (h d E)
 |_=>exact n9 (by simpa only[Jq]using h)
theorem vM(h:EY d=t_):DR d=[]:=by
 cases d with
 |clo f l=>cases l <;> simp_all [EY,DR]
 |_=>simp_all [EY,DR,GZ]
theorem VL(h:Jq d=t_):hk d=[]:=by
 cases d with
 |agg l=>
  simp only[hk,Ca];simp only[Jq,Ah]at h;exact fun d E=>vM (h d E)
 |_=>exact vM (by simpa only[Jq]using h)
theorem w7(n:Nat)(σ:List Nat)(h:EY d=t_):EW n σ d=d:=by
 cases d with
 |clo f l=>cases l <;> simp_all [EY,EW]
 |_=>simp_all [EY,EW,Hf]
theorem Rj(n:Nat)(σ:List Nat)(h:Jq d=t_):EO n σ d=d:=by
 cases d with
 |agg l=>
  simp only[EO,D.agg.injEq];simp only[Jq,Ah]at h
  have:∀ l:List D,(∀ d∈l,EY d=t_)→l.map (EW n σ)=l:=by
   intro l
   induction l with
   |nil=>intro _; rfl
   |cons a l E=>intro h; simp only[Aw,w7 n σ (h a (by simp)),E fun d M=>h d (by simp[M])]
  grind
 |tup l=>simp[Jq,EY]at h
 |_=>exact w7 n σ (by simpa only[Jq]using h)
structure Dig where
 bs:List UInt8
 len:bs.length=32
 deriving DecidableEq
def DH:Dig:=⟨CZ 32 0,by simp⟩
instance:Inhabited Dig:=⟨DH⟩
theorem Dig.ext'{a b:Dig}(h:a.bs=b.bs):a=b:=by cases a; cases b; simp_all
def Dj(d:Dig):List D:=d.bs.map Dr
def Dl(d:Dig):D:=.agg (Dj d)
theorem Ef(d:Dig):(Dj d).length=32:=by simp[Dj,d.len]
theorem ug{a b:UInt8}(h:Dr a=Dr b):a=b:=by simp only[Dr,D.int.injEq,true_and]at h;exact CB.1 (by omega)
theorem P1{α β:Type}{f:α→β}(M:∀ a b,f a=f b→a=b):∀ {l E:List α},l.map f=E.map f→l=E
 |[],[],_=>rfl
 |[],_::_,h=>by cases h
 |_::_,[],h=>by cases h
 |a::l,b::E,h=>by
  simp only[Aw,Aa]at h;rw[M _ _ h.1,P1 M h.2]
variable {b:List UInt8}
theorem Rc{a:List UInt8}(h:a.map Dr=b.map Dr):a=b:=P1 (fun _ _=>ug) h
theorem Yc9{a b:Dig}(h:Dl a=Dl b):a=b:=by simp only[Dl,Dj,D.agg.injEq]at h;exact Dig.ext' (Rc h)
theorem MZ{a b:Dig}(h:Dj a=Dj b):a=b:=Dig.ext' (Rc h)
theorem Lu{p:D→Bool}(E:∀ b,p (Dr b)=t_)(d:Dig):(Dj d).all p=t_:=by simp only[Dj,Ah,A1];grind
theorem IT(d:Dig):(Dj d).all D.isCell=t_:=Lu (fun _=>rfl) d
theorem Uq(d:Dig):(Dj d).all EY=t_:=Lu (fun _=>rfl) d
theorem Rn(d:Dig):Jq (Dl d)=t_:=Uq d
theorem Ur(d:Dig):(Dl d).cells=Dj d:=(rfl)
theorem wY(d:Dig):(Dl d).noRef=t_:=Lu (fun _=>rfl) d
theorem p9(d:Dig):D.mk t_ (Dj d)=Dl d:=(rfl)
theorem YCi(x:D)(l:List D):D.mk t_ (x::l)=.agg (x::l):=(rfl)
theorem YKb(x:D)(l:List D):D.mk f_ (x::l)=x:=(rfl)
theorem YGc(d:Dig):D.agg (Dj d)=Dl d:=(rfl)
theorem Yrn:[D.int .u8 0,.int .u8 0,.int .u8 0,.int .u8 0,.int .u8 0,.int .u8 0,.int .u8 0,.int .u8 0,.int .u8 0,.int .u8 0,.int .u8 0,.int .u8 0,.int .u8 0,.int .u8 0,.int .u8 0,.int .u8 0,.int .u8 0,.int .u8 0,.int .u8 0,.int .u8 0,.int .u8 0,.int .u8 0,.int .u8 0,.int .u8 0,.int .u8 0,.int .u8 0,.int .u8 0,.int .u8 0,.int .u8 0,.int .u8 0,.int .u8 0,.int .u8 0]=Dj DH:=(rfl)
theorem eR(d:Dig):(Dj d).take 32=Dj d:=AL (by rw[Ef]; exact AF _)
theorem Zy(h:EY d=t_):Jq d=t_:=by
 cases d with
 |agg l=>simp[EY]at h
 |_=>exact h
theorem NB(n:Nat)(σ:List Nat):∀ {l:List D},l.all EY=t_→l.map (EO n σ)=l
 |[],_=>rfl
 |d::l,h=>by
  simp only[AX,Ad]at h;simp only[Aw,Rj n σ (Zy h.1),NB n σ h.2]
theorem Ov:∀ {l:List D},l.all EY=t_→l.flatMap hk=[]
 |[],_=>rfl
 |d::l,h=>by
  simp only[AX,Ad]at h;simp only[Au,VL (Zy h.1),Ov h.2,Af]
theorem Ytm(n:Nat)(σ:List Nat)(d:Dig):(Dj d).map (EO n σ)=Dj d:=NB n σ (Uq d)
theorem Yvo(d:Dig):(Dj d).flatMap hk=[]:=Ov (Uq d)
theorem YDq(st:St)(d:Dig):Ej st (Dl d)=s_ (Dl d):=O8 st (Rn d)
theorem Ycf(d:Dig):keys (Dl d)=[]:=Ql (Rn d)
theorem YLw(d:Dig):hk (Dl d)=[]:=VL (Rn d)
theorem Ya7(n:Nat)(σ:List Nat)(d:Dig):EO n σ (Dl d)=Dl d:=Rj n σ (Rn d)
theorem YFy(d:Dig):D4 (Dl d)=s_ (Dj d):=by simp only[D4,Ur,IT,if_true]
theorem yw:∀ (n:Nat) (a b:List UInt8),a.length=n→b.length=n→Fl (CZ n 0) (a.map Dr) (b.map Dr)=s_ (decide (a=b))
 |0,[],[],_,_=>rfl
 |0,_::_,_,h,_=>by cases h
 |0,[],_::_,_,h=>by cases h
 |n+1,[],_,h,_=>by cases h
 |n+1,_::_,[],_,h=>by cases h
 |n+1,a::l,b::M,h,E=>by
  simp only[Ak,Nat.add_right_cancel_iff]at h E;simp only[BP,Aw,Fl,yw n l M h E];simp only[Jl,Dr,if_true]
  congr 1
  by_cases e:a=b
  ·grind
  ·have:¬ ((a.toNat:Int)=(b.toNat:Int)):=fun h=>e (CB.1 (by omega));grind
theorem wB(a b:Dig):Fl (CZ 32 0) (Dj a) (Dj b)=s_ (decide (a=b)):=by
 rw[Dj,Dj,yw 32 a.bs b.bs a.len b.len]
 congr 1
 by_cases e:a=b
 ·grind
 ·have E:¬ a.bs=b.bs:=fun h=>e (Dig.ext' h);simp[e,E]
theorem OL(E:Bool)(a b:Dig):Hu [0,0,0,0,0,0,0,0,0,0,0,0,0,0,0,0,0,0,0,0,0,0,0,0,0,0,0,0,0,0,0,0] E (Dl a) (Dl b)=s_ (.bool (decide (a=b) != E)):=by
 show(Fl (CZ 32 0) (Dj a) (Dj b)).map _=_
 rw[wB]; rfl
theorem getElem?_getD[Inhabited α](l:List α)(i:Nat)(h:i<l.length):l[i]?=s_ (l.getD i default):=by grind
theorem nB[Inhabited α](l:List α)(i:Nat)(h:i<l.length):l.take (i+1)=l.take i++[l.getD i default]:=by simp_all
theorem m4[Inhabited α](l:List α)(i:Nat)(h:i<l.length):l.drop i=l.getD i default::l.drop (i+1):=by simp_all
theorem w8(l xs:List D)(h:l.length=xs.length):F7 l 0 xs=xs:=by simp[F7,h]
theorem w9(a b:Dig):F7 (Dj a) 0 (Dj b)=Dj b:=w8 _ _ (by rw[Ef,Ef])
theorem yf(x:D)(l ys:List D)(n:Nat):F7 (x::l) (n+1) ys=x::F7 l n ys:=by simp[F7,Nat.add_right_comm]
def DJ(o:Option Obj)(n:Nat)(ag:Bool)(off:Nat):Option D:=if !ag && n != 1 then none else o.bind fun o=>if !o.row && decide (off+n≤o.els.length)then s_ (.mk ag ((o.els.drop off).take n))else none
def Eb(o:Option Obj)(n:Nat)(off:Nat)(x:D):Option Obj:=o.bind fun o=>if !o.row && !o.lent && decide (off+n≤o.els.length) && x.cells.length == n && x.cells.all D.isCell then s_ {o with els:=F7 o.els off x.cells} else none
theorem Ykb(st:St)(n:Nat)(ag:Bool)(key off:Nat):FL st n ag (.ptr key off)=DJ st[key]? n ag off:=by simp only[FL,DJ];grind
theorem Yj9(st:St)(n:Nat)(key off:Nat)(x:D):Nb st n (.ptr key off) x=(Eb st[key]? n off x).map fun o=>st.set key o:=by simp only[Nb,Eb];grind
section
variable {α:Type} (sz:Nat) (lent:Bool)
theorem Np(x:D)(l:List D):DJ (s_ ⟨f_,sz,x::l,lent⟩) 1 f_ 0=s_ x:=by rfl
theorem lu(x:D)(l:List D)(n:Nat)(ag:Bool)(off:Nat):DJ (s_ ⟨f_,sz,x::l,lent⟩) n ag (off+1)=DJ (s_ ⟨f_,sz,l,lent⟩) n ag off:=by simp only[DJ,Bk,List.drop_succ_cons,Ak];grind
theorem YCz(d:Dig):DJ (s_ ⟨f_,sz,Dj d,lent⟩) 32 t_ 0=s_ (Dl d):=by simp[DJ,Ef,eR,p9]
theorem SP(x:D)(d:Dig):DJ (s_ ⟨f_,sz,x::Dj d,lent⟩) 33 t_ 0=s_ (.agg (x::Dj d)):=by simp[DJ,Ef,eR,D.mk]
theorem Yl3{α:Type}[Inhabited α](f:α→D)(E:List α)(i:Nat)(h:i<E.length):DJ (s_ ⟨f_,sz,E.map f,lent⟩) 1 f_ i=s_ (f (E.getD i default)):=by
 have M:i+1≤E.length:=h
 have:(E.map f).drop i=f (E.getD i default)::(E.map f).drop (i+1):=by
  rw[← Cx,m4 E i h,Aw,Cx]
 simp[DJ,this,D.mk,M]
theorem LP(cs:List D)(n:Nat)(h:cs.length=n):DJ (s_ ⟨f_,sz,cs,lent⟩) n t_ 0=s_ (.agg cs):=by subst h; simp[DJ,D.mk]
theorem Yf5{α:Type}(f:α→D)(E:List α)(n:Nat)(h:E.length=n):DJ (s_ ⟨f_,sz,E.map f,lent⟩) n t_ 0=s_ (.agg (E.map f)):=
 LP sz lent _ n (by simpa using h)
theorem YA9(x v:D)(l:List D)(hv:v.isCell=t_):Eb (s_ ⟨f_,sz,x::l,f_⟩) 1 0 v=s_ ⟨f_,sz,v::l,f_⟩:=by simp[Eb,Rw hv,hv,F7]
theorem YBa(x:D)(k:IntKind)(n:Int)(l:List D):Eb (s_ ⟨f_,sz,x::l,f_⟩) 1 0 (.int k n)=s_ ⟨f_,sz,.int k n::l,f_⟩:=YA9 sz _ _ _ rfl
theorem Ysq(x v:D)(l:List D)(n off:Nat):Eb (s_ ⟨f_,sz,x::l,f_⟩) n (off+1) v=(Eb (s_ ⟨f_,sz,l,f_⟩) n off v).map fun o=>{o with els:=x::o.els}:=by simp only[Eb,Bk,Ak,yf];grind
theorem YBb(d e:Dig):Eb (s_ ⟨f_,sz,Dj d,f_⟩) 32 0 (Dl e)=s_ ⟨f_,sz,Dj e,f_⟩:=by simp[Eb,Ef,Ur,IT,w9]
theorem LQ(cs ds:List D)(n:Nat)(h:cs.length=n)(E:ds.length=n)(hc:ds.all D.isCell=t_):Eb (s_ ⟨f_,sz,cs,f_⟩) n 0 (.agg ds)=s_ ⟨f_,sz,ds,f_⟩:=by subst h;simp[Eb,D.cells,E,hc,w8 _ _ E.symm]
theorem xf(x:D)(k:IntKind)(m:Int)(d e:Dig):Eb (s_ ⟨f_,sz,x::Dj d,f_⟩) 33 0 (.agg (.int k m::Dj e))=s_ ⟨f_,sz,.int k m::Dj e,f_⟩:=
 LQ sz _ _ 33 (by simp[Ef]) (by simp[Ef]) (by simp[IT,D.isCell])
theorem Yit(f:α→D)(M:∀ a,(f a).isCell=t_)(E:List α)(i:Nat)(v:α)(h:i<E.length):Eb (s_ ⟨f_,sz,E.map f,f_⟩) 1 i (f v)=s_ ⟨f_,sz,(E.set i v).map f,f_⟩:=by
 have N:i+1≤E.length:=h
 have h3:F7 (E.map f) i [f v]=(E.set i v).map f:=by
  rw[List.map_set,F7,Cb];simp[h]
 simp[Eb,Rw (M v),M v,N,h3]
theorem Yss(E:List UInt8)(i:Nat)(v:UInt8)(h:i<E.length):Eb (s_ ⟨f_,sz,E.map Dr,f_⟩) 1 i (Dr v)=s_ ⟨f_,sz,(E.set i v).map Dr,f_⟩:=Yit sz Dr (fun _=>rfl) E i v h
theorem Ysr(E:List UInt32)(i:Nat)(v:UInt32)(h:i<E.length):Eb (s_ ⟨f_,sz,E.map wD,f_⟩) 1 i (wD v)=s_ ⟨f_,sz,(E.set i v).map wD,f_⟩:=Yit sz wD (fun _=>rfl) E i v h
theorem ft{α:Type}(f:α→D)(M:∀ a,(f a).isCell=t_)(E:List α):(E.map f).all D.isCell=t_:=by grind
theorem Yst(E vs:List UInt32)(n:Nat)(h:E.length=n)(M:vs.length=n):Eb (s_ ⟨f_,sz,E.map wD,f_⟩) n 0 (.agg (vs.map wD))=s_ ⟨f_,sz,vs.map wD,f_⟩:=
 LQ sz _ _ n (by simpa using h) (by simpa using M) (ft wD (fun _=>rfl) vs)
theorem Ysu(E vs:List UInt8)(n:Nat)(h:E.length=n)(M:vs.length=n):Eb (s_ ⟨f_,sz,E.map Dr,f_⟩) n 0 (.agg (vs.map Dr))=s_ ⟨f_,sz,vs.map Dr,f_⟩:=
 LQ sz _ _ n (by simpa using h) (by simpa using M) (ft Dr (fun _=>rfl) vs)
end
theorem Ye3(st:St)(n:Nat)(ag:Bool)(key tot i off:Nat):FL st n ag (.rptr key tot i off)=if !ag && n != 1 then none else(st[key]?).bind fun o=>if o.row && o.els.length == tot then(o.els[i]?).bind fun el=>if off+n≤el.cells.length then s_ (.mk ag ((el.cells.drop off).take n))else none else none:=by simp only[FL];grind
theorem Ye8(st:St)(d:Dig):FL st 32 t_ (.eptr (Dl d) 0)=s_ (Dl d):=by simp[FL,Ur,Ef,eR,p9]
theorem Ny(k:IntKind)(n:Int)(h:0≤n):Gk (.int k n)=s_ n.toNat:=by simp[Gk,h]
theorem Yfn(k:IntKind):Gk (.int k 0)=s_ 0:=(rfl)
theorem KT(st:St)(n key off:Nat)(k:IntKind)(i:Int)(E:0≤i)(N:i<(n:Int)):Jg st n 1 (.ptr key off) (.int k i)=s_ (.ptr key (off+i.toNat)):=by
 have M:i.toNat<n:=by omega
 simp[Jg,Ny k i E,M,FE]
theorem Ymy(st:St)(n off:Nat)(E:D)(k:IntKind)(i:Int)(M:0≤i)(h1:i<(n:Int)):Jg st n 1 (.eptr E off) (.int k i)=s_ (.eptr E (off+i.toNat)):=by
 have N:i.toNat<n:=by omega
 simp[Jg,Ny k i M,N,FE]
theorem Ye6[Inhabited α](st:St)(f:α→D)(E:List α)(i:Nat)(h:i<E.length):FL st 1 f_ (.eptr (.agg (E.map f)) i)=s_ (f (E.getD i default)):=by have:=Yl3 1 f_ f E i h;simpa[FL,DJ,D.cells]using this
theorem lK(st:St)(x:D)(h:x.isCell=t_):FL st 1 f_ (.eptr x 0)=s_ x:=by simp[FL,Rw h,D.mk]
theorem Ru(st:St)(b:UInt8):FL st 1 f_ (.eptr (Dr b) 0)=s_ (Dr b):=lK st _ rfl
theorem Ye7(st:St)(k:IntKind)(n:Int):FL st 1 f_ (.eptr (.int k n) 0)=s_ (.int k n):=lK st _ rfl
theorem Yvn[Inhabited α](st:St)(sz:Nat)(f:α→D)(l:List α)(t:Bool)(k:IntKind)(i:Int)(E:0≤i)(N:i<(l.length:Int)) :
  GK st sz (.slc sz (l.map f) t) (.int k i)=s_ (.eptr (f (l.getD i.toNat default)) 0):=by
 have M:i.toNat<l.length:=by omega
 simp only[GK,Ny k i E,AK,getElem?_getD l i.toNat M,Ae,beq_self_eq_true,if_true]
theorem Yuu(st:St)(sz:Nat)(els:List D)(t:Bool):EF st f_ (.slc sz els t)=s_ (.int .i64 (els.length:Int)):=(rfl)
theorem Yut(st:St)(s:List UInt8):EF st t_ (.str s)=s_ (.int .i64 (s.length:Int)):=(rfl)
theorem Yuv(st:St)(key tot off len:Nat):EF st f_ (.row key tot off len)=if Fo st key tot then s_ (.int .i64 (len:Int))else none:=by simp only[EF,Iz,E7,beq_self_eq_true,if_true];grind
theorem Yt3(st:St)(sz bytes key tot:Nat)(x:D)(o:Obj)(xs:List D)(E:Nat)(M:st[key]?=s_ o)(N:o.row=t_)(hz:o.sz=sz)(ht:o.els.length=tot)
  (hx:Hx st x=s_ (E,xs)) (hs:E=sz∨xs=[]) (h0:sz≠0) (hb:(tot+xs.length)*bytes≤140737488355328) (hl:tot+xs.length≤4294967296) :
  Eg st sz bytes (.row key tot 0 tot) x=s_ (.row key (tot+xs.length) 0 (tot+xs.length),st.set key {o with els:=o.els++xs}):=by
 have e:(!(E == sz || xs.isEmpty) || sz == 0)=f_:=by
  grind
 simp only[Eg,hx,e,M,N,hz,ht,hb,hl,beq_self_eq_true,AN,decide_true,if_true,Ao,if_false]
theorem l9(st:St)(sz bytes E:Nat)(els:List D)(x:D)(xs:List D)(M:Nat)(N:Hx st x=s_ (M,xs))(hs:M=sz∨xs=[])(ac:E=sz∨els=[])(h0:sz≠0)(ad:xs≠[])
  (hb:(els.length+xs.length)*bytes≤140737488355328) (hl:els.length+xs.length≤4294967296) :
  Eg st sz bytes (.slc E els t_) x=s_ (.row st.length (els.length+xs.length) 0 (els.length+xs.length),st++[{row:=t_,sz,els:=els++xs,lent:=f_}]):=by
 have e2:xs.isEmpty=f_:=by cases xs <;> simp_all
 have e:(!(M == sz || false) || sz == 0)=f_:=by
  grind
 have e3:(E == sz || els.isEmpty)=t_:=by
  grind
 simp only[Eg,N,e,e2,e3,hb,hl,AN,decide_true,if_true,Ao,if_false]
theorem Ybk(st:St)(sz bytes E:Nat)(els:List D)(x:D)(M:Nat)(N:Hx st x=s_ (M,[]))(h0:sz≠0) :
  Eg st sz bytes (.slc E els t_) x=s_ (.slc E els t_,st):=by simp[Eg,N,h0]
theorem xE:∀ (l:List D),J1 1 f_ l l.length=l
 |[]=>rfl
 |a::l=>by simp[J1,D.mk,xE l]
def DY(sz key:Nat)(els:List D):D:=if els.isEmpty then .slc sz [] t_ else .row key els.length 0 els.length
def DC(sz:Nat)(els:List D):St:=if els.isEmpty then []else [{row:=t_,sz,els,lent:=f_}]
theorem Ydy(sz key:Nat):DY sz key []=.slc sz [] t_:=(rfl)
theorem Yt4(st:St)(sz sz0 bytes:Nat)(els xs:List D)(x:D)(E:Nat)(M:Hx (st++DC sz els) x=s_ (E,xs))(N:E=sz∨xs=[])(hs0:sz≠0)
  (hb:(els.length+xs.length)*bytes≤140737488355328) (hl:els.length+xs.length≤4294967296) :
  Eg (st++DC sz els) sz bytes (DY sz0 st.length els) x=s_ (DY sz0 st.length (els++xs),st++DC sz (els++xs)):=by
 cases els with
 |nil=>
  cases xs with
  |nil=>
   rw[Ydy,Ybk _ _ _ _ _ _ E M hs0];rfl
  |cons a l=>
   rw[Ydy,l9 _ _ _ _ _ _ (a::l) E M N (.inr rfl) hs0 (by simp) (by simpa using hb) (by simpa using hl)];simp[DY,DC]
 |cons e r=>
  have hg:(st++DC sz (e::r))[st.length]?=s_ {row:=t_,sz,els:=e::r,lent:=f_}:=by simp[DC]
  have:=Yt3 (st++DC sz (e::r)) sz bytes st.length (e::r).length x _ xs E hg rfl rfl rfl M N hs0 hb hl;simp only[DY,List.isEmpty_cons,Ao,if_false,Ag]at this ⊢;rw[this];simp[DC,Nat.add_right_comm]
theorem YJt(fr:Frame)(s t:Nat)(d:D):(fr.set s d) t=if t=s then d else fr t:=(rfl)
theorem YKc(s t:Nat)(d:D)(r:List (Nat×D)):HC ((s,d)::r) t=if t=s then d else HC r t:=(rfl)
attribute [push_cast] YO5 Yes YE Ysc Yeb Yec Hd YAm VX YL4 YDb YE4 Ywi YMr WK Yxl Yra Yhq Yhp Yaf Yn0 Ykx Ykw Yne Yv4 Ygo Ygp Yxt Yxs Yxq Yrg Yxp Yxr Yxo Yv5 Ynh Ynf Yv3 Yni Ygn Ynj Ynk YBl Ys8 Ys7 Option.isNone_none Option.isNone_some
attribute [push_cast] Yk0 YCc Yue Yvl Ymw Ysa Yd8 Yd9 YDf Yu9 YLe YC9 YDc Yu8 Xe W8 YK3 Xf Xg YLd YK5 YK2 YK4 Xh Xi Xk pq YLb YC8 YC6 Yu7 Xc YLa YK8 YK9 Xb YK7 Xa YK6 Xj pr W9 YC7 YDd YDe YDa YLc Xd Ytu Ytv YJt WD WE YKc YOt YOs YOr YOq YOp YOo YOn YOm YO0 YD YA Yij Yik Ysl YO4 YGh Yub YB9 YJy YO3 YB Ys9 Yjq Ya5 vJ Yrn
attribute [push_cast] YDs XL YMf Yff yYi Yfg YMe YMd YMc YDq Ycf YLw Ya7 Ef IT Ur wY p9 YGc YCi YKb eR YFy OL Ye8 Ykb Yj9 Np lu YCz SP Yl3 Yf5 YBa Ysq YBb xf Yss Ysr Yst Ysu Ru Ye7 Ye6 Yuu Yut
theorem Ymp(st:St)(k:IntKind)(n:Int):Ej st (.int k n)=s_ (.int k n):=(rfl)
theorem Yvi(st:St)(b:Bool):Ej st (.bool b)=s_ (.bool b):=(rfl)
theorem YDn(st:St)(s:List UInt8):Ej st (.str s)=s_ (.str s):=(rfl)
theorem YDo(st:St)(sz:Nat)(els:List D)(t:Bool):Ej st (.slc sz els t)=s_ (.slc (nz sz els) els f_):=(rfl)
theorem YDp(st:St)(key tot off len:Nat):Ej st (.row key tot off len)=(HO st key tot off len).map fun p=>.slc (nz p.1 p.2) p.2 f_:=(rfl)
theorem Ymt(st:St)(l:List D):Ej st (.agg l)=(Es st l).map .agg:=(rfl)
theorem Yvj(st:St):Es st []=s_ []:=(rfl)
theorem uT(st:St)(d:D)(l:List D):Es st (d::l)=(D2 st d).bind fun x=>(Es st l).map (x::·):=by
 simp only[Es]
 cases D2 st d with
 |none=>rfl
 |some x=>cases Es st l <;> rfl
theorem Yvf(st:St):EG st []=s_ []:=(rfl)
theorem Ymm(st:St)(d:D)(l:List D):EG st (d::l)=(Ej st d).bind fun x=>(EG st l).map (x::·):=by
 simp only[EG]
 cases Ej st d with
 |none=>rfl
 |some x=>cases EG st l <;> rfl
theorem Yck(st:St)(d:Dig):Es st (Dj d)=s_ (Dj d):=SY st (Uq d)
theorem Yvv(s:PS):Gh s []=s_ []:=(rfl)
theorem Ym9(s:PS)(r:PRes)(l:List PRes):Gh s (r::l)=(r.get s).bind fun x=>(Gh s l).map (x::·):=by
 simp only[Gh]
 cases r.get s with
 |none=>rfl
 |some x=>cases Gh s l <;> rfl
theorem YEg(fr:Frame)(st:St)(t:Nat):PRes.get ⟨fr,st⟩ (.tmp t)=Ej st (fr t):=(rfl)
theorem Yvy(fr:Frame)(st:St)(t n:Nat)(ag:Bool):PRes.get ⟨fr,st⟩ (.cell t n ag)=(FL st n ag (fr t)).bind fun d=>Ej st d:=by simp only[PRes.get];grind
theorem lN(s:PS):Eo s []=s_ []:=(rfl)
theorem lO(fr:Frame)(st:St)(t:Nat)(l:List PRes):Eo ⟨fr,st⟩ (.tmp t::l)=(Eo ⟨fr,st⟩ l).map (fr t::·):=(rfl)
theorem Yt7(d:D):Ec [d]=d:=(rfl)
theorem Yt6(a b:D)(l:List D):Ec (a::b::l)=.tup (a::b::l):=(rfl)
theorem Yt8:Ec []=.tup []:=(rfl)
theorem Yk6(k:IntKind)(n:Int):(D.int k n).noRef=t_:=(rfl)
theorem Yfk(b:Bool):(D.bool b).noRef=t_:=(rfl)
theorem Yk5(sz:Nat)(els:List D)(t:Bool):(D.slc sz els t).noRef=f_:=(rfl)
theorem Yce(k:IntKind)(n:Int):keys (.int k n)=[]:=(rfl)
theorem Yl8(b:Bool):keys (.bool b)=[]:=(rfl)
theorem Yuz(s:List UInt8):keys (.str s)=[]:=(rfl)
theorem Yu0(sz:Nat)(els:List D)(t:Bool):keys (.slc sz els t)=[]:=(rfl)
theorem Yu1(key tot off len:Nat):keys (.row key tot off len)=[key]:=(rfl)
theorem YLv(k:IntKind)(n:Int):hk (.int k n)=[]:=(rfl)
theorem YD3(b:Bool):hk (.bool b)=[]:=(rfl)
theorem YLp(s:List UInt8):hk (.str s)=[]:=(rfl)
theorem YLq(sz:Nat)(els:List D)(t:Bool):hk (.slc sz els t)=[]:=(rfl)
theorem YLr(key tot off len:Nat):hk (.row key tot off len)=[key]:=(rfl)
theorem YLs(key off:Nat):hk (.ptr key off)=[key]:=(rfl)
theorem YLo(l:List D):hk (.tup l)=[]:=(rfl)
theorem YD0:hk .junk=[]:=(rfl)
theorem YBq(n:Nat)(σ:List Nat)(k:IntKind)(m:Int):EO n σ (.int k m)=.int k m:=(rfl)
theorem Yti(n:Nat)(σ:List Nat)(b:Bool):EO n σ (.bool b)=.bool b:=(rfl)
theorem YBm(n:Nat)(σ:List Nat)(s:List UInt8):EO n σ (.str s)=.str s:=(rfl)
theorem YBn(n:Nat)(σ:List Nat)(sz:Nat)(els:List D)(t:Bool):EO n σ (.slc sz els t)=.slc sz els t:=(rfl)
theorem YBo(n:Nat)(σ:List Nat)(key tot off len:Nat):EO n σ (.row key tot off len)=JS (fun k=>.row k tot off len) (Fi n σ key):=(rfl)
theorem YBp(n:Nat)(σ:List Nat)(key off:Nat):EO n σ (.ptr key off)=JS (fun k=>.ptr k off) (Fi n σ key):=(rfl)
theorem yYn(f:Nat→D)(k:Nat):JS f (s_ k)=f k:=(rfl)
theorem Yxh(k:IntKind)(n:Int):D4 (.int k n)=s_ [.int k n]:=(rfl)
theorem Yq3(b:Bool):D4 (.bool b)=s_ [.bool b]:=(rfl)
theorem Yxg(sz:Nat)(els:List D)(t:Bool):D4 (.slc sz els t)=s_ [.slc sz els t]:=(rfl)
theorem Yoj(k:IntKind)(n:Int):(D.int k n).cells=[.int k n]:=(rfl)
theorem Yg0(b:Bool):(D.bool b).cells=[.bool b]:=(rfl)
theorem Yog(sz:Nat)(els:List D)(t:Bool):(D.slc sz els t).cells=[.slc sz els t]:=(rfl)
theorem Yoh(key tot off len:Nat):(D.row key tot off len).cells=[.row key tot off len]:=(rfl)
theorem Yok(l:List D):(D.agg l).cells=l:=(rfl)
theorem wK(k:IntKind)(n:Int):(D.int k n).isCell=t_:=(rfl)
theorem yZc(b:Bool):(D.bool b).isCell=t_:=(rfl)
theorem Yga(sz:Nat)(els:List D)(t:Bool):(D.slc sz els t).isCell=t_:=(rfl)
theorem Ygb(key tot off len:Nat):(D.row key tot off len).isCell=t_:=(rfl)
theorem YIy(b:Bool):LC .not (.bool b)=s_ (.bool !b):=(rfl)
theorem YF1(k:IntKind)(a b:Int):DF .lss (.int k a) (.int k b)=s_ (.bool (decide (a<b))):=by simp only[DF,if_true,Kc,Ae]
theorem YF2(k:IntKind)(a b:Int):DF .leq (.int k a) (.int k b)=s_ (.bool (decide (a≤b))):=by simp only[DF,if_true,Kc,Ae]
theorem YF3(k:IntKind)(a b:Int):DF .gtr (.int k a) (.int k b)=s_ (.bool (decide (b<a))):=by simp only[DF,if_true,Kc,Ae,gt_iff_lt]
theorem YF4(k:IntKind)(a b:Int):DF .geq (.int k a) (.int k b)=s_ (.bool (decide (b≤a))):=by simp only[DF,if_true,Kc,Ae,ge_iff_le]
theorem qZ(k:IntKind)(a b:Int):DF .eql (.int k a) (.int k b)=s_ (.bool (decide (a=b))):=by simp only[DF,if_true,Kc,Ae];rfl
theorem Yq6(k:IntKind)(a b:Int):DF .neq (.int k a) (.int k b)=s_ (.bool (!decide (a=b))):=by simp only[DF,if_true,Kc,Ae];rfl
theorem Yxk(E a b:Bool):NX E (.bool a) (.bool b)=s_ (.bool ((a == b) != E)):=(rfl)
theorem YKa(k k':IntKind)(a b:Int):TM t_ (.int k a) (.int k' b)=s_ (.int k (max a b)):=by
 simp only[TM,if_true]
 congr 2
 omega
theorem YJ9(k k':IntKind)(a b:Int):TM f_ (.int k a) (.int k' b)=s_ (.int k (min a b)):=by
 simp only[TM,Ao,if_false]
 congr 2
 omega
theorem YCh(k k' E:IntKind)(a b c:Int):PM t_ (.int k a) (.int k' b) (.int E c)=s_ (.int k (max (max a b) c)):=by
 simp only[PM,N0,if_true]
 congr 2
 omega
theorem Ytz(st:St)(off key o:Nat):FE st off (.ptr key o)=s_ (.ptr key (o+off)):=(rfl)
theorem Ykq(st:St)(off:Nat)(E:D)(o:Nat):FE st off (.eptr E o)=s_ (.eptr E (o+off)):=(rfl)
theorem Yus(st:St):lend [] st=st:=(rfl)
theorem Yls(k:Nat)(r:List Nat)(st:St):lend (k::r) st=lend r (st.modify k fun o=>{o with lent:=t_}):=(rfl)
theorem yZa(b:Bool)(x:St):(if b=t_ then x else x)=x:=by cases b <;> rfl
theorem n7(n sz:Nat)(ag:Bool)(key off:Nat)(h:0<n):P3 n sz ag (.ptr key off) none none=s_ (.bsl key off n sz ag):=by
 have:¬ 0=n:=by omega
 simp[P3,GR,this]
attribute [push_cast] Ymp Yvi YDn YDo YDp Ymt Yvj uT Yvf Ymm Yck Yvv Ym9 YEg Yvy lN lO Yt7 Yt6 Yt8 Yk6 Yfk Yk5 Yce Yl8 Yuz Yu0 Yu1 YLv YD3 YLp YLq YLr YLs YLo YD0 YBq Yti YBm YBn YBo YBp yYn Yxh Yq3 Yxg Yoj Yg0 Yog Yoh Yok wK yZc Yga Ygb YIy YF1 YF2 YF3 YF4 qZ Yq6 Yxk YKa YJ9 YCh Ytz Ykq Yus Yls yZa Option.map_some Option.map_none Option.bind_some Option.bind_none List.map_cons List.map_nil List.flatMap_cons List.flatMap_nil List.append_nil List.nil_append List.cons_append List.getElem?_cons_zero List.getElem?_cons_succ List.set_cons_zero List.set_cons_succ List.modify_zero_cons List.modify_succ_cons List.length_cons List.length_nil List.length_map List.take_zero List.take_succ_cons List.all_cons List.all_nil Nat.zero_add Nat.add_zero Bool.not_true Bool.not_false Bool.and_self Bool.true_and Bool.and_true Bool.false_and Bool.and_false Bool.or_false Bool.false_or Bool.true_or Bool.or_true Bool.not_not if_true if_false decide_true decide_false beq_self_eq_true Bool.false_eq_true Bool.true_eq_false ne_eq bne_self_eq_false Bool.bne_false Bool.bne_true Nat.lt_irrefl Nat.le_refl
def NK(fr:Frame):List Nat→List Nat
 |[]=>[]
 |k::r=>hk (fr k)++NK fr r
def Kh(fr:Frame)(n:Nat)(σ:List Nat):List Nat→List (Nat×D)
 |[]=>[]
 |k::r=>(k,EO n σ (fr k))::Kh fr n σ r
def JH:St→List Nat
 |[]=>[]
 |o::r=>(if o.row then []else o.els.flatMap hk)++JH r
def L4(n:Nat)(σ:List Nat)(st:St):List Nat→St
 |[]=>[]
 |k::r=>FD n σ (st.getD k default)::L4 n σ st r
def J9(n:Nat)(σ:List Nat):St→St
 |[]=>[]
 |o::r=>FD n σ o::J9 n σ r
def Uf(keep:List Nat)(n m:Nat)(l:List Nat)(fr:Frame)(st:St):PS:=restrictAt keep n (Fc n m l []) ⟨fr,st⟩
theorem kZ(fr:Frame):∀ keep:List Nat,NK fr keep=keep.flatMap fun k=>hk (fr k)
 |[]=>rfl
 |k::r=>by rw[NK,Au,kZ fr r]
theorem Yq2:∀ st:St,JH st=st.flatMap fun o=>if o.row then []else o.els.flatMap hk
 |[]=>rfl
 |k::r=>by rw[JH,Au,Yq2 r]
theorem Vp(fr:Frame)(n:Nat)(σ:List Nat):∀ keep:List Nat,Kh fr n σ keep=keep.map fun k=>(k,EO n σ (fr k))
 |[]=>rfl
 |k::r=>by rw[Kh,Aw,Vp fr n σ r]
theorem lJ(n:Nat)(σ:List Nat)(st:St):∀ l:List Nat,L4 n σ st l=l.map fun k=>FD n σ (st.getD k default)
 |[]=>rfl
 |k::r=>by rw[L4,Aw,lJ n σ st r]
theorem cZ(n:Nat)(σ:List Nat):∀ st:St,J9 n σ st=st.map (FD n σ)
 |[]=>rfl
 |k::r=>by rw[J9,Aw,cZ n σ r]
def nf(keep:List Nat)(n:Nat)(fr:Frame)(st:St):PS:=Uf keep n st.length (NK fr keep++JH (st.take n)) fr st
theorem yX2(keep:List Nat)(n:Nat)(fr:Frame)(st:St):restrict keep n ⟨fr,st⟩=nf keep (if n≤st.length then n else st.length) fr st:=by simp only[restrict,nf,Uf,UO,kZ,Yq2]
theorem ySy(keep:List Nat)(n:Nat)(fr:Frame)(st:St):nf keep n fr st=Uf keep n st.length (NK fr keep++JH (st.take n)) fr st:=(rfl)
def Ug(keep:List Nat)(n:Nat)(σ:List Nat)(fr:Frame)(st:St):PS:=⟨HC (Kh fr n σ keep),J9 n σ (st.take n)++L4 n σ st σ⟩
theorem ySz(keep:List Nat)(n m:Nat)(l:List Nat)(fr:Frame)(st:St):Uf keep n m l fr st=Ug keep n (Fc n m l []) fr st:=by simp only[Uf,restrictAt,Ug,Vp,picked,cZ,lJ]
theorem yPn(keep:List Nat)(n:Nat)(σ:List Nat)(fr:Frame)(st:St):restrictAt keep n σ ⟨fr,st⟩=Ug keep n σ fr st:=by simp only[restrictAt,Ug,Vp,picked,cZ,lJ]
theorem ySx(keep:List Nat)(n:Nat)(σ:List Nat)(fr:Frame)(st:St):Ug keep n σ fr st=⟨HC (Kh fr n σ keep),J9 n σ (st.take n)++L4 n σ st σ⟩:=(rfl)
theorem Ym4(fr:Frame):NK fr []=[]:=(rfl)
theorem Ygh(fr:Frame)(k:Nat)(r:List Nat):NK fr (k::r)=hk (fr k)++NK fr r:=(rfl)
theorem Ym5(fr:Frame)(n:Nat)(σ:List Nat):Kh fr n σ []=[]:=(rfl)
theorem Ygi(fr:Frame)(n:Nat)(σ:List Nat)(k:Nat)(r:List Nat):Kh fr n σ (k::r)=(k,EO n σ (fr k))::Kh fr n σ r:=(rfl)
theorem Yxe:JH []=[]:=(rfl)
theorem Yxd(sz:Nat)(els:List D)(lent:Bool)(r:St):JH ({row:=t_,sz,els,lent}::r)=JH r:=(rfl)
theorem Yxf(sz:Nat)(els:List D)(lent:Bool)(r:St):JH ({row:=f_,sz,els,lent}::r)=els.flatMap hk++JH r:=(rfl)
theorem Ykn(n:Nat)(σ:List Nat)(st:St):L4 n σ st []=[]:=(rfl)
theorem Yfe(n:Nat)(σ:List Nat)(st:St)(k:Nat)(r:List Nat):L4 n σ st (k::r)=FD n σ (st.getD k default)::L4 n σ st r:=(rfl)
theorem Ytj(n:Nat)(σ:List Nat):J9 n σ []=[]:=(rfl)
theorem Yjy(n:Nat)(σ:List Nat)(o:Obj)(r:St):J9 n σ (o::r)=FD n σ o::J9 n σ r:=(rfl)
theorem Yse(lo hi:Nat)(E:List Nat):Fc lo hi [] E=E:=(rfl)
theorem Yic(lo hi k:Nat)(r E:List Nat):Fc lo hi (k::r) E=Fc lo hi r (if lo≤k∧k<hi∧E.contains k=f_ then E++[k]else E):=(rfl)
theorem YBv(n:Nat)(σ:List Nat)(key:Nat):Fi n σ key=if key<n then s_ key else QD σ n key:=(rfl)
theorem Ytw(k k':Nat)(r:List Nat)(b:Nat):QD (k::r) b k'=if k'=k then s_ b else QD r (b+1) k':=(rfl)
theorem Ytk(n:Nat)(σ:List Nat)(sz:Nat)(els:List D)(lent:Bool):FD n σ {row:=t_,sz,els,lent}={row:=t_,sz,els,lent}:=(rfl)
theorem Ytl(n:Nat)(σ:List Nat)(sz:Nat)(els:List D)(lent:Bool):FD n σ {row:=f_,sz,els,lent}={row:=f_,sz,els:=els.map (EO n σ),lent}:=(rfl)
theorem Ytq(n:Nat)(σ:List Nat)(k:IntKind)(m:Int):EW n σ (.int k m)=.int k m:=(rfl)
theorem Yj2(n:Nat)(σ:List Nat)(b:Bool):EW n σ (.bool b)=.bool b:=(rfl)
theorem Yto(n:Nat)(σ:List Nat)(sz:Nat)(els:List D)(t:Bool):EW n σ (.slc sz els t)=.slc sz els t:=(rfl)
theorem Ytn(n:Nat)(σ:List Nat)(s:List UInt8):EW n σ (.str s)=.str s:=(rfl)
theorem Ytp(n:Nat)(σ:List Nat)(key tot off len:Nat):EW n σ (.row key tot off len)=JS (fun k=>.row k tot off len) (Fi n σ key):=(rfl)
theorem YD7(k:IntKind)(m:Int):DR (.int k m)=[]:=(rfl)
theorem Yvp(b:Bool):DR (.bool b)=[]:=(rfl)
theorem YD5(sz:Nat)(els:List D)(t:Bool):DR (.slc sz els t)=[]:=(rfl)
theorem YD4(s:List UInt8):DR (.str s)=[]:=(rfl)
theorem YD6(key tot off len:Nat):DR (.row key tot off len)=[key]:=(rfl)
theorem YLz(key off m sz:Nat)(ag:Bool):hk (.bsl key off m sz ag)=[key]:=(rfl)
theorem YDv(key tot i off:Nat):hk (.rptr key tot i off)=[key]:=(rfl)
theorem YDz(key:Nat):hk (.mapv key)=[key]:=(rfl)
theorem YDy:hk .nilf=[]:=(rfl)
theorem YDw:hk .nilp=[]:=(rfl)
theorem YDx:hk .nilm=[]:=(rfl)
theorem YD1(l:List (Int×Nat)):hk (.gmap l)=[]:=(rfl)
theorem Yth(n:Nat)(σ:List Nat)(l:List (Int×Nat)):EO n σ (.gmap l)=.gmap l:=(rfl)
theorem Ytd(n:Nat)(σ:List Nat):EO n σ .nilm=.nilm:=(rfl)
theorem Ytg(n:Nat)(σ:List Nat)(key:Nat):EO n σ (.mapv key)=JS .mapv (Fi n σ key):=(rfl)
theorem Yte(n:Nat)(σ:List Nat):EO n σ .nilf=.nilf:=(rfl)
theorem Ytc(n:Nat)(σ:List Nat):EO n σ .nilp=.nilp:=(rfl)
def TR(keep:List Nat)(n:Nat)[Inv:InvC][Q:QC](e:Ex)(fr:Frame)(st:St):Prop:=match e with
 |.next=>Inv.run (restrict keep n ⟨fr,st⟩)
 |e=>Q.run e fr st
def gJ(s:PS)[Inv:InvC]:Prop:=Inv.run s
theorem Yfv(keep:List Nat)(n:Nat)(E:PS→Prop)(Q:QC)(fr:Frame)(st:St):@TR keep n ⟨E⟩ Q .next fr st=@gJ (restrict keep n ⟨fr,st⟩) ⟨E⟩:=(rfl)
theorem Yfw(keep:List Nat)(n:Nat)(E:InvC)(Q:Ex→Frame→St→Prop)(M:Nat)(fr:Frame)(st:St):@TR keep n E ⟨Q⟩ (.exit M) fr st=Q (.exit M) fr st:=(rfl)
theorem Yll(keep:List Nat)(n:Nat)(E:InvC)(Q:Ex→Frame→St→Prop)(fr:Frame)(st:St):@TR keep n E ⟨Q⟩ .ret fr st=Q .ret fr st:=(rfl)
theorem yYy(keep:List Nat)(n:Nat)(E:InvC)(Q:Ex→Frame→St→Prop)(t:Nat)(d:D)(fr:Frame)(st:St):@TR keep n E ⟨Q⟩ (.panic t d) fr st=Q (.panic t d) fr st:=(rfl)
theorem E0(E:ι→List (Nat×D))(M:ι→St)(P:ι→Prop)(μ:ι→Nat)(N:ι)
  (h0:restrict keep st.length ⟨fr,st⟩=⟨HC (E N),M N⟩) (hP:P N)
  (aa:∀ i,P i→@wW G T c (HC (E i)) (M i) ⟨@TR keep st.length ⟨fun s=>∃ j,(P j∧μ j<μ i)∧s=⟨HC (E j),M j⟩⟩ ⟨Q⟩⟩):@wW G T (.loop keep c) fr st ⟨Q⟩:=by
 refine gy (YO2 E M P μ N h0 hP fun i hi=>LL c _ _ _ _ (JL (aa i hi)) fun e ad st' h=>?_)
 cases e with
 |next=>
  obtain⟨j,⟨h1,h2⟩,h3⟩:=h;grind
 |exit id=>exact h
 |ret=>exact h
 |panic t d=>exact h
theorem EB{E:ι→List (Nat×D)}{M:ι→St}{P m:ι→Prop}{s:PS}(j:ι)(N:P j)(h2:m j)(h3:s=⟨HC (E j),M j⟩):@gJ s ⟨fun s=>∃ j,(P j∧m j)∧s=⟨HC (E j),M j⟩⟩:=⟨j,⟨N,h2⟩,h3⟩
def UN(keep:List Nat)[Inv:InvC][Q:QC](e:Ex)(fr:Frame)(st:St):Prop:=match e with
 |.next=>Inv.run (keepAll keep ⟨fr,st⟩)
 |e=>Q.run e fr st
theorem yYz(keep:List Nat)(E:PS→Prop)(Q:QC)(fr:Frame)(st:St):@UN keep ⟨E⟩ Q .next fr st=@gJ (keepAll keep ⟨fr,st⟩) ⟨E⟩:=(rfl)
theorem yY0(keep:List Nat)(E:InvC)(Q:Ex→Frame→St→Prop)(M:Nat)(fr:Frame)(st:St):@UN keep E ⟨Q⟩ (.exit M) fr st=Q (.exit M) fr st:=(rfl)
theorem Yfx(keep:List Nat)(E:InvC)(Q:Ex→Frame→St→Prop)(fr:Frame)(st:St):@UN keep E ⟨Q⟩ .ret fr st=Q .ret fr st:=(rfl)
theorem yTn(keep:List Nat)(E:InvC)(Q:Ex→Frame→St→Prop)(t:Nat)(d:D)(fr:Frame)(st:St):@UN keep E ⟨Q⟩ (.panic t d) fr st=Q (.panic t d) fr st:=(rfl)
def gi(fr:Frame):List Nat→List (Nat×D)
 |[]=>[]
 |k::l=>(k,fr k)::gi fr l
theorem Ymb(fr:Frame):gi fr []=[]:=(rfl)
theorem Yf8(fr:Frame)(k:Nat)(l:List Nat):gi fr (k::l)=(k,fr k)::gi fr l:=(rfl)
theorem oG(T:Tbl)(l:Nat)(y:List D→St→Option (D×St)):(pH T l y).p=T.p:=(rfl)
theorem oI(T:Tbl)(l:Nat)(y:List D→St→Option (D×St)):(pH T l y).i=T.i:=(rfl)
theorem oH(T:Tbl)(l:Nat)(y:List D→St→Option (D×St)):(pH T l y).m=T.m:=(rfl)
theorem Yoa(T:Tbl)(f:Nat)(E:List D)(h:f<5000000):LH T (.clo f E)=(T.i f).map fun sp=>(sp,[],E):=by simp only[LH,if_pos h]
theorem Qj(T:Tbl)(f f':Nat)(E:List D)(h:f=f'+5000000)(M:f'<5000000):LH T (.clo f E)=(T.i f').map fun sp=>(sp,E,[]):=by subst h;simp only[LH,if_neg (show ¬ f'+5000000<5000000 by omega),if_pos (show f'+5000000<10000000 by omega),CE]
theorem U4(f:Nat)(E ds:List D)(h:f<5000000):PT (.clo f E) ds=s_ (f,ds++E):=by simp only[PT,if_pos h]
theorem Ymj(k:IntKind)(n:Int):Mt (.int k n)=t_:=(rfl)
theorem Ygc(k:IntKind)(n:Int):Mt (.agg [.int k n])=t_:=(rfl)
attribute [push_cast] Yeg YO1 YC Yku Yh7 yV7 yV8 Yea Yud Yk1 Yfr Yfs Yfp Yfq Yeu Ytb Yjt Yew Yju Yex yX0 Ymj Ygc
attribute [irreducible] UN
attribute [push_cast] yYz yY0 Yfx Ymb Yf8 oG oI oH Yoa Qj U4 YAl
attribute [irreducible] TR gJ
attribute [push_cast] Yfv Yfw Yll yYy yTn
attribute [push_cast] YLz YDv YDz YDy YDw YDx YD1 Yth Ytd Ytg Yte Ytc Ytm Yvo
attribute [push_cast] yPn yX2 ySy ySz ySx Ym4 Ygh Ym5 Ygi Yxe Yxd Yxf Ykn Yfe Ytj Yjy Yse Yic YBv Ytw Ytk Ytl Ytq Yj2 Yto Ytn Ytp YD7 Yvp YD5 YD4 YD6 List.getD_cons_zero List.getD_cons_succ List.contains_nil List.contains_cons false_and and_false and_true true_and and_self Int.toNat_natCast Int.cast_ofNat_Int Int.toNat_zero Int.toNat_one
def Dq{α:Type}(enc:α→List D)(pre:α→Prop)(f:α→D):List D→Option D:=
 fun ds=>@dite _ (∃ a,enc a=ds∧pre a) (Classical.propDecidable _) (fun h=>s_ (f h.choose)) (fun _=>none)
theorem Sw{enc:α→List D}{pre:α→Prop}{f:α→D}(h:Dq enc pre f ds=s_ d):∃ a,enc a=ds∧pre a∧f a=d:=by
 unfold Dq at h
 split at h
 ·grind
 ·cases h
theorem DK{enc:α→List D}{pre:α→Prop}{f:α→D}(E:∀ a b,enc a=enc b→a=b)(a:α)(M:pre a):Dq enc pre f (enc a)=s_ (f a):=by have N:∃ b,enc b=enc a∧pre b:=⟨a,rfl,M⟩;unfold Dq;grind
def EE{α:Type}:List (Nat×α)→Nat→Option α
 |[],_=>none
 |(k,a)::r,n=>if n=k then s_ a else EE r n
def tb(l:List (Nat×(List D→Option D)))(li:List (Nat×(List D→St→Option (D×St))))(lm:List (Nat×(List D→Option ((Nat→D)×(Nat→List Obj)))):=[]):Tbl:={p:=EE l,i:=EE li,m:=EE lm}
theorem oR(l:List (Nat×(List D→Option D)))(li:List (Nat×(List D→St→Option (D×St))))(E:List (Nat×(List D→Option ((Nat→D)×(Nat→List Obj)))))(n:Nat):(tb l li E).p n=EE l n:=(rfl)
theorem Wf(l:List (Nat×(List D→Option D)))(li:List (Nat×(List D→St→Option (D×St))))(E:List (Nat×(List D→Option ((Nat→D)×(Nat→List Obj)))))(n:Nat):(tb l li E).i n=EE li n:=(rfl)
theorem oS(l:List (Nat×(List D→Option D)))(li:List (Nat×(List D→St→Option (D×St))))(E:List (Nat×(List D→Option ((Nat→D)×(Nat→List Obj)))))(n:Nat):(tb l li E).m n=EE E n:=(rfl)
theorem Yuq(n:Nat):EE ([]:List (Nat×α)) n=none:=(rfl)
theorem vn(k:Nat)(a:α)(r:List (Nat×α))(n:Nat):EE ((k,a)::r) n=if n=k then s_ a else EE r n:=(rfl)
theorem Ll{α:Type}:∀ {l:List (Nat×α)} {n:Nat} {a:α},EE l n=s_ a→(n,a)∈l
 |[],_,_,h=>by cases h
 |(k,b)::r,n,a,h=>by
  simp only[EE]at h
  split at h
  ·grind
  ·exact Ap _ (Ll h)
variable {li:List (Nat×(List D→St→Option (D×St)))}{l:List (Nat×(List D→Option D))}{P:Program}
theorem DD(h:∀ x∈l,Contract P G x.1 x.2)(hi:∀ x∈li,IContract P G x.1 x.2)(M:l.all (fun x=>decide (x.1<50000000))=t_:=by rfl):TblOK P G (tb l li):=
 ⟨fun _ _ E=>.inl ⟨of_decide_eq_true (Ah.1 M _ (Ll E)),h _ (Ll E)⟩,fun _ _ E=>hi _ (Ll E),fun _ _ E=>(by cases E),fun _ _ E=>(by cases E),fun _ _ E=>(by cases E),fun _ _ E=>(by cases E)⟩
def oQ(l:List (Nat×(List D→Option D)))(li:List (Nat×(List D→St→Option (D×St))))(lr:List (Nat×((List D→St→Option (D×St))→List D→St→Option (D×St)))):Tbl:={p:=EE l,i:=EE li,m:=fun _=>none,r:=EE lr}
theorem V6(l:List (Nat×(List D→Option D)))(li:List (Nat×(List D→St→Option (D×St))))(E:List (Nat×((List D→St→Option (D×St))→List D→St→Option (D×St))))(n:Nat):(oQ l li E).p n=EE l n:=(rfl)
theorem V7(l:List (Nat×(List D→Option D)))(li:List (Nat×(List D→St→Option (D×St))))(E:List (Nat×((List D→St→Option (D×St))→List D→St→Option (D×St))))(n:Nat):(oQ l li E).i n=EE li n:=(rfl)
theorem V5(l:List (Nat×(List D→Option D)))(li:List (Nat×(List D→St→Option (D×St))))(E:List (Nat×((List D→St→Option (D×St))→List D→St→Option (D×St))))(n:Nat):(oQ l li E).r n=EE E n:=(rfl)
def Nf(l:List (Nat×(List D→Option D)))(li:List (Nat×(List D→St→Option (D×St))))(lx:List (Nat×(List D→St→Option (Nat×D×St)))):Tbl:={p:=EE l,i:=EE li,m:=fun _=>none,x:=EE lx}
theorem V3(l:List (Nat×(List D→Option D)))(li:List (Nat×(List D→St→Option (D×St))))(E:List (Nat×(List D→St→Option (Nat×D×St))))(n:Nat):(Nf l li E).p n=EE l n:=(rfl)
theorem V4(l:List (Nat×(List D→Option D)))(li:List (Nat×(List D→St→Option (D×St))))(E:List (Nat×(List D→St→Option (Nat×D×St))))(n:Nat):(Nf l li E).i n=EE li n:=(rfl)
theorem V2(l:List (Nat×(List D→Option D)))(li:List (Nat×(List D→St→Option (D×St))))(E:List (Nat×(List D→St→Option (Nat×D×St))))(n:Nat):(Nf l li E).x n=EE E n:=(rfl)
theorem Pr{M:List (Nat×(List D→St→Option (Nat×D×St)))}(h:∀ x∈l,Contract P G x.1 x.2)(hi:∀ x∈li,IContract P G x.1 x.2)
  (hx:∀ x∈M,Rk P G x.1 x.2) (N:l.all (fun x=>decide (x.1<50000000))=t_:=by rfl):TblOK P G (Nf l li M):=
 ⟨fun _ _ E=>.inl ⟨of_decide_eq_true (Ah.1 N _ (Ll E)),h _ (Ll E)⟩,fun _ _ E=>hi _ (Ll E),fun _ _ E=>(by cases E),fun _ _ E=>(by cases E),fun _ _ E=>hx _ (Ll E),fun _ _ E=>(by cases E)⟩
def RV(l:List (Nat×(List D→Option D)))(li:List (Nat×(List D→St→Option (D×St))))(lq:List (Nat×(List D→List (Option (Bool×Nat×List D))→Option D))):Tbl:={p:=EE l,i:=EE li,m:=fun _=>none,q:=EE lq}
theorem V9(l:List (Nat×(List D→Option D)))(li:List (Nat×(List D→St→Option (D×St))))(E:List (Nat×(List D→List (Option (Bool×Nat×List D))→Option D)))(n:Nat):(RV l li E).p n=EE l n:=(rfl)
theorem Wa(l:List (Nat×(List D→Option D)))(li:List (Nat×(List D→St→Option (D×St))))(E:List (Nat×(List D→List (Option (Bool×Nat×List D))→Option D)))(n:Nat):(RV l li E).i n=EE li n:=(rfl)
theorem V8(l:List (Nat×(List D→Option D)))(li:List (Nat×(List D→St→Option (D×St))))(E:List (Nat×(List D→List (Option (Bool×Nat×List D))→Option D)))(n:Nat):(RV l li E).q n=EE E n:=(rfl)
theorem qN{M:List (Nat×(List D→List (Option (Bool×Nat×List D))→Option D))}(h:∀ x∈l,Contract P G x.1 x.2)(hi:∀ x∈li,IContract P G x.1 x.2)
  (hq:∀ x∈M,IContract P G x.1 (fun ds st=>(Jk x.2 ds st).map (·,st))) (N:l.all (fun x=>decide (x.1<50000000))=t_:=by rfl):TblOK P G (RV l li M):=
 ⟨fun _ _ E=>.inl ⟨of_decide_eq_true (Ah.1 N _ (Ll E)),h _ (Ll E)⟩,fun _ _ E=>hi _ (Ll E),fun _ _ E=>(by cases E),fun _ _ E=>(by cases E),fun _ _ E=>(by cases E),fun _ _ E=>hq _ (Ll E)⟩
theorem all_nil{p:α→Prop}:∀ x∈([]:List α),p x:=fun _ h=>by cases h
theorem all_cons{p:α→Prop}{a:α}{l:List α}(h:p a)(hl:∀ x∈l,p x):∀ x∈a::l,p x:=by grind
theorem DM{il:List Nat}{f:Nat}{hints:List (List Nat)}(E:DA P il f hints=s_ F)(M:TblOK P G T){enc:α→List D}{pre:α→Prop}{r:α→D}
  (h:∀ a,pre a→@wW G T F.code (Dm (enc a)) [] ⟨Ds F.res (r a)⟩) (N:T.y=fun _ _ _=>none:=by rfl):Contract P G f (Dq enc pre r):=by refine Yct M N E fun ds d hd=>?_;obtain⟨a,rfl,hp,rfl⟩:=Sw hd;exact Ya1 (JL (h a hp))
theorem Vw{a b:List Dig}:a.map Dl=b.map Dl↔a=b:=⟨P1 fun _ _=>Yc9,fun h=>by rw[h]⟩
theorem Kt{a b:Dig}:Dl a=Dl b↔a=b:=⟨Yc9,fun h=>by rw[h]⟩
theorem Nq{a b:Dig}:Dj a=Dj b↔a=b:=⟨MZ,fun h=>by rw[h]⟩
theorem Qd{a:List UInt8}:a.map Dr=b.map Dr↔a=b:=⟨Rc,fun h=>by rw[h]⟩
theorem Yxa{a b:UInt8}:Dr a=Dr b↔a=b:=⟨ug,fun h=>by rw[h]⟩
theorem L3(sz:Nat)(els:List D):nz (nz sz els) els=nz sz els:=by cases els <;> rfl
theorem YJ1(sz:Nat):nz sz []=0:=(rfl)
theorem YCd(sz:Nat)(a:D)(l:List D):nz sz (a::l)=sz:=(rfl)
theorem OD(sz:Nat)(els:List D):nz sz els=sz∨els=[]:=by cases els <;> simp[nz]
theorem KO[Inhabited α](st:St)(sz:Nat)(f:α→D)(l:List α)(t:Bool)(k:IntKind)(i:Int)(E:0≤i)(M:i<(l.length:Int)) :
  GK st sz (.slc (nz sz (l.map f)) (l.map f) t) (.int k i)=s_ (.eptr (f (l.getD i.toNat default)) 0):=by
 have:nz sz (l.map f)=sz:=by
  rcases OD sz (l.map f)with h|h
  ·exact h
  ·have:l.length=0:=by simpa using congrArg List.length h
   omega
 rw[this];exact Yvn st sz f l t k i E M
attribute [push_cast] L3 YJ1 YCd oR Wf oS V6 V7 V5 V3 V4 V2 V9 Wa V8 Yuq vn List.map_nil
theorem Ybv(h:n≤64):min n.toNat 64=n.toNat:=by omega
variable {x:Int}{k k':IntKind}
theorem YJq(hk:k=.i64∨k=.u64)(M:0≤n)(E:n≤64):DF .shr (.int k x) (.int k' n)=s_ (.int k (x / 2 ^ n.toNat)):=by
 have hb:k.bits=64:=by rcases hk with rfl|rfl <;> rfl
 simp only[DF,MR,show ¬ n<0 by omega,if_false,Ae,hb,Ybv E];grind
theorem OE(E:0≤n)(M:n≤64):DF .shr (.int .u64 x) (.int k' n)=s_ (.int .u64 (x / 2 ^ n.toNat)):=YJq (.inr rfl) E M
theorem Yz(E:0≤n)(M:n≤64):DF .shr (.int .i64 x) (.int k' n)=s_ (.int .i64 (x / 2 ^ n.toNat)):=YJq (.inl rfl) E M
theorem WB(h0:0≤n)(E:n≤64)(M:-9223372036854775808≤x*2 ^ n.toNat)(N:x*2 ^ n.toNat<9223372036854775808):DF .shl (.int .i64 x) (.int k' n)=s_ (.int .i64 (x*2 ^ n.toNat)):=by simp only[DF,MR,show ¬ n<0 by omega,if_false,Ae,show IntKind.bits .i64=64 from rfl,Ybv E,On M N]
theorem YBk(E:0≤n)(M:n≤62):DF .shl (.int .i64 1) (.int k' n)=s_ (.int .i64 (2 ^ n.toNat)):=by
 have N:(2:Int) ^ n.toNat≤2 ^ 62:=by
  have h6:(2:Nat) ^ n.toNat≤2 ^ 62:=Cu (by decide) (by omega);grind
 have h5:(0:Int)≤2 ^ n.toNat:=Int.pow_nonneg (by decide);have:=WB (x:=1) (k':=k') E (by omega) (by omega) (by rw[Int.one_mul]; omega);grind
theorem gj{b:Int}(hb:0<b)(E:0≤a)(N:a<9223372036854775808):DF .quo (.int .i64 a) (.int .i64 b)=s_ (.int .i64 (a / b)):=by have M:a.tdiv b=a / b:=BD E;have h4:a / b≤a:=Cs b E;have h5:0≤a / b:=CC E (by omega);simp only[DF,if_true,Lh,show ¬ b=0 by omega,if_false,Ae,M,On (show -9223372036854775808≤a / b by omega) (show a / b<9223372036854775808 by omega)]
theorem Yu{b:Int}(hb:0<b)(E:0≤a):DF .rem (.int .i64 a) (.int .i64 b)=s_ (.int .i64 (a % b)):=by have M:a.tmod b=a % b:=Int.tmod_eq_emod_of_nonneg E;simp only[DF,if_true,Lh,show ¬ b=0 by omega,if_false,Ae,M]
theorem toNat_ofInt(E:0≤a)(M:a<9223372036854775808):(C0 64 a).toNat=a.toNat:=by grind
theorem YGb(E:0≤a)(M:a<9223372036854775808):DF .and (.int .i64 a) (.int .i64 1)=s_ (.int .i64 (a % 2)):=by
 have h:(C0 (IntKind.bits .i64) a &&& C0 (IntKind.bits .i64) 1).toNat=(a % 2).toNat:=by
  show(C0 64 a &&& C0 64 1).toNat=_
  rw[CS,toNat_ofInt E M,show(C0 64 1).toNat=2 ^ 1 - 1 from rfl,BN];omega
 simp only[DF,if_true,LY,Ae,h];rw[On (by omega) (by omega)]
 congr 2
 omega
theorem U6(st:St)(E:0≤a)(M:a<9223372036854775808):FZ st (.int .u64) (.int .i64 a)=s_ (.int .u64 a):=by
 obtain⟨n,rfl⟩:=Bc E;simp only[FZ,VM]
 congr 2
 omega
theorem Yn6(st:St)(M:0≤a)(E:a<9223372036854775808):FZ st (.int .i64) (.int k a)=s_ (.int .i64 a):=by simp only[FZ,On (show -9223372036854775808≤a by omega) E]
theorem Nm(st:St)(E:0≤a):FZ st (.int .u8) (.int k a)=s_ (Dr (UInt8.ofNat a.toNat)):=by obtain⟨n,rfl⟩:=Bc E;rfl
theorem PZ(st:St)(b:UInt8):FZ st (.int .i64) (Dr b)=s_ (.int .i64 (b.toNat:Int)):=by have:=b.toNat_lt;simp only[Dr];exact Yn6 st (by omega) (by omega)
theorem YDt(s:List UInt8)(k:IntKind)(i:Int)(E:0≤i)(N:i<(s.length:Int)):KZ (.str s) (.int k i)=s_ (Dr (s.getD i.toNat default)):=by
 have M:i.toNat<s.length:=by omega
 simp only[KZ,Ny k i E,getElem?_getD s i.toNat M]
theorem Yvm(s:List UInt8)(b:UInt8)(h:b.toNat<s.length):KZ (.str s) (Dr b)=s_ (Dr (s.getD b.toNat default)):=by have:=YDt s .u8 (b.toNat:Int) (by omega) (by omega);simpa[Dr]using this
theorem xq{s:List UInt8}{h:Int}(E:0≤h)(M:h≤(s.length:Int)):G5 st 0 (.str s) none (s_ (.int k h)) none=s_ (.str (s.take h.toNat)):=by simp[G5,GR,Ny k h E];omega
theorem Yqp(st:St)(b:UInt8):Ej st (Dr b)=s_ (Dr b):=(rfl)
theorem Yhk(b:UInt8):keys (Dr b)=[]:=(rfl)
theorem Yxb(b:UInt8):hk (Dr b)=[]:=(rfl)
theorem Yqo(n:Nat)(σ:List Nat)(b:UInt8):EO n σ (Dr b)=Dr b:=(rfl)
theorem Yac(b:UInt8):(Dr b).cells=[Dr b]:=(rfl)
theorem yVv(b:UInt8):(Dr b).isCell=t_:=(rfl)
theorem Yab(b:UInt8):(Dr b).noRef=t_:=(rfl)
theorem Yqq(b:UInt8):D4 (Dr b)=s_ [Dr b]:=(rfl)
theorem yP8(b:UInt8):FP 1 [Dr b]=s_ (.slc 1 [Dr b] t_):=(rfl)
theorem Ygx(st:St)(s:List UInt8):FZ st .bytes (.str s)=s_ (.slc 1 (s.map Dr) f_):=(rfl)
theorem Ylo(a:Nat)(l:List D)(t:Bool):FP 1 [.slc a l t]=s_ (.slc 1 [.slc a l t] t_):=(rfl)
theorem Yln(a b:Nat)(l m:List D)(t u:Bool):FP 1 [.slc a l t,.slc b m u]=s_ (.slc 1 [.slc a l t,.slc b m u] t_):=(rfl)
theorem Ylm(a b c:Nat)(l m n:List D)(t u v:Bool):FP 1 [.slc a l t,.slc b m u,.slc c n v]=s_ (.slc 1 [.slc a l t,.slc b m u,.slc c n v] t_):=(rfl)
theorem Ylp:FP 1 []=s_ (.slc 1 [] t_):=(rfl)
theorem Yf0:FP 32 []=s_ (.slc 32 [] t_):=(rfl)
theorem Jy(k:IntKind)(n:Int)(d:Dig):D4 (.agg (.int k n::Dj d))=s_ (.int k n::Dj d):=by simp[D4,D.cells,IT,D.isCell]
theorem yUz(k:IntKind)(n:Int)(d:Dig):(D.agg (.int k n::Dj d)).noRef=t_:=by have:=wY d;simp only[Dl,D.noRef]at this;simp[D.noRef,D.noRef1,this]
theorem yY5(k:IntKind)(n:Int)(d:Dig):keys (.agg (.int k n::Dj d))=[]:=Ql (by simp[Jq,EY,Uq])
theorem yZk(k k':IntKind)(n m:Int)(z d:Dig):Ed (.int k n::Dj z) [(0,1,.int k' m),(1,32,Dl d)]=s_ (.int k' m::Dj d):=by
 have M:F7 (.int k n::Dj z) 0 [.int k' m]=.int k' m::Dj z:=rfl
 have N:F7 (.int k' m::Dj z) 1 (Dj d)=.int k' m::Dj d:=by
  rw[show(1:Nat)=0+1 from rfl,yf,w9]
 have E:(Dj d).length=32:=Ef d;have h4:(Dj z).length=32:=Ef z;simp only[Ed,Ur,IT,E];have e1:(D.int k' m).cells=[.int k' m]:=rfl;have e2:(([D.int k' m].length == 1) && decide (0+1≤(D.int k n::Dj z).length) && [D.int k' m].all D.isCell)=t_:=by simp[D.isCell]
 grind
attribute [push_cast] Jy yUz yY5 yZk
theorem Ycm(st:St)(k:IntKind)(n:Int):D2 st (.int k n)=s_ (.int k n):=(rfl)
theorem Ymv(st:St)(b:Bool):D2 st (.bool b)=s_ (.bool b):=(rfl)
theorem Yvk(st:St)(s:List UInt8):D2 st (.str s)=s_ (.str s):=(rfl)
theorem lg(st:St)(sz:Nat)(els:List D)(t:Bool):D2 st (.slc sz els t)=s_ (.slc (nz sz els) els f_):=(rfl)
attribute [push_cast] Ycm Ymv Yvk lg Nat.zero_le
attribute [push_cast] Ylp Yf0 Ygx Ylo Yln Ylm
theorem vr(f:α→D)(E:∀ a,EY (f a)=t_)(l:List α):(l.map f).all EY=t_:=by grind
theorem oh(l:List UInt8):(l.map Dr).all EY=t_:=vr Dr (fun _=>rfl) l
theorem iC(l:List UInt32):(l.map wD).all EY=t_:=vr wD (fun _=>rfl) l
theorem Ygd(st:St)(l:List UInt32):Es st (l.map wD)=s_ (l.map wD):=SY st (iC l)
theorem Ygf(st:St)(l:List UInt8):Es st (l.map Dr)=s_ (l.map Dr):=SY st (oh l)
theorem Yey(n:Nat)(σ:List Nat)(l:List UInt32):(l.map wD).map (EO n σ)=l.map wD:=NB n σ (iC l)
theorem Yez(n:Nat)(σ:List Nat)(l:List UInt8):(l.map Dr).map (EO n σ)=l.map Dr:=NB n σ (oh l)
theorem Ym1(l:List UInt32):(l.map wD).flatMap hk=[]:=Ov (iC l)
theorem Ym3(l:List UInt8):(l.map Dr).flatMap hk=[]:=Ov (oh l)
attribute [push_cast] Yey Yez Ym1 Ym3
theorem yYs(l:List UInt32):(D.agg (l.map wD)).noRef=t_:=by simp only[D.noRef,Ah,A1];rintro x ⟨a,_,rfl⟩;rfl
theorem Yqz(l:List UInt32):D4 (.agg (l.map wD))=s_ (l.map wD):=by simp only[D4,D.cells,ft wD (fun _=>rfl),if_true]
theorem Yx2{a b:UInt32}(h:wD a=wD b):a=b:=by simp only[wD,D.int.injEq,true_and]at h;exact UInt32.toNat_inj.1 (by omega)
theorem Yaj{a b:UInt32}:wD a=wD b↔a=b:=⟨Yx2,fun h=>by rw[h]⟩
theorem vY{a b:List UInt32}:a.map wD=b.map wD↔a=b:=⟨P1 fun _ _=>Yx2,fun h=>by rw[h]⟩
theorem YIu(st:St)(b:UInt32):Ej st (wD b)=s_ (wD b):=(rfl)
theorem YAn(b:UInt32):keys (wD b)=[]:=(rfl)
theorem Ysb(b:UInt32):(wD b).noRef=t_:=(rfl)
theorem VY(b:UInt32):hk (wD b)=[]:=(rfl)
theorem YIt(n:Nat)(σ:List Nat)(b:UInt32):EO n σ (wD b)=wD b:=(rfl)
def zW(n:Nat):List UInt32:=CZ n 0
theorem Yzm(n:Nat):D.int .u32 0::(zW n).map wD=(zW (n+1)).map wD:=(rfl)
theorem Yzn:[D.int .u32 0,.int .u32 0,.int .u32 0,.int .u32 0,.int .u32 0,.int .u32 0,.int .u32 0,.int .u32 0]=(zW 8).map wD:=(rfl)
theorem O6(f:α→D)(M:∀ a,(f a).isCell=t_)(E:List α)(i:Nat)(v:α)(r:List (Nat×Nat×D))(h:i<E.length):Ed (E.map f) ((i,1,f v)::r)=Ed ((E.set i v).map f) r:=by
 have N:i+1≤E.length:=h
 have h3:F7 (E.map f) i [f v]=(E.set i v).map f:=by
  rw[List.map_set,F7,Cb];simp[h]
 simp[Ed,Rw (M v),M v,N,h3]
theorem HS(cs:List D):Ed cs []=s_ cs:=(rfl)
theorem Xu(a b c d e f g h:UInt32):Ed ((zW 8).map wD) [(0,1,wD a),(1,1,wD b),(2,1,wD c),(3,1,wD d),(4,1,wD e),(5,1,wD f),(6,1,wD g),(7,1,wD h)]=s_ ([a,b,c,d,e,f,g,h].map wD):=by have hf:∀ a,(wD a).isCell=t_:=fun _=>rfl;rw[O6 wD hf _ _ _ _ (by simp[zW]),O6 wD hf _ _ _ _ (by simp[zW]),O6 wD hf _ _ _ _ (by simp[zW]),O6 wD hf _ _ _ _ (by simp[zW]),O6 wD hf _ _ _ _ (by simp[zW]),O6 wD hf _ _ _ _ (by simp[zW]),O6 wD hf _ _ _ _ (by simp[zW]),O6 wD hf _ _ _ _ (by simp[zW]),HS];rfl
theorem qz(x:UInt32)(k:IntKind)(z:Int)(E:0≤z)(h:z<32):DF .shl (wD x) (.int k z)=s_ (wD (x <<< UInt32.ofNat z.toNat)):=by obtain⟨n,rfl⟩:=Bc E;exact YJr x k n (by omega)
theorem US(x:UInt32)(k:IntKind)(z:Int)(E:0≤z)(h:z<32):DF .shr (wD x) (.int k z)=s_ (wD (x >>> UInt32.ofNat z.toNat)):=by obtain⟨n,rfl⟩:=Bc E;exact YJp x k n (by omega)
theorem zT(x:UInt64)(k:IntKind)(z:Int)(E:0≤z)(h:z<64):DF .shr (qD x) (.int k z)=s_ (qD (x >>> Dh z.toNat)):=by obtain⟨n,rfl⟩:=Bc E;exact WA x k n (by omega)
def L5(s:List UInt8):D:=.slc (nz 1 (s.map Dr)) (s.map Dr) f_
theorem YFv{a:List UInt8}(h:L5 a=L5 b):a=b:=by simp only[L5,D.slc.injEq]at h;exact Rc h.2.1
theorem YFu{a b:List (List UInt8)}:a.map L5=b.map L5↔a=b:=⟨P1 fun _ _=>YFv,fun h=>by rw[h]⟩
theorem Ykc(st:St)(s:List UInt8):FL st 1 f_ (.eptr (L5 s) 0)=s_ (.slc (nz 1 (s.map Dr)) (s.map Dr) f_):=lK st _ rfl
theorem Wq(sz:Nat)(E M N x3 x4 x5 x6 x7:D)(a b c d e f g h:UInt32):Eb (s_ ⟨f_,sz,[E,M,N,x3,x4,x5,x6,x7],f_⟩) 8 0 (.agg [wD a,wD b,wD c,wD d,wD e,wD f,wD g,wD h])=s_ ⟨f_,sz,[wD a,wD b,wD c,wD d,wD e,wD f,wD g,wD h],f_⟩:=LQ sz _ _ 8 rfl rfl rfl
attribute [push_cast] Wq Ygd Ygf yYs Yqz YIu YAn Ysb VY YIt Yzm Yzn Xu HS Ykc
attribute [push_cast] Yqp Yhk Yxb Yqo Yac yVv Yab Yqq yP8
