/-
  Integers: what the pure operations do within their bounds.
  Conditions: none; these are lemmas.
-/
import Derived.Test.YtijnglngaogdjaaGreatDoorEngR
import Derived.ChangeArms
import Derived.Lib.LaidTab
import Derived.ChangeSame
open BitVec renaming ofInt→CR
open List renaming range→CS,replicate→CQ
open UInt64 renaming ofNat→C7
namespace Go.Proofs.YtijnglngaogdjaaGreatDoor.PI
open Go Go.RowKit
inductive Ty where
 |bool
 |int (k:IntKind)
 |str
 |slc (e:Ty)
 |agg (fs:List Ty)
 /-- a slice whose elements' type is told of in another way -/
 |opq (Q:D→Prop)
 deriving Inhabited
mutual
def Ty.size:Ty→Nat
 |.agg fs=>Ty.sizes fs
 |_=>1
def Ty.sizes:List Ty→Nat
 |[]=>0
 |f::r=>f.size+Ty.sizes r
end
inductive Has:Ty→D→Prop
 |bool (b:Bool):Has .bool (.bool b)
 |int (k:IntKind) (n:Int):(Lit.int k n).wf=true→Has (.int k) (.int k n)
 |str (s:List UInt8):s.length≤maxLen→Has .str (.str s)
 |slc (e:Ty) (els:List D):(∀ (i:Nat) x,els[i]?=some x→Has e x)→els.length≤maxLen→Has (.slc e) (.slc (nz e.size els) els false)
 |opq (Q:D→Prop) (sz:Nat) (els:List D):Q (.slc (nz sz els) els false)→Has (.opq Q) (.slc (nz sz els) els false)
 |agg (fs:List Ty) (xs:List D):fs.length=xs.length→(∀ (i:Nat) f x,fs[i]?=some f→xs[i]?=some x→Has f x)→Has (.agg fs) (.agg (xs.flatMap D.cells))
def bo(P:Program):Nat→List Field→List Ty→Bool
 |_,[],[]=>true
 |o,f::fs,t::ts=>f.offset == o && P.cellsOf f.type == t.size && bo P (o+t.size) fs ts
 |_,_,_=>false
def Tc(tf:TypeId→Option Ty):List Field→Option (List Ty)
 |[]=>some []
 |f::fs=>match tf f.type,Tc tf fs with
  |some t,some ts=>some (t::ts)
  |_,_=>none
inductive TyD (P:Program):TypeId→D→Prop
 |bool (t:TypeId) (b:Bool):P.underlying t=some .bool→TyD P t (.bool b)
 |int (t:TypeId) (k:IntKind) (n:Int):P.underlying t=some (.int k)→(Lit.int k n).wf=true→TyD P t (.int k n)
 |str (t:TypeId) (s:List UInt8):P.underlying t=some .string→s.length≤maxLen→TyD P t (.str s)
 |slc (t e:TypeId) (els:List D):P.underlying t=some (.slice e)→(∀ x∈els,TyD P e x)→els.length≤maxLen→TyD P t (.slc (nz (P.cellsOf e) els) els false)
 |agg (t:TypeId) (fs:Array Field) (xs:List D):P.underlying t=some (.struct fs)→fs.toList.length=xs.length→(∀ (i:Nat) f x,fs.toList[i]?=some f→xs[i]?=some x→TyD P f.type x)→TyD P t (.agg (xs.flatMap D.cells))
 |arr (t:TypeId) (m:Nat) (e:TypeId) (xs:List D):P.underlying t=some (.array m e)→xs.length=m→(∀ x∈xs,TyD P e x)→TyD P t (.agg (xs.flatMap D.cells))
def X2(P:Program):Nat→Nat→List Field→Bool
 |o,n,[]=>o == n
 |o,n,f::fs=>f.offset == o && X2 P (o+P.cellsOf f.type) n fs
def Sp(P:Program)(S:List TypeId)(t:TypeId):Bool:=match P.underlying t with
 |some .bool | some (.int _) | some .string=>P.cellsOf t == 1
 |some (.slice e)=>S.contains e && decide (0<P.cellsOf e) && P.cellsOf t == 1
 |some (.struct fs)=>fs.toList.all (fun f=>S.contains f.type) && X2 P 0 (P.cellsOf t) fs.toList
 |some (.array m e)=>S.contains e && P.cellsOf t == m*P.cellsOf e
 |_=>false
def Lm(P:Program)(S:List TypeId):Bool:=S.all (Sp P S)
def YFs(P:Program)(t:TypeId):List TypeId:=match P.underlying t with
 |some (.slice e) | some (.array _ e)=>[e]
 |some (.struct fs)=>fs.toList.map (·.type)
 |_=>[]
def RS(P:Program):Nat→List TypeId→List TypeId
 |0,S=>S
 |n+1,S=>RS P n ((S++S.flatMap (YFs P)).eraseDups)
def Gx(P:Program):Nat→TypeId→Option Ty
 |0,_=>none
 |n+1,t=>match P.underlying t with
  |some .bool=>some .bool
  |some (.int k)=>some (.int k)
  |some .string=>some .str
  |some (.slice e)=>match Gx P n e with
   |some x=>if P.cellsOf e == x.size && decide (0<x.size)then some (.slc x)else none
   |none=>if Lm P (RS P 6 [t]) && (RS P 6 [t]).contains t then some (.opq (TyD P t))else none
  |some (.struct fs)=>match Tc (Gx P n) fs.toList with
   |some ts=>if bo P 0 fs.toList ts && P.cellsOf t == Ty.sizes ts then some (.agg ts)else none
   |none=>none
  |some (.array m e)=>match Gx P n e with
   |some x=>if P.cellsOf e == x.size && P.cellsOf t == m*x.size then some (.agg (CQ m x))else none
   |none=>none
  |_=>none
def XR(w:World):Nat→Nat→Prop:=fun b o=>(w.cell? ⟨b,o,none⟩).isSome=true
def KR(w:World):Ghost:={β:=id,γ:=id,Im:=XR w}
variable {cs:List Value}{a:Addr}
section
variable {H:Type} {enc:TypeId×Value→H} {P:Program} {w:World}
def RepL(w:World)(xs:List D)(cs:List Value):Prop:=xs.length=cs.length∧(∀ (j:Nat) y v,xs[j]?=some y→cs[j]?=some v→RepV w (KR w) [] y v)∧∀ y∈xs,y.pure1=true
theorem RepL.nil:RepL w [] []:=⟨rfl,fun j y v h=>by simp at h,fun y h=>by cases h⟩
theorem RepL.append{xs ys:List D}{ds:List Value}(h:RepL w xs cs)(I:RepL w ys ds):RepL w (xs++ys) (cs++ds):=by
 refine⟨by simp[h.1,I.1],fun j y v E hv=>?_,fun y E=>?_⟩
 ·rcases A8 j xs.length with hj | hj
  ·rw[At hj]at E;rw[At (by rw[← h.1]; exact hj)]at hv;exact h.2.1 j y v E hv
  ·rw[AM hj]at E;rw[AM (by rw[← h.1]; exact hj),← h.1]at hv;exact I.2.1 _ y v E hv
 ·rcases AL.1 E with E | E
  ·exact h.2.2 y E
  ·exact I.2.2 y E
theorem RepL.one{x:D}{v:Value}(h:RepV w (KR w) [] x v)(E:x.pure1=true):RepL w x.cells [v]:=by
 rw[Zi E];refine⟨rfl,fun j y u I hu=>?_,fun y I=>?_⟩
 ·grind
 ·grind
theorem xW{s:ByteArray}:RepV w (KR w) [] (.str s.data.toList) (.string s):=iq s _ rfl
mutual
def wt:D→Nat
 |.slc _ els _=>HA els+1
 |.agg l=>HA l
 |.str s=>s.length+1
 |.int _ _=>1
 |.bool _=>1
 |_=>0
def HA:List D→Nat
 |[]=>0
 |d::l=>wt d+HA l
end
mutual
def blk{H:Type}:DataW H→Nat
 |.lit (.string s)=>s.length+1
 |.lit _=>1
 |.nil=>1
 |.slice e _=>GD e+1
 |.agg p=>GD p
 |_=>0
def GD{H:Type}:List (DataW H)→Nat
 |[]=>0
 |d::l=>blk d+GD l
end
theorem UF:∀ (a b:List D),HA (a++b)=HA a+HA b
 |[],b=>by simp[HA]
 |x::a,b=>by rw[Ak,HA,HA,UF a b]; omega
theorem YE(d:D):HA d.cells=wt d:=by
 cases d <;> simp[D.cells,HA,wt]
theorem m5:∀ (a:List D) (b:List (DataW H)),a.length=b.length→(∀ (i:Nat) x y,a[i]?=some x→b[i]?=some y→wt x≤blk y)→HA a≤GD b
 |[],b,_,_=>by simp[HA]
 |x::a,[],h,_=>by simp at h
 |x::a,y::b,h,hle=>by
  have J:=hle 0 x y rfl rfl;have M:=m5 a b (by simpa using h) (fun i x y E I=>hle (i+1) x y (by simpa using E) (by simpa using I));simp only[HA,GD];omega
def lK(enc:TypeId×Value→H)(P:Program)(w:World)(sp:Nat→Bool)(t:TypeId)(ty:Ty):Prop:=
 ∀ (fuel:Nat) (cs:List Value) (x:DataW H×List MemPlace),DataW.trod enc P w 0 sp true fuel t cs=some x→∃ d,Has ty d∧RepL w d.cells cs∧cs.length=ty.size∧((∃ fs,ty=.agg fs)∨d.pure1=true)∧wt d≤blk x.1
theorem ng{sp:Nat→Bool}{V:TypeId→Option Ty}(J:∀ t ty,V t=some ty→lK enc P w sp t ty)(fuel:Nat)(cs:List Value):∀ (fs:List Field) (E:List Ty) (o:Nat) (ys:List (DataW H×List MemPlace)),
  Tc V fs=some E→bo P o fs E=true→fs.mapM (fun f=>DataW.trod enc P w 0 sp true fuel f.type ((cs.drop f.offset).take (P.cellsOf f.type)))=some ys→
  ∃ xs:List D,E.length=xs.length∧(∀ (i:Nat) f x,E[i]?=some f→xs[i]?=some x→Has f x)∧RepL w (xs.flatMap D.cells) ((cs.drop o).take (Ty.sizes E))∧(o≤cs.length→o+Ty.sizes E≤cs.length)∧HA (xs.flatMap D.cells)≤GD (ys.map (·.1))
 |[],E,o,ys,I,M,U=>by
  simp[Tc]at I; subst I;exact⟨[],rfl,fun i f x h=>by simp at h,by simpa[Ty.sizes]using RepL.nil,fun h=>by simpa[Ty.sizes]using h,by simp[HA]⟩
 |f::fs,E,o,ys,I,M,U=>by
  unfold Tc at I
  split at I
  case h_2=>cases I
  rename_i t Y ht aa;simp only[Db]at I; subst I;simp only[bo,Ac,beq_iff_eq]at M;obtain⟨⟨e1,e2⟩,e3⟩:=M;simp only[By,Bs,Ay,BF,Db]at U;obtain⟨y,hy,ac,ad,rfl⟩:=U;rw[e1,e2]at hy;obtain⟨d,d1,d2,d3,_,d5⟩:=J _ _ ht fuel _ _ hy;obtain⟨xs,x1,x2,x3,x4,x5⟩:=ng J fuel cs fs Y (o+t.size) ac aa e3 ad
  have hlen:o+t.size≤cs.length∨t.size=0:=by
   grind
  refine⟨d::xs,by simp[x1],?_,?_,?_,?_⟩
  ·grind
  ·have:=d2.append x3;simp only[Au,Ty.sizes];rw[CA,Bx];exact this
  ·intro ho;simp only[Ty.sizes];omega
  ·simp only[Au,UF,YE,Aw,GD];omega
theorem vW{sp:Nat→Bool}{e:TypeId}{x:Ty}(E:lK enc P w sp e x)(hc:P.cellsOf e=x.size)(fuel:Nat)(cs:List Value):∀ (n k:Nat) (ys:List (DataW H×List MemPlace)),
  (List.range' k n).mapM (fun i=>DataW.trod enc P w 0 sp true fuel e ((cs.drop (i*P.cellsOf e)).take (P.cellsOf e)))=some ys→
  ∃ xs:List D,xs.length=n∧(∀ (i:Nat) y,xs[i]?=some y→Has x y)∧RepL w (xs.flatMap D.cells) ((cs.drop (k*x.size)).take (n*x.size))∧HA (xs.flatMap D.cells)≤GD (ys.map (·.1))
 |0,k,ys,h=>⟨[],rfl,fun i y h=>by simp at h,by simpa using RepL.nil,by simp[HA]⟩
 |n+1,k,ys,h=>by
  simp only[BX,By,Bs,Ay,BF,Db]at h;obtain⟨y,I,J,M,rfl⟩:=h;rw[hc]at I;obtain⟨d,d1,d2,d3,_,d5⟩:=E fuel _ _ I;obtain⟨xs,U,Y,V,x5⟩:=vW E hc fuel cs n (k+1) J M;refine⟨d::xs,by simp[U],?_,?_,?_⟩
  ·grind
  ·have:=d2.append V;simp only[Au];rw[A0,BA,Nat.add_comm (n*x.size),CA,Bx];grind
  ·simp only[Au,UF,YE,Aw,GD];omega
theorem Ty.sizes_replicate(x:Ty):∀ m,Ty.sizes (CQ m x)=m*x.size
 |0=>by simp[Ty.sizes]
 |m+1=>by rw[B0,Ty.sizes,Ty.sizes_replicate x m,A0,BA,Nat.add_comm]
theorem cells?_get{base:Nat}{n:Nat}(h:w.cells? base a n=some cs):cs.length=n∧∀ (j:Nat) v,cs[j]?=some v→w.cell? (a.add j)=some v:=by
 unfold World.cells? at h
 split at h
 ·have hl:cs.length=n:=by simpa using Lib.mapM_length h
  refine⟨hl,fun j v hv=>?_⟩;have hj:j<n:=by rw[← hl]; exact(Ab.1 hv).1
  obtain⟨b,hb,hf⟩:=Lib.mapM_at h j j (by simp[hj]);grind
 ·cases h
def mq(enc:TypeId×Value→H)(P:Program)(w:World)(sp:Nat→Bool)(fuel:Nat)(t:TypeId):Prop:=
 ∀ (cs:List Value) (x:DataW H×List MemPlace),DataW.trod enc P w 0 sp true fuel t cs=some x→∃ d,TyD P t d∧RepL w d.cells cs∧cs.length=P.cellsOf t∧((∃ l,d=.agg l)∨d.pure1=true)∧wt d≤blk x.1
theorem nG{sp:Nat→Bool}{fuel:Nat}(cs:List Value)(n:Nat):∀ (fs:List Field) (o:Nat) (ys:List (DataW H×List MemPlace)),(∀ f∈fs,mq enc P w sp fuel f.type)→X2 P o n fs=true→
  fs.mapM (fun f=>DataW.trod enc P w 0 sp true fuel f.type ((cs.drop f.offset).take (P.cellsOf f.type)))=some ys→
  ∃ xs:List D,fs.length=xs.length∧(∀ (i:Nat) f x,fs[i]?=some f→xs[i]?=some x→TyD P f.type x)∧RepL w (xs.flatMap D.cells) ((cs.drop o).take (n - o))∧o≤n∧HA (xs.flatMap D.cells)≤GD (ys.map (·.1))
 |[],o,ys,_,E,J=>by
  simp only[X2,beq_iff_eq]at E;subst E;exact⟨[],rfl,fun i f x h=>by simp at h,by simpa using RepL.nil,Ax _,by simp[HA]⟩
 |f::fs,o,ys,I,E,J=>by
  simp only[X2,Ac,beq_iff_eq]at E;obtain⟨Y,e3⟩:=E;simp only[By,Bs,Ay,BF,Db]at J;obtain⟨y,M,U,V,rfl⟩:=J;rw[Y]at M;obtain⟨d,d1,d2,d3,_,d5⟩:=I f (by simp) _ _ M;obtain⟨xs,x1,x2,x3,x4,x5⟩:=nG cs n fs (o+P.cellsOf f.type) U (fun g hg=>I g (by simp[hg])) e3 V;refine⟨d::xs,by simp[x1],?_,?_,by omega,?_⟩
  ·grind
  ·have:=d2.append x3;simp only[Au];rw[show n - o=P.cellsOf f.type+(n - (o+P.cellsOf f.type)) by omega,CA,Bx];exact this
  ·simp only[Au,UF,YE,Aw,GD];omega
theorem nm{sp:Nat→Bool}{fuel:Nat}{e:TypeId}(E:mq enc P w sp fuel e)(cs:List Value):∀ (n k:Nat) (ys:List (DataW H×List MemPlace)),
  (List.range' k n).mapM (fun i=>DataW.trod enc P w 0 sp true fuel e ((cs.drop (i*P.cellsOf e)).take (P.cellsOf e)))=some ys→
  ∃ xs:List D,xs.length=n∧(∀ y∈xs,TyD P e y)∧RepL w (xs.flatMap D.cells) ((cs.drop (k*P.cellsOf e)).take (n*P.cellsOf e))∧HA (xs.flatMap D.cells)≤GD (ys.map (·.1))
 |0,k,ys,h=>⟨[],rfl,(fun y h=>by cases h),by simpa using RepL.nil,by simp[HA]⟩
 |n+1,k,ys,h=>by
  simp only[BX,By,Bs,Ay,BF,Db]at h;obtain⟨y,M,I,J,rfl⟩:=h;obtain⟨d,d1,d2,d3,_,d5⟩:=E _ _ M;obtain⟨xs,U,Y,V,x5⟩:=nm E cs n (k+1) I J;refine⟨d::xs,by simp[U],?_,?_,?_⟩
  ·grind
  ·have:=d2.append V;simp only[Au];rw[A0,BA,Nat.add_comm (n*P.cellsOf e),CA,Bx];grind
  ·simp only[Au,UF,YE,Aw,GD];omega
theorem yQl{Q:D→Prop}{sz:Nat}{len cap:Nat}{bs:Nat→Nat}(J:0<sz)(ac:len≤cap)
  (E:∀ i,i<len→∃ d,Q d∧d.cells.length=sz∧(∀ (j:Nat) y,d.cells[j]?=some y→y.pure1=true∧∃ v,w.cell? ((a.add (i*sz)).add j)=some v∧RepV w (KR w) [] y v)∧wt d≤bs i) :
  ∃ els:List D,els.length=len∧(∀ x∈els,Q x)∧RepL w (D.slc (nz sz els) els false).cells [.slice (some a) len cap]∧∀ (i:Nat) x,els[i]?=some x→wt x≤bs i:=by
 let f:Nat→D:=fun i=>if hi:i<len then(E i hi).choose else .junk
 have hf:∀ i (hi:i<len),f i=(E i hi).choose:=fun i hi=>by simp[f,hi]
 have V:∀ (i:Nat) x,((CS len).map f)[i]?=some x→∃ hi:i<len,x=(E i hi).choose:=by
  intro i x M;simp only[AD,DH]at M;obtain⟨i',I,rfl⟩:=M;rw[Ab]at I;obtain⟨Y,h3⟩:=I;simp at Y h3;grind
 refine⟨(CS len).map f,by simp,fun x M=>?_,?_,fun i x M=>?_⟩
 ·grind
 ·refine RepL.one (RepV.nz (t:=false) ?_) rfl;rcases B7 len with h0 | h0
  ·subst h0;exact .slcE _ false (some a) cap (fun h=>by cases h)
  ·have U:a.spot=none:=by
    obtain⟨d1,d2,d3,_⟩:=(E 0 h0).choose_spec;obtain⟨_,v,I,_⟩:=d3 0 _ (Ah (by rw[d2]; exact J));rw[Cc]at I;have Y:(a.add 0).add 0=a:=by simp[Addr.add]
    rw[Y]at I;unfold World.cell? at I
    split at I
    ·split at I
     ·cases I
     ·rename_i hs; simpa using hs
    ·cases I
   obtain⟨b,off,spot⟩:=a;simp only at U;subst U;have hl:len=((CS len).map f).length:=by simp
   conv=>rhs; rw[hl]
   refine RepV.slc_mk J ?_ (by simpa using ac) (fun h=>by cases h) ?_
   ·grind
   ·intro i j d hd;obtain⟨e',he,hj⟩:=Iw hd;obtain⟨ad,rfl⟩:=V i e' he;obtain⟨hp,v,hv,hr⟩:=(E i ad).choose_spec.2.2.1 j d hj;rw[Ly,Ly]at hv;refine⟨hp,?_,v,hv,hr⟩
    show(w.cell? ⟨b,off+i*sz+j,none⟩).isSome=true
    rw[hv]; rfl
 ·grind
theorem uO{sp:Nat→Bool}{S:List TypeId}(hS:Lm P S=true):∀ (fuel:Nat) (t:TypeId),t∈S→mq enc P w sp fuel t
 |0,t,_=>by intro cs x E; simp[DataW.trod]at E
 |fuel+1,t,Y=>by
  have ih:=fun t Y=>uO (sp:=sp) hS fuel t Y;have hc:Sp P S t=true:=Ag.1 hS t Y;unfold Sp at hc;intro cs x E
  split at hc
  ·rename_i hu;simp only[beq_iff_eq]at hc;unfold DataW.trod at E;rw[hu]at E
   split at E <;> simp_all
   exact⟨_,.bool t _ hu,RepL.one (.bool _) rfl,.inr rfl,by rw[← E]; simp[wt,blk]⟩
  ·rename_i k hu;simp only[beq_iff_eq]at hc;unfold DataW.trod at E;rw[hu]at E
   split at E <;> simp_all
   rename_i k' m;obtain⟨⟨rfl,hw⟩,I⟩:=E;exact⟨_,.int t _ _ hu hw,RepL.one (.int _ _) rfl,.inr rfl,by rw[← I]; simp[wt,blk]⟩
  ·rename_i hu;simp only[beq_iff_eq]at hc;unfold DataW.trod at E;rw[hu]at E
   split at E <;> simp_all
   rename_i s;exact⟨_,.str t s.data.toList hu (by simpa using E.1),RepL.one xW rfl,.inr rfl,by rw[← E.2]; simp[wt,blk]⟩
  ·rename_i e hu;simp only[Ac,Be,decide_eq_true_eq,beq_iff_eq]at hc;obtain⟨⟨J,ab⟩,U⟩:=hc;rcases DataW.trod_slice hu E with⟨rfl,I⟩ | ⟨a,len,cap,elems,rest,m,hm,rfl,I,_,a3,bb,hlen,a4,_,_⟩
   ·refine⟨.slc (nz (P.cellsOf e) []) [] false,.slc t e [] hu (fun x h=>by cases h) (A2 _),RepL.one (.slcE _ false none 0 (fun h=>by cases h)) rfl,U.symm,.inr rfl,by rw[I]; simp[wt,HA,blk]⟩
   ·obtain rfl:m=fuel:=by omega
    have ac:∀ i,i<len→∃ d,TyD P e d∧d.cells.length=P.cellsOf e∧(∀ (j:Nat) y,d.cells[j]?=some y→y.pure1=true∧∃ v,w.cell? ((a.add (i*P.cellsOf e)).add j)=some v∧RepV w (KR w) [] y v)∧wt d≤((elems[i]?).map fun y=>blk y.1).getD 0:=by
     intro i hi;have h1:=a4 i hi;rw[Ah (by omega)]at h1 ⊢;simp only[Ay]at h1;obtain⟨cs',h2,h3⟩:=h1;obtain⟨d,d1,d2,d3,_,d5⟩:=ih e J cs' _ h3;obtain⟨h4,h5⟩:=cells?_get h2;refine⟨d,d1,by rw[d2.1,h4],fun j y hy=>⟨d2.2.2 y (Aj hy),?_⟩,by simpa using d5⟩;have hj:j<cs'.length:=by rw[← d2.1]; exact(Ab.1 hy).1
     exact⟨cs'[j],h5 j _ (Ah hj),d2.2.1 j y _ hy (Ah hj)⟩
    obtain⟨els,e1,e2,e3,e4⟩:=yQl ab a3 ac;refine⟨_,.slc t e els hu e2 (by omega),e3,U.symm,.inr rfl,?_⟩;rw[I];simp only[wt,blk];refine Nat.succ_le_succ (m5 _ _ (by simp; omega) ?_);grind
  ·rename_i fs hu;simp only[Ac,Ag,Be]at hc;obtain⟨J,af⟩:=hc;unfold DataW.trod at E;rw[hu]at E;simp only at E
   split at E
   case isFalse=>cases E
   rename_i hl;simp only[DH]at E;obtain⟨ys,M,rfl⟩:=E;obtain⟨xs,x1,x2,V,x4,x5⟩:=nG cs (P.cellsOf t) fs.toList 0 ys (fun f hf=>ih f.type (J f hf)) af M;refine⟨.agg (xs.flatMap D.cells),.agg t fs xs hu x1 x2,?_,hl,.inl ⟨_,rfl⟩,by simpa only[wt,blk]using x5⟩;rw[Bz,Nat.sub_zero,AE (by omega)]at V;exact V
  ·rename_i m e hu;simp only[Ac,Be,beq_iff_eq]at hc;obtain⟨J,bc⟩:=hc;unfold DataW.trod at E;rw[hu]at E;simp only at E
   split at E
   case isFalse=>cases E
   rename_i hl;simp only[DH]at E;obtain⟨ys,M,rfl⟩:=E;rw[Bm]at M;obtain⟨xs,x1,x2,V,x5⟩:=nm (ih e J) cs m 0 ys M;refine⟨.agg (xs.flatMap D.cells),.arr t m e xs hu x1 x2,?_,hl,.inl ⟨_,rfl⟩,by simpa only[wt,blk]using x5⟩;rw[Cc,Bz,AE (by omega)]at V;exact V
  ·cases hc
theorem rU{sp:Nat→Bool}:∀ (n:Nat) (t:TypeId) (ty:Ty),Gx P n t=some ty→lK enc P w sp t ty
 |0,_,_,h=>by simp[Gx]at h
 |n+1,t,ty,h=>by
  have ih:=rU (sp:=sp) n;intro fuel cs x E;unfold Gx at h
  cases fuel with
  |zero=>simp[DataW.trod]at E
  |succ fuel=>
  split at h
  ·rename_i hu;simp only[Db]at h; subst h;unfold DataW.trod at E;rw[hu]at E
   split at E <;> simp_all
   exact⟨_,.bool _,RepL.one (.bool _) rfl,rfl,rfl,by rw[← E]; simp[wt,blk]⟩
  ·rename_i k hu;simp only[Db]at h; subst h;unfold DataW.trod at E;rw[hu]at E
   split at E <;> simp_all
   rename_i k' m;obtain⟨⟨rfl,hw⟩,M⟩:=E;exact⟨_,.int _ _ hw,RepL.one (.int _ _) rfl,rfl,rfl,by rw[← M]; simp[wt,blk]⟩
  ·rename_i hu;simp only[Db]at h; subst h;unfold DataW.trod at E;rw[hu]at E
   split at E <;> simp_all
   rename_i s;exact⟨_,.str s.data.toList (by simpa using E.1),RepL.one xW rfl,rfl,rfl,by rw[← E.2]; simp[wt,blk]⟩
  ·rename_i e hu
   split at h
   case h_2=>
    split at h
    case isFalse=>cases h
    rename_i U;simp only[Ac,Be]at U;simp only[Db]at h; subst h;obtain⟨d,d1,d2,d3,d4,d5⟩:=uO U.1 (fuel+1) t U.2 cs x E
    have ad:P.cellsOf t=1:=by
     have:=Ag.1 U.1 t U.2;unfold Sp at this;grind
    rw[ad]at d3
    have:∃ sz els,d=.slc (nz sz els) els false:=by
     cases d1 with
     |slc _ e' els I h2 h3=>exact⟨_,_,rfl⟩
     |agg _ fs xs I=>rw[hu]at I; cases I
     |arr _ m e' xs I=>rw[hu]at I; cases I
     |bool _ b I=>rw[hu]at I; cases I
     |int _ k n I=>rw[hu]at I; cases I
     |str _ s I=>rw[hu]at I; cases I
    obtain⟨sz,els,rfl⟩:=this;exact⟨_,.opq _ sz els d1,d2,d3,.inr rfl,d5⟩
   rename_i ex hex
   split at h
   case isFalse=>cases h
   rename_i hc;simp only[Ac,beq_iff_eq,decide_eq_true_eq]at hc;simp only[Db]at h; subst h;rcases DataW.trod_slice hu E with⟨rfl,M⟩ | ⟨a,len,cap,elems,rest,m,_,rfl,M,_,a5,bg,hlen,a6,_,_⟩
   ·exact⟨_,.slc ex [] (fun i x h=>by simp at h) (A2 _),RepL.one (.slcE _ false none 0 (fun h=>by cases h)) rfl,rfl,.inr rfl,by rw[M]; simp[wt,HA,blk]⟩
   ·have J:∀ i (hi:i<len),∃ d,Has ex d∧d.cells.length=ex.size∧(∀ (j:Nat) y,d.cells[j]?=some y→y.pure1=true∧∃ v,w.cell? ((a.add (i*ex.size)).add j)=some v∧RepV w (KR w) [] y v)∧wt d≤blk (elems[i]'(by omega)).1:=by
     intro i hi;have I:=a6 i hi;rw[hc.1,Ah (by omega)]at I;simp only[Ay]at I;obtain⟨cs',h2,h3⟩:=I;obtain⟨d,d1,d2,d3,_,d5⟩:=ih e ex hex m cs' _ h3;obtain⟨h4,h5⟩:=cells?_get h2;refine⟨d,d1,by rw[d2.1,h4],fun j y hy=>⟨d2.2.2 y (Aj hy),?_⟩,d5⟩;have hj:j<cs'.length:=by rw[← d2.1]; exact(Ab.1 hy).1
     exact⟨cs'[j],h5 j _ (Ah hj),d2.2.1 j y _ hy (Ah hj)⟩
    let f:Nat→D:=fun i=>if hi:i<len then(J i hi).choose else .junk
    have hf:∀ i (hi:i<len),f i=(J i hi).choose:=fun i hi=>by simp[f,hi]
    have ah:∀ (i:Nat) x,((CS len).map f)[i]?=some x→∃ hi:i<len,x=(J i hi).choose:=by
     grind
    refine⟨.slc (nz ex.size ((CS len).map f)) ((CS len).map f) false,.slc ex _ (fun i x E=>?_) (by simp; omega),?_,rfl,.inr rfl,?_⟩
    ·grind
    ·refine RepL.one (RepV.nz (t:=false) ?_) rfl;rcases B7 len with h0 | h0
     ·subst h0;exact .slcE _ false (some a) cap (fun h=>by cases h)
     ·have ab:a.spot=none:=by
       obtain⟨d1,d2,d3,_⟩:=(J 0 h0).choose_spec;obtain⟨_,v,I,_⟩:=d3 0 _ (Ah (by rw[d2]; exact hc.2));rw[Cc]at I;have h2:(a.add 0).add 0=a:=by simp[Addr.add]
       rw[h2]at I;unfold World.cell? at I
       split at I
       ·split at I
        ·cases I
        ·rename_i hs; simpa using hs
       ·cases I
      obtain⟨b,off,spot⟩:=a;simp only at ab;subst ab;have hl:len=((CS len).map f).length:=by simp
      conv=>rhs; rw[hl]
      refine RepV.slc_mk hc.2 ?_ (by simpa using a5) (fun h=>by cases h) ?_
      ·grind
      ·intro i j d hd;obtain⟨e',he,hj⟩:=Iw hd;obtain⟨a7,rfl⟩:=ah i e' he;obtain⟨hp,v,hv,hr⟩:=(J i a7).choose_spec.2.2.1 j d hj;rw[Ly,Ly]at hv;refine⟨hp,?_,v,hv,hr⟩
       show(w.cell? ⟨b,off+i*ex.size+j,none⟩).isSome=true
       rw[hv]; rfl
    ·rw[M];simp only[wt,blk];refine Nat.succ_le_succ (m5 _ _ (by simp; omega) ?_);grind
  ·rename_i fs hu
   split at h
   case h_2=>cases h
   rename_i ts a8
   split at h
   case isFalse=>cases h
   rename_i hc;simp only[Ac,beq_iff_eq]at hc;simp only[Db]at h; subst h;unfold DataW.trod at E;rw[hu]at E;simp only at E
   split at E
   case isFalse=>cases E
   rename_i hl;simp only[DH]at E;obtain⟨ys,V,rfl⟩:=E;obtain⟨xs,x1,x2,Y,x4,x5⟩:=ng ih fuel cs fs.toList ts 0 ys a8 hc.1 V;refine⟨.agg (xs.flatMap D.cells),.agg ts xs x1 x2,?_,by rw[hl,hc.2]; rfl,.inl ⟨ts,rfl⟩,by simpa only[wt,blk]using x5⟩;rw[Bz,AE (by omega)]at Y;exact Y
  ·rename_i m e hu
   split at h
   case h_2=>cases h
   rename_i ex hex
   split at h
   case isFalse=>cases h
   rename_i hc;simp only[Ac,beq_iff_eq]at hc;simp only[Db]at h; subst h;unfold DataW.trod at E;rw[hu]at E;simp only at E
   split at E
   case isFalse=>cases E
   rename_i hl;simp only[DH]at E;obtain⟨ys,V,rfl⟩:=E;rw[Bm]at V;obtain⟨xs,x1,x2,Y,x5⟩:=vW (ih e ex hex) hc.1 fuel cs m 0 ys V;refine⟨.agg (xs.flatMap D.cells),.agg _ xs (by simp[x1]) ?_,?_,by rw[hl,hc.2]; exact(Ty.sizes_replicate ex m).symm,.inl ⟨_,rfl⟩,by simpa only[wt,blk]using x5⟩
   ·grind
   ·rw[Cc,Bz,AE (by omega)]at Y;exact Y
  ·cases h
end
end Go.Proofs.YtijnglngaogdjaaGreatDoor.PI
namespace Go.Proofs.YtijnglngaogdjaaGreatDoor.PI
open Go Go.RowKit Go.ChangeShapes
variable {v:Value}{a:Addr}{n:Nat}{before:List MemPlace}{args:Array Value}{s:ChangeSpec}{tys:List Ty}{sp:List D→Option D}{fn:Func}{G:Dj}
section
variable {H:Type} {enc:TypeId×Value→H} {P:Program} {W W':World}
theorem N1{α β:Type}{f g:α→Option β}:∀ {l:List α} {r:List β},l.mapM f=some r→(∀ x y,x∈l→y∈r→f x=some y→g x=some y)→l.mapM g=some r
 |[],r,h,_=>by simpa using h
 |a::l,r,h,E=>by
  simp only[By,Bs,Ay,BF,Db]at h ⊢;obtain⟨b,hb,J,I,rfl⟩:=h;exact⟨b,E a b (by simp) (by simp) hb,J,N1 I (fun x y M U=>E x y (by simp[M]) (by simp[U])),rfl⟩
theorem cell?_below(hb:Below W.heap.size W W')(h:W.cell? a=some v):W'.cell? a=some v:=by
 have E:=World.block_lt_of_cell? W a h;rw[← h];simp only[World.cell?,hb.block a.block E]
theorem cells?_below(hb:Below W.heap.size W W'){b:Nat}{cs:List Value}(h:W.cells? b a n=some cs):W'.cells? b a n=some cs:=by
 unfold World.cells? at h ⊢
 split at h
 ·rename_i E;rw[if_pos E];exact N1 h fun x y _ _ I=>cell?_below hb I
 ·cases h
theorem uN(hb:Below W.heap.size W W'){S:List TypeId}(hS:Lm P S=true):∀ (fuel:Nat) (t:TypeId),t∈S→∀ (cs:List Value) (x:DataW H×List MemPlace),DataW.trod enc P W 0 (fun _=>true) true fuel t cs=some x→
  ∀ I:Nat→Bool,(∀ p∈x.2,I p.block=true)→DataW.trod enc P W' 0 I true fuel t cs=some x
 |0,t,_=>by intro cs x E; simp[DataW.trod]at E
 |fuel+1,t,ht=>by
  have ih:=uN hb hS fuel;intro cs x E I ac;have hc:Sp P S t=true:=Ag.1 hS t ht;unfold Sp at hc
  split at hc
  ·rename_i hu;unfold DataW.trod at E ⊢;grind
  ·rename_i k hu;unfold DataW.trod at E ⊢;grind
  ·rename_i hu;unfold DataW.trod at E ⊢;grind
  ·rename_i e hu;simp only[Ac,Be,decide_eq_true_eq,beq_iff_eq]at hc;obtain⟨⟨M,a0⟩,_⟩:=hc
   have U:∀ (b:Addr) (y:DataW H×List MemPlace),(∀ p∈y.2,I p.block=true)→(W.cells? 0 b (P.cellsOf e)).bind (DataW.trod enc P W 0 (fun _=>true) true fuel e)=some y→(W'.cells? 0 b (P.cellsOf e)).bind (DataW.trod enc P W' 0 I true fuel e)=some y:=by
    intro b y J V;simp only[Ay]at V ⊢;obtain⟨cs',h2,h3⟩:=V;exact⟨cs',cells?_below hb h2,ih e M cs' y h3 I J⟩
   unfold DataW.trod at E ⊢;rw[hu]at E ⊢
   split at E
   all_goals try (first | (rename_i heq _; cases heq; done) | (rename_i heq; cases heq; done))
   all_goals try (simp_all; done)
   rename_i e' a len cap heq;cases heq;simp only[if_true]at E ⊢
   split at E
   case isFalse=>cases E
   rename_i ab;rw[if_pos ab];simp only[Ay,DH]at E ⊢;obtain⟨elems,V,rest,h2,rfl⟩:=E;have hle:elems.length=len:=by simpa using Lib.mapM_length V
   have a3:rest.length=cap - len:=by simpa using Lib.mapM_length h2
   have M:∀ y∈elems++rest,∀ p∈y.2,I p.block=true:=fun y J p hp=>ac p (by
    grind)
   refine⟨elems,N1 V (fun i y _ J hi=>U _ y (M y (by simp[J])) hi),rest,?_,rfl⟩;rcases B7 cap with h0 | h0
   ·grind
   ·have ad:I a.block=true:=ac (.cell a.block (a.off+0)) (by
     simp only[AL]
     left
     simp only[MemPlace.row,AU,AW];simp_all)
    rw[if_pos ad];exact N1 h2 (fun i y _ J hi=>U _ y (M y (by simp[J])) hi)
  ·rename_i fs hu;simp only[Ac,Ag,Be]at hc;unfold DataW.trod at E ⊢;rw[hu]at E ⊢;simp only at E ⊢
   split at E
   case isFalse=>cases E
   rename_i hl;rw[if_pos hl];simp only[DH]at E ⊢;obtain⟨ys,Y,rfl⟩:=E;refine⟨ys,N1 Y (fun f y hf J hi=>?_),rfl⟩;grind
  ·rename_i m e hu;simp only[Ac,Be,beq_iff_eq]at hc;unfold DataW.trod at E ⊢;rw[hu]at E ⊢;simp only at E ⊢
   split at E
   case isFalse=>cases E
   rename_i hl;rw[if_pos hl];simp only[DH]at E ⊢;obtain⟨ys,Y,rfl⟩:=E;refine⟨ys,N1 Y (fun i y _ J hi=>?_),rfl⟩;grind
  ·cases hc
theorem vw(hb:Below W.heap.size W W'):∀ (n:Nat) (t:TypeId) (ty:Ty),Gx P n t=some ty→∀ (fuel:Nat) (cs:List Value) (x:DataW H×List MemPlace),DataW.trod enc P W 0 (fun _=>true) true fuel t cs=some x→
  ∀ I:Nat→Bool,(∀ p∈x.2,I p.block=true)→DataW.trod enc P W' 0 I true fuel t cs=some x
 |0,_,_,h=>by simp[Gx]at h
 |n+1,t,ty,h=>by
  have ih:=vw hb n;intro fuel cs x E I U;unfold Gx at h
  cases fuel with
  |zero=>simp[DataW.trod]at E
  |succ fuel=>
  split at h
  ·rename_i hu;unfold DataW.trod at E ⊢;grind
  ·rename_i k hu;unfold DataW.trod at E ⊢;grind
  ·rename_i hu;unfold DataW.trod at E ⊢;grind
  ·rename_i e hu
   split at h
   case h_2=>
    split at h
    case isFalse=>cases h
    rename_i V;simp only[Ac,Be]at V;exact uN hb V.1 (fuel+1) t V.2 cs x E I U
   rename_i ex hex
   split at h
   case isFalse=>cases h
   rename_i hc;simp only[Ac,beq_iff_eq,decide_eq_true_eq]at hc;have a0:0<P.cellsOf e:=by rw[hc.1]; exact hc.2
   have Y:∀ (b:Addr) (y:DataW H×List MemPlace),(∀ p∈y.2,I p.block=true)→(W.cells? 0 b (P.cellsOf e)).bind (DataW.trod enc P W 0 (fun _=>true) true fuel e)=some y→(W'.cells? 0 b (P.cellsOf e)).bind (DataW.trod enc P W' 0 I true fuel e)=some y:=by
    intro b y J h1;simp only[Ay]at h1 ⊢;obtain⟨cs',h2,h3⟩:=h1;exact⟨cs',cells?_below hb h2,ih e ex hex fuel cs' y h3 I J⟩
   unfold DataW.trod at E ⊢;rw[hu]at E ⊢
   split at E
   all_goals try (first | (rename_i heq _; cases heq; done) | (rename_i heq; cases heq; done))
   all_goals try (simp_all; done)
   rename_i e' a len cap heq;cases heq;simp only[if_true]at E ⊢
   split at E
   case isFalse=>cases E
   rename_i ac;rw[if_pos ac];simp only[Ay,DH]at E ⊢;obtain⟨elems,h1,rest,h2,rfl⟩:=E;have hle:elems.length=len:=by simpa using Lib.mapM_length h1
   have a5:rest.length=cap - len:=by simpa using Lib.mapM_length h2
   have ad:∀ y∈elems++rest,∀ p∈y.2,I p.block=true:=fun y J p hp=>U p (by
    grind)
   refine⟨elems,N1 h1 (fun i y _ J hi=>Y _ y (ad y (by simp[J])) hi),rest,?_,rfl⟩;rcases B7 cap with h0 | h0
   ·grind
   ·have af:I a.block=true:=U (.cell a.block (a.off+0)) (by
     simp only[AL]
     left
     simp only[MemPlace.row,AU,AW];simp_all)
    rw[if_pos af];exact N1 h2 (fun i y _ J hi=>Y _ y (ad y (by simp[J])) hi)
  ·rename_i fs hu
   split at h
   case h_2=>cases h
   rename_i ts ae;unfold DataW.trod at E ⊢;rw[hu]at E ⊢;simp only at E ⊢
   split at E
   case isFalse=>cases E
   rename_i hl;rw[if_pos hl];simp only[DH]at E ⊢;obtain⟨ys,M,rfl⟩:=E
   have a4:∀ f∈fs.toList,∃ ty,Gx P n f.type=some ty:=by
    clear M hl hu h;generalize fs.toList=l at ae
    induction l generalizing ts with
    |nil=>intro f hf; cases hf
    |cons f0 l a6=>
     unfold Tc at ae;grind
   refine⟨ys,N1 M (fun f y hf J hi=>?_),rfl⟩;grind
  ·rename_i m e hu
   split at h
   case h_2=>cases h
   rename_i ex hex;unfold DataW.trod at E ⊢;rw[hu]at E ⊢;simp only at E ⊢
   split at E
   case isFalse=>cases E
   rename_i hl;rw[if_pos hl];simp only[DH]at E ⊢;obtain⟨ys,M,rfl⟩:=E;refine⟨ys,N1 M (fun i y _ J hi=>?_),rfl⟩;grind
  ·cases h
theorem nK(hb:Below W.heap.size W W'){n:Nat}:∀ (I:List TypeId) (tys:List Ty) (vs:List Value) (ds:List (DataW H)) (ps:List MemPlace),I.mapM (Gx P n)=some tys→DataW.TrodAll enc P W 0 (fun _=>true) true I vs ds ps→
  ∀ E:Nat→Bool,(∀ p∈ps,E p.block=true)→DataW.TrodAll enc P W' 0 E true I vs ds ps
 |[],_,[],[],ps,_,h=>fun _ _=>h
 |t::I,tys,v::vs,d::ds,ps,V,h=>by
  intro E J;simp only[By,Bs,Ay,BF,Db]at V;obtain⟨ty,Y,M,h2,rfl⟩:=V;obtain⟨p,q,⟨fuel,h3⟩,h4,rfl⟩:=h;exact⟨p,q,⟨fuel,vw hb n t ty Y fuel _ _ h3 E (fun x U=>J x (by simp[U]))⟩,nK hb I M vs ds q h2 h4 E (fun x U=>J x (by simp[U])),rfl⟩
 |[],_,_::_,_,_,_,h=>by cases h
 |[],_,[],_::_,_,_,h=>by cases h
 |_::_,_,[],_,_,_,h=>by cases h
 |_::_,_,_::_,[],_,_,h=>by cases h
theorem Ybb{sp:Nat→Bool}{t:TypeId}{ty:Ty}{d:DataW H}{ps:List MemPlace}(E:Gx P n t=some ty)(hv:Value.okWide P W .any 0 t v)(h:DataW.Trod enc P W 0 sp true t v d ps) :
  ∃ x,Has ty x∧(RepV W (KR W) [] x v∧purA x=true)∧wt x≤blk d:=by
 obtain⟨fuel,h⟩:=h;obtain⟨x,J,M,h3,h4,h5⟩:=rU n t ty E fuel _ _ h;refine⟨x,J,?_,h5⟩
 have I:(∀ cs,v≠.agg cs)→x.pure1=true→RepV W (KR W) [] x v∧purA x=true:=by
  intro Y V;have aa:v.cells=#[v]:=by cases v <;> first | rfl | exact absurd rfl (Y _)
  rw[Zi V,aa]at M;refine⟨M.2.1 0 x v rfl rfl,?_⟩;cases x <;> first | exact V | (simp[D.pure1]at V; done)
 have U:∀ cs l,v=.agg cs→x=.agg l→RepV W (KR W) [] x v∧purA x=true:=by
  intro cs l e1 e2;subst e1; subst e2;refine⟨?_,?_⟩
  ·have:=RepV.agg (w:=W) (g:=KR W) (st:=[]) l cs.toList (by simpa[D.cells,Value.cells]using M.1) (fun i d u hd hu=>M.2.1 i d u hd (by simpa[Value.cells]using hu));omega
  ·simp only[purA,Ag];exact M.2.2
 unfold Value.okWide at hv
 cases n with
 |zero=>simp[Gx]at E
 |succ n=>
 unfold Gx at E
 split at E
 ·rename_i hu;simp only[Db]at E; subst E;cases J;exact I (fun cs e=>by subst e; simp[hu,Cell.okWide,Cell.ok]at hv) rfl
 ·rename_i k hu;simp only[Db]at E; subst E;cases J;exact I (fun cs e=>by subst e; simp[hu,Cell.okWide,Cell.ok]at hv) rfl
 ·rename_i hu;simp only[Db]at E; subst E;cases J;exact I (fun cs e=>by subst e; simp[hu,Cell.okWide,Cell.ok]at hv) rfl
 ·rename_i e hu
  split at E
  case h_2=>
   split at E
   case isFalse=>cases E
   simp only[Db]at E; subst E;cases J;exact I (fun cs e=>by subst e; simp[hu,Cell.okWide,Cell.ok]at hv) rfl
  split at E
  case isFalse=>cases E
  simp only[Db]at E; subst E;cases J;exact I (fun cs e=>by subst e; simp[hu,Cell.okWide,Cell.ok]at hv) rfl
 ·rename_i fs hu
  split at E
  case h_2=>cases E
  split at E
  case isFalse=>cases E
  simp only[Db]at E; subst E;simp only[hu]at hv;obtain⟨cs,rfl,_,_⟩:=hv
  cases J with
  |agg _ xs _ _=>exact U cs _ rfl rfl
 ·rename_i m e hu
  split at E
  case h_2=>cases E
  split at E
  case isFalse=>cases E
  simp only[Db]at E; subst E;simp only[hu]at hv;obtain⟨cs,rfl,_,_⟩:=hv
  cases J with
  |agg _ xs _ _=>exact U cs _ rfl rfl
 ·cases E
inductive HasAll:List Ty→List D→Prop
 |nil:HasAll [] []
 |cons {t:Ty} {ts:List Ty} {x:D} {xs:List D}:Has t x→HasAll ts xs→HasAll (t::ts) (x::xs)
theorem uh{sp:Nat→Bool}{n:Nat}:∀ (I:List TypeId) (tys:List Ty) (vs:List Value) (ds:List (DataW H)) (ps:List MemPlace),I.mapM (Gx P n)=some tys→(∀ (j:Nat) t v,I[j]?=some t→vs[j]?=some v→Value.okWide P W .any 0 t v)→DataW.TrodAll enc P W 0 sp true I vs ds ps→
  ∃ xs,HasAll tys xs∧xs.length=vs.length∧(∀ (i:Nat) d v,xs[i]?=some d→vs[i]?=some v→RepV W (KR W) [] d v)∧(∀ d∈xs,purA d=true)∧HA xs≤GD ds
 |[],tys,[],[],ps,E,_,_=>by
  simp at E; subst E;exact⟨[],.nil,rfl,fun i d v h=>by simp at h,(fun d h=>by cases h),by simp[HA]⟩
 |t::I,tys,v::vs,d::ds,ps,E,hv,h=>by
  simp only[By,Bs,Ay,BF,Db]at E;obtain⟨ty,U,J,V,rfl⟩:=E;obtain⟨p,q,Y,h4,rfl⟩:=h;obtain⟨x,x1,⟨x2,x3⟩,x5⟩:=Ybb U (hv 0 t v rfl rfl) Y;obtain⟨xs,y1,y2,y3,y4,y5⟩:=uh I J vs ds q V (fun j t v E M=>hv (j+1) t v (by simpa using E) (by simpa using M)) h4;refine⟨x::xs,.cons x1 y1,by simp[y2],?_,?_,?_⟩
  ·grind
  ·grind
  ·simp only[HA,GD]; omega
 |[],_,_::_,_,_,_,_,h=>by cases h
 |[],_,[],_::_,_,_,_,h=>by cases h
 |_::_,_,[],_,_,_,_,h=>by cases h
 |_::_,_,_::_,[],_,_,_,h=>by cases h
theorem yKh{K N:Nat}(hC:Contract P G K sp)(M:fn.params.toList.mapM (Gx P n)=some tys)(E:s.vars=[])
  (I:∃ tb,fn.resultTypes=#[tb]∧P.underlying tb=some .bool)
  (ac:∀ (H:Type) (ds:List (DataW H)),ds.length=fn.params.size→(s.fn H ds).results=[.lit (.bool true)]∧(s.fn H ds).args=ds∧(s.fn H ds).vars=[])
  (ad:∀ xs,HasAll tys xs→HA xs≤N→sp xs=some (.bool true))
   {ds V:List (DataW H)}  (hG:GlobOK G W (KR W)) (hN:GD ds≤N)
  (Y:∀ (j:Nat) t v,fn.params[j]?=some t→args[j]?=some v→Value.okWide P W .any 0 t v)
  (hW:DataW.Whole enc P fn.params.toList s.vars false W args.toList ds V before) :
  Calls P K args W fun e W'=>∃ v,e=.returned v∧s.post enc P fn false true false false W args v W':=by
 obtain⟨tb,I,af⟩:=I;have U:=hW;obtain⟨p,q,hA,hV,rfl,bc,bd⟩:=hW;rw[E]at hV
 have ah:V=[]∧q=[]:=by
  cases V with
  |nil=>exact⟨rfl,hV⟩
  |cons a l=>cases hV
 obtain⟨rfl,rfl⟩:=ah;obtain⟨xs,x1,x2,x3,x4,x5⟩:=uh fn.params.toList tys args.toList ds p M (fun j t v ht hv=>Y j t v (by simpa using ht) (by simpa using hv)) hA
 have hlen:∀ (J:List TypeId) (vs:List Value) (ds:List (DataW H)) (ps:List MemPlace),DataW.TrodAll enc P W 0 (fun _=>true) true J vs ds ps→ds.length=J.length:=by
  intro J
  induction J with
  |nil=>intro vs ds ps h; cases vs <;> cases ds <;> first | rfl | cases h
  |cons t J ih=>
   intro vs ds ps h
   cases vs with
   |nil=>cases h
   |cons v vs=>
    cases ds with
    |nil=>cases h
    |cons d ds=>
     obtain⟨_,_,_,h4,_⟩:=h;grind
 have a0:ds.length=fn.params.size:=by simpa using hlen _ _ _ _ hA
 have hc:=hC W (KR W) xs args.toList (.bool true) (ad xs x1 (AP x5 hN)) hG (fun b o h=>h) x2 x3 x4;rw[BE]at hc;refine hc.mono ?_;rintro e W' ⟨v,g',rfl,h1,_,_,_,_,hb⟩;have hv:=L1 h1;subst hv;obtain⟨f1,f2,f3⟩:=ac H ds a0;refine⟨_,rfl,ds,[],p++[],[],p,[],U,?_,?_,?_,?_,fun h=>by cases h⟩
 ·rw[Ai,f1,I];exact⟨[],[],⟨1,by unfold DataW.trod; simp[af,Value.cells]⟩,rfl,rfl⟩
 ·rw[Ai,f2];refine nK hb _ tys _ _ _ M hA _ fun x hx=>?_;simpa using U.lt x (by simpa using hx)
 ·rw[Ai,f3,E];rfl
 ·refine⟨hb.os,hb.output,fun i hi=>?_⟩;rw[hb.block i hi];grind
theorem law_contract{K:Nat}(Y:Contract P G K sp)(J:fn.params.toList.mapM (Gx P n)=some tys)(E:s.vars=[])
  (M:∃ tb,fn.resultTypes=#[tb]∧P.underlying tb=some .bool)
  (U:∀ (H:Type) (ds:List (DataW H)),ds.length=fn.params.size→(s.fn H ds).results=[.lit (.bool true)]∧(s.fn H ds).args=ds∧(s.fn H ds).vars=[])
  (V:∀ xs,HasAll tys xs→sp xs=some (.bool true))
   {ds gs:List (DataW H)}  (hG:GlobOK G W (KR W))
  (I:∀ (j:Nat) t v,fn.params[j]?=some t→args[j]?=some v→Value.okWide P W .any 0 t v)
  (hW:DataW.Whole enc P fn.params.toList s.vars false W args.toList ds gs before) :
  Calls P K args W fun e W'=>∃ v,e=.returned v∧s.post enc P fn false true false false W args v W':=
 yKh (N:=GD ds) Y J E M U (fun xs h _=>V xs h) hG (Ax _) I hW
def RD(g:Nat)(k:IntKind)(zs:List Int):Dj:=fun n=>if n=g then some (.agg (zs.map fun z=>.int k z))else none
theorem Yxq{I:String}{k:IntKind}{zs:List Int}{g:Nat}(h:Lib.TabIs P W I k zs)(U:P.globalNamed I=some g):GlobOK (RD g k zs) W (KR W):=by
 intro n d E;simp only[RD,Ar,Db]at E;obtain⟨rfl,rfl⟩:=E
 have hj:∀ (j:Nat) (d:D),(D.agg (zs.map fun z=>D.int k z)).cells[j]?=some d→d=.int k (zs.getD j 0)∧W.cell? ⟨n,j,none⟩=some (.int k (zs.getD j 0)):=by
  intro j d E;simp only[D.cells,AD,DH]at E;obtain⟨z,J,rfl⟩:=E;have M:j<zs.length:=(Ab.1 J).1;exact⟨by simp[Af,J],h.cell U j M⟩
 refine .eptr _ 0 n 0 (fun j=>.int k (zs.getD j 0)) (fun j d E=>?_) (fun j d E=>?_) (fun j d E=>?_)
 ·rw[(hj j d E).1]; rfl
 ·have:=(hj j d E).2;rw[Aq];exact⟨by show(W.cell? ⟨n,j,none⟩).isSome=true; rw[this]; rfl,this⟩
 ·rw[(hj j d E).1]; exact .int _ _
end
end Go.Proofs.YtijnglngaogdjaaGreatDoor.PI
namespace Go.Proofs.YtijnglngaogdjaaGreatDoor.PI
open Go
def wD(x:UInt32):D:=.int .u32 (x.toNat:Int)
def qD(x:UInt64):D:=.int .u64 (x.toNat:Int)
theorem YCl{n:Nat}(m:Nat):CR n (m:Int)=BitVec.ofNat n m:=BitVec.ofInt_natCast ..
theorem Sy(n:Nat):IntKind.wrap .u32 (n:Int)=((n % 2 ^ 32:Nat):Int):=by
 rfl
theorem T9(n:Nat):IntKind.wrap .u64 (n:Int)=((n % 2 ^ 64:Nat):Int):=by
 rfl
theorem dV(n:Nat):IntKind.wrap .u8 (n:Int)=((n % 2 ^ 8:Nat):Int):=by
 rfl
theorem lM(x y:UInt32):Ds .add (wD x) (wD y)=some (wD (x+y)):=by
 rfl
theorem XL(x:UInt32):CR 32 (x.toNat:Int)=x.toBitVec:=by
 simp_all
theorem ew(x:UInt32):x.toNat % 2 ^ 32=x.toNat:=A5 x.toNat_lt
theorem XP(x y:UInt32):Ds .and (wD x) (wD y)=some (wD (x &&& y)):=by
 have h:(CR (IntKind.bits .u32) (x.toNat:Int) &&& CR (IntKind.bits .u32) (y.toNat:Int)).toNat=(x &&& y).toNat:=by
  show(CR 32 (x.toNat:Int) &&& CR 32 (y.toNat:Int)).toNat=_
  simp_all
 simp only[Ds,wD,if_true,K3,Ae,h,Sy,ew]
theorem Wn(x y:UInt32):Ds .or (wD x) (wD y)=some (wD (x ||| y)):=by
 have h:(CR (IntKind.bits .u32) (x.toNat:Int) ||| CR (IntKind.bits .u32) (y.toNat:Int)).toNat=(x ||| y).toNat:=by
  show(CR 32 (x.toNat:Int) ||| CR 32 (y.toNat:Int)).toNat=_
  simp_all
 simp only[Ds,wD,if_true,K3,Ae,h,Sy,ew]
theorem wU(x y:UInt32):Ds .xor (wD x) (wD y)=some (wD (x ^^^ y)):=by
 have h:(CR (IntKind.bits .u32) (x.toNat:Int) ^^^ CR (IntKind.bits .u32) (y.toNat:Int)).toNat=(x ^^^ y).toNat:=by
  show(CR 32 (x.toNat:Int) ^^^ CR 32 (y.toNat:Int)).toNat=_
  simp_all
 simp only[Ds,wD,if_true,K3,Ae,h,Sy,ew]
theorem Wu(x:UInt32):Nr .xor (wD x)=some (wD (~~~x)):=by
 have E:(IntKind.max .u32)=((4294967295:UInt32).toNat:Int):=by decide
 have h:(CR (IntKind.bits .u32) ((4294967295:UInt32).toNat:Int) ^^^ CR (IntKind.bits .u32) (x.toNat:Int)).toNat=(~~~x).toNat:=by
  show(CR 32 ((4294967295:UInt32).toNat:Int) ^^^ CR 32 (x.toNat:Int)).toNat=_
  rw[XL,XL,show(4294967295:UInt32).toBitVec=BitVec.allOnes 32 from rfl,BitVec.allOnes_xor];rfl
 simp only[Nr,wD,K3,Ae,show IntKind.signed .u32=false from rfl,Al,if_false,E,h,Sy,ew]
theorem Yyh(st:St)(b:UInt8):FJ st (.int .u32) (Dn b)=some (wD b.toUInt32):=by
 simp only[FJ,Dn,wD,Sy,UInt8.toNat_toUInt32];simp_all
theorem Yyf(st:St)(x:UInt32):FJ st (.int .u8) (wD x)=some (Dn x.toUInt8):=by
 rfl
theorem Yyg(st:St)(x:UInt64):FJ st (.int .u8) (qD x)=some (Dn x.toUInt8):=by
 rfl
theorem YB0(x:UInt32)(k:IntKind)(n:Nat)(h:n<32):Ds .shl (wD x) (.int k (n:Int))=some (wD (x <<< (UInt32.ofNat n))):=by
 have e:(x <<< (UInt32.ofNat n)).toNat=x.toNat*2 ^ n % 2 ^ 32:=by
  rw[UInt32.toNat_shiftLeft,Nat.shiftLeft_eq,UInt32.toNat_ofNat',A5 (show n<2 ^ 32 by omega),A5 h]
 have E:((x.toNat:Int)*2 ^ n)=((x.toNat*2 ^ n:Nat):Int):=by push_cast; rfl
 simp only[Ds,wD,Mu,show ¬ ((n:Int)<0) by omega,if_false,Ae,AO,show IntKind.bits .u32=32 from rfl,BR (Cs h),E,Sy,e]
theorem YBw(x:UInt32)(k:IntKind)(n:Nat)(h:n<32):Ds .shr (wD x) (.int k (n:Int))=some (wD (x >>> (UInt32.ofNat n))):=by
 have e:(x >>> (UInt32.ofNat n)).toNat=x.toNat / 2 ^ n:=by
  rw[UInt32.toNat_shiftRight,Nat.shiftRight_eq_div_pow,UInt32.toNat_ofNat',A5 (show n<2 ^ 32 by omega),A5 h]
 have E:(x.toNat:Int).fdiv (2 ^ n)=((x.toNat / 2 ^ n:Nat):Int):=by
  grind
 simp only[Ds,wD,Mu,show ¬ ((n:Int)<0) by omega,if_false,Ae,AO,show IntKind.bits .u32=32 from rfl,BR (Cs h),E,e]
theorem wv(x:UInt64)(k:IntKind)(n:Nat)(h:n<64):Ds .shl (qD x) (.int k (n:Int))=some (qD (x <<< (C7 n))):=by
 have e:(x <<< (C7 n)).toNat=x.toNat*2 ^ n % 2 ^ 64:=by
  rw[UInt64.toNat_shiftLeft,Nat.shiftLeft_eq,UInt64.toNat_ofNat',A5 (show n<2 ^ 64 by omega),A5 h]
 have E:((x.toNat:Int)*2 ^ n)=((x.toNat*2 ^ n:Nat):Int):=by push_cast; rfl
 simp only[Ds,qD,Mu,show ¬ ((n:Int)<0) by omega,if_false,Ae,AO,show IntKind.bits .u64=64 from rfl,BR (Cs h),E,T9,e]
theorem Wh(x:UInt64)(k:IntKind)(n:Nat)(h:n<64):Ds .shr (qD x) (.int k (n:Int))=some (qD (x >>> (C7 n))):=by
 have e:(x >>> (C7 n)).toNat=x.toNat / 2 ^ n:=by
  rw[UInt64.toNat_shiftRight,Nat.shiftRight_eq_div_pow,UInt64.toNat_ofNat',A5 (show n<2 ^ 64 by omega),A5 h]
 have E:(x.toNat:Int).fdiv (2 ^ n)=((x.toNat / 2 ^ n:Nat):Int):=by
  grind
 simp only[Ds,qD,Mu,show ¬ ((n:Int)<0) by omega,if_false,Ae,AO,show IntKind.bits .u64=64 from rfl,BR (Cs h),E,e]
variable {n:Int}
theorem OM(E:-9223372036854775808≤n)(I:n<9223372036854775808):IntKind.wrap .i64 n=n:=by
 show(if(true && decide (n % (2 ^ 64:Int) ≥ (2 ^ (64 - 1):Int)))=true then n % (2 ^ 64:Int) - (2 ^ 64:Int)else n % (2 ^ 64:Int))=n
 grind
variable {a:Int}
theorem DK{b:Int}(E:-9223372036854775808≤a+b)(I:a+b<9223372036854775808):Ds .add (.int .i64 a) (.int .i64 b)=some (.int .i64 (a+b)):=by
 simp only[Ds,if_true,KS,Ae,OM E I]
theorem Fq{b:Int}(E:-9223372036854775808≤a - b)(I:a - b<9223372036854775808):Ds .sub (.int .i64 a) (.int .i64 b)=some (.int .i64 (a - b)):=by
 simp only[Ds,if_true,KS,Ae,OM E I]
theorem Nc{b:Int}(E:-9223372036854775808≤a*b)(I:a*b<9223372036854775808):Ds .mul (.int .i64 a) (.int .i64 b)=some (.int .i64 (a*b)):=by
 simp only[Ds,if_true,KS,Ae,OM E I]
class Cont (α:Type):Type where
 mk::
 run:α→Prop
class Cont2 (α β:Type):Type where
 mk::
 run:α→β→Prop
class QC:Type where
 mk::
 run:Ex→Frame→St→Prop
class InvC:Type where
 mk::
 run:PS→Prop
class Br:Type where
 mk::
 run:Prop
def on{α:Type}(o:Option α)[k:Cont α]:Prop:=match o with
 |some a=>k.run a
 |none=>False
variable {α:Type}
theorem zS(a:α)(K:α→Prop):@on α (some a) ⟨K⟩=K a:=(rfl)
theorem Yvl(k:Cont α):@on α none k=False:=(rfl)
def TE(d:D)[k:Cont Bool]:Prop:=match d with
 |.bool b=>k.run b
 |_=>False
theorem Yna(b:Bool)(K:Bool→Prop):@TE (.bool b) ⟨K⟩=K b:=(rfl)
def HM(b:Bool)[x:Br][y:Br]:Prop:=if b=true then x.run else y.run
theorem Yoo(x:Prop)(y:Br):@HM true ⟨x⟩ y=x:=(rfl)
theorem Ygh(x:Br)(y:Prop):@HM false x ⟨y⟩=y:=(rfl)
theorem Yw4(b:Bool)(x y:Br):@HM (!b) x y=@HM b y x:=by cases b <;> rfl
variable {y:Prop}
theorem EU{p:Prop}[Decidable p]{x:Prop}(E:p→x)(I:¬ p→y):@HM (decide p) ⟨x⟩ ⟨y⟩:=by
 by_cases h:p
 ·rw[show decide p=true by simpa using h]; exact E h
 ·rw[show decide p=false by simpa using h]; exact I h
def ev(d:D)[k:Cont D]:Prop:=k.run d
theorem Xq(d:D)(K:D→Prop):@ev d ⟨K⟩=K d:=(rfl)
def Qw(d:D)(st:St)[k:Cont2 D St]:Prop:=k.run d st
theorem YEt(d:D)(st:St)(K:D→St→Prop):@Qw d st ⟨K⟩=K d st:=(rfl)
def Fj(T:Tbl)(op:POp)(ρ:PA→D)(st:St)(K:D→St→Prop):Prop:=@on _ (op.exec T ρ st) ⟨fun p=>K p.1 p.2⟩
def kG(fr:Frame)(g:Option (Nat×Bool))(x y:Prop):Prop:=match g with
 |none=>x
 |some (s,want)=>match fr s with
  |.bool b=>@HM (b == want) ⟨x⟩ ⟨y⟩
  |.tup []=>y
  |_=>False
def GA(G:Dj)(T:Tbl):List PI→Frame→St→(Frame→St→Prop)→Prop
 |[],fr,st,K=>K fr st
 |i::l,fr,st,K=>kG fr i.guard (Fj T i.op (Du G fr) st fun d st'=>GA G T l (fr.put i.dst d) st' K) (GA G T l (fr.put i.dst (.tup [])) st K)
theorem UC{G:Dj}{T:Tbl}:∀ (l:List PI) (fr:Frame) (st:St) (K:Frame→St→Prop),GA G T l fr st K→∃ E st',E6 G T l ⟨fr,st⟩=some ⟨E,st'⟩∧K E st'
 |[],fr,st,K,h=>⟨fr,st,rfl,h⟩
 |i::l,fr,st,K,h=>by
  have yes:Fj T i.op (Du G fr) st (fun d st'=>GA G T l (fr.put i.dst d) st' K)→i.wanted fr=some true→∃ E st',E6 G T (i::l) ⟨fr,st⟩=some ⟨E,st'⟩∧K E st':=by
   intro h hw;unfold Fj on at h
   split at h
   ·rename_i p V;obtain⟨E,st',M,U⟩:=UC l _ _ K h;exact⟨E,st',by simp only[E6,PI.exec,hw,V,M],U⟩
   ·exact h.elim
  have no:GA G T l (fr.put i.dst (.tup [])) st K→i.wanted fr=some false→∃ E st',E6 G T (i::l) ⟨fr,st⟩=some ⟨E,st'⟩∧K E st':=by
   intro h hw;obtain⟨E,st',M,U⟩:=UC l _ _ K h;exact⟨E,st',by simp only[E6,PI.exec,hw,M],U⟩
  rw[GA]at h;unfold kG at h
  split at h
  ·rename_i I;exact yes h (by simp[PI.wanted,I])
  ·rename_i s want I
   split at h
   ·rename_i b hb;have hw:i.wanted fr=some (b == want):=by simp[PI.wanted,I,hb]
    cases J:(b == want)with
    |true=>rw[J]at h hw; exact yes h hw
    |false=>rw[J]at h hw; exact no h hw
   ·rename_i hb;exact no h (by simp[PI.wanted,I,hb])
   ·exact h.elim
def Jh(T:Tbl)(op:POp)(ρ:PA→D)(st:St)(K:D→St→Prop)(X:Nat→D→St→Prop):Prop:=match op.exec T ρ st with
 |some p=>K p.1 p.2
 |none=>match op.execX T ρ st with
  |some r=>X r.1 r.2.1 r.2.2
  |none=>False
def MK(G:Dj)(T:Tbl):List PI→Frame→St→(Frame→St→Prop)→(Nat→D→Frame→St→Prop)→Prop
 |[],fr,st,K,_=>K fr st
 |i::l,fr,st,K,X=>kG fr i.guard (Jh T i.op (Du G fr) st (fun d st'=>MK G T l (fr.put i.dst d) st' K X) (fun t d st'=>X t d fr st')) (MK G T l (fr.put i.dst (.tup [])) st K X)
theorem fC{G:Dj}{T:Tbl}:∀ (l:List PI) (fr:Frame) (st:St) (K:Frame→St→Prop) (X:Nat→D→Frame→St→Prop),MK G T l fr st K X→
  (∃ E st',E6 G T l ⟨fr,st⟩=some ⟨E,st'⟩∧K E st')∨∃ t d E st',E6 G T l ⟨fr,st⟩=none∧JX G T l ⟨fr,st⟩=some (t,d,⟨E,st'⟩)∧X t d E st'
 |[],fr,st,K,X,h=>.inl ⟨fr,st,rfl,h⟩
 |i::l,fr,st,K,X,h=>by
  have yes:Jh T i.op (Du G fr) st (fun d st'=>MK G T l (fr.put i.dst d) st' K X) (fun t d st'=>X t d fr st')→i.wanted fr=some true→
    (∃ E st',E6 G T (i::l) ⟨fr,st⟩=some ⟨E,st'⟩∧K E st')∨∃ t d E st',E6 G T (i::l) ⟨fr,st⟩=none∧JX G T (i::l) ⟨fr,st⟩=some (t,d,⟨E,st'⟩)∧X t d E st':=by
   intro h hw;unfold Jh at h
   split at h
   ·rename_i p V;rcases fC l _ _ K X h with⟨E,st',I,J⟩ | ⟨t,d,E,st',I,J,Y⟩
    ·exact .inl ⟨E,st',by simp only[E6,PI.exec,hw,V,I],J⟩
    ·exact .inr ⟨t,d,E,st',by simp only[E6,PI.exec,hw,V,I],by simp only[JX,PI.exec,hw,V,J],Y⟩
   ·rename_i hn
    split at h
    ·rename_i r hr;exact .inr ⟨r.1,r.2.1,fr,r.2.2,by simp only[E6,PI.exec,hw,hn],by simp only[JX,PI.exec,PI.execX,hw,hn,hr,Ae],h⟩
    ·exact h.elim
  have no:MK G T l (fr.put i.dst (.tup [])) st K X→i.wanted fr=some false→
    (∃ E st',E6 G T (i::l) ⟨fr,st⟩=some ⟨E,st'⟩∧K E st')∨∃ t d E st',E6 G T (i::l) ⟨fr,st⟩=none∧JX G T (i::l) ⟨fr,st⟩=some (t,d,⟨E,st'⟩)∧X t d E st':=by
   intro h hw;rcases fC l _ _ K X h with⟨E,st',I,J⟩ | ⟨t,d,E,st',I,J,Y⟩
   ·exact .inl ⟨E,st',by simp only[E6,PI.exec,hw,I],J⟩
   ·exact .inr ⟨t,d,E,st',by simp only[E6,PI.exec,hw,I],by simp only[JX,PI.exec,hw,J],Y⟩
  rw[MK]at h;unfold kG at h
  split at h
  ·rename_i M;exact yes h (by simp[PI.wanted,M])
  ·rename_i s want M
   split at h
   ·rename_i b hb;have hw:i.wanted fr=some (b == want):=by simp[PI.wanted,M,hb]
    cases U:(b == want)with
    |true=>rw[U]at h hw; exact yes h hw
    |false=>rw[U]at h hw; exact no h hw
   ·rename_i hb;exact no h (by simp[PI.wanted,M,hb])
   ·exact h.elim
variable {X:Nat→D→St→Prop}{st:St}{T:Tbl}
theorem Yfv{op:POp}{ρ:PA→D}{K E:D→St→Prop}{I:Nat→D→St→Prop}(h:Jh T op ρ st K X)(hk:∀ d st,K d st→E d st)(J:∀ t d st,X t d st→I t d st):Jh T op ρ st E I:=by
 unfold Jh at h ⊢;grind
variable {fr:Frame}
theorem Ywv{g:Option (Nat×Bool)}{x E I:Prop}(h:kG fr g x y)(J:x→E)(M:y→I):kG fr g E I:=by
 unfold kG at h ⊢
 revert h
 split
 ·exact J
 ·split
  ·unfold HM;grind
  ·exact M
  ·exact id
theorem eR{G:Dj}{T:Tbl}:∀ (l:List PI) (fr:Frame) (st:St) (K E:Frame→St→Prop) (X I:Nat→D→Frame→St→Prop),MK G T l fr st K X→(∀ fr st,K fr st→E fr st)→(∀ t d fr st,X t d fr st→I t d fr st)→MK G T l fr st E I
 |[],_,_,_,_,_,_,h,hk,_=>hk _ _ h
 |i::l,fr,st,K,E,X,I,h,hk,J=>by
  rw[MK]at h ⊢;exact Ywv h (fun h=>Yfv h (fun _ _ h=>eR l _ _ _ _ _ _ h hk J) fun _ _ _ h=>J _ _ _ _ h) fun h=>eR l _ _ _ _ _ _ h hk J
class XC:Type where
 mk::
 run:Nat→D→Frame→St→Prop
class XC0:Type where
 mk::
 run:Nat→D→St→Prop
def Qp(G:Dj)(T:Tbl)(l:List PI)(fr:Frame)(st:St)[K:Cont2 Frame St][X:XC]:Prop:=MK G T l fr st K.run X.run
def JG(T:Tbl)(op:POp)(ρ:PA→D)(st:St)[K:Cont2 D St][X:XC0]:Prop:=Jh T op ρ st K.run X.run
theorem Ya9(G:Dj)(T:Tbl)(fr:Frame)(st:St)(K:Frame→St→Prop)(X:XC):@Qp G T [] fr st ⟨K⟩ X=K fr st:=(rfl)
def TD(o:Option (D×St))(p:Option (Nat×D×St))[K:Cont2 D St][X:XC0]:Prop:=match o with
 |some r=>K.run r.1 r.2
 |none=>match p with
  |some r=>X.run r.1 r.2.1 r.2.2
  |none=>False
theorem Ym9(d:D)(st:St)(p:Option (Nat×D×St))(K:D→St→Prop)(X:XC0):@TD (some (d,st)) p ⟨K⟩ X=K d st:=(rfl)
theorem Yef(t:Nat)(d:D)(st:St)(K:Cont2 D St)(X:Nat→D→St→Prop):@TD none (some (t,d,st)) K ⟨X⟩=X t d st:=(rfl)
def XZ(o:Option (List D→St→Option (D×St)))(ds:List D)(st:St):Option (D×St):=match o with
 |some sp=>sp ds st
 |none=>none
theorem yYq(sp:List D→St→Option (D×St))(ds:List D)(st:St):XZ (some sp) ds st=sp ds st:=(rfl)
theorem yYr(ds:List D)(st:St):XZ none ds st=none:=(rfl)
def X1(o:Option (List D→St→Option (Nat×D×St)))(ds:List D)(st:St):Option (Nat×D×St):=match o with
 |some sp=>sp ds st
 |none=>none
theorem yYo(sp:List D→St→Option (Nat×D×St))(ds:List D)(st:St):X1 (some sp) ds st=sp ds st:=(rfl)
theorem yYp(ds:List D)(st:St):X1 none ds st=none:=(rfl)
theorem yW3(T:Tbl)(f:Nat)(args:List PA)(ρ:PA→D)(st:St)(K:Cont2 D St)(X:XC0):@JG T (.icall f args) ρ st K X=@TD (XZ (T.i f) (args.map ρ) st) (X1 (T.x f) (args.map ρ) st) K X:=by
 rfl
def Ph(d:D)(ds:List D):Option (Nat×List D):=match d with
 |.clo f caps=>if f<5000000 then some (f,ds++caps)else if f<10000000 then some (f - 5000000,caps++ds)else none
 |_=>none
theorem YW(T:Tbl)(x:PA)(args:List PA)(ρ:PA→D)(st:St)(K:Cont2 D St)(X:XC0)(f:Nat)(ds:List D)(h:Ph (ρ x) (args.map ρ)=some (f,ds)):@JG T (.callv x args) ρ st K X=@TD (XZ (T.i f) ds st) (X1 (T.x f) ds st) K X:=by
 simp only[JG,Jh,POp.exec,TD,XZ,X1,POp.execX,POp.callee];unfold Ph at h;grind
def POp.tame:POp→Bool
 |.icall _ _ | .callv _ _=>false
 |_=>true
theorem Yba(T:Tbl)(op:POp)(ρ:PA→D)(st:St)(K:Cont2 D St)(X:XC0)(h:op.tame=true):@JG T op ρ st K X=Fj T op ρ st K.run:=by
 have:op.execX T ρ st=none:=by
  cases op <;> first | rfl | (simp[POp.tame]at h; done)
 simp only[JG,Jh,Fj,on,this];grind
def kF(fs:List (Option Foot))(b:Bool)(cs:List Nat)(f:Option Foot)(K:List (Option Foot)→Prop):Prop:=@HM (Oh fs f cs) ⟨K (fs++[if b then f else none])⟩ ⟨False⟩
variable {f:Option Foot}{cs:List Nat}{fs:List (Option Foot)}
theorem gI{b:Bool}{K:List (Option Foot)→Prop}(h:kF fs b cs f K):Oh fs f cs=true∧K (fs++[if b then f else none]):=by
 unfold kF HM at h;grind
theorem zC{b:Bool}{K E:List (Option Foot)→Prop}(h:kF fs b cs f K)(hk:∀ fs,K fs→E fs):kF fs b cs f E:=by
 obtain⟨I,J⟩:=gI h;unfold kF HM;grind
def Gp(G:Dj)(T:Tbl):List (PI×Bool×List Nat)→List (Option Foot)→Frame→St→(Frame→St→Prop)→Prop
 |[],_,fr,st,K=>K fr st
 |i::l,fs,fr,st,K=>kG fr i.1.guard (kF fs i.2.1 i.2.2 (i.1.op.foot (Du G fr) st) fun fs'=>Fj T i.1.op (Du G fr) st fun d st'=>Gp G T l fs' (fr.put i.1.dst d) st' K)
   (kF fs i.2.1 i.2.2 (some Pz) fun fs'=>Gp G T l fs' (fr.put i.1.dst (.tup [])) st K)
theorem UB{G:Dj}{T:Tbl}:∀ (l:List (PI×Bool×List Nat)) (fs:List (Option Foot)) (fr:Frame) (st:St) (K:Frame→St→Prop),Gp G T l fs fr st K→∃ E st',Hu G T l fs ⟨fr,st⟩=some ⟨E,st'⟩∧K E st'
 |[],_,fr,st,K,h=>⟨fr,st,rfl,h⟩
 |(i,b,cs)::l,fs,fr,st,K,h=>by
  have yes:kF fs b cs (i.op.foot (Du G fr) st) (fun J=>Fj T i.op (Du G fr) st fun d st'=>Gp G T l J (fr.put i.dst d) st' K)→i.wanted fr=some true→∃ E st',Hu G T ((i,b,cs)::l) fs ⟨fr,st⟩=some ⟨E,st'⟩∧K E st':=by
   intro h hw;obtain⟨U,h⟩:=gI h;unfold Fj on at h
   split at h
   ·rename_i p hp;obtain⟨E,st',V,Y⟩:=UB l _ _ _ K h;have hf:i.foot G ⟨fr,st⟩=i.op.foot (Du G fr) st:=by simp[PI.foot,hw]
    have hx:i.exec G T ⟨fr,st⟩=some ⟨fr.put i.dst p.1,p.2⟩:=by simp only[PI.exec,hw,hp]
    exact⟨E,st',by simp only[Hu,hf,U,if_true,hx,V],Y⟩
   ·exact h.elim
  have no:kF fs b cs (some Pz) (fun J=>Gp G T l J (fr.put i.dst (.tup [])) st K)→i.wanted fr=some false→∃ E st',Hu G T ((i,b,cs)::l) fs ⟨fr,st⟩=some ⟨E,st'⟩∧K E st':=by
   intro h hw;obtain⟨U,h⟩:=gI h;obtain⟨E,st',V,Y⟩:=UB l _ _ _ K h;have hf:i.foot G ⟨fr,st⟩=some Pz:=by simp[PI.foot,hw]
   have hx:i.exec G T ⟨fr,st⟩=some ⟨fr.put i.dst (.tup []),st⟩:=by simp only[PI.exec,hw]
   exact⟨E,st',by simp only[Hu,hf,U,if_true,hx,V],Y⟩
  rw[Gp]at h;unfold kG at h
  split at h
  ·rename_i I;exact yes h (by simp only at I; simp[PI.wanted,I])
  ·rename_i s want I;simp only at I
   split at h
   ·rename_i b hb;have hw:i.wanted fr=some (b == want):=by simp[PI.wanted,I,hb]
    cases M:(b == want)with
    |true=>rw[M]at h hw; exact yes h hw
    |false=>rw[M]at h hw; exact no h hw
   ·rename_i hb;exact no h (by simp[PI.wanted,I,hb])
   ·exact h.elim
theorem Uk{G:Dj}{T:Tbl}:∀ (l:List (PI×Bool×List Nat)) (fs:List (Option Foot)) (fr:Frame) (st:St) (K I:Frame→St→Prop),Gp G T l fs fr st K→(∀ fr st,K fr st→I fr st)→Gp G T l fs fr st I
 |[],_,_,_,_,_,h,hk=>hk _ _ h
 |i::l,fs,fr,st,K,I,h,hk=>by
  have J:kF fs i.2.1 i.2.2 (i.1.op.foot (Du G fr) st) (fun E=>Fj T i.1.op (Du G fr) st fun d st'=>Gp G T l E (fr.put i.1.dst d) st' K)→kF fs i.2.1 i.2.2 (i.1.op.foot (Du G fr) st) (fun E=>Fj T i.1.op (Du G fr) st fun d st'=>Gp G T l E (fr.put i.1.dst d) st' I):=by
   refine fun h=>zC h fun E=>?_;unfold Fj on
   split
   ·exact fun h=>Uk l _ _ _ _ _ h hk
   ·exact id
  have M:kF fs i.2.1 i.2.2 (some Pz) (fun E=>Gp G T l E (fr.put i.1.dst (.tup [])) st K)→kF fs i.2.1 i.2.2 (some Pz) (fun E=>Gp G T l E (fr.put i.1.dst (.tup [])) st I):=fun h=>zC h fun E h=>Uk l _ _ _ _ _ h hk;rw[Gp]at h ⊢;unfold kG at h ⊢
  revert h
  split
  ·exact J
  ·split
   ·unfold HM;grind
   ·exact M
   ·exact id
class FsC:Type where
 mk::
 run:List (Option Foot)→Prop
def wF(fs:List (Option Foot))(b:Bool)(cs:List Nat)(f:Option Foot)[K:FsC]:Prop:=kF fs b cs f K.run
theorem F4(fs:List (Option Foot))(f:Option Foot)(K:List (Option Foot)→Prop):@wF fs false [] f ⟨K⟩=K (fs++[none]):=(rfl)
def dW(l:List (Option Foot))[K:FsC]:Prop:=K.run l
theorem YEi(l:List (Option Foot))(K:List (Option Foot)→Prop):@dW l ⟨K⟩=K l:=(rfl)
theorem Ytx(fs:List (Option Foot))(f:Foot)(K:FsC):@wF fs true [] (some f) K=@dW (fs++[some f]) K:=(rfl)
theorem VJ(fs:List (Option Foot))(b:Bool)(j:Nat)(cs:List Nat)(f:Foot)(K:FsC):@wF fs b (j::cs) (some f) K=@HM (Oh fs (some f) (j::cs)) ⟨@dW (fs++[if b then some f else none]) K⟩ ⟨False⟩:=(rfl)
def X8(a b:PS)[k:Cont PS]:Prop:=a=b∧k.run a
theorem yXl(a:PS)(K:PS→Prop):@X8 a a ⟨K⟩=K a:=by simp[X8]
def W2(keep:List Nat)(n:Nat)(fr1:Frame)(st1:St)(fr2:Frame)(st2:St)(K:PS→Prop):Prop:=
 @HM (st1.length == n+2 && st2.length == n+2) ⟨@X8 (restrictAt keep n [n,n+1] ⟨fr1,st1⟩) (restrictAt keep n [n+1,n] ⟨fr2,st2⟩) ⟨K⟩⟩ ⟨False⟩
variable {st1 st2:St}{fr1 fr2:Frame}{keep:List Nat}
theorem Yzx{n:Nat}{K:PS→Prop}(h:W2 keep n fr1 st1 fr2 st2 K):eE keep n ⟨fr1,st1⟩ ⟨fr2,st2⟩=some (restrictAt keep n [n,n+1] ⟨fr1,st1⟩)∧K (restrictAt keep n [n,n+1] ⟨fr1,st1⟩):=by
 unfold W2 HM at h
 split at h
 ·rename_i hl;simp only[Ac,beq_iff_eq]at hl;obtain⟨I,E⟩:=h;refine⟨?_,E⟩;unfold eE;grind
 ·exact h.elim
theorem Yzy{n:Nat}{K E:PS→Prop}(h:W2 keep n fr1 st1 fr2 st2 K)(hk:∀ s,K s→E s):W2 keep n fr1 st1 fr2 st2 E:=by
 unfold W2 HM at h ⊢
 split at h
 ·rename_i hl;rw[if_pos hl];exact⟨h.1,hk _ h.2⟩
 ·exact h.elim
def Je(G:Dj)(T:Tbl)(l:List (PI×Bool×List Nat))(fs:List (Option Foot))(fr:Frame)(st:St)[K:Cont2 Frame St]:Prop:=Gp G T l fs fr st K.run
def H4(G:Dj)(T:Tbl)(l:List PI)(fr:Frame)(st:St)[K:Cont2 Frame St]:Prop:=GA G T l fr st K.run
def Ej(T:Tbl)(op:POp)(ρ:PA→D)(st:St)[K:Cont2 D St]:Prop:=Fj T op ρ st K.run
def kV(d:D)(want:Bool)[x:Br][y:Br]:Prop:=match d with
 |.bool b=>@HM (b == want) x y
 |.tup []=>y.run
 |_=>False
theorem Yks(G:Dj)(T:Tbl)(fr:Frame)(st:St)(K:Frame→St→Prop):@H4 G T [] fr st ⟨K⟩=K fr st:=(rfl)
theorem yW1(G:Dj)(T:Tbl)(dst:Option Nat)(op:POp)(l:List PI)(fr:Frame)(st:St)(K:Cont2 Frame St) :
  @H4 G T ({dst,op,guard:=none}::l) fr st K=@Ej T op (Du G fr) st ⟨fun d st'=>@H4 G T l (fr.put dst d) st' K⟩:=(rfl)
theorem yW2(G:Dj)(T:Tbl)(dst:Option Nat)(op:POp)(s:Nat)(E:Bool)(l:List PI)(fr:Frame)(st:St)(K:Cont2 Frame St) :
  @H4 G T ({dst,op,guard:=some (s,E)}::l) fr st K=@kV (fr s) E ⟨@Ej T op (Du G fr) st ⟨fun d st'=>@H4 G T l (fr.put dst d) st' K⟩⟩ ⟨@H4 G T l (fr.put dst (.tup [])) st K⟩:=(rfl)
theorem yPw(G:Dj)(T:Tbl)(dst:Option Nat)(op:POp)(l:List PI)(fr:Frame)(st:St)(K:Cont2 Frame St)(X:XC) :
  @Qp G T ({dst,op,guard:=none}::l) fr st K X=@JG T op (Du G fr) st ⟨fun d st'=>@Qp G T l (fr.put dst d) st' K X⟩ ⟨fun t d st'=>X.run t d fr st'⟩:=(rfl)
theorem yPx(G:Dj)(T:Tbl)(dst:Option Nat)(op:POp)(s:Nat)(E:Bool)(l:List PI)(fr:Frame)(st:St)(K:Cont2 Frame St)(X:XC) :
  @Qp G T ({dst,op,guard:=some (s,E)}::l) fr st K X=@kV (fr s) E ⟨@JG T op (Du G fr) st ⟨fun d st'=>@Qp G T l (fr.put dst d) st' K X⟩ ⟨fun t d st'=>X.run t d fr st'⟩⟩ ⟨@Qp G T l (fr.put dst (.tup [])) st K X⟩:=(rfl)
theorem Ytw(T:Tbl)(op:POp)(ρ:PA→D)(st:St)(K:D→St→Prop)(X:XC0)(h:op.tame=true):@JG T op ρ st ⟨K⟩ X=@Ej T op ρ st ⟨K⟩:=Yba T op ρ st ⟨K⟩ X h
theorem Yku(G:Dj)(T:Tbl)(fs:List (Option Foot))(fr:Frame)(st:St)(K:Frame→St→Prop):@Je G T [] fs fr st ⟨K⟩=K fr st:=(rfl)
theorem yW4(G:Dj)(T:Tbl)(dst:Option Nat)(op:POp)(b:Bool)(cs:List Nat)(l:List (PI×Bool×List Nat))(fs:List (Option Foot))(fr:Frame)(st:St)(K:Cont2 Frame St) :
  @Je G T (({dst,op,guard:=none},b,cs)::l) fs fr st K=@wF fs b cs (op.foot (Du G fr) st) ⟨fun E=>@Ej T op (Du G fr) st ⟨fun d st'=>@Je G T l E (fr.put dst d) st' K⟩⟩:=(rfl)
theorem yW5(G:Dj)(T:Tbl)(dst:Option Nat)(op:POp)(s:Nat)(E:Bool)(b:Bool)(cs:List Nat)(l:List (PI×Bool×List Nat))(fs:List (Option Foot))(fr:Frame)(st:St)(K:Cont2 Frame St) :
  @Je G T (({dst,op,guard:=some (s,E)},b,cs)::l) fs fr st K=@kV (fr s) E ⟨@wF fs b cs (op.foot (Du G fr) st) ⟨fun I=>@Ej T op (Du G fr) st ⟨fun d st'=>@Je G T l I (fr.put dst d) st' K⟩⟩⟩ ⟨@wF fs b cs (some Pz) ⟨fun I=>@Je G T l I (fr.put dst (.tup [])) st K⟩⟩:=(rfl)
theorem Ywu(b:Bool)(x y:Br):@kV (.bool b) true x y=@HM b x y:=by cases b <;> rfl
theorem Yoc(b:Bool)(x y:Br):@kV (.bool b) false x y=@HM b y x:=by cases b <;> rfl
theorem YDv(E:Bool)(x:Br)(y:Prop):@kV (.tup []) E x ⟨y⟩=y:=(rfl)
section
variable (T:Tbl) (ρ:PA→D) (st:St) (K:D→St→Prop)
theorem Ja{β:Type}(o:Option α)(f:α→β)(K:β→Prop):@on β (o.map f) ⟨K⟩=@on α o ⟨fun a=>K (f a)⟩:=by cases o <;> rfl
theorem WS(x:PA):@Ej T (.mov x) ρ st ⟨K⟩=@ev (ρ x) ⟨fun d=>K d st⟩:=(rfl)
def X4(c x y:D):Option D:=match c with
 |.bool b=>some (if b then x else y)
 |_=>none
theorem yYb(x y:D):X4 (.bool true) x y=some x:=(rfl)
theorem yRg(x y:D):X4 (.bool false) x y=some y:=(rfl)
theorem yYc(b c e:Bool):X4 (.bool b) (.bool c) (.bool e)=some (.bool (if b then c else e)):=by cases b <;> rfl
theorem YDk(c x y:PA):@Ej T (.pick c x y) ρ st ⟨K⟩=@on _ (X4 (ρ c) (ρ x) (ρ y)) ⟨fun d=>K d st⟩:=by
 simp only[Ej,Fj,POp.exec,X4];cases ρ c <;> rfl
def DG(d:D):Option (List D):=if d.cells.all D.isCell then some d.cells else none
theorem WZ(x:PA):@Ej T (.box x) ρ st ⟨K⟩=@on _ (DG (ρ x)) ⟨fun cs=>@Qw (.ptr st.length 0) (st++[{row:=false,sz:=1,els:=cs,lent:=false}]) ⟨K⟩⟩:=by
 simp only[Ej,Fj,POp.exec,DG]
 split <;> rfl
theorem W0(E:List D)(parts:List (Nat×Nat×PA)):@Ej T (.bld E parts) ρ st ⟨K⟩=@on _ (DL E (parts.map fun p=>(p.1,p.2.1,ρ p.2.2))) ⟨fun cs=>K (.agg cs) st⟩:=by
 simp only[Ej,Fj,POp.exec,Ja]
def Fi(sz:Nat)(els:List D):Option D:=if(els.all fun e=>e.cells.length == sz) && decide (0<sz) && decide (els.length*sz≤16777216)then some (.slc sz els true)else none
theorem YDu(sz:Nat)(parts:List PA):@Ej T (.bslc sz parts) ρ st ⟨K⟩=@on _ (Em st (parts.map ρ)) ⟨fun els=>@on _ (Fi sz els) ⟨fun d=>@Qw d (lend ((parts.map ρ).flatMap keys) st) ⟨K⟩⟩⟩:=by
 simp only[Ej,Fj,POp.exec]
 cases Em st (parts.map ρ)with
 |none=>rfl
 |some els=>
  simp only[on]
  by_cases h:((els.all fun e=>e.cells.length == sz) && decide (0<sz) && decide (els.length*sz≤16777216))=true
  ·simp only[Fi,h,if_true]; rfl
  ·simp only[Fi,h,Al,if_false]
theorem YDm(n:Nat)(ag:Bool)(p:PA):@Ej T (.load n ag p) ρ st ⟨K⟩=@on _ (Fy st n ag (ρ p)) ⟨fun d=>K d st⟩:=by
 simp only[Ej,Fj,POp.exec,Ja]
theorem YDj(n:Nat)(p x:PA):@Ej T (.stor n p x) ρ st ⟨K⟩=@on _ (MN st n (ρ p) (ρ x)) ⟨fun st'=>K (.tup []) st'⟩:=by
 simp only[Ej,Fj,POp.exec,Ja]
def lU(st:St)(d:D):Option D:=match d with
 |.ptr _ _ | .eptr _ _=>some d
 |.rptr key tot _ _=>if E2 st key tot then some d else none
 |_=>none
theorem YDl(x:PA):@Ej T (.nilc x) ρ st ⟨K⟩=@on _ (lU st (ρ x)) ⟨fun d=>K d st⟩:=by
 simp only[Ej,Fj,POp.exec,lU]
 cases ρ x with
 |rptr key tot i off=>
  simp only
  split <;> rfl
 |_=>rfl
theorem W1(op:BinOp)(x y:PA):@Ej T (.bin op x y) ρ st ⟨K⟩=@on _ (Ds op (ρ x) (ρ y)) ⟨fun d=>K d st⟩:=by
 simp only[Ej,Fj,POp.exec,Ja]
theorem W3(E:Bool)(x y:PA):@Ej T (.beq E x y) ρ st ⟨K⟩=@on _ (Ns E (ρ x) (ρ y)) ⟨fun d=>K d st⟩:=by
 simp only[Ej,Fj,POp.exec,Ja]
theorem W5(ks:List Nat)(E:Bool)(x y:PA):@Ej T (.aeq ks E x y) ρ st ⟨K⟩=@on _ (GU ks E (ρ x) (ρ y)) ⟨fun d=>K d st⟩:=by
 simp only[Ej,Fj,POp.exec,Ja]
theorem lp(op:UnOp)(x:PA):@Ej T (.un op x) ρ st ⟨K⟩=@on _ (Nr op (ρ x)) ⟨fun d=>K d st⟩:=by
 simp only[Ej,Fj,POp.exec,Ja]
theorem YDs(c:PConv)(x:PA):@Ej T (.conv c x) ρ st ⟨K⟩=@on _ (FJ st c (ρ x)) ⟨fun d=>K d st⟩:=by
 simp only[Ej,Fj,POp.exec,Ja]
def Pt(sz bytes:Nat)(zero ln cp:D):Option (Nat×Obj):=match FZ ln,FZ cp with
 |some l,some c=>if l≤c∧c≤4294967296∧c*bytes≤140737488355328∧0<sz∧zero.cells.length=sz∧zero.cells.all D.pure1=true then
   some (l,{row:=true,sz,els:=CQ l zero,lent:=false})else none
 |_,_=>none
theorem Ywn(sz bytes:Nat)(E:D)(I J:PA):@Ej T (.mkslc sz bytes E I J) ρ st ⟨K⟩=@on _ (Pt sz bytes E (ρ I) (ρ J)) ⟨fun r=>@Qw (.row st.length r.1 0 r.1) (st++[r.2]) ⟨K⟩⟩:=by
 simp only[Ej,Fj,POp.exec,Pt]
 cases FZ (ρ I)with
 |none=>rfl
 |some l=>
  cases FZ (ρ J)with
  |none=>rfl
  |some c=>
   simp only
   split <;> rfl
theorem Ywl(sz:Nat)(x:PA)(lo hi E:Option PA):@Ej T (.slice sz x lo hi E) ρ st ⟨K⟩=@on _ (Hb st sz (ρ x) (lo.map ρ) (hi.map ρ) (E.map ρ)) ⟨fun d=>K d st⟩:=by
 simp only[Ej,Fj,POp.exec,Ja]
theorem Yoa(n sz:Nat)(ag:Bool)(x:PA)(lo hi:Option PA):@Ej T (.sliceA n sz ag x lo hi) ρ st ⟨K⟩=@on _ (PL n sz ag (ρ x) (lo.map ρ) (hi.map ρ)) ⟨fun d=>K d st⟩:=by
 simp only[Ej,Fj,POp.exec,Ja]
theorem WW(off:Nat)(p:PA):@Ej T (.fld off p) ρ st ⟨K⟩=@on _ (FC st off (ρ p)) ⟨fun d=>K d st⟩:=by
 simp only[Ej,Fj,POp.exec,Ja]
theorem YDr(off n:Nat)(ag:Bool)(x:PA):@Ej T (.fldv off n ag x) ρ st ⟨K⟩=@on _ (Nj off n ag (ρ x)) ⟨fun d=>K d st⟩:=by
 simp only[Ej,Fj,POp.exec,Ja]
theorem YDp(sz:Nat)(x i:PA):@Ej T (.idxS sz x i) ρ st ⟨K⟩=@on _ (GM st sz (ρ x) (ρ i)) ⟨fun d=>K d st⟩:=by
 simp only[Ej,Fj,POp.exec,Ja]
theorem YDq(n sz:Nat)(p i:PA):@Ej T (.idxA n sz p i) ρ st ⟨K⟩=@on _ (Jm st n sz (ρ p) (ρ i)) ⟨fun d=>K d st⟩:=by
 simp only[Ej,Fj,POp.exec,Ja]
theorem WV(x i:PA):@Ej T (.idx x i) ρ st ⟨K⟩=@on _ (Kz (ρ x) (ρ i)) ⟨fun d=>K d st⟩:=by
 simp only[Ej,Fj,POp.exec,Ja]
theorem YDo(E sz:Nat)(ag:Bool)(x i:PA):@Ej T (.idxV E sz ag x i) ρ st ⟨K⟩=@on _ (Qo E sz ag (ρ x) (ρ i)) ⟨fun d=>K d st⟩:=by
 simp only[Ej,Fj,POp.exec,Ja]
def E3(st:St)(str:Bool)(d:D):Option D:=if Jz d == str then(Fb st d).map fun(n:Nat)=>D.int .i64 (n:Int)else none
theorem WU(E:Bool)(x:PA):@Ej T (.len E x) ρ st ⟨K⟩=@on _ (E3 st E (ρ x)) ⟨fun d=>K d st⟩:=by
 simp only[Ej,Fj,POp.exec,E3]
 split
 ·simp only[Ja]
 ·rfl
theorem YDn(n:Nat):@Ej T (.lenA n) ρ st ⟨K⟩=@ev (.int .i64 (n:Int)) ⟨fun d=>K d st⟩:=(rfl)
theorem W4(sz bytes:Nat)(s x:PA):@Ej T (.app sz bytes s x) ρ st ⟨K⟩=@on _ (Ek st sz bytes (ρ s) (ρ x)) ⟨fun r=>K r.1 r.2⟩:=(rfl)
def mQ(sz:Nat):Option Obj:=if 1<sz∧sz≠1000003 then some {row:=false,sz,els:=[],lent:=false} else none
theorem Ywo(sz:Nat):@Ej T (.mkmap sz) ρ st ⟨K⟩=@on _ (mQ sz) ⟨fun o=>@Qw (.mapv st.length) (st++[o]) ⟨K⟩⟩:=by
 simp only[Ej,Fj,POp.exec,mQ]
 split <;> rfl
theorem Ywr(sz:Nat)(ks:List Nat)(m k v:PA):@Ej T (.mapup sz ks m k v) ρ st ⟨K⟩=@on _ (Tm st sz ks (ρ m) (ρ k) (ρ v)) ⟨fun st'=>K (.tup []) st'⟩:=by
 simp only[Ej,Fj,POp.exec,Ja]
theorem Yob(sz:Nat)(ks:List Nat)(ok:Bool)(E:D)(m k:PA):@Ej T (.mapget sz ks ok E m k) ρ st ⟨K⟩=@on _ (Js st sz ks ok E (ρ m) (ρ k)) ⟨fun d=>K d st⟩:=by
 simp only[Ej,Fj,POp.exec,Ja]
theorem WY(sz:Nat)(d s:PA):@Ej T (.cpy sz d s) ρ st ⟨K⟩=@on _ (KA st sz (ρ d) (ρ s)) ⟨fun r=>K r.1 r.2⟩:=(rfl)
def TF(isMax:Bool)(x y:D):Option D:=match x,y with
 |.int k a,.int _ b=>some (.int k (if isMax then(if b > a then b else a)else(if b<a then b else a)))
 |_,_=>none
theorem lu(E:Bool)(x y:PA):@Ej T (.mm E x y) ρ st ⟨K⟩=@on _ (TF E (ρ x) (ρ y)) ⟨fun d=>K d st⟩:=by
 simp only[Ej,Fj,POp.exec,TF]
 cases ρ x with
 |int k a=>cases ρ y <;> rfl
 |_=>rfl
def Pa(isMax:Bool)(x y z:D):Option D:=match x,y,z with
 |.int k a,.int _ b,.int _ c=>some (.int k (Nv isMax (Nv isMax a b) c))
 |_,_,_=>none
theorem WT(E:Bool)(x y z:PA):@Ej T (.mm3 E x y z) ρ st ⟨K⟩=@on _ (Pa E (ρ x) (ρ y) (ρ z)) ⟨fun d=>K d st⟩:=by
 simp only[Ej,Fj,POp.exec,Pa]
 cases ρ x with
 |int k a=>cases ρ y <;> first | rfl | (cases ρ z <;> rfl)
 |_=>rfl
theorem Ywm(f:Nat)(args:List PA):@Ej T (.rcall f args) ρ st ⟨K⟩=@on _ (T.q f) ⟨fun sp=>@on _ (I2 sp (args.map ρ) st) ⟨fun d=>K d st⟩⟩:=by
 simp only[Ej,Fj,POp.exec]
 cases T.q f with
 |none=>rfl
 |some sp=>simp only[zS,Ja]
theorem Yws(f:Nat)(args:List PA):@Ej T (.icall f args) ρ st ⟨K⟩=@on _ (T.i f) ⟨fun sp=>@on _ (sp (args.map ρ) st) ⟨fun r=>K r.1 r.2⟩⟩:=by
 simp only[Ej,Fj,POp.exec];cases T.i f <;> rfl
def JQ(T:Tbl)(d:D):Option ((List D→St→Option (D×St))×List D×List D):=match d with
 |.clo f caps=>if f<5000000 then(T.i f).map fun sp=>(sp,[],caps)else if f<10000000 then(T.i (f - 5000000)).map fun sp=>(sp,caps,[])else if caps.isEmpty then some (T.y (f - 10000000),[],[])else none
 |_=>none
theorem Ywq(f:Nat)(args:List PA):@Ej T (.mcall f args) ρ st ⟨K⟩=@on _ (T.m f) ⟨fun sp=>@on _ (sp (args.map ρ)) ⟨fun r=>@Qw (r.1 st.length) (st++r.2 st.length) ⟨K⟩⟩⟩:=by
 simp only[Ej,Fj,POp.exec]
 cases T.m f with
 |none=>rfl
 |some sp=>
  simp only[on];cases sp (args.map ρ) <;> rfl
theorem Ywt(x:PA)(args:List PA):@Ej T (.callv x args) ρ st ⟨K⟩=@on _ (JQ T (ρ x)) ⟨fun p=>@on _ (p.1 (p.2.1++(args.map ρ++p.2.2)) st) ⟨fun r=>K r.1 r.2⟩⟩:=by
 simp only[Ej,Fj,POp.exec,JQ]
 cases ρ x with
 |clo f E=>
  simp only
  by_cases I:f<5000000
  ·simp only[if_pos I];cases T.i f <;> rfl
  ·by_cases h:f<10000000
   ·simp only[if_neg I,if_pos h]
    cases T.i (f - 5000000)with
    |none=>rfl
    |some sp=>simp only[Ae,on,Ai]
   ·simp only[if_neg I,if_neg h]
    cases E with
    |nil=>simp only[CD,if_true,on,Ai,Ao]
    |cons a l=>rfl
 |_=>rfl
theorem Ywp(f:Nat)(E:List PA):@Ej T (.mkclo f E) ρ st ⟨K⟩=@ev (.clo f (E.map ρ)) ⟨fun d=>K d st⟩:=(rfl)
theorem YDt(f:Nat)(args:List PA):@Ej T (.call f args) ρ st ⟨K⟩=@on _ (T.p f) ⟨fun sp=>@on _ (Em st (args.map ρ)) ⟨fun vs=>@on _ (sp vs) ⟨fun r=>@Qw r (if r.noRef then st else lend ((args.map ρ).flatMap keys) st) ⟨K⟩⟩⟩⟩:=by
 simp only[Ej,Fj,POp.exec]
 cases T.p f with
 |none=>rfl
 |some sp=>
  cases Em st (args.map ρ)with
  |none=>rfl
  |some vs=>
   simp only[on];cases sp vs <;> rfl
def Nx(d:D)(i:Nat):Option D:=match d with
 |.tup vs=>vs[i]?
 |_=>none
theorem WX(x:PA)(i:Nat):@Ej T (.ext x i) ρ st ⟨K⟩=@on _ (Nx (ρ x) i) ⟨fun d=>K d st⟩:=by
 simp only[Ej,Fj,POp.exec,Nx]
 cases ρ x with
 |tup vs=>simp only[Ja]
 |_=>rfl
theorem YEs(a:D)(l:List D):Nx (.tup (a::l)) 0=some a:=(rfl)
theorem YEr(a b:D)(l:List D):Nx (.tup (a::b::l)) 1=some b:=(rfl)
theorem YEq(a b c:D)(l:List D):Nx (.tup (a::b::c::l)) 2=some c:=(rfl)
end
theorem Ymj(fr:Frame)(s:Nat)(d:D):fr.put (some s) d=fr.set s d:=(rfl)
theorem Ymk(fr:Frame)(d:D):fr.put none d=fr:=(rfl)
theorem Wj(G:Dj)(fr:Frame)(n:Nat):Du G fr (.s n)=fr n:=(rfl)
theorem Wk(G:Dj)(fr:Frame)(d:D):Du G fr (.c d)=d:=(rfl)
theorem JV(G:Dj)(fr:Frame)(n:Nat)(d:D)(h:G n=some d):Du G fr (.g n)=.eptr d 0:=by simp[Du,h]
theorem YF2(a:D)(l:List D):Dc (a::l) 0=a:=(rfl)
theorem YF1(a b:D)(l:List D):Dc (a::b::l) 1=b:=(rfl)
theorem YF0(a b c:D)(l:List D):Dc (a::b::c::l) 2=c:=(rfl)
theorem YFz(a b c d:D)(l:List D):Dc (a::b::c::d::l) 3=d:=(rfl)
theorem YFy(a b c d e:D)(l:List D):Dc (a::b::c::d::e::l) 4=e:=(rfl)
theorem YFx(a b c d e f:D)(l:List D):Dc (a::b::c::d::e::f::l) 5=f:=(rfl)
theorem YFw(a b c d e f g:D)(l:List D):Dc (a::b::c::d::e::f::g::l) 6=g:=(rfl)
theorem YFv(a b c d e f g h:D)(l:List D):Dc (a::b::c::d::e::f::g::h::l) 7=h:=(rfl)
def LJ(B:Frame→St→(Ex→Frame→St→Prop)→Prop)(cut:PS→PS):Nat→PS→(Ex→Frame→St→Prop)→Prop
 |0,_,_=>False
 |n+1,s,Q=>B (cut s).fr (cut s).st fun e fr st=>match e with
  |.next=>LJ B cut n ⟨fr,st⟩ Q
  |e=>Q e fr st
def W(G:Dj)(T:Tbl):PC→Frame→St→(Ex→Frame→St→Prop)→Prop
 |.skip,fr,st,Q=>Q .next fr st
 |.ops l,fr,st,Q=>GA G T l fr st (Q .next)
 |.any l,fr,st,Q=>Gp G T l [] fr st (Q .next)
 |.any2 keep l1 l2,fr,st,Q=>Gp G T l1 [] fr st fun fr1 st1=>Gp G T l2 [] fr st fun fr2 st2=>W2 keep st.length fr1 st1 fr2 st2 fun s=>Q .next s.fr s.st
 |.seq a b,fr,st,Q=>W G T a fr st fun e fr' st'=>match e with
  |.next=>W G T b fr' st' Q
  |e=>Q e fr' st'
 |.cond c a b,fr,st,Q=>@TE (Du G fr c) ⟨fun v=>@HM v ⟨W G T a fr st Q⟩ ⟨W G T b fr st Q⟩⟩
 |.block id c,fr,st,Q=>W G T c fr st fun e fr' st'=>match e with
  |.exit id'=>if id'=id then Q .next fr' st' else Q (.exit id') fr' st'
  |e=>Q e fr' st'
 |.loop keep c,fr,st,Q=>∃ n,LJ (W G T c) (restrict keep st.length) n ⟨fr,st⟩ Q
 |.loopA keep c,fr,st,Q=>∃ n,LJ (W G T c) (keepAll keep) n ⟨fr,st⟩ Q
 |.opsX l,fr,st,Q=>MK G T l fr st (Q .next) (fun t d=>Q (.panic t d))
 |.pan l d1 t x,fr,st,Q=>GA G T l fr st fun fr' st'=>@HM (LK (Du G fr' x)) ⟨Q (.panic t (Du G fr' x)) (fr'.set d1 .junk) st'⟩ ⟨False⟩
 |.alt a b,fr,st,Q=>W G T a fr st Q∨(a.exec G T 0 ⟨fr,st⟩=none∧(∀ m,a.exec G T m ⟨fr,st⟩=none)∧W G T b fr st Q)
 |.range x ps a b,fr,st,Q=>∃ (n:Nat) (st':St) (e:Ex),(∀ m,n≤m→TV T (Du G fr x) (K6 (a.exec G T m) (b.exec G T m) fr ps st.length) (st++[recO 0])=some st')∧X6 st' st.length=some e∧Q e fr (st'.set st.length (recO 2))
 |.exit id,fr,st,Q=>Q (.exit id) fr st
 |.ret,fr,st,Q=>Q .ret fr st
 |.fail,_,_,_=>False
theorem K9{G:Dj}{T:Tbl}:∀ (c:PC) (fr:Frame) (st:St) (Q:Ex→Frame→St→Prop),W G T c fr st Q→
  ∃ (n:Nat) (e:Ex) (E:Frame) (st':St),(∀ m,n≤m→c.exec G T m ⟨fr,st⟩=some (e,⟨E,st'⟩))∧Q e E st'
 |.skip,fr,st,Q,h=>⟨0,.next,fr,st,fun _ _=>rfl,h⟩
 |.ops l,fr,st,Q,h=>by
  obtain⟨E,st',J,I⟩:=UC l fr st _ h;exact⟨0,.next,E,st',fun m _=>by simp only[PC.exec,J],I⟩
 |.any l,fr,st,Q,h=>by
  obtain⟨E,st',J,I⟩:=UB l [] fr st _ h;exact⟨0,.next,E,st',fun m _=>by simp only[PC.exec,J],I⟩
 |.any2 keep l1 l2,fr,st,Q,h=>by
  obtain⟨fr1,st1,J,I⟩:=UB l1 [] fr st _ h;obtain⟨fr2,st2,V,h4⟩:=UB l2 [] fr st _ I;obtain⟨h5,h6⟩:=Yzx h4;exact⟨0,.next,_,_,fun m _=>by simp only[PC.exec,J,V,h5,Ae],h6⟩
 |.seq a b,fr,st,Q,h=>by
  obtain⟨n,e,E,st',J,I⟩:=K9 a fr st _ h
  cases e with
  |next=>
   obtain⟨n',e',Y,aa,V,h4⟩:=K9 b E st' _ I;exact⟨n+n',e',Y,aa,fun m hm=>by simp only[PC.exec,J m (by omega),V m (by omega)],h4⟩
  |exit id=>exact⟨n,.exit id,E,st',fun m hm=>by simp only[PC.exec,J m hm],I⟩
  |ret=>exact⟨n,.ret,E,st',fun m hm=>by simp only[PC.exec,J m hm],I⟩
  |panic t d=>exact⟨n,.panic t d,E,st',fun m hm=>by simp only[PC.exec,J m hm],I⟩
 |.cond c a b,fr,st,Q,h=>by
  simp only[W,TE]at h
  split at h
  ·rename_i v hv
   cases v with
   |true=>
    obtain⟨n,e,E,st',J,I⟩:=K9 a fr st _ h;exact⟨n,e,E,st',fun m hm=>by simp only[PC.exec,hv,J m hm],I⟩
   |false=>
    obtain⟨n,e,E,st',J,I⟩:=K9 b fr st _ h;exact⟨n,e,E,st',fun m hm=>by simp only[PC.exec,hv,J m hm],I⟩
  ·exact h.elim
 |.block id c,fr,st,Q,h=>by
  obtain⟨n,e,E,st',J,I⟩:=K9 c fr st _ h
  cases e with
  |next=>exact⟨n,.next,E,st',fun m hm=>by simp only[PC.exec,J m hm],I⟩
  |ret=>exact⟨n,.ret,E,st',fun m hm=>by simp only[PC.exec,J m hm],I⟩
  |panic t d=>exact⟨n,.panic t d,E,st',fun m hm=>by simp only[PC.exec,J m hm],I⟩
  |exit ah=>
   simp only at I
   split at I
   ·rename_i hi;exact⟨n,.next,E,st',fun m hm=>by simp only[PC.exec,J m hm,hi,if_true],I⟩
   ·rename_i hi;exact⟨n,.exit ah,E,st',fun m hm=>by simp only[PC.exec,J m hm,hi,if_false],I⟩
 |.loop keep c,fr,st,Q,h=>by
  obtain⟨k,h⟩:=h
  have key:∀ (k:Nat) (s:PS),LJ (W G T c) (restrict keep st.length) k s Q→∃ (n:Nat) (e:Ex) (E:Frame) (st':St),(∀ m q,n≤m→k≤q→J6 (c.exec G T m) (restrict keep st.length) q s=some (e,⟨E,st'⟩))∧Q e E st':=by
   intro k
   induction k with
   |zero=>intro s h; exact h.elim
   |succ k ih=>
    intro s h;obtain⟨n,e,E,st',J,I⟩:=K9 c _ _ _ h;have U:∀ m,n≤m→c.exec G T m (restrict keep st.length s)=some (e,⟨E,st'⟩):=J
    cases e with
    |next=>
     obtain⟨n',e',Y,aa,V,h4⟩:=ih _ I;refine⟨n+n',e',Y,aa,fun m q hm hq=>?_,h4⟩;obtain⟨q,rfl⟩:∃ M,q=M+1:=⟨q - 1,by omega⟩;simp only[J6,U m (by omega)];grind
    |exit id=>
     refine⟨n,.exit id,E,st',fun m q hm hq=>?_,I⟩;obtain⟨q,rfl⟩:∃ M,q=M+1:=⟨q - 1,by omega⟩;simp only[J6,U m hm]
    |ret=>
     refine⟨n,.ret,E,st',fun m q hm hq=>?_,I⟩;obtain⟨q,rfl⟩:∃ M,q=M+1:=⟨q - 1,by omega⟩;simp only[J6,U m hm]
    |panic t d=>
     refine⟨n,.panic t d,E,st',fun m q hm hq=>?_,I⟩;obtain⟨q,rfl⟩:∃ M,q=M+1:=⟨q - 1,by omega⟩;simp only[J6,U m hm]
  obtain⟨n,e,E,st',J,I⟩:=key k _ h;exact⟨n+k,e,E,st',fun m hm=>by simp only[PC.exec]; exact J m m (by omega) (by omega),I⟩
 |.loopA keep c,fr,st,Q,h=>by
  obtain⟨k,h⟩:=h
  have key:∀ (k:Nat) (s:PS),LJ (W G T c) (keepAll keep) k s Q→∃ (n:Nat) (e:Ex) (E:Frame) (st':St),(∀ m q,n≤m→k≤q→J6 (c.exec G T m) (keepAll keep) q s=some (e,⟨E,st'⟩))∧Q e E st':=by
   intro k
   induction k with
   |zero=>intro s h; exact h.elim
   |succ k ih=>
    intro s h;obtain⟨n,e,E,st',J,I⟩:=K9 c _ _ _ h;have U:∀ m,n≤m→c.exec G T m (keepAll keep s)=some (e,⟨E,st'⟩):=J
    cases e with
    |next=>
     obtain⟨n',e',Y,aa,V,h4⟩:=ih _ I;refine⟨n+n',e',Y,aa,fun m q hm hq=>?_,h4⟩;obtain⟨q,rfl⟩:∃ M,q=M+1:=⟨q - 1,by omega⟩;simp only[J6,U m (by omega)];grind
    |exit id=>
     refine⟨n,.exit id,E,st',fun m q hm hq=>?_,I⟩;obtain⟨q,rfl⟩:∃ M,q=M+1:=⟨q - 1,by omega⟩;simp only[J6,U m hm]
    |ret=>
     refine⟨n,.ret,E,st',fun m q hm hq=>?_,I⟩;obtain⟨q,rfl⟩:∃ M,q=M+1:=⟨q - 1,by omega⟩;simp only[J6,U m hm]
    |panic t d=>
     refine⟨n,.panic t d,E,st',fun m q hm hq=>?_,I⟩;obtain⟨q,rfl⟩:∃ M,q=M+1:=⟨q - 1,by omega⟩;simp only[J6,U m hm]
  obtain⟨n,e,E,st',J,I⟩:=key k _ h;exact⟨n+k,e,E,st',fun m hm=>by simp only[PC.exec]; exact J m m (by omega) (by omega),I⟩
 |.range x ps a b,fr,st,Q,h=>by
  obtain⟨n,st',e,J,V,I⟩:=h;exact⟨n,e,fr,_,fun m hm=>by simp only[PC.exec,J m hm,Bo,V,Ae],I⟩
 |.opsX l,fr,st,Q,h=>by
  rcases fC l fr st _ _ h with⟨E,st',J,I⟩ | ⟨t,d,E,st',J,I,V⟩
  ·exact⟨0,.next,E,st',fun m _=>by simp only[PC.exec,J],I⟩
  ·exact⟨0,.panic t d,E,st',fun m _=>by simp only[PC.exec,J,I,Ae],V⟩
 |.pan l d1 t x,fr,st,Q,h=>by
  obtain⟨E,st',J,I⟩:=UC l fr st _ h;unfold HM at I
  split at I
  ·rename_i hi;exact⟨0,.panic t (Du G E x),E.set d1 .junk,st',fun m _=>by simp only[PC.exec,J,hi,if_true],I⟩
  ·grind
 |.alt a b,fr,st,Q,h=>by
  rcases h with h | ⟨_,J,h⟩
  ·obtain⟨n,e,E,st',J,I⟩:=K9 a fr st _ h;exact⟨n,e,E,st',fun m hm=>by simp only[PC.exec,J m hm],I⟩
  ·obtain⟨n,e,E,st',I,V⟩:=K9 b fr st _ h;exact⟨n,e,E,st',fun m hm=>by simp only[PC.exec,J m,I m hm],V⟩
 |.exit id,fr,st,Q,h=>⟨0,.exit id,fr,st,fun _ _=>rfl,h⟩
 |.ret,fr,st,Q,h=>⟨0,.ret,fr,st,fun _ _=>rfl,h⟩
 |.fail,_,_,_,h=>h.elim
theorem YC{G:Dj}{T:Tbl}:∀ (l:List PI) (fr:Frame) (st:St) (K E:Frame→St→Prop),GA G T l fr st K→(∀ fr st,K fr st→E fr st)→GA G T l fr st E
 |[],_,_,_,_,h,hk=>hk _ _ h
 |i::l,fr,st,K,E,h,hk=>by
  have I:Fj T i.op (Du G fr) st (fun d st'=>GA G T l (fr.put i.dst d) st' K)→Fj T i.op (Du G fr) st (fun d st'=>GA G T l (fr.put i.dst d) st' E):=by
   unfold Fj on
   split
   ·exact fun h=>YC l _ _ _ _ h hk
   ·exact id
  have J:GA G T l (fr.put i.dst (.tup [])) st K→GA G T l (fr.put i.dst (.tup [])) st E:=fun h=>YC l _ _ _ _ h hk;rw[GA]at h ⊢;unfold kG at h ⊢
  split
  ·simp_all
  ·simp_all
   split
   ·simp_all;rename_i b hb;rename_i want _ _
    revert h
    unfold HM;grind
   ·simp_all
   ·simp_all
theorem KQ{G:Dj}{T:Tbl}:∀ (c:PC) (fr:Frame) (st:St) (Q I:Ex→Frame→St→Prop),W G T c fr st Q→(∀ e fr st,Q e fr st→I e fr st)→W G T c fr st I
 |.skip,fr,st,Q,I,h,E=>E _ _ _ h
 |.ops l,fr,st,Q,I,h,E=>YC l fr st _ _ h fun fr st h=>E _ _ _ h
 |.any l,fr,st,Q,I,h,E=>Uk l [] fr st _ _ h fun fr st h=>E _ _ _ h
 |.any2 keep l1 M,fr,st,Q,I,h,E=>Uk l1 [] fr st _ _ h fun fr1 st1 h=>Uk M [] fr st _ _ h fun fr2 st2 h=>Yzy h fun s h=>E _ _ _ h
 |.seq a b,fr,st,Q,I,h,E=>by
  refine KQ a fr st _ _ h fun e J st' h=>?_
  cases e with
  |next=>exact KQ b _ _ _ _ h E
  |exit id=>exact E _ _ _ h
  |ret=>exact E _ _ _ h
  |panic t d=>exact E _ _ _ h
 |.cond c a b,fr,st,Q,I,h,E=>by
  simp only[W,TE]at h ⊢
  split
  ·rename_i v hv;rw[hv]at h;simp only at h
   cases v with
   |true=>exact KQ a _ _ _ _ h E
   |false=>exact KQ b _ _ _ _ h E
  ·grind
 |.block id c,fr,st,Q,I,h,E=>by
  refine KQ c fr st _ _ h fun e J st' h=>?_;grind
 |.loop keep c,fr,st,Q,I,h,E=>by
  obtain⟨k,h⟩:=h;refine⟨k,?_⟩
  have key:∀ (k:Nat) (s:PS),LJ (W G T c) (restrict keep st.length) k s Q→LJ (W G T c) (restrict keep st.length) k s I:=by
   intro k
   induction k with
   |zero=>intro s h; exact h
   |succ k U=>
    intro s h;refine KQ c _ _ _ _ h fun e J st' h=>?_;grind
  grind
 |.loopA keep c,fr,st,Q,I,h,E=>by
  obtain⟨k,h⟩:=h;refine⟨k,?_⟩
  have key:∀ (k:Nat) (s:PS),LJ (W G T c) (keepAll keep) k s Q→LJ (W G T c) (keepAll keep) k s I:=by
   intro k
   induction k with
   |zero=>intro s h; exact h
   |succ k U=>
    intro s h;refine KQ c _ _ _ _ h fun e J st' h=>?_;grind
  grind
 |.range x ps a b,fr,st,Q,I,h,E=>by
  obtain⟨n,st',e,V,Y,h2⟩:=h;exact⟨n,st',e,V,Y,E _ _ _ h2⟩
 |.opsX l,fr,st,Q,I,h,E=>eR l fr st _ _ _ _ h (fun _ _ h=>E _ _ _ h) fun _ _ _ _ h=>E _ _ _ h
 |.pan l d1 t x,fr,st,Q,I,h,E=>YC l fr st _ _ h fun J st' h=>by
  unfold HM at h ⊢;grind
 |.alt a b,fr,st,Q,I,h,E=>h.imp (fun h=>KQ a _ _ _ _ h E) fun h=>⟨h.1,h.2.1,KQ b _ _ _ _ h.2.2 E⟩
 |.exit id,fr,st,Q,I,h,E=>E _ _ _ h
 |.ret,fr,st,Q,I,h,E=>E _ _ _ h
 |.fail,_,_,_,_,h,_=>h.elim
variable {Q:Ex→Frame→St→Prop}{c:PC}{ι:Type}{G:Dj}
theorem YGa(J:ι→List (Nat×D))(M:ι→St)(P:ι→Prop)(μ:ι→Nat)(E:ι)
  (Y:restrict keep st.length ⟨fr,st⟩=⟨Gf (J E),M E⟩) (hP:P E)
  (U:∀ i,P i→W G T c (Gf (J i)) (M i) fun e I st'=>match e with
   |.next=>∃ j,P j∧μ j<μ i∧restrict keep st.length ⟨I,st'⟩=⟨Gf (J j),M j⟩
   |e=>Q e I st'):W G T (.loop keep c) fr st Q:=by
 have key:∀ (n:Nat) (i:ι) (s:PS),μ i<n→P i→restrict keep st.length s=⟨Gf (J i),M i⟩→LJ (W G T c) (restrict keep st.length) n s Q:=by
  intro n
  induction n with
  |zero=>intro i s h _ _; exact absurd h (Nat.not_lt_zero _)
  |succ n ih=>
   intro i s hi V hr;simp only[LJ,hr];refine KQ c _ _ _ _ (U i V) fun e I st' h=>?_;grind
 exact⟨μ E+1,key _ E _ (Cj _) hP Y⟩
theorem Yzv(J:ι→List (Nat×D))(M:ι→St)(P:ι→Prop)(μ:ι→Nat)(E:ι)
  (Y:keepAll keep ⟨fr,st⟩=⟨Gf (J E),M E⟩) (hP:P E)
  (U:∀ i,P i→W G T c (Gf (J i)) (M i) fun e I st'=>match e with
   |.next=>∃ j,P j∧μ j<μ i∧keepAll keep ⟨I,st'⟩=⟨Gf (J j),M j⟩
   |e=>Q e I st'):W G T (.loopA keep c) fr st Q:=by
 have key:∀ (n:Nat) (i:ι) (s:PS),μ i<n→P i→keepAll keep s=⟨Gf (J i),M i⟩→LJ (W G T c) (keepAll keep) n s Q:=by
  intro n
  induction n with
  |zero=>intro i s h _ _; exact absurd h (Nat.not_lt_zero _)
  |succ n ih=>
   intro i s hi V hr;simp only[LJ,hr];refine KQ c _ _ _ _ (U i V) fun e I st' h=>?_;grind
 exact⟨μ E+1,key _ E _ (Cj _) hP Y⟩
variable {st':St}{ps:List Nat}
theorem Yrb{x:PA}{a b:PC}{e:Ex}(h:∀ m,TV T (Du G fr x) (K6 (a.exec G T m) (b.exec G T m) fr ps st.length) (st++[recO 0])=some st')(E:X6 st' st.length=some e)(I:Q e fr (st'.set st.length (recO 2))):W G T (.range x ps a b) fr st Q:=
 ⟨0,st',e,fun m _=>h m,E,I⟩
def wW(G:Dj)(T:Tbl)(c:PC)(fr:Frame)(st:St)[Q:QC]:Prop:=W G T c fr st Q.run
theorem Hv(h:@wW G T c fr st ⟨Q⟩):W G T c fr st Q:=h
theorem Td(h:W G T c fr st Q):@wW G T c fr st ⟨Q⟩:=h
theorem YF8(G:Dj)(T:Tbl)(fr:Frame)(st:St)(Q:Ex→Frame→St→Prop):@wW G T .skip fr st ⟨Q⟩=Q .next fr st:=(rfl)
theorem Yi(G:Dj)(T:Tbl)(l:List PI)(fr:Frame)(st:St)(Q:Ex→Frame→St→Prop):@wW G T (.ops l) fr st ⟨Q⟩=@H4 G T l fr st ⟨Q .next⟩:=(rfl)
theorem Yj(G:Dj)(T:Tbl)(l:List (PI×Bool×List Nat))(fr:Frame)(st:St)(Q:Ex→Frame→St→Prop):@wW G T (.any l) fr st ⟨Q⟩=@Je G T l [] fr st ⟨Q .next⟩:=(rfl)
theorem YGd(G:Dj)(T:Tbl)(keep:List Nat)(l1 E:List (PI×Bool×List Nat))(fr:Frame)(st:St)(Q:Ex→Frame→St→Prop):@wW G T (.any2 keep l1 E) fr st ⟨Q⟩=
  @Je G T l1 [] fr st ⟨fun fr1 st1=>@Je G T E [] fr st ⟨fun fr2 st2=>@HM (st1.length == st.length+2 && st2.length == st.length+2) ⟨@X8 (restrictAt keep st.length [st.length,st.length+1] ⟨fr1,st1⟩) (restrictAt keep st.length [st.length+1,st.length] ⟨fr2,st2⟩) ⟨fun s=>Q .next s.fr s.st⟩⟩ ⟨False⟩⟩⟩:=(rfl)
def Ta(G:Dj)(T:Tbl)(b:PC)[Q:QC](e:Ex)(fr:Frame)(st:St):Prop:=match e with
 |.next=>W G T b fr st Q.run
 |e=>Q.run e fr st
theorem Yf(G:Dj)(T:Tbl)(a b:PC)(fr:Frame)(st:St)(Q:QC):@wW G T (.seq a b) fr st Q=@wW G T a fr st ⟨@Ta G T b Q⟩:=(rfl)
theorem Ybm(G:Dj)(T:Tbl)(b:PC)(Q:QC)(fr:Frame)(st:St):@Ta G T b Q .next fr st=@wW G T b fr st Q:=(rfl)
theorem Ybn(G:Dj)(T:Tbl)(b:PC)(Q:Ex→Frame→St→Prop)(E:Nat)(fr:Frame)(st:St):@Ta G T b ⟨Q⟩ (.exit E) fr st=Q (.exit E) fr st:=(rfl)
theorem Yk5(G:Dj)(T:Tbl)(b:PC)(Q:Ex→Frame→St→Prop)(fr:Frame)(st:St):@Ta G T b ⟨Q⟩ .ret fr st=Q .ret fr st:=(rfl)
theorem yXa(G:Dj)(T:Tbl)(b:PC)(Q:Ex→Frame→St→Prop)(t:Nat)(d:D)(fr:Frame)(st:St):@Ta G T b ⟨Q⟩ (.panic t d) fr st=Q (.panic t d) fr st:=(rfl)
theorem YF9(G:Dj)(T:Tbl)(l:List PI)(fr:Frame)(st:St)(Q:Ex→Frame→St→Prop):@wW G T (.opsX l) fr st ⟨Q⟩=@Qp G T l fr st ⟨Q .next⟩ ⟨fun t d=>Q (.panic t d)⟩:=(rfl)
theorem Yh(G:Dj)(T:Tbl)(l:List PI)(d1 t:Nat)(x:PA)(fr:Frame)(st:St)(Q:Ex→Frame→St→Prop):@wW G T (.pan l d1 t x) fr st ⟨Q⟩=@H4 G T l fr st ⟨fun E st'=>@HM (LK (Du G E x)) ⟨Q (.panic t (Du G E x)) (E.set d1 .junk) st'⟩ ⟨False⟩⟩:=(rfl)
theorem YGc(G:Dj)(T:Tbl)(c:PA)(a b:PC)(fr:Frame)(st:St)(Q:QC):@wW G T (.cond c a b) fr st Q=@TE (Du G fr c) ⟨fun v=>@HM v ⟨@wW G T a fr st Q⟩ ⟨@wW G T b fr st Q⟩⟩:=(rfl)
def Mj(id:Nat)[Q:QC](e:Ex)(fr:Frame)(st:St):Prop:=match e with
 |.exit id'=>if id'=id then Q.run .next fr st else Q.run (.exit id') fr st
 |e=>Q.run e fr st
theorem Yzw(G:Dj)(T:Tbl)(E:Nat)(c:PC)(fr:Frame)(st:St)(Q:QC):@wW G T (.block E c) fr st Q=@wW G T c fr st ⟨@Mj E Q⟩:=(rfl)
theorem Ym3(E:Nat)(Q:Ex→Frame→St→Prop)(fr:Frame)(st:St):@Mj E ⟨Q⟩ .next fr st=Q .next fr st:=(rfl)
theorem Yvh(E:Nat)(Q:Ex→Frame→St→Prop)(fr:Frame)(st:St):@Mj E ⟨Q⟩ .ret fr st=Q .ret fr st:=(rfl)
theorem Yd4(E:Nat)(Q:Ex→Frame→St→Prop)(t:Nat)(d:D)(fr:Frame)(st:St):@Mj E ⟨Q⟩ (.panic t d) fr st=Q (.panic t d) fr st:=(rfl)
theorem YCh(I E:Nat)(Q:Ex→Frame→St→Prop)(fr:Frame)(st:St):@Mj I ⟨Q⟩ (.exit E) fr st=if E=I then Q .next fr st else Q (.exit E) fr st:=(rfl)
theorem YGb(G:Dj)(T:Tbl)(E:Nat)(fr:Frame)(st:St)(Q:Ex→Frame→St→Prop):@wW G T (.exit E) fr st ⟨Q⟩=Q (.exit E) fr st:=(rfl)
theorem Yg(G:Dj)(T:Tbl)(fr:Frame)(st:St)(Q:Ex→Frame→St→Prop):@wW G T .ret fr st ⟨Q⟩=Q .ret fr st:=(rfl)
def Dp(res:List PRes)(r:D)(e:Ex)(fr:Frame)(st:St):Prop:=match e with
 |.exit _ | .panic _ _=>False
 |_=>(FV ⟨fr,st⟩ res).map DS=some r
theorem Yly(res:List PRes)(r:D)(fr:Frame)(st:St):Dp res r .ret fr st=((FV ⟨fr,st⟩ res).map DS=some r):=(rfl)
theorem Yc0(res:List PRes)(r:D)(fr:Frame)(st:St):Dp res r .next fr st=((FV ⟨fr,st⟩ res).map DS=some r):=(rfl)
def GQ(res:List PRes)[R:Cont2 D St](e:Ex)(fr:Frame)(st:St):Prop:=match e with
 |.exit _ | .panic _ _=>False
 |_=>@on _ (D8 ⟨fr,st⟩ res) ⟨fun l=>R.run (DS l) st⟩
theorem rG(res:List PRes)(R:D→St→Prop)(fr:Frame)(st:St):@GQ res ⟨R⟩ .ret fr st=@on _ (D8 ⟨fr,st⟩ res) ⟨fun l=>R (DS l) st⟩:=(rfl)
theorem tN(res:List PRes)(R:D→St→Prop)(fr:Frame)(st:St):@GQ res ⟨R⟩ .next fr st=@on _ (D8 ⟨fr,st⟩ res) ⟨fun l=>R (DS l) st⟩:=(rfl)
variable {ds:List D}{F:PF}
theorem r9{r:D}(h:W G T F.code (Dc ds) [] (Dp F.res r)):∃ fuel,F.run G T fuel ds=some r:=by
 obtain⟨n,e,J,st',I,E⟩:=K9 _ _ _ _ h;refine⟨n,?_⟩;unfold PF.run;rw[I n (Ax _)]
 cases e with
 |next=>exact E
 |ret=>exact E
 |exit id=>exact E.elim
 |panic t d=>exact E.elim
theorem Yy{R:D→St→Prop}(h:W G T F.code (Dc ds) st (@GQ F.res ⟨R⟩)):∃ fuel r st',(∀ m,fuel≤m→F.runI G T m ds st=some (r,st'))∧R r st':=by
 obtain⟨n,e,I,st',J,E⟩:=K9 _ _ _ _ h
 have key:∀ (E:@on _ (D8 ⟨I,st'⟩ F.res) ⟨fun l=>R (DS l) st'⟩) (he:e=.next∨e=.ret),∃ fuel r st',(∀ m,fuel≤m→F.runI G T m ds st=some (r,st'))∧R r st':=by
  intro E he;unfold on at E
  split at E
  ·rename_i l hl;refine⟨n,DS l,st',fun m hm=>?_,E⟩;unfold PF.runI;grind
  ·grind
 cases e with
 |next=>exact key E (.inl rfl)
 |ret=>exact key E (.inr rfl)
 |exit id=>exact E.elim
 |panic t d=>exact E.elim
def Np[X:XC0](e:Ex)(_:Frame)(st:St):Prop:=match e with
 |.panic t d=>X.run t d st
 |_=>False
theorem yXn(X:Nat→D→St→Prop)(t:Nat)(d:D)(fr:Frame)(st:St):@Np ⟨X⟩ (.panic t d) fr st=X t d st:=(rfl)
theorem Ycr(h:W G T F.code (Dc ds) st (@Np ⟨X⟩)):∃ fuel t d st',(∀ m,fuel≤m→F.runX G T m ds st=some (t,d,st'))∧X t d st':=by
 obtain⟨n,e,J,st',I,E⟩:=K9 _ _ _ _ h
 cases e with
 |panic t d=>exact⟨n,t,d,st',fun m hm=>by unfold PF.runX; rw[I m hm],E⟩
 |_=>exact E.elim
def O8(h:Nat→D→List D→St→Option St)(das:List D)(res:List PRes)[R:Cont2 D St](e:Ex)(fr:Frame)(st:St):Prop:=match e with
 |.exit _=>False
 |.panic t d=>@on _ (h t d das st) ⟨fun st3=>@on _ (D8 ⟨fr,st3⟩ res) ⟨fun l=>R.run (DS l) st3⟩⟩
 |_=>@on _ (D8 ⟨fr,st⟩ res) ⟨fun l=>R.run (DS l) st⟩
theorem Yl0(h:Nat→D→List D→St→Option St)(E:List D)(res:List PRes)(R:D→St→Prop)(fr:Frame)(st:St):@O8 h E res ⟨R⟩ .ret fr st=@on _ (D8 ⟨fr,st⟩ res) ⟨fun l=>R (DS l) st⟩:=(rfl)
theorem Yc3(h:Nat→D→List D→St→Option St)(E:List D)(res:List PRes)(R:D→St→Prop)(fr:Frame)(st:St):@O8 h E res ⟨R⟩ .next fr st=@on _ (D8 ⟨fr,st⟩ res) ⟨fun l=>R (DS l) st⟩:=(rfl)
theorem yXp(h:Nat→D→List D→St→Option St)(E:List D)(res:List PRes)(R:D→St→Prop)(t:Nat)(d:D)(fr:Frame)(st:St) :
  @O8 h E res ⟨R⟩ (.panic t d) fr st=@on _ (h t d E st) ⟨fun I=>@on _ (D8 ⟨fr,I⟩ res) ⟨fun l=>R (DS l) I⟩⟩:=(rfl)
def Rq(h:Nat→D→List D→St→Option St)(das:List D)(res:List PRes)(r:D)(e:Ex)(fr:Frame)(st:St):Prop:=match e with
 |.exit _=>False
 |.panic t d=>@on _ (h t d das st) ⟨fun st3=>(FV ⟨fr,st3⟩ res).map DS=some r⟩
 |_=>(FV ⟨fr,st⟩ res).map DS=some r
theorem Yc4(h:Nat→D→List D→St→Option St)(E:List D)(res:List PRes)(r:D)(fr:Frame)(st:St):Rq h E res r .ret fr st=((FV ⟨fr,st⟩ res).map DS=some r):=(rfl)
theorem yXq(h:Nat→D→List D→St→Option St)(E:List D)(res:List PRes)(r:D)(fr:Frame)(st:St):Rq h E res r .next fr st=((FV ⟨fr,st⟩ res).map DS=some r):=(rfl)
theorem yQx(h:Nat→D→List D→St→Option St)(E:List D)(res:List PRes)(r:D)(t:Nat)(d:D)(fr:Frame)(st:St):Rq h E res r (.panic t d) fr st=@on _ (h t d E st) ⟨fun I=>(FV ⟨fr,I⟩ res).map DS=some r⟩:=(rfl)
def RB(G:Dj)(T:Tbl)(F:PFD)(H:IY)(ds:List D)(st:St)(K:(Nat→D→List D→St→Option St)→List D→Ex→Frame→St→Prop):Prop:=
 @H4 G T F.pre (Dc ds) st ⟨fun fr1 st1=>@on _ (Oo (Du G fr1 F.hf) (F.ha.map (Du G fr1))) ⟨fun p=>@on _ (H p.1) ⟨fun h=>@wW G T F.code fr1 st1 ⟨K h p.2⟩⟩⟩⟩
theorem Yct{F:PFD}{H:IY}{K:(Nat→D→List D→St→Option St)→List D→Ex→Frame→St→Prop}(h:RB G T F H ds st K) :
  ∃ n s1 f M J e I st',E6 G T F.pre ⟨Dc ds,st⟩=some s1∧Oo (Du G s1.fr F.hf) (F.ha.map (Du G s1.fr))=some (f,M)∧H f=some J∧(∀ m,n≤m→F.code.exec G T m s1=some (e,⟨I,st'⟩))∧K J M e I st':=by
 obtain⟨fr1,st1,U,E⟩:=UC _ _ _ _ h;simp only at E;unfold on at E
 split at E
 case h_2=>exact E.elim
 rename_i p V;simp only at E
 split at E
 case h_2=>exact E.elim
 rename_i J Y;obtain⟨n,e,I,st',h3,h4⟩:=K9 _ _ _ _ (show W G T F.code fr1 st1 (K J p.2)from E);exact⟨n,⟨fr1,st1⟩,p.1,p.2,J,e,I,st',U,V,Y,h3,h4⟩
theorem Yyj(fs:List (Option Foot))(g:Option Foot):Oh fs g []=true:=(rfl)
theorem Yps(fs:List (Option Foot))(g:Option Foot)(j:Nat)(r:List Nat):Oh fs g (j::r)=(lE fs[j]? g && Oh fs g r):=(rfl)
theorem YE1(f g:Foot):lE (some (some f)) (some g)=f.ok g:=(rfl)
theorem Ws(r w I w':List Nat)(m E:Option Nat):Foot.ok ⟨r,w,m⟩ ⟨I,w',E⟩=(Ic w' r && Ic w' w && Ic w I && Lq m I && Lq m w' && Lq E r && Lq E w && (m.isNone || E.isNone)):=(rfl)
theorem Yqt(b:List Nat):Ic [] b=true:=(rfl)
theorem Yjz(k:Nat)(a b:List Nat):Ic (k::a) b=(!b.contains k && Ic a b):=by simp[Ic]
theorem Yav(a:List Nat):Lq none a=true:=(rfl)
theorem Yau(n:Nat):Lq (some n) []=true:=(rfl)
theorem yS7(n k:Nat)(a:List Nat):Lq (some n) (k::a)=(decide (k<n) && Lq (some n) a):=(rfl)
theorem Yhj:Pz=⟨[],[],none⟩:=(rfl)
theorem Yd7:Hp (none:Option α)=[]:=(rfl)
theorem Yd6(x:α):Hp (some x)=[x]:=(rfl)
section
variable (ρ:PA→D) (st:St)
theorem Ygw(n:Nat)(p x:PA):POp.foot ρ st (.stor n p x)=some ⟨hk (ρ x),hk (ρ p),none⟩:=(rfl)
theorem Yo7(x:PA):POp.foot ρ st (.box x)=some ⟨[],[],some st.length⟩:=(rfl)
theorem yZr(a b:Nat)(z:D)(l c:PA):POp.foot ρ st (.mkslc a b z l c)=some ⟨[],[],some st.length⟩:=(rfl)
theorem yZs(f:Nat)(l:List PA):POp.foot ρ st (.mcall f l)=some ⟨[],[],some st.length⟩:=(rfl)
def RU(st:St)(s x:D):Option Foot:=match s with
 |.row key _ _ _=>some ⟨hk x,[key],none⟩
 |_=>some ⟨hk x,[],Gq x st.length⟩
theorem Yq1(key tot off len:Nat)(x:D):RU st (.row key tot off len) x=some ⟨hk x,[key],none⟩:=(rfl)
theorem Yq0(sz:Nat)(els:List D)(t:Bool)(x:D):RU st (.slc sz els t) x=some ⟨hk x,[],Gq x st.length⟩:=(rfl)
theorem Yqy(sz:Nat)(t:Bool)(n:Nat):Gq (.slc sz [] t) n=none:=(rfl)
theorem Yj3(sz:Nat)(a:D)(l:List D)(t:Bool)(n:Nat):Gq (.slc sz (a::l) t) n=some n:=(rfl)
theorem Yqx(key tot off len n:Nat):Gq (.row key tot off len) n=some n:=(rfl)
theorem Yqz(key off m sz:Nat)(ag:Bool)(n:Nat):Gq (.bsl key off m sz ag) n=some n:=(rfl)
theorem Yqw(s:List UInt8)(n:Nat):Gq (.str s) n=some n:=(rfl)
theorem Yo8(a b:Nat)(s x:PA):POp.foot ρ st (.app a b s x)=RU st (ρ s) (ρ x):=(rfl)
theorem Ygz(n:Nat)(ag:Bool)(x:PA):POp.foot ρ st (.load n ag x)=some ⟨hk (ρ x),[],none⟩:=by simp[POp.foot,POp.args]
theorem Ygx(x:PA):POp.foot ρ st (.nilc x)=some ⟨Mh (ρ x),[],none⟩:=(rfl)
theorem Yuv(key off:Nat):Mh (.ptr key off)=[]:=(rfl)
theorem Ylw(E:D)(off:Nat):Mh (.eptr E off)=[]:=(rfl)
theorem Ylv(key tot i off:Nat):Mh (.rptr key tot i off)=[key]:=(rfl)
theorem Yo6(n:Nat)(x:PA):POp.foot ρ st (.fld n x)=some ⟨Mh (ρ x),[],none⟩:=(rfl)
theorem Yg0(n m:Nat)(x i:PA):POp.foot ρ st (.idxA n m x i)=some ⟨Mh (ρ x),[],none⟩:=(rfl)
theorem yZq(n:Nat)(x:PA)(a b c:Option PA):POp.foot ρ st (.slice n x a b c)=some ⟨((x::(Hp a++Hp b++Hp c)).map ρ).flatMap hk,[],none⟩:=(rfl)
theorem Yg1(f:Nat)(l:List PA):POp.foot ρ st (.call f l)=some ⟨(l.map ρ).flatMap hk,[],none⟩:=(rfl)
theorem Yg2(n:Nat)(l:List PA):POp.foot ρ st (.bslc n l)=some ⟨(l.map ρ).flatMap hk,[],none⟩:=(rfl)
end
attribute [irreducible] kF Gp wF Je dW X8 on TE HM ev Qw Fj kG kV GA W Ta Mj Dp GQ wW H4 Ej Jh MK Qp JG TD Np O8 Rq
def Ep:D→Bool
 |.int _ _ | .bool _ | .str _ | .clo _ [] | .nilf | .nilp=>true
 |.slc sz els t=>!t && nz sz els == sz
 |_=>false
def I0:D→Bool
 |.agg l=>l.all Ep
 |d=>Ep d
variable {d:D}
theorem eV(st:St)(h:Ep d=true):DC st d=some d:=by
 cases d with
 |clo f l=>cases l <;> simp_all [Ep,DC,D.pure1]
 |slc sz els t=>simp_all [Ep,DC]
 |_=>simp_all [Ep,DC,D.pure1]
theorem SS(st:St):∀ {l:List D},l.all Ep=true→D3 st l=some l
 |[],_=>rfl
 |d::l,h=>by
  simp only[AY,Ac]at h;simp only[D3,eV st h.1,SS st h.2]
theorem QU(st:St)(h:I0 d=true):DV st d=some d:=by
 cases d with
 |agg l=>simp only[DV,SS st h,Ae]
 |tup l=>simp[I0,Ep]at h
 |_=>exact eV st (by simpa only[I0]using h)
theorem eW(h:Ep d=true):Fs d=[]:=by
 cases d <;> simp_all [Ep,Fs]
theorem Qa(h:I0 d=true):keys d=[]:=by
 cases d with
 |agg l=>
  simp only[keys,B8];simp only[I0,Ag]at h;exact fun d E=>eW (h d E)
 |_=>exact eW (by simpa only[I0]using h)
theorem tR(h:Ep d=true):DE d=[]:=by
 cases d with
 |clo f l=>cases l <;> simp_all [Ep,DE]
 |_=>simp_all [Ep,DE,GB]
theorem TY(h:I0 d=true):hk d=[]:=by
 cases d with
 |agg l=>
  simp only[hk,B8];simp only[I0,Ag]at h;exact fun d E=>tR (h d E)
 |_=>exact tR (by simpa only[I0]using h)
theorem vF(n:Nat)(σ:List Nat)(h:Ep d=true):EI n σ d=d:=by
 cases d with
 |clo f l=>cases l <;> simp_all [Ep,EI]
 |_=>simp_all [Ep,EI,GR]
theorem QV(n:Nat)(σ:List Nat)(h:I0 d=true):Eu n σ d=d:=by
 cases d with
 |agg l=>
  simp only[Eu,D.agg.injEq];simp only[I0,Ag]at h
  have:∀ l:List D,(∀ d∈l,Ep d=true)→l.map (EI n σ)=l:=by
   intro l
   induction l with
   |nil=>intro _; rfl
   |cons a l E=>intro h; simp only[Aw,vF n σ (h a (by simp)),E fun d I=>h d (by simp[I])]
  grind
 |tup l=>simp[I0,Ep]at h
 |_=>exact vF n σ (by simpa only[I0]using h)
structure Dig where
 bs:List UInt8
 len:bs.length=32
 deriving DecidableEq
def Dt:Dig:=⟨CQ 32 0,by simp⟩
instance:Inhabited Dig:=⟨Dt⟩
theorem Dig.ext'{a b:Dig}(h:a.bs=b.bs):a=b:=by
 cases a; cases b; simp_all
def C8(d:Dig):List D:=d.bs.map Dn
def C9(d:Dig):D:=.agg (C8 d)
theorem D1(d:Dig):(C8 d).length=32:=by simp[C8,d.len]
theorem sC{a b:UInt8}(h:Dn a=Dn b):a=b:=by
 simp only[Dn,D.int.injEq,true_and]at h;exact UInt8.toNat_inj.1 (by omega)
theorem PJ{α β:Type}{f:α→β}(I:∀ a b,f a=f b→a=b):∀ {l E:List α},l.map f=E.map f→l=E
 |[],[],_=>rfl
 |[],_::_,h=>by cases h
 |_::_,[],h=>by cases h
 |a::l,b::E,h=>by
  simp only[Aw,Aa]at h;rw[I _ _ h.1,PJ I h.2]
variable {b:List UInt8}
theorem QY{a:List UInt8}(h:a.map Dn=b.map Dn):a=b:=PJ (fun _ _=>sC) h
theorem qK{a b:Dig}(h:C9 a=C9 b):a=b:=by
 simp only[C9,C8,D.agg.injEq]at h;exact Dig.ext' (QY h)
theorem LC{a b:Dig}(h:C8 a=C8 b):a=b:=Dig.ext' (QY h)
theorem KW{p:D→Bool}(E:∀ b,p (Dn b)=true)(d:Dig):(C8 d).all p=true:=by
 simp only[C8,Ag,AU];grind
theorem IF(d:Dig):(C8 d).all D.isCell=true:=KW (fun _=>rfl) d
theorem Uz(d:Dig):(C8 d).all Ep=true:=KW (fun _=>rfl) d
theorem Q8(d:Dig):I0 (C9 d)=true:=Uz d
theorem P8(d:Dig):(C9 d).cells=C8 d:=(rfl)
theorem vn(d:Dig):(C9 d).noRef=true:=KW (fun _=>rfl) d
theorem bC(d:Dig):D.mk true (C8 d)=C9 d:=(rfl)
theorem Yvt(x:D)(l:List D):D.mk true (x::l)=.agg (x::l):=(rfl)
theorem YCv(x:D)(l:List D):D.mk false (x::l)=x:=(rfl)
theorem Yzp(d:Dig):D.agg (C8 d)=C9 d:=(rfl)
theorem Ykc:[D.int .u8 0,.int .u8 0,.int .u8 0,.int .u8 0,.int .u8 0,.int .u8 0,.int .u8 0,.int .u8 0,.int .u8 0,.int .u8 0,.int .u8 0,.int .u8 0,.int .u8 0,.int .u8 0,.int .u8 0,.int .u8 0,.int .u8 0,.int .u8 0,.int .u8 0,.int .u8 0,.int .u8 0,.int .u8 0,.int .u8 0,.int .u8 0,.int .u8 0,.int .u8 0,.int .u8 0,.int .u8 0,.int .u8 0,.int .u8 0,.int .u8 0,.int .u8 0]=C8 Dt:=(rfl)
theorem Ub(d:Dig):(C8 d).take 32=C8 d:=AE (by rw[D1]; exact Ax _)
theorem ZB(h:Ep d=true):I0 d=true:=by
 cases d with
 |agg l=>simp[Ep]at h
 |_=>exact h
theorem Mb(n:Nat)(σ:List Nat):∀ {l:List D},l.all Ep=true→l.map (Eu n σ)=l
 |[],_=>rfl
 |d::l,h=>by
  simp only[AY,Ac]at h;simp only[Aw,QV n σ (ZB h.1),Mb n σ h.2]
theorem MG:∀ {l:List D},l.all Ep=true→l.flatMap hk=[]
 |[],_=>rfl
 |d::l,h=>by
  simp only[AY,Ac]at h;simp only[Au,TY (ZB h.1),MG h.2,Ai]
theorem Ymb(n:Nat)(σ:List Nat)(d:Dig):(C8 d).map (Eu n σ)=C8 d:=Mb n σ (Uz d)
theorem Yor(d:Dig):(C8 d).flatMap hk=[]:=MG (Uz d)
theorem Yw3(st:St)(d:Dig):DV st (C9 d)=some (C9 d):=QU st (Q8 d)
theorem qC(d:Dig):keys (C9 d)=[]:=Qa (Q8 d)
theorem YEa(d:Dig):hk (C9 d)=[]:=TY (Q8 d)
theorem rE(n:Nat)(σ:List Nat)(d:Dig):Eu n σ (C9 d)=C9 d:=QV n σ (Q8 d)
theorem Yy9(d:Dig):DG (C9 d)=some (C8 d):=by
 simp only[DG,P8,IF,if_true]
theorem nk:∀ (n:Nat) (a b:List UInt8),a.length=n→b.length=n→E0 (CQ n 0) (a.map Dn) (b.map Dn)=some (decide (a=b))
 |0,[],[],_,_=>rfl
 |0,_::_,_,h,_=>by cases h
 |0,[],_::_,_,h=>by cases h
 |n+1,[],_,h,_=>by cases h
 |n+1,_::_,[],_,h=>by cases h
 |n+1,a::l,b::I,h,E=>by
  simp only[An,Nat.add_right_cancel_iff]at h E;simp only[B0,Aw,E0,nk n l I h E];simp only[I3,Dn,if_true]
  congr 1
  by_cases e:a=b
  ·grind
  ·have:¬ ((a.toNat:Int)=(b.toNat:Int)):=fun h=>e (UInt8.toNat_inj.1 (by omega));grind
theorem vu(a b:Dig):E0 (CQ 32 0) (C8 a) (C8 b)=some (decide (a=b)):=by
 rw[C8,C8,nk 32 a.bs b.bs a.len b.len]
 congr 1
 by_cases e:a=b
 ·grind
 ·have E:¬ a.bs=b.bs:=fun h=>e (Dig.ext' h);simp[e,E]
theorem yK(E:Bool)(a b:Dig):GU [0,0,0,0,0,0,0,0,0,0,0,0,0,0,0,0,0,0,0,0,0,0,0,0,0,0,0,0,0,0,0,0] E (C9 a) (C9 b)=some (.bool (decide (a=b) != E)):=by
 show(E0 (CQ 32 0) (C8 a) (C8 b)).map _=_
 rw[vu]; rfl
theorem getElem?_getD[Inhabited α](l:List α)(i:Nat)(h:i<l.length):l[i]?=some (l.getD i default):=by
 grind
theorem uk[Inhabited α](l:List α)(i:Nat)(h:i<l.length):l.take (i+1)=l.take i++[l.getD i default]:=by
 simp_all
theorem sP[Inhabited α](l:List α)(i:Nat)(h:i<l.length):l.drop i=l.getD i default::l.drop (i+1):=by
 simp_all
theorem vH(l xs:List D)(h:l.length=xs.length):FM l 0 xs=xs:=by
 simp[FM,h]
theorem vI(a b:Dig):FM (C8 a) 0 (C8 b)=C8 b:=vH _ _ (by rw[D1,D1])
theorem yQa(x:D)(l ys:List D)(n:Nat):FM (x::l) (n+1) ys=x::FM l n ys:=by
 simp[FM,Nat.add_right_comm]
def DA(o:Option Obj)(n:Nat)(ag:Bool)(off:Nat):Option D:=if !ag && n != 1 then none else o.bind fun o=>if !o.row && decide (off+n≤o.els.length)then some (.mk ag ((o.els.drop off).take n))else none
def DR(o:Option Obj)(n:Nat)(off:Nat)(x:D):Option Obj:=o.bind fun o=>if !o.row && !o.lent && decide (off+n≤o.els.length) && x.cells.length == n && x.cells.all D.isCell then some {o with els:=FM o.els off x.cells} else none
theorem Ydm(st:St)(n:Nat)(ag:Bool)(key off:Nat):Fy st n ag (.ptr key off)=DA st[key]? n ag off:=by
 simp only[Fy,DA];grind
theorem Ydk(st:St)(n:Nat)(key off:Nat)(x:D):MN st n (.ptr key off) x=(DR st[key]? n off x).map fun o=>st.set key o:=by
 simp only[MN,DR];grind
section
variable {α:Type} (sz:Nat) (lent:Bool)
theorem MA(x:D)(l:List D):DA (some ⟨false,sz,x::l,lent⟩) 1 false 0=some x:=by
 rfl
theorem qG(x:D)(l:List D)(n:Nat)(ag:Bool)(off:Nat):DA (some ⟨false,sz,x::l,lent⟩) n ag (off+1)=DA (some ⟨false,sz,l,lent⟩) n ag off:=by
 simp only[DA,Bo,List.drop_succ_cons,An];grind
theorem Ywe(d:Dig):DA (some ⟨false,sz,C8 d,lent⟩) 32 true 0=some (C9 d):=by
 simp[DA,D1,Ub,bC]
theorem SO(x:D)(d:Dig):DA (some ⟨false,sz,x::C8 d,lent⟩) 33 true 0=some (.agg (x::C8 d)):=by
 simp[DA,D1,Ub,D.mk]
theorem zH{α:Type}[Inhabited α](f:α→D)(E:List α)(i:Nat)(h:i<E.length):DA (some ⟨false,sz,E.map f,lent⟩) 1 false i=some (f (E.getD i default)):=by
 have I:i+1≤E.length:=h
 have:(E.map f).drop i=f (E.getD i default)::(E.map f).drop (i+1):=by
  rw[← Co,sP E i h,Aw,Co]
 simp[DA,this,D.mk,I]
theorem Lz(cs:List D)(n:Nat)(h:cs.length=n):DA (some ⟨false,sz,cs,lent⟩) n true 0=some (.agg cs):=by
 subst h; simp[DA,D.mk]
theorem yY6{α:Type}(f:α→D)(E:List α)(n:Nat)(h:E.length=n):DA (some ⟨false,sz,E.map f,lent⟩) n true 0=some (.agg (E.map f)):=
 Lz sz lent _ n (by simpa using h)
theorem Yb0(x v:D)(l:List D)(hv:v.isCell=true):DR (some ⟨false,sz,x::l,false⟩) 1 0 v=some ⟨false,sz,v::l,false⟩:=by
 simp[DR,Re hv,hv,FM]
theorem Yul(x:D)(k:IntKind)(n:Int)(l:List D):DR (some ⟨false,sz,x::l,false⟩) 1 0 (.int k n)=some ⟨false,sz,.int k n::l,false⟩:=Yb0 sz _ _ _ rfl
theorem Yuk(x:D)(key tot off len:Nat)(l:List D):DR (some ⟨false,sz,x::l,false⟩) 1 0 (.row key tot off len)=some ⟨false,sz,.row key tot off len::l,false⟩:=Yb0 sz _ _ _ rfl
theorem Yum(d e:Dig):DR (some ⟨false,sz,C8 d,false⟩) 32 0 (C9 e)=some ⟨false,sz,C8 e,false⟩:=by
 simp[DR,D1,P8,IF,vI]
theorem Lx(cs ds:List D)(n:Nat)(h:cs.length=n)(E:ds.length=n)(hc:ds.all D.isCell=true):DR (some ⟨false,sz,cs,false⟩) n 0 (.agg ds)=some ⟨false,sz,ds,false⟩:=by
 subst h;simp[DR,D.cells,E,hc,vH _ _ E.symm]
theorem YV(x:D)(k:IntKind)(m:Int)(d e:Dig):DR (some ⟨false,sz,x::C8 d,false⟩) 33 0 (.agg (.int k m::C8 e))=some ⟨false,sz,.int k m::C8 e,false⟩:=
 Lx sz _ _ 33 (by simp[D1]) (by simp[D1]) (by simp[IF,D.isCell])
theorem Ybz(f:α→D)(I:∀ a,(f a).isCell=true)(E:List α)(i:Nat)(v:α)(h:i<E.length):DR (some ⟨false,sz,E.map f,false⟩) 1 i (f v)=some ⟨false,sz,(E.set i v).map f,false⟩:=by
 have J:i+1≤E.length:=h
 have M:FM (E.map f) i [f v]=(E.set i v).map f:=by
  rw[List.map_set,FM,B9];simp[h]
 simp[DR,Re (I v),I v,J,M]
theorem Yle(E:List UInt8)(i:Nat)(v:UInt8)(h:i<E.length):DR (some ⟨false,sz,E.map Dn,false⟩) 1 i (Dn v)=some ⟨false,sz,(E.set i v).map Dn,false⟩:=Ybz sz Dn (fun _=>rfl) E i v h
theorem Yld(E:List UInt32)(i:Nat)(v:UInt32)(h:i<E.length):DR (some ⟨false,sz,E.map wD,false⟩) 1 i (wD v)=some ⟨false,sz,(E.set i v).map wD,false⟩:=Ybz sz wD (fun _=>rfl) E i v h
theorem YD{α:Type}(f:α→D)(I:∀ a,(f a).isCell=true)(E:List α):(E.map f).all D.isCell=true:=by
 grind
theorem Ylf(E vs:List UInt32)(n:Nat)(h:E.length=n)(I:vs.length=n):DR (some ⟨false,sz,E.map wD,false⟩) n 0 (.agg (vs.map wD))=some ⟨false,sz,vs.map wD,false⟩:=
 Lx sz _ _ n (by simpa using h) (by simpa using I) (YD wD (fun _=>rfl) vs)
theorem Ylg(E vs:List UInt8)(n:Nat)(h:E.length=n)(I:vs.length=n):DR (some ⟨false,sz,E.map Dn,false⟩) n 0 (.agg (vs.map Dn))=some ⟨false,sz,vs.map Dn,false⟩:=
 Lx sz _ _ n (by simpa using h) (by simpa using I) (YD Dn (fun _=>rfl) vs)
end
theorem yXz(st:St)(n:Nat)(ag:Bool)(key tot i off:Nat):Fy st n ag (.rptr key tot i off)=if !ag && n != 1 then none else(st[key]?).bind fun o=>if o.row && o.els.length == tot then(o.els[i]?).bind fun el=>if off+n≤el.cells.length then some (.mk ag ((el.cells.drop off).take n))else none else none:=by
 simp only[Fy];grind
theorem yX4(st:St)(d:Dig):Fy st 32 true (.eptr (C9 d) 0)=some (C9 d):=by
 simp[Fy,P8,D1,Ub,bC]
theorem QR(k:IntKind)(n:Int)(h:0≤n):FZ (.int k n)=some n.toNat:=by simp[FZ,h]
theorem yYn(k:IntKind):FZ (.int k 0)=some 0:=(rfl)
theorem PU(st:St)(n key off:Nat)(k:IntKind)(i:Int)(E:0≤i)(J:i<(n:Int)):Jm st n 1 (.ptr key off) (.int k i)=some (.ptr key (off+i.toNat)):=by
 have I:i.toNat<n:=by omega
 simp[Jm,QR k i E,I,FC]
theorem Ygk(st:St)(n off:Nat)(E:D)(k:IntKind)(i:Int)(I:0≤i)(M:i<(n:Int)):Jm st n 1 (.eptr E off) (.int k i)=some (.eptr E (off+i.toNat)):=by
 have J:i.toNat<n:=by omega
 simp[Jm,QR k i I,J,FC]
theorem yX2[Inhabited α](st:St)(f:α→D)(E:List α)(i:Nat)(h:i<E.length):Fy st 1 false (.eptr (.agg (E.map f)) i)=some (f (E.getD i default)):=by
 have:=zH 1 false f E i h;simpa[Fy,DA,D.cells]using this
theorem ja(st:St)(x:D)(h:x.isCell=true):Fy st 1 false (.eptr x 0)=some x:=by
 simp[Fy,Re h,D.mk]
theorem ft(st:St)(b:UInt8):Fy st 1 false (.eptr (Dn b) 0)=some (Dn b):=ja st _ rfl
theorem yX3(st:St)(k:IntKind)(n:Int):Fy st 1 false (.eptr (.int k n) 0)=some (.int k n):=ja st _ rfl
theorem Yoq[Inhabited α](st:St)(sz:Nat)(f:α→D)(l:List α)(t:Bool)(k:IntKind)(i:Int)(E:0≤i)(J:i<(l.length:Int)) :
  GM st sz (.slc sz (l.map f) t) (.int k i)=some (.eptr (f (l.getD i.toNat default)) 0):=by
 have I:i.toNat<l.length:=by omega
 simp only[GM,QR k i E,AD,getElem?_getD l i.toNat I,Ae,beq_self_eq_true,if_true]
theorem Yns(st:St)(sz:Nat)(els:List D)(t:Bool):E3 st false (.slc sz els t)=some (.int .i64 (els.length:Int)):=(rfl)
theorem Ynr(st:St)(s:List UInt8):E3 st true (.str s)=some (.int .i64 (s.length:Int)):=(rfl)
theorem Ynt(st:St)(key tot off len:Nat):E3 st false (.row key tot off len)=if E2 st key tot then some (.int .i64 (len:Int))else none:=by
 simp only[E3,Jz,Fb,beq_self_eq_true,if_true];grind
theorem Ymv(st:St)(sz bytes key tot:Nat)(x:D)(o:Obj)(xs:List D)(E:Nat)(I:st[key]?=some o)(J:o.row=true)(M:o.sz=sz)(U:o.els.length=tot)
  (V:Hh st x=some (E,xs)) (Y:E=sz∨xs=[]) (h0:sz≠0) (hb:(tot+xs.length)*bytes≤140737488355328) (hl:tot+xs.length≤4294967296) :
  Ek st sz bytes (.row key tot 0 tot) x=some (.row key (tot+xs.length) 0 (tot+xs.length),st.set key {o with els:=o.els++xs}):=by
 have e:(!(E == sz || xs.isEmpty) || sz == 0)=false:=by
  grind
 simp only[Ek,V,e,I,J,M,U,hb,hl,beq_self_eq_true,A9,decide_true,if_true,Al,if_false]
theorem ri(st:St)(sz bytes E:Nat)(els:List D)(x:D)(xs:List D)(I:Nat)(J:Hh st x=some (I,xs))(hs:I=sz∨xs=[])(V:E=sz∨els=[])(h0:sz≠0)(Y:xs≠[])
  (hb:(els.length+xs.length)*bytes≤140737488355328) (hl:els.length+xs.length≤4294967296) :
  Ek st sz bytes (.slc E els true) x=some (.row st.length (els.length+xs.length) 0 (els.length+xs.length),st++[{row:=true,sz,els:=els++xs,lent:=false}]):=by
 have M:xs.isEmpty=false:=by cases xs <;> simp_all
 have e:(!(I == sz || false) || sz == 0)=false:=by
  grind
 have U:(E == sz || els.isEmpty)=true:=by
  grind
 simp only[Ek,J,e,M,U,hb,hl,A9,decide_true,if_true,Al,if_false]
theorem rj(st:St)(sz bytes E:Nat)(els:List D)(x:D)(I:Nat)(J:Hh st x=some (I,[]))(M:sz≠0) :
  Ek st sz bytes (.slc E els true) x=some (.slc E els true,st):=by
 simp[Ek,J,M]
theorem vL:∀ (l:List D),Jy 1 false l l.length=l
 |[]=>rfl
 |a::l=>by simp[Jy,D.mk,vL l]
def D4(sz key:Nat)(els:List D):D:=if els.isEmpty then .slc sz [] true else .row key els.length 0 els.length
def Dz(sz:Nat)(els:List D):St:=if els.isEmpty then []else [{row:=true,sz,els,lent:=false}]
theorem pJ(sz key:Nat):D4 sz key []=.slc sz [] true:=(rfl)
theorem Ymw(st:St)(sz sz0 bytes:Nat)(els xs:List D)(x:D)(E:Nat)(I:Hh (st++Dz sz els) x=some (E,xs))(J:E=sz∨xs=[])(hs0:sz≠0)
  (hb:(els.length+xs.length)*bytes≤140737488355328) (hl:els.length+xs.length≤4294967296) :
  Ek (st++Dz sz els) sz bytes (D4 sz0 st.length els) x=some (D4 sz0 st.length (els++xs),st++Dz sz (els++xs)):=by
 cases els with
 |nil=>
  cases xs with
  |nil=>
   rw[pJ,rj _ _ _ _ _ _ E I hs0];rfl
  |cons a l=>
   rw[pJ,ri _ _ _ _ _ _ (a::l) E I J (.inr rfl) hs0 (by simp) (by simpa using hb) (by simpa using hl)];simp[D4,Dz]
 |cons e r=>
  have M:(st++Dz sz (e::r))[st.length]?=some {row:=true,sz,els:=e::r,lent:=false}:=by simp[Dz]
  have:=Ymv (st++Dz sz (e::r)) sz bytes st.length (e::r).length x _ xs E M rfl rfl rfl I J hs0 hb hl;simp only[D4,List.isEmpty_cons,Al,if_false,Ak]at this ⊢;rw[this];simp[Dz,Nat.add_right_comm]
theorem YB2(fr:Frame)(s t:Nat)(d:D):(fr.set s d) t=if t=s then d else fr t:=(rfl)
theorem YCw(s t:Nat)(d:D)(r:List (Nat×D)):Gf ((s,d)::r) t=if t=s then d else Gf r t:=(rfl)
attribute [push_cast] YGd yXl Yj Yku yW4 yW5 F4 Ytx VJ YEi Ywq Yyj Yps YE1 Ws Yqt Yjz Yav Yau yS7 Yhj Yd7 Yd6 Ygw Yo7 yZr yZs Yq1 Yq0 Yqy Yj3 Yqx Yqz Yqw Yo8 Ygz Ygx Yo6 Yg0 yZq Yg1 Yg2 Yuv Ylw Ylv Option.isNone_none Option.isNone_some
attribute [push_cast] zS Yvl Yna Yoo Ygh Yks yW1 yW2 Ywu Yoc YDv Ywo Ywr Yob WY WS YDk WZ W0 YDu YDm YDj YDl W1 W3 W5 lp YDs Ywn Ywl Yoa WW YDr YDp YDq WV YDo WU YDn W4 lu WT Ywm Yws Ywt Ywp YDt WX Ymj Ymk YB2 Wj Wk YCw YF2 YF1 YF0 YFz YFy YFx YFw YFv YF8 Yi Yf Ybm Ybn Yk5 YGc Yzw Ym3 Yvh YCh YGb Yg Yly Yc0 rG tN Ykc
attribute [push_cast] Yw4 Xq YEt yYb yRg yYc YEs YEr YEq Yw3 qC YEa rE D1 IF P8 vn bC Yzp Yvt YCv Ub Yy9 yK yX4 Ydm Ydk MA qG Ywe SO zH yY6 Yul Yuk Yum YV Yle Yld Ylf Ylg ft yX3 yX2 Yns Ynr
theorem zK(st:St)(k:IntKind)(n:Int):DV st (.int k n)=some (.int k n):=(rfl)
theorem Yol(st:St)(b:Bool):DV st (.bool b)=some (.bool b):=(rfl)
theorem Ywy(st:St)(s:List UInt8):DV st (.str s)=some (.str s):=(rfl)
theorem Ywz(st:St)(sz:Nat)(els:List D)(t:Bool):DV st (.slc sz els t)=some (.slc (nz sz els) els false):=(rfl)
theorem Yw0(st:St)(key tot off len:Nat):DV st (.row key tot off len)=(HR st key tot off len).map fun p=>.slc (nz p.1 p.2) p.2 false:=(rfl)
theorem zw(st:St)(l:List D):DV st (.agg l)=(D3 st l).map .agg:=(rfl)
theorem Yom(st:St):D3 st []=some []:=(rfl)
theorem tF(st:St)(d:D)(l:List D):D3 st (d::l)=(DC st d).bind fun x=>(D3 st l).map (x::·):=by
 simp only[D3]
 cases DC st d with
 |none=>rfl
 |some x=>cases D3 st l <;> rfl
theorem Yof(st:St):Em st []=some []:=(rfl)
theorem Yf6(st:St)(d:D)(l:List D):Em st (d::l)=(DV st d).bind fun x=>(Em st l).map (x::·):=by
 simp only[Em]
 cases DV st d with
 |none=>rfl
 |some x=>cases Em st l <;> rfl
theorem qh(st:St)(d:Dig):D3 st (C8 d)=some (C8 d):=SS st (Uz d)
theorem Yo0(s:PS):FV s []=some []:=(rfl)
theorem Ygs(s:PS)(r:PRes)(l:List PRes):FV s (r::l)=(r.get s).bind fun x=>(FV s l).map (x::·):=by
 simp only[FV]
 cases r.get s with
 |none=>rfl
 |some x=>cases FV s l <;> rfl
theorem Yxs(fr:Frame)(st:St)(t:Nat):PRes.get ⟨fr,st⟩ (.tmp t)=DV st (fr t):=(rfl)
theorem Yo3(fr:Frame)(st:St)(t n:Nat)(ag:Bool):PRes.get ⟨fr,st⟩ (.cell t n ag)=(Fy st n ag (fr t)).bind fun d=>DV st d:=by
 simp only[PRes.get];grind
theorem jd(s:PS):D8 s []=some []:=(rfl)
theorem je(fr:Frame)(st:St)(t:Nat)(l:List PRes):D8 ⟨fr,st⟩ (.tmp t::l)=(D8 ⟨fr,st⟩ l).map (fr t::·):=(rfl)
theorem Ymz(d:D):DS [d]=d:=(rfl)
theorem Ymy(a b:D)(l:List D):DS (a::b::l)=.tup (a::b::l):=(rfl)
theorem Ym0:DS []=.tup []:=(rfl)
theorem Yem(k:IntKind)(n:Int):(D.int k n).noRef=true:=(rfl)
theorem yYk(b:Bool):(D.bool b).noRef=true:=(rfl)
theorem Yel(sz:Nat)(els:List D)(t:Bool):(D.slc sz els t).noRef=false:=(rfl)
theorem qE(k:IntKind)(n:Int):keys (.int k n)=[]:=(rfl)
theorem Yfr(b:Bool):keys (.bool b)=[]:=(rfl)
theorem Yn3(s:List UInt8):keys (.str s)=[]:=(rfl)
theorem Yn4(sz:Nat)(els:List D)(t:Bool):keys (.slc sz els t)=[]:=(rfl)
theorem Yn5(key tot off len:Nat):keys (.row key tot off len)=[key]:=(rfl)
theorem YD9(k:IntKind)(n:Int):hk (.int k n)=[]:=(rfl)
theorem Yxf(b:Bool):hk (.bool b)=[]:=(rfl)
theorem YD3(s:List UInt8):hk (.str s)=[]:=(rfl)
theorem YD4(sz:Nat)(els:List D)(t:Bool):hk (.slc sz els t)=[]:=(rfl)
theorem YD5(key tot off len:Nat):hk (.row key tot off len)=[key]:=(rfl)
theorem YD6(key off:Nat):hk (.ptr key off)=[key]:=(rfl)
theorem YD2(l:List D):hk (.tup l)=[]:=(rfl)
theorem Yxc:hk .junk=[]:=(rfl)
theorem Yu1(n:Nat)(σ:List Nat)(k:IntKind)(m:Int):Eu n σ (.int k m)=.int k m:=(rfl)
theorem Yl7(n:Nat)(σ:List Nat)(b:Bool):Eu n σ (.bool b)=.bool b:=(rfl)
theorem Yux(n:Nat)(σ:List Nat)(s:List UInt8):Eu n σ (.str s)=.str s:=(rfl)
theorem Yuy(n:Nat)(σ:List Nat)(sz:Nat)(els:List D)(t:Bool):Eu n σ (.slc sz els t)=.slc sz els t:=(rfl)
theorem Yuz(n:Nat)(σ:List Nat)(key tot off len:Nat):Eu n σ (.row key tot off len)=Jq (fun k=>.row k tot off len) (EW n σ key):=(rfl)
theorem Yu0(n:Nat)(σ:List Nat)(key off:Nat):Eu n σ (.ptr key off)=Jq (fun k=>.ptr k off) (EW n σ key):=(rfl)
theorem yRj(f:Nat→D)(k:Nat):Jq f (some k)=f k:=(rfl)
theorem Yqp(k:IntKind)(n:Int):DG (.int k n)=some [.int k n]:=(rfl)
theorem Yjs(b:Bool):DG (.bool b)=some [.bool b]:=(rfl)
theorem Yqo(sz:Nat)(els:List D)(t:Bool):DG (.slc sz els t)=some [.slc sz els t]:=(rfl)
theorem Yh7(k:IntKind)(n:Int):(D.int k n).cells=[.int k n]:=(rfl)
theorem Yad(b:Bool):(D.bool b).cells=[.bool b]:=(rfl)
theorem Yh4(sz:Nat)(els:List D)(t:Bool):(D.slc sz els t).cells=[.slc sz els t]:=(rfl)
theorem Yh5(key tot off len:Nat):(D.row key tot off len).cells=[.row key tot off len]:=(rfl)
theorem Yh8(l:List D):(D.agg l).cells=l:=(rfl)
theorem eQ(k:IntKind)(n:Int):(D.int k n).isCell=true:=(rfl)
theorem yR8(b:Bool):(D.bool b).isCell=true:=(rfl)
theorem yZd(sz:Nat)(els:List D)(t:Bool):(D.slc sz els t).isCell=true:=(rfl)
theorem yZe(key tot off len:Nat):(D.row key tot off len).isCell=true:=(rfl)
theorem YA2(b:Bool):Nr .not (.bool b)=some (.bool !b):=(rfl)
theorem Yzd(k:IntKind)(a b:Int):Ds .lss (.int k a) (.int k b)=some (.bool (decide (a<b))):=by simp only[Ds,if_true,JK,Ae]
theorem Yze(k:IntKind)(a b:Int):Ds .leq (.int k a) (.int k b)=some (.bool (decide (a≤b))):=by simp only[Ds,if_true,JK,Ae]
theorem Yzf(k:IntKind)(a b:Int):Ds .gtr (.int k a) (.int k b)=some (.bool (decide (b<a))):=by simp only[Ds,if_true,JK,Ae,gt_iff_lt]
theorem Yzg(k:IntKind)(a b:Int):Ds .geq (.int k a) (.int k b)=some (.bool (decide (b≤a))):=by simp only[Ds,if_true,JK,Ae,ge_iff_le]
theorem yE(k:IntKind)(a b:Int):Ds .eql (.int k a) (.int k b)=some (.bool (decide (a=b))):=by
 simp only[Ds,if_true,JK,Ae];rfl
theorem Yzc(k:IntKind)(a b:Int):Ds .neq (.int k a) (.int k b)=some (.bool (!decide (a=b))):=by
 simp only[Ds,if_true,JK,Ae];rfl
theorem Yqs(E a b:Bool):Ns E (.bool a) (.bool b)=some (.bool ((a == b) != E)):=(rfl)
theorem YCu(k k':IntKind)(a b:Int):TF true (.int k a) (.int k' b)=some (.int k (max a b)):=by
 simp only[TF,if_true]
 congr 2
 omega
theorem YCt(k k':IntKind)(a b:Int):TF false (.int k a) (.int k' b)=some (.int k (min a b)):=by
 simp only[TF,Al,if_false]
 congr 2
 omega
theorem Yvs(k k' E:IntKind)(a b c:Int):Pa true (.int k a) (.int k' b) (.int E c)=some (.int k (max (max a b) c)):=by
 simp only[Pa,Nv,if_true]
 congr 2
 omega
theorem Ymq(st:St)(off key o:Nat):FC st off (.ptr key o)=some (.ptr key (o+off)):=(rfl)
theorem Ydz(st:St)(off:Nat)(E:D)(o:Nat):FC st off (.eptr E o)=some (.eptr E (o+off)):=(rfl)
theorem Ynq(st:St):lend [] st=st:=(rfl)
theorem Ye8(k:Nat)(r:List Nat)(st:St):lend (k::r) st=lend r (st.modify k fun o=>{o with lent:=true}):=(rfl)
theorem yR6(b:Bool)(x:St):(if b=true then x else x)=x:=by cases b <;> rfl
theorem vE(n sz:Nat)(ag:Bool)(key off:Nat)(h:0<n):PL n sz ag (.ptr key off) none none=some (.bsl key off n sz ag):=by
 have:¬ 0=n:=by omega
 simp[PL,GC,this]
attribute [push_cast] zK Yol Ywy Ywz Yw0 zw Yom tF Yof Yf6 qh Yo0 Ygs Yxs Yo3 jd je Ymz Ymy Ym0 Yem yYk Yel qE Yfr Yn3 Yn4 Yn5 YD9 Yxf YD3 YD4 YD5 YD6 YD2 Yxc Yu1 Yl7 Yux Yuy Yuz Yu0 yRj Yqp Yjs Yqo Yh7 Yad Yh4 Yh5 Yh8 eQ yR8 yZd yZe YA2 Yzd Yze Yzf Yzg yE Yzc Yqs YCu YCt Yvs Ymq Ydz Ynq Ye8 yR6 Option.map_some Option.map_none Option.bind_some Option.bind_none List.map_cons List.map_nil List.flatMap_cons List.flatMap_nil List.append_nil List.nil_append List.cons_append List.getElem?_cons_zero List.getElem?_cons_succ List.set_cons_zero List.set_cons_succ List.modify_zero_cons List.modify_succ_cons List.length_cons List.length_nil List.length_map List.take_zero List.take_succ_cons List.all_cons List.all_nil Nat.zero_add Nat.add_zero Bool.not_true Bool.not_false Bool.and_self Bool.true_and Bool.and_true Bool.false_and Bool.and_false Bool.or_false Bool.false_or Bool.true_or Bool.or_true Bool.not_not if_true if_false decide_true decide_false beq_self_eq_true Bool.false_eq_true Bool.true_eq_false ne_eq bne_self_eq_false Bool.bne_false Bool.bne_true Nat.lt_irrefl Nat.le_refl
def Nb(fr:Frame):List Nat→List Nat
 |[]=>[]
 |k::r=>hk (fr k)++Nb fr r
def JU(fr:Frame)(n:Nat)(σ:List Nat):List Nat→List (Nat×D)
 |[]=>[]
 |k::r=>(k,Eu n σ (fr k))::JU fr n σ r
def Jj:St→List Nat
 |[]=>[]
 |o::r=>(if o.row then []else o.els.flatMap hk)++Jj r
def LM(n:Nat)(σ:List Nat)(st:St):List Nat→St
 |[]=>[]
 |k::r=>Fg n σ (st.getD k default)::LM n σ st r
def JI(n:Nat)(σ:List Nat):St→St
 |[]=>[]
 |o::r=>Fg n σ o::JI n σ r
def Uo(keep:List Nat)(n m:Nat)(l:List Nat)(fr:Frame)(st:St):PS:=restrictAt keep n (E1 n m l []) ⟨fr,st⟩
theorem iG(fr:Frame):∀ keep:List Nat,Nb fr keep=keep.flatMap fun k=>hk (fr k)
 |[]=>rfl
 |k::r=>by rw[Nb,Au,iG fr r]
theorem yF:∀ st:St,Jj st=st.flatMap fun o=>if o.row then []else o.els.flatMap hk
 |[]=>rfl
 |k::r=>by rw[Jj,Au,yF r]
theorem TO(fr:Frame)(n:Nat)(σ:List Nat):∀ keep:List Nat,JU fr n σ keep=keep.map fun k=>(k,Eu n σ (fr k))
 |[]=>rfl
 |k::r=>by rw[JU,Aw,TO fr n σ r]
theorem iY(n:Nat)(σ:List Nat)(st:St):∀ l:List Nat,LM n σ st l=l.map fun k=>Fg n σ (st.getD k default)
 |[]=>rfl
 |k::r=>by rw[LM,Aw,iY n σ st r]
theorem cw(n:Nat)(σ:List Nat):∀ st:St,JI n σ st=st.map (Fg n σ)
 |[]=>rfl
 |k::r=>by rw[JI,Aw,cw n σ r]
def km(keep:List Nat)(n:Nat)(fr:Frame)(st:St):PS:=Uo keep n st.length (Nb fr keep++Jj (st.take n)) fr st
theorem yQz(keep:List Nat)(n:Nat)(fr:Frame)(st:St):restrict keep n ⟨fr,st⟩=km keep (if n≤st.length then n else st.length) fr st:=by
 simp only[restrict,km,Uo,UY,iG,yF]
theorem yMq(keep:List Nat)(n:Nat)(fr:Frame)(st:St):km keep n fr st=Uo keep n st.length (Nb fr keep++Jj (st.take n)) fr st:=(rfl)
def Up(keep:List Nat)(n:Nat)(σ:List Nat)(fr:Frame)(st:St):PS:=⟨Gf (JU fr n σ keep),JI n σ (st.take n)++LM n σ st σ⟩
theorem yMr(keep:List Nat)(n m:Nat)(l:List Nat)(fr:Frame)(st:St):Uo keep n m l fr st=Up keep n (E1 n m l []) fr st:=by
 simp only[Uo,restrictAt,Up,TO,picked,cw,iY]
theorem yJk(keep:List Nat)(n:Nat)(σ:List Nat)(fr:Frame)(st:St):restrictAt keep n σ ⟨fr,st⟩=Up keep n σ fr st:=by
 simp only[restrictAt,Up,TO,picked,cw,iY]
theorem yMp(keep:List Nat)(n:Nat)(σ:List Nat)(fr:Frame)(st:St):Up keep n σ fr st=⟨Gf (JU fr n σ keep),JI n σ (st.take n)++LM n σ st σ⟩:=(rfl)
theorem Ygq(fr:Frame):Nb fr []=[]:=(rfl)
theorem yZl(fr:Frame)(k:Nat)(r:List Nat):Nb fr (k::r)=hk (fr k)++Nb fr r:=(rfl)
theorem Ygr(fr:Frame)(n:Nat)(σ:List Nat):JU fr n σ []=[]:=(rfl)
theorem yZm(fr:Frame)(n:Nat)(σ:List Nat)(k:Nat)(r:List Nat):JU fr n σ (k::r)=(k,Eu n σ (fr k))::JU fr n σ r:=(rfl)
theorem Yqm:Jj []=[]:=(rfl)
theorem Yql(sz:Nat)(els:List D)(lent:Bool)(r:St):Jj ({row:=true,sz,els,lent}::r)=Jj r:=(rfl)
theorem Yqn(sz:Nat)(els:List D)(lent:Bool)(r:St):Jj ({row:=false,sz,els,lent}::r)=els.flatMap hk++Jj r:=(rfl)
theorem Ydw(n:Nat)(σ:List Nat)(st:St):LM n σ st []=[]:=(rfl)
theorem yYa(n:Nat)(σ:List Nat)(st:St)(k:Nat)(r:List Nat):LM n σ st (k::r)=Fg n σ (st.getD k default)::LM n σ st r:=(rfl)
theorem Yl8(n:Nat)(σ:List Nat):JI n σ []=[]:=(rfl)
theorem Yc8(n:Nat)(σ:List Nat)(o:Obj)(r:St):JI n σ (o::r)=Fg n σ o::JI n σ r:=(rfl)
theorem Ykx(lo hi:Nat)(E:List Nat):E1 lo hi [] E=E:=(rfl)
theorem Ybe(lo hi k:Nat)(r E:List Nat):E1 lo hi (k::r) E=E1 lo hi r (if lo≤k∧k<hi∧E.contains k=false then E++[k]else E):=(rfl)
theorem Yu6(n:Nat)(σ:List Nat)(key:Nat):EW n σ key=if key<n then some key else Qm σ n key:=(rfl)
theorem Ymm(k k':Nat)(r:List Nat)(b:Nat):Qm (k::r) b k'=if k'=k then some b else Qm r (b+1) k':=(rfl)
theorem Yl9(n:Nat)(σ:List Nat)(sz:Nat)(els:List D)(lent:Bool):Fg n σ {row:=true,sz,els,lent}={row:=true,sz,els,lent}:=(rfl)
theorem Yma(n:Nat)(σ:List Nat)(sz:Nat)(els:List D)(lent:Bool):Fg n σ {row:=false,sz,els,lent}={row:=false,sz,els:=els.map (Eu n σ),lent}:=(rfl)
theorem Ymf(n:Nat)(σ:List Nat)(k:IntKind)(m:Int):EI n σ (.int k m)=.int k m:=(rfl)
theorem Ydc(n:Nat)(σ:List Nat)(b:Bool):EI n σ (.bool b)=.bool b:=(rfl)
theorem Ymd(n:Nat)(σ:List Nat)(sz:Nat)(els:List D)(t:Bool):EI n σ (.slc sz els t)=.slc sz els t:=(rfl)
theorem Ymc(n:Nat)(σ:List Nat)(s:List UInt8):EI n σ (.str s)=.str s:=(rfl)
theorem Yme(n:Nat)(σ:List Nat)(key tot off len:Nat):EI n σ (.row key tot off len)=Jq (fun k=>.row k tot off len) (EW n σ key):=(rfl)
theorem Yxj(k:IntKind)(m:Int):DE (.int k m)=[]:=(rfl)
theorem Yot(b:Bool):DE (.bool b)=[]:=(rfl)
theorem Yxh(sz:Nat)(els:List D)(t:Bool):DE (.slc sz els t)=[]:=(rfl)
theorem Yxg(s:List UInt8):DE (.str s)=[]:=(rfl)
theorem Yxi(key tot off len:Nat):DE (.row key tot off len)=[key]:=(rfl)
theorem YEd(key off m sz:Nat)(ag:Bool):hk (.bsl key off m sz ag)=[key]:=(rfl)
theorem Yw7(key tot i off:Nat):hk (.rptr key tot i off)=[key]:=(rfl)
theorem Yxb(key:Nat):hk (.mapv key)=[key]:=(rfl)
theorem Yxa:hk .nilf=[]:=(rfl)
theorem Yw8:hk .nilp=[]:=(rfl)
theorem Yw9:hk .nilm=[]:=(rfl)
theorem Yxd(l:List (Int×Nat)):hk (.gmap l)=[]:=(rfl)
theorem Yl6(n:Nat)(σ:List Nat)(l:List (Int×Nat)):Eu n σ (.gmap l)=.gmap l:=(rfl)
theorem Yl2(n:Nat)(σ:List Nat):Eu n σ .nilm=.nilm:=(rfl)
theorem Yl5(n:Nat)(σ:List Nat)(key:Nat):Eu n σ (.mapv key)=Jq .mapv (EW n σ key):=(rfl)
theorem Yl3(n:Nat)(σ:List Nat):Eu n σ .nilf=.nilf:=(rfl)
theorem Yl1(n:Nat)(σ:List Nat):Eu n σ .nilp=.nilp:=(rfl)
def S0(keep:List Nat)(n:Nat)[Inv:InvC][Q:QC](e:Ex)(fr:Frame)(st:St):Prop:=match e with
 |.next=>Inv.run (restrict keep n ⟨fr,st⟩)
 |e=>Q.run e fr st
def aQ(s:PS)[Inv:InvC]:Prop:=Inv.run s
theorem yYu(keep:List Nat)(n:Nat)(E:PS→Prop)(Q:QC)(fr:Frame)(st:St):@S0 keep n ⟨E⟩ Q .next fr st=@aQ (restrict keep n ⟨fr,st⟩) ⟨E⟩:=(rfl)
theorem yYv(keep:List Nat)(n:Nat)(E:InvC)(Q:Ex→Frame→St→Prop)(I:Nat)(fr:Frame)(st:St):@S0 keep n E ⟨Q⟩ (.exit I) fr st=Q (.exit I) fr st:=(rfl)
theorem Ye1(keep:List Nat)(n:Nat)(E:InvC)(Q:Ex→Frame→St→Prop)(fr:Frame)(st:St):@S0 keep n E ⟨Q⟩ .ret fr st=Q .ret fr st:=(rfl)
theorem yRu(keep:List Nat)(n:Nat)(E:InvC)(Q:Ex→Frame→St→Prop)(t:Nat)(d:D)(fr:Frame)(st:St):@S0 keep n E ⟨Q⟩ (.panic t d) fr st=Q (.panic t d) fr st:=(rfl)
theorem FQ(E:ι→List (Nat×D))(I:ι→St)(P:ι→Prop)(μ:ι→Nat)(J:ι)
  (U:restrict keep st.length ⟨fr,st⟩=⟨Gf (E J),I J⟩) (V:P J)
  (M:∀ i,P i→@wW G T c (Gf (E i)) (I i) ⟨@S0 keep st.length ⟨fun s=>∃ j,(P j∧μ j<μ i)∧s=⟨Gf (E j),I j⟩⟩ ⟨Q⟩⟩):@wW G T (.loop keep c) fr st ⟨Q⟩:=by
 refine Td (YGa E I P μ J U V fun i hi=>KQ c _ _ _ _ (Hv (M i hi)) fun e Y st' h=>?_)
 cases e with
 |next=>
  obtain⟨j,⟨h1,h2⟩,h3⟩:=h;grind
 |exit id=>exact h
 |ret=>exact h
 |panic t d=>exact h
theorem EV{E:ι→List (Nat×D)}{I:ι→St}{P m:ι→Prop}{s:PS}(j:ι)(J:P j)(M:m j)(U:s=⟨Gf (E j),I j⟩):@aQ s ⟨fun s=>∃ j,(P j∧m j)∧s=⟨Gf (E j),I j⟩⟩:=⟨j,⟨J,M⟩,U⟩
def Ti(keep:List Nat)[Inv:InvC][Q:QC](e:Ex)(fr:Frame)(st:St):Prop:=match e with
 |.next=>Inv.run (keepAll keep ⟨fr,st⟩)
 |e=>Q.run e fr st
theorem yRv(keep:List Nat)(E:PS→Prop)(Q:QC)(fr:Frame)(st:St):@Ti keep ⟨E⟩ Q .next fr st=@aQ (keepAll keep ⟨fr,st⟩) ⟨E⟩:=(rfl)
theorem yRw(keep:List Nat)(E:InvC)(Q:Ex→Frame→St→Prop)(I:Nat)(fr:Frame)(st:St):@Ti keep E ⟨Q⟩ (.exit I) fr st=Q (.exit I) fr st:=(rfl)
theorem yYw(keep:List Nat)(E:InvC)(Q:Ex→Frame→St→Prop)(fr:Frame)(st:St):@Ti keep E ⟨Q⟩ .ret fr st=Q .ret fr st:=(rfl)
theorem yNh(keep:List Nat)(E:InvC)(Q:Ex→Frame→St→Prop)(t:Nat)(d:D)(fr:Frame)(st:St):@Ti keep E ⟨Q⟩ (.panic t d) fr st=Q (.panic t d) fr st:=(rfl)
def SZ(fr:Frame):List Nat→List (Nat×D)
 |[]=>[]
 |k::l=>(k,fr k)::SZ fr l
theorem Yfu(fr:Frame):SZ fr []=[]:=(rfl)
theorem yZa(fr:Frame)(k:Nat)(l:List Nat):SZ fr (k::l)=(k,fr k)::SZ fr l:=(rfl)
theorem qy(fr:Frame):∀ l,l.map (fun k=>(k,fr k))=SZ fr l
 |[]=>rfl
 |k::l=>by rw[Aw,qy fr l]; rfl
theorem yZc(keep:List Nat)(fr:Frame)(st:St):keepAll keep ⟨fr,st⟩=⟨Gf (SZ fr keep),st⟩:=by
 rw[← qy]; rfl
theorem Yra(E:ι→List (Nat×D))(I:ι→St)(P:ι→Prop)(μ:ι→Nat)(J:ι)
  (U:keepAll keep ⟨fr,st⟩=⟨Gf (E J),I J⟩) (V:P J)
  (M:∀ i,P i→@wW G T c (Gf (E i)) (I i) ⟨@Ti keep ⟨fun s=>∃ j,(P j∧μ j<μ i)∧s=⟨Gf (E j),I j⟩⟩ ⟨Q⟩⟩):@wW G T (.loopA keep c) fr st ⟨Q⟩:=by
 refine Td (Yzv E I P μ J U V fun i hi=>KQ c _ _ _ _ (Hv (M i hi)) fun e Y st' h=>?_)
 cases e with
 |next=>
  obtain⟨j,⟨h1,h2⟩,h3⟩:=h;grind
 |exit id=>exact h
 |ret=>exact h
 |panic t d=>exact h
def LU:PC→Bool
 |.seq a b | .cond _ a b=>LU a && LU b
 |.block _ c=>LU c
 |.loop _ _ | .loopA _ _ | .range _ _ _ _ | .alt _ _=>false
 |_=>true
theorem vQ(m J:Nat):∀ (c:PC),LU c=true→∀ s,c.exec G T m s=c.exec G T J s:=by
 intro c
 induction c with
 |seq a b E I=>
  intro h s;simp only[LU,Ac]at h;simp only[PC.exec,E h.1 s];grind
 |cond x a b E I=>
  intro h s;simp only[LU,Ac]at h;simp only[PC.exec,E h.1 s,I h.2 s]
 |block id c M=>
  intro h s;simp only[LU]at h;simp only[PC.exec,M h s]
 |loop=>intro h; simp[LU]at h
 |loopA=>intro h; simp[LU]at h
 |range=>intro h; simp[LU]at h
 |alt=>intro h; simp[LU]at h
 |_=>intro _ s; rfl
def U7(k:Nat)(r:D)(st':St):Ex→St→Prop
 |.next,st2=>r=.bool true∧st'=st2.set k (recO 0)
 |.ret,st2=>r=.bool false∧st'=st2.set k (recO 1)
 |_,_=>False
theorem dw{a b:PC}(J:LU a=true)(hb:LU b=true){k:Nat}{r:D}(hl:ds.length=ps.length)
  (h:@wW G T a (JH fr ps ds) st ⟨fun e fr1 st1=>e=.next∧recAt st1 k=some 0∧@wW G T b fr1 (st1.set k (recO 2)) ⟨fun e _ st2=>U7 k r st' e st2⟩⟩) (m:Nat) :
  K6 (a.exec G T m) (b.exec G T m) fr ps k ds st=some (r,st'):=by
 obtain⟨n,e,fr1,st1,M,rfl,U,V⟩:=K9 _ _ _ _ (Hv h);obtain⟨I,Y,fr2,st2,h3,E⟩:=K9 _ _ _ _ (Hv V);unfold K6;rw[if_pos hl,vQ m n a J,M n (Ax _)];simp only;rw[if_pos U,vQ m I b hb,h3 I (Ax _)]
 cases Y with
 |next=>obtain⟨rfl,rfl⟩:=E; rfl
 |ret=>obtain⟨rfl,rfl⟩:=E; rfl
 |exit id=>exact E.elim
 |panic t d=>exact E.elim
theorem gg{x:PA}{a b:PC}{f:Nat}{E:List D}{sp:(List D→St→Option (D×St))→List D→St→Option (D×St)}{e:Ex}
  (I:Du G fr x=.clo f E) (J:f<5000000) (M:T.r f=some sp) (h:∀ m,sp (K6 (a.exec G T m) (b.exec G T m) fr ps st.length) E (st++[recO 0])=some (d,st')) (U:X6 st' st.length=some e) (V:Q e fr (st'.set st.length (recO 2))):@wW G T (.range x ps a b) fr st ⟨Q⟩:=by
 refine Td (Yrb (fun m=>?_) U V);simp only[TV,I,if_pos J,M,h m,Ae]
theorem kD(T:Tbl)(l:Nat)(y:List D→St→Option (D×St)):(Qq T l y).p=T.p:=(rfl)
theorem kH(T:Tbl)(l:Nat)(y:List D→St→Option (D×St)):(Qq T l y).i=T.i:=(rfl)
theorem kE(T:Tbl)(l:Nat)(y:List D→St→Option (D×St)):(Qq T l y).m=T.m:=(rfl)
theorem zc(T:Tbl)(f:Nat)(E:List D)(h:f<5000000):JQ T (.clo f E)=(T.i f).map fun sp=>(sp,[],E):=by
 simp only[JQ,if_pos h]
theorem P7(T:Tbl)(f f':Nat)(E:List D)(h:f=f'+5000000)(I:f'<5000000):JQ T (.clo f E)=(T.i f').map fun sp=>(sp,E,[]):=by
 subst h;simp only[JQ,if_neg (show ¬ f'+5000000<5000000 by omega),if_pos (show f'+5000000<10000000 by omega),Cq]
theorem Vl(f:Nat)(E ds:List D)(h:f<5000000):Ph (.clo f E) ds=some (f,ds++E):=by
 simp only[Ph,if_pos h]
theorem yZ8(T:Tbl)(l:Nat)(y:List D→St→Option (D×St)):JQ (Qq T l y) (.clo (10000000+l) [])=some (y,[],[]):=by
 unfold JQ;have E:¬ 10000000+l<5000000:=by omega
 simp only[E,Nat.not_lt.2 (Nat.le_add_right 10000000 l),if_false,CD,if_true,Nat.add_sub_cancel_left,Qq]
theorem Yf2(k:IntKind)(n:Int):LK (.int k n)=true:=(rfl)
theorem yZf(k:IntKind)(n:Int):LK (.agg [.int k n])=true:=(rfl)
attribute [push_cast] yXa YF9 Yh Yd4 Ya9 yPw yPx yW3 Ym9 Yef yYq yYr yYo yYp yXn Yl0 Yc3 yXp Yc4 yXq yQx Yf2 yZf
attribute [irreducible] Ti
attribute [push_cast] yRv yRw yYw Yfu yZa yZc kD kH kE zc P7 yZ8 Vl Ytw
attribute [irreducible] S0 aQ
attribute [push_cast] yYu yYv Ye1 yRu yNh
attribute [push_cast] YEd Yw7 Yxb Yxa Yw8 Yw9 Yxd Yl6 Yl2 Yl5 Yl3 Yl1 Ymb Yor
attribute [push_cast] yJk yQz yMq yMr yMp Ygq yZl Ygr yZm Yqm Yql Yqn Ydw yYa Yl8 Yc8 Ykx Ybe Yu6 Ymm Yl9 Yma Ymf Ydc Ymd Ymc Yme Yxj Yot Yxh Yxg Yxi List.getD_cons_zero List.getD_cons_succ List.contains_nil List.contains_cons false_and and_false and_true true_and and_self Int.toNat_natCast Int.cast_ofNat_Int Int.toNat_zero Int.toNat_one
noncomputable def Dl{α:Type}(enc:α→List D)(pre:α→Prop)(f:α→D):List D→Option D:=
 fun ds=>@dite _ (∃ a,enc a=ds∧pre a) (Classical.propDecidable _) (fun h=>some (f h.choose)) (fun _=>none)
theorem jk{enc:α→List D}{pre:α→Prop}{f:α→D}(h:Dl enc pre f ds=some d):∃ a,enc a=ds∧pre a∧f a=d:=by
 unfold Dl at h
 split at h
 ·grind
 ·cases h
theorem D5{enc:α→List D}{pre:α→Prop}{f:α→D}(E:∀ a b,enc a=enc b→a=b)(a:α)(I:pre a):Dl enc pre f (enc a)=some (f a):=by
 have J:∃ b,enc b=enc a∧pre b:=⟨a,rfl,I⟩;unfold Dl;grind
def El{α:Type}:List (Nat×α)→Nat→Option α
 |[],_=>none
 |(k,a)::r,n=>if n=k then some a else El r n
def tb(l:List (Nat×(List D→Option D)))(li:List (Nat×(List D→St→Option (D×St))))(lm:List (Nat×(List D→Option ((Nat→D)×(Nat→List Obj)))):=[]):Tbl:={p:=El l,i:=El li,m:=El lm}
theorem kN(l:List (Nat×(List D→Option D)))(li:List (Nat×(List D→St→Option (D×St))))(E:List (Nat×(List D→Option ((Nat→D)×(Nat→List Obj)))))(n:Nat):(tb l li E).p n=El l n:=(rfl)
theorem V2(l:List (Nat×(List D→Option D)))(li:List (Nat×(List D→St→Option (D×St))))(E:List (Nat×(List D→Option ((Nat→D)×(Nat→List Obj)))))(n:Nat):(tb l li E).i n=El li n:=(rfl)
theorem kO(l:List (Nat×(List D→Option D)))(li:List (Nat×(List D→St→Option (D×St))))(E:List (Nat×(List D→Option ((Nat→D)×(Nat→List Obj)))))(n:Nat):(tb l li E).m n=El E n:=(rfl)
theorem Yno(n:Nat):El ([]:List (Nat×α)) n=none:=(rfl)
theorem tr(k:Nat)(a:α)(r:List (Nat×α))(n:Nat):El ((k,a)::r) n=if n=k then some a else El r n:=(rfl)
theorem Jt{α:Type}:∀ {l:List (Nat×α)} {n:Nat} {a:α},El l n=some a→(n,a)∈l
 |[],_,_,h=>by cases h
 |(k,b)::r,n,a,h=>by
  simp only[El]at h
  split at h
  ·grind
  ·exact Am _ (Jt h)
variable {li:List (Nat×(List D→St→Option (D×St)))}{l:List (Nat×(List D→Option D))}{P:Program}
theorem DI(h:∀ x∈l,Contract P G x.1 x.2)(hi:∀ x∈li,IContract P G x.1 x.2)(I:l.all (fun x=>decide (x.1<50000000))=true:=by rfl):TblOK P G (tb l li):=
 ⟨fun _ _ E=>.inl ⟨of_decide_eq_true (Ag.1 I _ (Jt E)),h _ (Jt E)⟩,fun _ _ E=>hi _ (Jt E),fun _ _ E=>(by cases E),fun _ _ E=>(by cases E),fun _ _ E=>(by cases E),fun _ _ E=>(by cases E)⟩
def TB(l:List (Nat×(List D→Option D)))(li:List (Nat×(List D→St→Option (D×St))))(lr:List (Nat×((List D→St→Option (D×St))→List D→St→Option (D×St)))):Tbl:={p:=El l,i:=El li,m:=fun _=>none,r:=El lr}
theorem VT(l:List (Nat×(List D→Option D)))(li:List (Nat×(List D→St→Option (D×St))))(E:List (Nat×((List D→St→Option (D×St))→List D→St→Option (D×St))))(n:Nat):(TB l li E).p n=El l n:=(rfl)
theorem VU(l:List (Nat×(List D→Option D)))(li:List (Nat×(List D→St→Option (D×St))))(E:List (Nat×((List D→St→Option (D×St))→List D→St→Option (D×St))))(n:Nat):(TB l li E).i n=El li n:=(rfl)
theorem VS(l:List (Nat×(List D→Option D)))(li:List (Nat×(List D→St→Option (D×St))))(E:List (Nat×((List D→St→Option (D×St))→List D→St→Option (D×St))))(n:Nat):(TB l li E).r n=El E n:=(rfl)
theorem xX{I:List (Nat×((List D→St→Option (D×St))→List D→St→Option (D×St)))}(h:∀ x∈l,Contract P G x.1 x.2)(hi:∀ x∈li,IContract P G x.1 x.2)
  (M:∀ x∈I,Ut P G x.1 x.2) (J:l.all (fun x=>decide (x.1<50000000))=true:=by rfl):TblOK P G (TB l li I):=
 ⟨fun _ _ E=>.inl ⟨of_decide_eq_true (Ag.1 J _ (Jt E)),h _ (Jt E)⟩,fun _ _ E=>hi _ (Jt E),fun _ _ E=>(by cases E),fun _ _ E=>M _ (Jt E),fun _ _ E=>(by cases E),fun _ _ E=>(by cases E)⟩
def MP(l:List (Nat×(List D→Option D)))(li:List (Nat×(List D→St→Option (D×St))))(lx:List (Nat×(List D→St→Option (Nat×D×St)))):Tbl:={p:=El l,i:=El li,m:=fun _=>none,x:=El lx}
theorem VQ(l:List (Nat×(List D→Option D)))(li:List (Nat×(List D→St→Option (D×St))))(E:List (Nat×(List D→St→Option (Nat×D×St))))(n:Nat):(MP l li E).p n=El l n:=(rfl)
theorem VR(l:List (Nat×(List D→Option D)))(li:List (Nat×(List D→St→Option (D×St))))(E:List (Nat×(List D→St→Option (Nat×D×St))))(n:Nat):(MP l li E).i n=El li n:=(rfl)
theorem VP(l:List (Nat×(List D→Option D)))(li:List (Nat×(List D→St→Option (D×St))))(E:List (Nat×(List D→St→Option (Nat×D×St))))(n:Nat):(MP l li E).x n=El E n:=(rfl)
theorem Ox{I:List (Nat×(List D→St→Option (Nat×D×St)))}(h:∀ x∈l,Contract P G x.1 x.2)(hi:∀ x∈li,IContract P G x.1 x.2)
  (M:∀ x∈I,Q6 P G x.1 x.2) (J:l.all (fun x=>decide (x.1<50000000))=true:=by rfl):TblOK P G (MP l li I):=
 ⟨fun _ _ E=>.inl ⟨of_decide_eq_true (Ag.1 J _ (Jt E)),h _ (Jt E)⟩,fun _ _ E=>hi _ (Jt E),fun _ _ E=>(by cases E),fun _ _ E=>(by cases E),fun _ _ E=>M _ (Jt E),fun _ _ E=>(by cases E)⟩
def RC(l:List (Nat×(List D→Option D)))(li:List (Nat×(List D→St→Option (D×St))))(lq:List (Nat×(List D→List (Option (Bool×Nat×List D))→Option D))):Tbl:={p:=El l,i:=El li,m:=fun _=>none,q:=El lq}
theorem VW(l:List (Nat×(List D→Option D)))(li:List (Nat×(List D→St→Option (D×St))))(E:List (Nat×(List D→List (Option (Bool×Nat×List D))→Option D)))(n:Nat):(RC l li E).p n=El l n:=(rfl)
theorem VX(l:List (Nat×(List D→Option D)))(li:List (Nat×(List D→St→Option (D×St))))(E:List (Nat×(List D→List (Option (Bool×Nat×List D))→Option D)))(n:Nat):(RC l li E).i n=El li n:=(rfl)
theorem VV(l:List (Nat×(List D→Option D)))(li:List (Nat×(List D→St→Option (D×St))))(E:List (Nat×(List D→List (Option (Bool×Nat×List D))→Option D)))(n:Nat):(RC l li E).q n=El E n:=(rfl)
theorem mY{I:List (Nat×(List D→List (Option (Bool×Nat×List D))→Option D))}(h:∀ x∈l,Contract P G x.1 x.2)(hi:∀ x∈li,IContract P G x.1 x.2)
  (M:∀ x∈I,IContract P G x.1 (fun ds st=>(I2 x.2 ds st).map (·,st))) (J:l.all (fun x=>decide (x.1<50000000))=true:=by rfl):TblOK P G (RC l li I):=
 ⟨fun _ _ E=>.inl ⟨of_decide_eq_true (Ag.1 J _ (Jt E)),h _ (Jt E)⟩,fun _ _ E=>hi _ (Jt E),fun _ _ E=>(by cases E),fun _ _ E=>(by cases E),fun _ _ E=>(by cases E),fun _ _ E=>M _ (Jt E)⟩
theorem all_nil{p:α→Prop}:∀ x∈([]:List α),p x:=fun _ h=>by cases h
theorem all_cons{p:α→Prop}{a:α}{l:List α}(h:p a)(hl:∀ x∈l,p x):∀ x∈a::l,p x:=by
 grind
theorem Ed{il:List Nat}{f:Nat}{hints:List (List Nat)}(E:DB P il f hints=some F)(I:TblOK P G T){enc:α→List D}{pre:α→Prop}{r:α→D}
  (h:∀ a,pre a→@wW G T F.code (Dc (enc a)) [] ⟨Dp F.res (r a)⟩) (J:T.y=fun _ _ _=>none:=by rfl):Contract P G f (Dl enc pre r):=by
 refine p9 I J E fun ds d M=>?_;obtain⟨a,rfl,U,rfl⟩:=jk M;exact r9 (Hv (h a U))
theorem Kp{a b:List Dig}:a.map C9=b.map C9↔a=b:=⟨PJ fun _ _=>qK,fun h=>by rw[h]⟩
theorem La{a b:Dig}:C9 a=C9 b↔a=b:=⟨qK,fun h=>by rw[h]⟩
theorem L3{a b:Dig}:C8 a=C8 b↔a=b:=⟨LC,fun h=>by rw[h]⟩
theorem sD{a:List UInt8}:a.map Dn=b.map Dn↔a=b:=⟨QY,fun h=>by rw[h]⟩
theorem pL{a b:UInt8}:Dn a=Dn b↔a=b:=⟨sC,fun h=>by rw[h]⟩
theorem Ik(sz:Nat)(els:List D):nz (nz sz els) els=nz sz els:=by cases els <;> rfl
theorem YCm(sz:Nat):nz sz []=0:=(rfl)
theorem Yvn(sz:Nat)(a:D)(l:List D):nz sz (a::l)=sz:=(rfl)
theorem lV(sz:Nat)(els:List D):nz sz els=sz∨els=[]:=by cases els <;> simp[nz]
theorem Kj[Inhabited α](st:St)(sz:Nat)(f:α→D)(l:List α)(t:Bool)(k:IntKind)(i:Int)(E:0≤i)(I:i<(l.length:Int)) :
  GM st sz (.slc (nz sz (l.map f)) (l.map f) t) (.int k i)=some (.eptr (f (l.getD i.toNat default)) 0):=by
 have:nz sz (l.map f)=sz:=by
  rcases lV sz (l.map f)with h | h
  ·exact h
  ·have:l.length=0:=by simpa using congrArg List.length h
   omega
 rw[this];exact Yoq st sz f l t k i E I
attribute [push_cast] Ik YCm Yvn kN V2 kO VT VU VS VQ VR VP VW VX VV Yno tr List.map_nil
theorem rM(h:n≤64):min n.toNat 64=n.toNat:=by omega
variable {x:Int}{k k':IntKind}
theorem YBy(hk:k=.i64∨k=.u64)(I:0≤n)(E:n≤64):Ds .shr (.int k x) (.int k' n)=some (.int k (x / 2 ^ n.toNat)):=by
 have hb:k.bits=64:=by rcases hk with rfl | rfl <;> rfl
 simp only[Ds,Mu,show ¬ n<0 by omega,if_false,Ae,hb,rM E];grind
theorem Oc(E:0≤n)(I:n≤64):Ds .shr (.int .u64 x) (.int k' n)=some (.int .u64 (x / 2 ^ n.toNat)):=YBy (.inr rfl) E I
theorem Yb(E:0≤n)(I:n≤64):Ds .shr (.int .i64 x) (.int k' n)=some (.int .i64 (x / 2 ^ n.toNat)):=YBy (.inl rfl) E I
theorem Wi(M:0≤n)(E:n≤64)(I:-9223372036854775808≤x*2 ^ n.toNat)(J:x*2 ^ n.toNat<9223372036854775808):Ds .shl (.int .i64 x) (.int k' n)=some (.int .i64 (x*2 ^ n.toNat)):=by
 simp only[Ds,Mu,show ¬ n<0 by omega,if_false,Ae,show IntKind.bits .i64=64 from rfl,rM E,OM I J]
theorem gM(E:0≤n)(I:n≤62):Ds .shl (.int .i64 1) (.int k' n)=some (.int .i64 (2 ^ n.toNat)):=by
 have J:(2:Int) ^ n.toNat≤2 ^ 62:=by
  have M:(2:Nat) ^ n.toNat≤2 ^ 62:=Cn (by decide) (by omega);grind
 have U:(0:Int)≤2 ^ n.toNat:=Int.pow_nonneg (by decide);have:=Wi (x:=1) (k':=k') E (by omega) (by omega) (by rw[Int.one_mul]; omega);grind
theorem X5{b:Int}(hb:0<b)(E:0≤a)(J:a<9223372036854775808):Ds .quo (.int .i64 a) (.int .i64 b)=some (.int .i64 (a / b)):=by
 have I:a.tdiv b=a / b:=Bp E;have M:a / b≤a:=BY b E;have U:0≤a / b:=BB E (by omega);simp only[Ds,if_true,KS,show ¬ b=0 by omega,if_false,Ae,I,OM (show -9223372036854775808≤a / b by omega) (show a / b<9223372036854775808 by omega)]
theorem YCb{b:Int}(hb:0<b)(E:0≤a):Ds .rem (.int .i64 a) (.int .i64 b)=some (.int .i64 (a % b)):=by
 have I:a.tmod b=a % b:=Int.tmod_eq_emod_of_nonneg E;simp only[Ds,if_true,KS,show ¬ b=0 by omega,if_false,Ae,I]
theorem toNat_ofInt(E:0≤a)(I:a<9223372036854775808):(CR 64 a).toNat=a.toNat:=by
 grind
theorem Yzo(E:0≤a)(I:a<9223372036854775808):Ds .and (.int .i64 a) (.int .i64 1)=some (.int .i64 (a % 2)):=by
 have h:(CR (IntKind.bits .i64) a &&& CR (IntKind.bits .i64) 1).toNat=(a % 2).toNat:=by
  show(CR 64 a &&& CR 64 1).toNat=_
  rw[CE,toNat_ofInt E I,show(CR 64 1).toNat=2 ^ 1 - 1 from rfl,BH];omega
 simp only[Ds,if_true,K3,Ae,h];rw[OM (by omega) (by omega)]
 congr 2
 omega
theorem Yaz(E:0≤a)(I:a<9223372036854775808):Ds .xor (.int .i64 a) (.int .i64 1)=some (.int .i64 (if a % 2=0 then a+1 else a - 1)):=by
 have J:∀ n:Nat,n ^^^ 1=if n % 2=0 then n+1 else n - 1:=by
  intro n
  have M:(n ^^^ 1) % 2=(n+1) % 2:=by
   have:=Nat.testBit_xor n 1 0;grind
  have U:(n ^^^ 1) / 2=n / 2:=by
   apply Nat.eq_of_testBit_eq;grind
  grind
 have h:(CR (IntKind.bits .i64) a ^^^ CR (IntKind.bits .i64) 1).toNat=(if a % 2=0 then a+1 else a - 1).toNat:=by
  show(CR 64 a ^^^ CR 64 1).toNat=_
  rw[BitVec.toNat_xor,toNat_ofInt E I,show(CR 64 1).toNat=1 from rfl,J];grind
 simp only[Ds,if_true,K3,Ae,h];rw[OM (by split <;> omega) (by split <;> omega)]
 congr 2
 omega
theorem cu(st:St)(E:0≤a)(I:a<9223372036854775808):FJ st (.int .u64) (.int .i64 a)=some (.int .u64 a):=by
 obtain⟨n,rfl⟩:=A4 E;simp only[FJ,T9]
 congr 2
 omega
theorem ze(st:St)(I:0≤a)(E:a<9223372036854775808):FJ st (.int .i64) (.int k a)=some (.int .i64 a):=by
 simp only[FJ,OM (show -9223372036854775808≤a by omega) E]
theorem My(st:St)(E:0≤a):FJ st (.int .u8) (.int k a)=some (Dn (UInt8.ofNat a.toNat)):=by
 obtain⟨n,rfl⟩:=A4 E;rfl
theorem PO(st:St)(b:UInt8):FJ st (.int .i64) (Dn b)=some (.int .i64 (b.toNat:Int)):=by
 have:=b.toNat_lt;simp only[Dn];exact ze st (by omega) (by omega)
theorem Yw5(s:List UInt8)(k:IntKind)(i:Int)(E:0≤i)(J:i<(s.length:Int)):Kz (.str s) (.int k i)=some (Dn (s.getD i.toNat default)):=by
 have I:i.toNat<s.length:=by omega
 simp only[Kz,QR k i E,getElem?_getD s i.toNat I]
theorem Yop(s:List UInt8)(b:UInt8)(h:b.toNat<s.length):Kz (.str s) (Dn b)=some (Dn (s.getD b.toNat default)):=by
 have:=Yw5 s .u8 (b.toNat:Int) (by omega) (by omega);simpa[Dn]using this
theorem yXw{s:List UInt8}{h:Int}(E:0≤h)(I:h≤(s.length:Int)):Hb st 0 (.str s) none (some (.int k h)) none=some (.str (s.take h.toNat)):=by
 simp[Hb,GC,QR k h E];omega
theorem Yjd(st:St)(b:UInt8):DV st (Dn b)=some (Dn b):=(rfl)
theorem Yaq(b:UInt8):keys (Dn b)=[]:=(rfl)
theorem Yqj(b:UInt8):hk (Dn b)=[]:=(rfl)
theorem Yjc(n:Nat)(σ:List Nat)(b:UInt8):Eu n σ (Dn b)=Dn b:=(rfl)
theorem yS4(b:UInt8):(Dn b).cells=[Dn b]:=(rfl)
theorem yPi(b:UInt8):(Dn b).isCell=true:=(rfl)
theorem yS3(b:UInt8):(Dn b).noRef=true:=(rfl)
theorem Yje(b:UInt8):DG (Dn b)=some [Dn b]:=(rfl)
theorem yJ7(b:UInt8):Fi 1 [Dn b]=some (.slc 1 [Dn b] true):=(rfl)
theorem yNk(d:Dig):Fi 32 [C9 d]=some (.slc 32 [C9 d] true):=by
 simp[Fi,P8,D1]
theorem yZ7(st:St)(s:List UInt8):FJ st .bytes (.str s)=some (.slc 1 (s.map Dn) false):=(rfl)
theorem Ye4(a:Nat)(l:List D)(t:Bool):Fi 1 [.slc a l t]=some (.slc 1 [.slc a l t] true):=(rfl)
theorem Ye3(a b:Nat)(l m:List D)(t u:Bool):Fi 1 [.slc a l t,.slc b m u]=some (.slc 1 [.slc a l t,.slc b m u] true):=(rfl)
theorem Ye2(a b c:Nat)(l m n:List D)(t u v:Bool):Fi 1 [.slc a l t,.slc b m u,.slc c n v]=some (.slc 1 [.slc a l t,.slc b m u,.slc c n v] true):=(rfl)
theorem Ye5:Fi 1 []=some (.slc 1 [] true):=(rfl)
theorem yYz:Fi 32 []=some (.slc 32 [] true):=(rfl)
theorem J5(k:IntKind)(n:Int)(d:Dig):DG (.agg (.int k n::C8 d))=some (.int k n::C8 d):=by
 simp[DG,D.cells,IF,D.isCell]
theorem yOt(k:IntKind)(n:Int)(d:Dig):(D.agg (.int k n::C8 d)).noRef=true:=by
 have:=vn d;simp only[C9,D.noRef]at this;simp[D.noRef,D.noRef1,this]
theorem yR1(k:IntKind)(n:Int)(d:Dig):keys (.agg (.int k n::C8 d))=[]:=Qa (by simp[I0,Ep,Uz])
theorem ySf(k k':IntKind)(n m:Int)(z d:Dig):DL (.int k n::C8 z) [(0,1,.int k' m),(1,32,C9 d)]=some (.int k' m::C8 d):=by
 have I:FM (.int k n::C8 z) 0 [.int k' m]=.int k' m::C8 z:=rfl
 have J:FM (.int k' m::C8 z) 1 (C8 d)=.int k' m::C8 d:=by
  rw[show(1:Nat)=0+1 from rfl,yQa,vI]
 have E:(C8 d).length=32:=D1 d;have M:(C8 z).length=32:=D1 z;simp only[DL,P8,IF,E];have U:(D.int k' m).cells=[.int k' m]:=rfl;have V:(([D.int k' m].length == 1) && decide (0+1≤(D.int k n::C8 z).length) && [D.int k' m].all D.isCell)=true:=by simp[D.isCell]
 grind
attribute [push_cast] J5 yOt yR1 ySf
theorem iH(st:St)(k:IntKind)(n:Int):DC st (.int k n)=some (.int k n):=(rfl)
theorem Ygg(st:St)(b:Bool):DC st (.bool b)=some (.bool b):=(rfl)
theorem Yon(st:St)(s:List UInt8):DC st (.str s)=some (.str s):=(rfl)
theorem iI(st:St)(sz:Nat)(els:List D)(t:Bool):DC st (.slc sz els t)=some (.slc (nz sz els) els false):=(rfl)
attribute [push_cast] iH Ygg Yon iI Nat.zero_le
attribute [push_cast] Ye5 yYz yZ7 Ye4 Ye3 Ye2
theorem tv(f:α→D)(E:∀ a,Ep (f a)=true)(l:List α):(l.map f).all Ep=true:=by
 grind
theorem fj(l:List UInt8):(l.map Dn).all Ep=true:=tv Dn (fun _=>rfl) l
theorem fA(l:List UInt32):(l.map wD).all Ep=true:=tv wD (fun _=>rfl) l
theorem yZg(st:St)(l:List UInt32):D3 st (l.map wD)=some (l.map wD):=SS st (fA l)
theorem yZi(st:St)(l:List UInt8):D3 st (l.map Dn)=some (l.map Dn):=SS st (fj l)
theorem yXr(n:Nat)(σ:List Nat)(l:List UInt32):(l.map wD).map (Eu n σ)=l.map wD:=Mb n σ (fA l)
theorem yXs(n:Nat)(σ:List Nat)(l:List UInt8):(l.map Dn).map (Eu n σ)=l.map Dn:=Mb n σ (fj l)
theorem Ygn(l:List UInt32):(l.map wD).flatMap hk=[]:=MG (fA l)
theorem Ygp(l:List UInt8):(l.map Dn).flatMap hk=[]:=MG (fj l)
attribute [push_cast] yXr yXs Ygn Ygp
theorem yRm(l:List UInt32):(D.agg (l.map wD)).noRef=true:=by
 simp only[D.noRef,Ag,AU];rintro x ⟨a,_,rfl⟩;rfl
theorem Yjm(l:List UInt32):DG (.agg (l.map wD))=some (l.map wD):=by
 simp only[DG,D.cells,YD wD (fun _=>rfl),if_true]
theorem yg{a b:UInt32}(h:wD a=wD b):a=b:=by
 simp only[wD,D.int.injEq,true_and]at h;exact UInt32.toNat_inj.1 (by omega)
theorem Ykd{a b:UInt32}:wD a=wD b↔a=b:=⟨yg,fun h=>by rw[h]⟩
theorem Ya1{a b:List UInt32}:a.map wD=b.map wD↔a=b:=⟨PJ fun _ _=>yg,fun h=>by rw[h]⟩
theorem YAz(st:St)(b:UInt32):DV st (wD b)=some (wD b):=(rfl)
theorem Yty(b:UInt32):keys (wD b)=[]:=(rfl)
theorem Ykt(b:UInt32):(wD b).noRef=true:=(rfl)
theorem VK(b:UInt32):hk (wD b)=[]:=(rfl)
theorem YAy(n:Nat)(σ:List Nat)(b:UInt32):Eu n σ (wD b)=wD b:=(rfl)
def zW(n:Nat):List UInt32:=CQ n 0
theorem Ys0(n:Nat):D.int .u32 0::(zW n).map wD=(zW (n+1)).map wD:=(rfl)
theorem Ys1:[D.int .u32 0,.int .u32 0,.int .u32 0,.int .u32 0,.int .u32 0,.int .u32 0,.int .u32 0,.int .u32 0]=(zW 8).map wD:=(rfl)
theorem MF(f:α→D)(I:∀ a,(f a).isCell=true)(E:List α)(i:Nat)(v:α)(r:List (Nat×Nat×D))(h:i<E.length):DL (E.map f) ((i,1,f v)::r)=DL ((E.set i v).map f) r:=by
 have J:i+1≤E.length:=h
 have M:FM (E.map f) i [f v]=(E.set i v).map f:=by
  rw[List.map_set,FM,B9];simp[h]
 simp[DL,Re (I v),I v,J,M]
theorem NW(cs:List D):DL cs []=some cs:=(rfl)
theorem Xd(a b c d e f g h:UInt32):DL ((zW 8).map wD) [(0,1,wD a),(1,1,wD b),(2,1,wD c),(3,1,wD d),(4,1,wD e),(5,1,wD f),(6,1,wD g),(7,1,wD h)]=some ([a,b,c,d,e,f,g,h].map wD):=by
 have hf:∀ a,(wD a).isCell=true:=fun _=>rfl;rw[MF wD hf _ _ _ _ (by simp[zW]),MF wD hf _ _ _ _ (by simp[zW]),MF wD hf _ _ _ _ (by simp[zW]),MF wD hf _ _ _ _ (by simp[zW]),MF wD hf _ _ _ _ (by simp[zW]),MF wD hf _ _ _ _ (by simp[zW]),MF wD hf _ _ _ _ (by simp[zW]),MF wD hf _ _ _ _ (by simp[zW]),NW];rfl
theorem YBz(x:UInt32)(k:IntKind)(z:Int)(E:0≤z)(h:z<32):Ds .shl (wD x) (.int k z)=some (wD (x <<< UInt32.ofNat z.toNat)):=by
 obtain⟨n,rfl⟩:=A4 E;exact YB0 x k n (by omega)
theorem xN(x:UInt32)(k:IntKind)(z:Int)(E:0≤z)(h:z<32):Ds .shr (wD x) (.int k z)=some (wD (x >>> UInt32.ofNat z.toNat)):=by
 obtain⟨n,rfl⟩:=A4 E;exact YBw x k n (by omega)
theorem YBx(x:UInt64)(k:IntKind)(z:Int)(E:0≤z)(h:z<64):Ds .shr (qD x) (.int k z)=some (qD (x >>> C7 z.toNat)):=by
 obtain⟨n,rfl⟩:=A4 E;exact Wh x k n (by omega)
def LH(s:List UInt8):D:=.slc (nz 1 (s.map Dn)) (s.map Dn) false
theorem Yy7{a:List UInt8}(h:LH a=LH b):a=b:=by
 simp only[LH,D.slc.injEq]at h;exact QY h.2.1
theorem Yy6{a b:List (List UInt8)}:a.map LH=b.map LH↔a=b:=⟨PJ fun _ _=>Yy7,fun h=>by rw[h]⟩
theorem Ydn(st:St)(s:List UInt8):Fy st 1 false (.eptr (LH s) 0)=some (.slc (nz 1 (s.map Dn)) (s.map Dn) false):=ja st _ rfl
theorem V9(sz:Nat)(E I J M U V Y x7:D)(a b c d e f g h:UInt32):DR (some ⟨false,sz,[E,I,J,M,U,V,Y,x7],false⟩) 8 0 (.agg [wD a,wD b,wD c,wD d,wD e,wD f,wD g,wD h])=some ⟨false,sz,[wD a,wD b,wD c,wD d,wD e,wD f,wD g,wD h],false⟩:=Lx sz _ _ 8 rfl rfl rfl
attribute [push_cast] V9 yZg yZi yRm Yjm YAz Yty Ykt VK YAy Ys0 Ys1 Xd NW Ydn
attribute [push_cast] Yjd Yaq Yqj Yjc yS4 yPi yS3 Yje yJ7 yNk
end Go.Proofs.YtijnglngaogdjaaGreatDoor.PI
