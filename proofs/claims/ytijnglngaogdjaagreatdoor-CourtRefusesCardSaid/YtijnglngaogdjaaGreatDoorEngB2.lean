/-
  Slices that are made by appending, from nothing: laid out for rewriting.
  Conditions: none; these are lemmas.
-/
import Derived.Test.YtijnglngaogdjaaGreatDoorEngR
import Derived.ChangeArms
import Derived.Lib.LaidTab
import Derived.ChangeSame
open BitVec renaming ofInt→CH
open List renaming range→CI,replicate→CF
open UInt64 renaming ofNat→CW
set_option linter.unusedVariables false
set_option linter.unusedSimpArgs false
namespace Go.Proofs.YtijnglngaogdjaaGreatDoor.PI
open Go Go.RowKit
inductive Ty where
 |bool
 |int (k:IntKind)
 |str
 |slc (e:Ty)
 |agg (fs:List Ty)
 /-- a slice whose elements' type is told of in another way -/
 |opq (Q:D→Prop)
 deriving Inhabited
mutual
def Ty.size:Ty→Nat
 |.agg fs=>Ty.sizes fs
 |_=>1
def Ty.sizes:List Ty→Nat
 |[]=>0
 |f::r=>f.size+Ty.sizes r
end
inductive Has:Ty→D→Prop
 |bool (b:Bool):Has .bool (.bool b)
 |int (k:IntKind) (n:Int):(Lit.int k n).wf=true→Has (.int k) (.int k n)
 |str (s:List UInt8):s.length≤maxLen→Has .str (.str s)
 |slc (e:Ty) (els:List D):(∀ (i:Nat) x,els[i]?=some x→Has e x)→els.length≤maxLen→Has (.slc e) (.slc (nz e.size els) els false)
 |opq (Q:D→Prop) (sz:Nat) (els:List D):Q (.slc (nz sz els) els false)→Has (.opq Q) (.slc (nz sz els) els false)
 |agg (fs:List Ty) (xs:List D):fs.length=xs.length→(∀ (i:Nat) f x,fs[i]?=some f→xs[i]?=some x→Has f x)→Has (.agg fs) (.agg (xs.flatMap D.cells))
def YS(P:Program):Nat→List Field→List Ty→Bool
 |_,[],[]=>true
 |o,f::fs,t::ts=>f.offset == o && P.cellsOf f.type == t.size && YS P (o+t.size) fs ts
 |_,_,_=>false
def Q8(tf:TypeId→Option Ty):List Field→Option (List Ty)
 |[]=>some []
 |f::fs=>match tf f.type,Q8 tf fs with
  |some t,some ts=>some (t::ts)
  |_,_=>none
inductive TyD (P:Program):TypeId→D→Prop
 |bool (t:TypeId) (b:Bool):P.underlying t=some .bool→TyD P t (.bool b)
 |int (t:TypeId) (k:IntKind) (n:Int):P.underlying t=some (.int k)→(Lit.int k n).wf=true→TyD P t (.int k n)
 |str (t:TypeId) (s:List UInt8):P.underlying t=some .string→s.length≤maxLen→TyD P t (.str s)
 |slc (t e:TypeId) (els:List D):P.underlying t=some (.slice e)→(∀ x∈els,TyD P e x)→els.length≤maxLen→TyD P t (.slc (nz (P.cellsOf e) els) els false)
 |agg (t:TypeId) (fs:Array Field) (xs:List D):P.underlying t=some (.struct fs)→fs.toList.length=xs.length→(∀ (i:Nat) f x,fs.toList[i]?=some f→xs[i]?=some x→TyD P f.type x)→TyD P t (.agg (xs.flatMap D.cells))
 |arr (t:TypeId) (m:Nat) (e:TypeId) (xs:List D):P.underlying t=some (.array m e)→xs.length=m→(∀ x∈xs,TyD P e x)→TyD P t (.agg (xs.flatMap D.cells))
def SP(P:Program):Nat→Nat→List Field→Bool
 |o,n,[]=>o == n
 |o,n,f::fs=>f.offset == o && SP P (o+P.cellsOf f.type) n fs
def Qv(P:Program)(S:List TypeId)(t:TypeId):Bool:=match P.underlying t with
 |some .bool | some (.int _) | some .string=>P.cellsOf t == 1
 |some (.slice e)=>S.contains e && decide (0<P.cellsOf e) && P.cellsOf t == 1
 |some (.struct fs)=>fs.toList.all (fun f=>S.contains f.type) && SP P 0 (P.cellsOf t) fs.toList
 |some (.array m e)=>S.contains e && P.cellsOf t == m*P.cellsOf e
 |_=>false
def Kj(P:Program)(S:List TypeId):Bool:=S.all (Qv P S)
def Ywn(P:Program)(t:TypeId):List TypeId:=match P.underlying t with
 |some (.slice e) | some (.array _ e)=>[e]
 |some (.struct fs)=>fs.toList.map (·.type)
 |_=>[]
def P6(P:Program):Nat→List TypeId→List TypeId
 |0,S=>S
 |n+1,S=>P6 P n ((S++S.flatMap (Ywn P)).eraseDups)
def FP(P:Program):Nat→TypeId→Option Ty
 |0,_=>none
 |n+1,t=>match P.underlying t with
  |some .bool=>some .bool
  |some (.int k)=>some (.int k)
  |some .string=>some .str
  |some (.slice e)=>match FP P n e with
   |some x=>if P.cellsOf e == x.size && decide (0<x.size)then some (.slc x)else none
   |none=>if Kj P (P6 P 6 [t]) && (P6 P 6 [t]).contains t then some (.opq (TyD P t))else none
  |some (.struct fs)=>match Q8 (FP P n) fs.toList with
   |some ts=>if YS P 0 fs.toList ts && P.cellsOf t == Ty.sizes ts then some (.agg ts)else none
   |none=>none
  |some (.array m e)=>match FP P n e with
   |some x=>if P.cellsOf e == x.size && P.cellsOf t == m*x.size then some (.agg (CF m x))else none
   |none=>none
  |_=>none
def VE(w:World):Nat→Nat→Prop:=fun b o=>(w.cell? ⟨b,o,none⟩).isSome=true
def JO(w:World):Ghost:={β:=id,γ:=id,Im:=VE w}
variable {cs:List Value}{a:Addr}
section
variable {H:Type} {enc:TypeId×Value→H} {P:Program} {w:World}
def RepL(w:World)(xs:List D)(cs:List Value):Prop:=xs.length=cs.length∧(∀ (j:Nat) y v,xs[j]?=some y→cs[j]?=some v→RepV w (JO w) [] y v)∧∀ y∈xs,y.pure1=true
theorem RepL.nil:RepL w [] []:=⟨rfl,fun j y v h=>by simp at h,fun y h=>by cases h⟩
theorem RepL.append{xs ys:List D}{ds:List Value}(h:RepL w xs cs)(I:RepL w ys ds):RepL w (xs++ys) (cs++ds):=by
 refine⟨by simp[h.1,I.1],fun j y v E hv=>?_,fun y E=>?_⟩
 ·rcases A6 j xs.length with hj | hj
  ·rw[Au hj]at E;rw[Au (by rw[← h.1]; exact hj)]at hv;exact h.2.1 j y v E hv
  ·rw[AI hj]at E;rw[AI (by rw[← h.1]; exact hj),← h.1]at hv;exact I.2.1 _ y v E hv
 ·rcases AK.1 E with E | E
  ·exact h.2.2 y E
  ·exact I.2.2 y E
theorem RepL.one{x:D}{v:Value}(h:RepV w (JO w) [] x v)(E:x.pure1=true):RepL w x.cells [v]:=by
 rw[Xe E];refine⟨rfl,fun j y u I hu=>?_,fun y I=>?_⟩
 ·grind
 ·grind
theorem sW{s:ByteArray}:RepV w (JO w) [] (.str s.data.toList) (.string s):=dH s _ rfl
mutual
def wt:D→Nat
 |.slc _ els _=>GW els+1
 |.agg l=>GW l
 |.str s=>s.length+1
 |.int _ _=>1
 |.bool _=>1
 |_=>0
def GW:List D→Nat
 |[]=>0
 |d::l=>wt d+GW l
end
mutual
def blk{H:Type}:DataW H→Nat
 |.lit (.string s)=>s.length+1
 |.lit _=>1
 |.nil=>1
 |.slice e _=>FX e+1
 |.agg p=>FX p
 |_=>0
def FX{H:Type}:List (DataW H)→Nat
 |[]=>0
 |d::l=>blk d+FX l
end
theorem Sy:∀ (a b:List D),GW (a++b)=GW a+GW b
 |[],b=>by simp[GW]
 |x::a,b=>by rw[Ae,GW,GW,Sy a b]; omega
theorem WC(d:D):GW d.cells=wt d:=by
 cases d <;> simp[D.cells,GW,wt]
theorem cC:∀ (a:List D) (b:List (DataW H)),a.length=b.length→(∀ (i:Nat) x y,a[i]?=some x→b[i]?=some y→wt x≤blk y)→GW a≤FX b
 |[],b,_,_=>by simp[GW]
 |x::a,[],h,_=>by simp at h
 |x::a,y::b,h,hle=>by
  have J:=hle 0 x y rfl rfl;have M:=cC a b (by simpa using h) (fun i x y E I=>hle (i+1) x y (by simpa using E) (by simpa using I));simp only[GW,FX];omega
def gI(enc:TypeId×Value→H)(P:Program)(w:World)(sp:Nat→Bool)(t:TypeId)(ty:Ty):Prop:=
 ∀ (fuel:Nat) (cs:List Value) (x:DataW H×List MemPlace),DataW.trod enc P w 0 sp true fuel t cs=some x→∃ d,Has ty d∧RepL w d.cells cs∧cs.length=ty.size∧((∃ fs,ty=.agg fs)∨d.pure1=true)∧wt d≤blk x.1
theorem iT{sp:Nat→Bool}{O:TypeId→Option Ty}(J:∀ t ty,O t=some ty→gI enc P w sp t ty)(fuel:Nat)(cs:List Value):∀ (fs:List Field) (E:List Ty) (o:Nat) (ys:List (DataW H×List MemPlace)),
  Q8 O fs=some E→YS P o fs E=true→fs.mapM (fun f=>DataW.trod enc P w 0 sp true fuel f.type ((cs.drop f.offset).take (P.cellsOf f.type)))=some ys→
  ∃ xs:List D,E.length=xs.length∧(∀ (i:Nat) f x,E[i]?=some f→xs[i]?=some x→Has f x)∧RepL w (xs.flatMap D.cells) ((cs.drop o).take (Ty.sizes E))∧(o≤cs.length→o+Ty.sizes E≤cs.length)∧GW (xs.flatMap D.cells)≤FX (ys.map (·.1))
 |[],E,o,ys,I,M,N=>by
  simp[Q8]at I; subst I;exact⟨[],rfl,fun i f x h=>by simp at h,by simpa[Ty.sizes]using RepL.nil,fun h=>by simpa[Ty.sizes]using h,by simp[GW]⟩
 |f::fs,E,o,ys,I,M,N=>by
  unfold Q8 at I
  split at I
  case h_2=>cases I
  rename_i t U ht V;simp only[C3]at I; subst I;simp only[YS,Af,beq_iff_eq]at M;obtain⟨⟨e1,e2⟩,e3⟩:=M;simp only[Bs,Bm,Ay,BD,C3]at N;obtain⟨y,Y,aa,ab,rfl⟩:=N;rw[e1,e2]at Y;obtain⟨d,d1,d2,d3,_,d5⟩:=J _ _ ht fuel _ _ Y;obtain⟨xs,x1,x2,x3,x4,x5⟩:=iT J fuel cs fs U (o+t.size) aa V e3 ab
  have hlen:o+t.size≤cs.length∨t.size=0:=by
   grind
  refine⟨d::xs,by simp[x1],?_,?_,?_,?_⟩
  ·grind
  ·have:=d2.append x3;simp only[At,Ty.sizes];rw[Cs,Bq];exact this
  ·intro ho;simp only[Ty.sizes];omega
  ·simp only[At,Sy,WC,Ax,FX];omega
theorem iQ{sp:Nat→Bool}{e:TypeId}{x:Ty}(E:gI enc P w sp e x)(hc:P.cellsOf e=x.size)(fuel:Nat)(cs:List Value):∀ (n k:Nat) (ys:List (DataW H×List MemPlace)),
  (List.range' k n).mapM (fun i=>DataW.trod enc P w 0 sp true fuel e ((cs.drop (i*P.cellsOf e)).take (P.cellsOf e)))=some ys→
  ∃ xs:List D,xs.length=n∧(∀ (i:Nat) y,xs[i]?=some y→Has x y)∧RepL w (xs.flatMap D.cells) ((cs.drop (k*x.size)).take (n*x.size))∧GW (xs.flatMap D.cells)≤FX (ys.map (·.1))
 |0,k,ys,h=>⟨[],rfl,fun i y h=>by simp at h,by simpa using RepL.nil,by simp[GW]⟩
 |n+1,k,ys,h=>by
  simp only[BR,Bs,Bm,Ay,BD,C3]at h;obtain⟨y,I,J,M,rfl⟩:=h;rw[hc]at I;obtain⟨d,d1,d2,d3,_,d5⟩:=E fuel _ _ I;obtain⟨xs,N,U,O,V⟩:=iQ E hc fuel cs n (k+1) J M;refine⟨d::xs,by simp[N],?_,?_,?_⟩
  ·grind
  ·have:=d2.append O;simp only[At];rw[A0,Bu,Nat.add_comm (n*x.size),Cs,Bq];grind
  ·simp only[At,Sy,WC,Ax,FX];omega
theorem Ty.sizes_replicate(x:Ty):∀ m,Ty.sizes (CF m x)=m*x.size
 |0=>by simp[Ty.sizes]
 |m+1=>by rw[BU,Ty.sizes,Ty.sizes_replicate x m,A0,Bu,Nat.add_comm]
theorem cells?_get{base:Nat}{n:Nat}(h:w.cells? base a n=some cs):cs.length=n∧∀ (j:Nat) v,cs[j]?=some v→w.cell? (a.add j)=some v:=by
 unfold World.cells? at h
 split at h
 ·have hl:cs.length=n:=by simpa using Lib.mapM_length h
  refine⟨hl,fun j v hv=>?_⟩;have hj:j<n:=by rw[← hl]; exact(Ac.1 hv).1
  obtain⟨b,hb,hf⟩:=Lib.mapM_at h j j (by simp[hj]);grind
 ·cases h
def iv(enc:TypeId×Value→H)(P:Program)(w:World)(sp:Nat→Bool)(fuel:Nat)(t:TypeId):Prop:=
 ∀ (cs:List Value) (x:DataW H×List MemPlace),DataW.trod enc P w 0 sp true fuel t cs=some x→∃ d,TyD P t d∧RepL w d.cells cs∧cs.length=P.cellsOf t∧((∃ l,d=.agg l)∨d.pure1=true)∧wt d≤blk x.1
theorem jk{sp:Nat→Bool}{fuel:Nat}(cs:List Value)(n:Nat):∀ (fs:List Field) (o:Nat) (ys:List (DataW H×List MemPlace)),(∀ f∈fs,iv enc P w sp fuel f.type)→SP P o n fs=true→
  fs.mapM (fun f=>DataW.trod enc P w 0 sp true fuel f.type ((cs.drop f.offset).take (P.cellsOf f.type)))=some ys→
  ∃ xs:List D,fs.length=xs.length∧(∀ (i:Nat) f x,fs[i]?=some f→xs[i]?=some x→TyD P f.type x)∧RepL w (xs.flatMap D.cells) ((cs.drop o).take (n - o))∧o≤n∧GW (xs.flatMap D.cells)≤FX (ys.map (·.1))
 |[],o,ys,_,E,J=>by
  simp only[SP,beq_iff_eq]at E;subst E;exact⟨[],rfl,fun i f x h=>by simp at h,by simpa using RepL.nil,AE _,by simp[GW]⟩
 |f::fs,o,ys,I,E,J=>by
  simp only[SP,Af,beq_iff_eq]at E;obtain⟨U,V⟩:=E;simp only[Bs,Bm,Ay,BD,C3]at J;obtain⟨y,M,N,O,rfl⟩:=J;rw[U]at M;obtain⟨d,d1,d2,d3,_,d5⟩:=I f (by simp) _ _ M;obtain⟨xs,Y,x2,x3,x4,x5⟩:=jk cs n fs (o+P.cellsOf f.type) N (fun g hg=>I g (by simp[hg])) V O;refine⟨d::xs,by simp[Y],?_,?_,by omega,?_⟩
  ·grind
  ·have:=d2.append x3;simp only[At];rw[show n - o=P.cellsOf f.type+(n - (o+P.cellsOf f.type)) by omega,Cs,Bq];exact this
  ·simp only[At,Sy,WC,Ax,FX];omega
theorem iX{sp:Nat→Bool}{fuel:Nat}{e:TypeId}(E:iv enc P w sp fuel e)(cs:List Value):∀ (n k:Nat) (ys:List (DataW H×List MemPlace)),
  (List.range' k n).mapM (fun i=>DataW.trod enc P w 0 sp true fuel e ((cs.drop (i*P.cellsOf e)).take (P.cellsOf e)))=some ys→
  ∃ xs:List D,xs.length=n∧(∀ y∈xs,TyD P e y)∧RepL w (xs.flatMap D.cells) ((cs.drop (k*P.cellsOf e)).take (n*P.cellsOf e))∧GW (xs.flatMap D.cells)≤FX (ys.map (·.1))
 |0,k,ys,h=>⟨[],rfl,(fun y h=>by cases h),by simpa using RepL.nil,by simp[GW]⟩
 |n+1,k,ys,h=>by
  simp only[BR,Bs,Bm,Ay,BD,C3]at h;obtain⟨y,M,I,J,rfl⟩:=h;obtain⟨d,d1,d2,d3,_,d5⟩:=E _ _ M;obtain⟨xs,N,U,O,V⟩:=iX E cs n (k+1) I J;refine⟨d::xs,by simp[N],?_,?_,?_⟩
  ·grind
  ·have:=d2.append O;simp only[At];rw[A0,Bu,Nat.add_comm (n*P.cellsOf e),Cs,Bq];grind
  ·simp only[At,Sy,WC,Ax,FX];omega
theorem yLp{Q:D→Prop}{sz:Nat}{len cap:Nat}{Y:Nat→Nat}(J:0<sz)(aa:len≤cap)
  (E:∀ i,i<len→∃ d,Q d∧d.cells.length=sz∧(∀ (j:Nat) y,d.cells[j]?=some y→y.pure1=true∧∃ v,w.cell? ((a.add (i*sz)).add j)=some v∧RepV w (JO w) [] y v)∧wt d≤Y i) :
  ∃ els:List D,els.length=len∧(∀ x∈els,Q x)∧RepL w (D.slc (nz sz els) els false).cells [.slice (some a) len cap]∧∀ (i:Nat) x,els[i]?=some x→wt x≤Y i:=by
 let f:Nat→D:=fun i=>if hi:i<len then(E i hi).choose else .junk
 have hf:∀ i (hi:i<len),f i=(E i hi).choose:=fun i hi=>by simp[f,hi]
 have O:∀ (i:Nat) x,((CI len).map f)[i]?=some x→∃ hi:i<len,x=(E i hi).choose:=by
  intro i x M;simp only[AJ,Dv]at M;obtain⟨i',I,rfl⟩:=M;rw[Ac]at I;obtain⟨U,h3⟩:=I;simp at U h3;grind
 refine⟨(CI len).map f,by simp,fun x M=>?_,?_,fun i x M=>?_⟩
 ·grind
 ·refine RepL.one (RepV.nz (t:=false) ?_) rfl;rcases B2 len with V | V
  ·subst V;exact .slcE _ false (some a) cap (fun h=>by cases h)
  ·have N:a.spot=none:=by
    obtain⟨d1,d2,d3,_⟩:=(E 0 V).choose_spec;obtain⟨_,v,I,_⟩:=d3 0 _ (An (by rw[d2]; exact J));rw[B9]at I;have U:(a.add 0).add 0=a:=by simp[Addr.add]
    rw[U]at I;unfold World.cell? at I
    split at I
    ·split at I
     ·cases I
     ·rename_i hs; simpa using hs
    ·cases I
   obtain⟨b,off,spot⟩:=a;simp only at N;subst N;have hl:len=((CI len).map f).length:=by simp
   conv=>rhs; rw[hl]
   refine RepV.slc_mk J ?_ (by simpa using aa) (fun h=>by cases h) ?_
   ·grind
   ·intro i j d hd;obtain⟨e',he,hj⟩:=HE hd;obtain⟨ab,rfl⟩:=O i e' he;obtain⟨hp,v,hv,hr⟩:=(E i ab).choose_spec.2.2.1 j d hj;rw[Kw,Kw]at hv;refine⟨hp,?_,v,hv,hr⟩
    show(w.cell? ⟨b,off+i*sz+j,none⟩).isSome=true
    rw[hv]; rfl
 ·grind
theorem pG{sp:Nat→Bool}{S:List TypeId}(hS:Kj P S=true):∀ (fuel:Nat) (t:TypeId),t∈S→iv enc P w sp fuel t
 |0,t,_=>by intro cs x E; simp[DataW.trod]at E
 |fuel+1,t,U=>by
  have V:=fun t U=>pG (sp:=sp) hS fuel t U;have hc:Qv P S t=true:=Aj.1 hS t U;unfold Qv at hc;intro cs x E
  split at hc
  ·rename_i hu;simp only[beq_iff_eq]at hc;unfold DataW.trod at E;rw[hu]at E
   split at E <;> simp_all
   exact⟨_,.bool t _ hu,RepL.one (.bool _) rfl,.inr rfl,by rw[← E]; simp[wt,blk]⟩
  ·rename_i k hu;simp only[beq_iff_eq]at hc;unfold DataW.trod at E;rw[hu]at E
   split at E <;> simp_all
   rename_i k' m;obtain⟨⟨rfl,hw⟩,I⟩:=E;exact⟨_,.int t _ _ hu hw,RepL.one (.int _ _) rfl,.inr rfl,by rw[← I]; simp[wt,blk]⟩
  ·rename_i hu;simp only[beq_iff_eq]at hc;unfold DataW.trod at E;rw[hu]at E
   split at E <;> simp_all
   rename_i s;exact⟨_,.str t s.data.toList hu (by simpa using E.1),RepL.one sW rfl,.inr rfl,by rw[← E.2]; simp[wt,blk]⟩
  ·rename_i e hu;simp only[Af,A9,decide_eq_true_eq,beq_iff_eq]at hc;obtain⟨⟨J,Y⟩,N⟩:=hc;rcases DataW.trod_slice hu E with⟨rfl,I⟩ | ⟨a,len,cap,elems,rest,m,hm,rfl,I,_,a1,a9,hlen,a2,_,_⟩
   ·refine⟨.slc (nz (P.cellsOf e) []) [] false,.slc t e [] hu (fun x h=>by cases h) (Bg _),RepL.one (.slcE _ false none 0 (fun h=>by cases h)) rfl,N.symm,.inr rfl,by rw[I]; simp[wt,GW,blk]⟩
   ·obtain rfl:m=fuel:=by omega
    have aa:∀ i,i<len→∃ d,TyD P e d∧d.cells.length=P.cellsOf e∧(∀ (j:Nat) y,d.cells[j]?=some y→y.pure1=true∧∃ v,w.cell? ((a.add (i*P.cellsOf e)).add j)=some v∧RepV w (JO w) [] y v)∧wt d≤((elems[i]?).map fun y=>blk y.1).getD 0:=by
     intro i hi;have h1:=a2 i hi;rw[An (by omega)]at h1 ⊢;simp only[Ay]at h1;obtain⟨cs',h2,h3⟩:=h1;obtain⟨d,d1,d2,d3,_,d5⟩:=V e J cs' _ h3;obtain⟨h4,h5⟩:=cells?_get h2;refine⟨d,d1,by rw[d2.1,h4],fun j y hy=>⟨d2.2.2 y (Aq hy),?_⟩,by simpa using d5⟩;have hj:j<cs'.length:=by rw[← d2.1]; exact(Ac.1 hy).1
     exact⟨cs'[j],h5 j _ (An hj),d2.2.1 j y _ hy (An hj)⟩
    obtain⟨els,e1,e2,e3,e4⟩:=yLp Y a1 aa;refine⟨_,.slc t e els hu e2 (by omega),e3,N.symm,.inr rfl,?_⟩;rw[I];simp only[wt,blk];refine Nat.succ_le_succ (cC _ _ (by simp; omega) ?_);grind
  ·rename_i fs hu;simp only[Af,Aj,A9]at hc;obtain⟨J,ad⟩:=hc;unfold DataW.trod at E;rw[hu]at E;simp only at E
   split at E
   case isFalse=>cases E
   rename_i hl;simp only[Dv]at E;obtain⟨ys,M,rfl⟩:=E;obtain⟨xs,x1,x2,O,x4,x5⟩:=jk cs (P.cellsOf t) fs.toList 0 ys (fun f hf=>V f.type (J f hf)) ad M;refine⟨.agg (xs.flatMap D.cells),.agg t fs xs hu x1 x2,?_,hl,.inl ⟨_,rfl⟩,by simpa only[wt,blk]using x5⟩;rw[Bt,Nat.sub_zero,AU (by omega)]at O;exact O
  ·rename_i m e hu;simp only[Af,A9,beq_iff_eq]at hc;obtain⟨J,ba⟩:=hc;unfold DataW.trod at E;rw[hu]at E;simp only at E
   split at E
   case isFalse=>cases E
   rename_i hl;simp only[Dv]at E;obtain⟨ys,M,rfl⟩:=E;rw[Bi]at M;obtain⟨xs,x1,x2,O,x5⟩:=iX (V e J) cs m 0 ys M;refine⟨.agg (xs.flatMap D.cells),.arr t m e xs hu x1 x2,?_,hl,.inl ⟨_,rfl⟩,by simpa only[wt,blk]using x5⟩;rw[B9,Bt,AU (by omega)]at O;exact O
  ·cases hc
theorem nq{sp:Nat→Bool}:∀ (n:Nat) (t:TypeId) (ty:Ty),FP P n t=some ty→gI enc P w sp t ty
 |0,_,_,h=>by simp[FP]at h
 |n+1,t,ty,h=>by
  have ih:=nq (sp:=sp) n;intro fuel cs x E;unfold FP at h
  cases fuel with
  |zero=>simp[DataW.trod]at E
  |succ fuel=>
  split at h
  ·rename_i hu;simp only[C3]at h; subst h;unfold DataW.trod at E;rw[hu]at E
   split at E <;> simp_all
   exact⟨_,.bool _,RepL.one (.bool _) rfl,rfl,rfl,by rw[← E]; simp[wt,blk]⟩
  ·rename_i k hu;simp only[C3]at h; subst h;unfold DataW.trod at E;rw[hu]at E
   split at E <;> simp_all
   rename_i k' m;obtain⟨⟨rfl,hw⟩,M⟩:=E;exact⟨_,.int _ _ hw,RepL.one (.int _ _) rfl,rfl,rfl,by rw[← M]; simp[wt,blk]⟩
  ·rename_i hu;simp only[C3]at h; subst h;unfold DataW.trod at E;rw[hu]at E
   split at E <;> simp_all
   rename_i s;exact⟨_,.str s.data.toList (by simpa using E.1),RepL.one sW rfl,rfl,rfl,by rw[← E.2]; simp[wt,blk]⟩
  ·rename_i e hu
   split at h
   case h_2=>
    split at h
    case isFalse=>cases h
    rename_i N;simp only[Af,A9]at N;simp only[C3]at h; subst h;obtain⟨d,d1,d2,d3,d4,d5⟩:=pG N.1 (fuel+1) t N.2 cs x E
    have ab:P.cellsOf t=1:=by
     have:=Aj.1 N.1 t N.2;unfold Qv at this;grind
    rw[ab]at d3
    have:∃ sz els,d=.slc (nz sz els) els false:=by
     cases d1 with
     |slc _ e' els I V h3=>exact⟨_,_,rfl⟩
     |agg _ fs xs I=>rw[hu]at I; cases I
     |arr _ m e' xs I=>rw[hu]at I; cases I
     |bool _ b I=>rw[hu]at I; cases I
     |int _ k n I=>rw[hu]at I; cases I
     |str _ s I=>rw[hu]at I; cases I
    obtain⟨sz,els,rfl⟩:=this;exact⟨_,.opq _ sz els d1,d2,d3,.inr rfl,d5⟩
   rename_i ex hex
   split at h
   case isFalse=>cases h
   rename_i hc;simp only[Af,beq_iff_eq,decide_eq_true_eq]at hc;simp only[C3]at h; subst h;rcases DataW.trod_slice hu E with⟨rfl,M⟩ | ⟨a,len,cap,elems,rest,m,_,rfl,M,_,a3,be,hlen,a4,_,_⟩
   ·exact⟨_,.slc ex [] (fun i x h=>by simp at h) (Bg _),RepL.one (.slcE _ false none 0 (fun h=>by cases h)) rfl,rfl,.inr rfl,by rw[M]; simp[wt,GW,blk]⟩
   ·have J:∀ i (hi:i<len),∃ d,Has ex d∧d.cells.length=ex.size∧(∀ (j:Nat) y,d.cells[j]?=some y→y.pure1=true∧∃ v,w.cell? ((a.add (i*ex.size)).add j)=some v∧RepV w (JO w) [] y v)∧wt d≤blk (elems[i]'(by omega)).1:=by
     intro i hi;have I:=a4 i hi;rw[hc.1,An (by omega)]at I;simp only[Ay]at I;obtain⟨cs',V,h3⟩:=I;obtain⟨d,d1,d2,d3,_,d5⟩:=ih e ex hex m cs' _ h3;obtain⟨h4,h5⟩:=cells?_get V;refine⟨d,d1,by rw[d2.1,h4],fun j y hy=>⟨d2.2.2 y (Aq hy),?_⟩,d5⟩;have hj:j<cs'.length:=by rw[← d2.1]; exact(Ac.1 hy).1
     exact⟨cs'[j],h5 j _ (An hj),d2.2.1 j y _ hy (An hj)⟩
    let f:Nat→D:=fun i=>if hi:i<len then(J i hi).choose else .junk
    have hf:∀ i (hi:i<len),f i=(J i hi).choose:=fun i hi=>by simp[f,hi]
    have ae:∀ (i:Nat) x,((CI len).map f)[i]?=some x→∃ hi:i<len,x=(J i hi).choose:=by
     grind
    refine⟨.slc (nz ex.size ((CI len).map f)) ((CI len).map f) false,.slc ex _ (fun i x E=>?_) (by simp; omega),?_,rfl,.inr rfl,?_⟩
    ·grind
    ·refine RepL.one (RepV.nz (t:=false) ?_) rfl;rcases B2 len with h0 | h0
     ·subst h0;exact .slcE _ false (some a) cap (fun h=>by cases h)
     ·have Y:a.spot=none:=by
       obtain⟨d1,d2,d3,_⟩:=(J 0 h0).choose_spec;obtain⟨_,v,I,_⟩:=d3 0 _ (An (by rw[d2]; exact hc.2));rw[B9]at I;have V:(a.add 0).add 0=a:=by simp[Addr.add]
       rw[V]at I;unfold World.cell? at I
       split at I
       ·split at I
        ·cases I
        ·rename_i hs; simpa using hs
       ·cases I
      obtain⟨b,off,spot⟩:=a;simp only at Y;subst Y;have hl:len=((CI len).map f).length:=by simp
      conv=>rhs; rw[hl]
      refine RepV.slc_mk hc.2 ?_ (by simpa using a3) (fun h=>by cases h) ?_
      ·grind
      ·intro i j d hd;obtain⟨e',he,hj⟩:=HE hd;obtain⟨a5,rfl⟩:=ae i e' he;obtain⟨hp,v,hv,hr⟩:=(J i a5).choose_spec.2.2.1 j d hj;rw[Kw,Kw]at hv;refine⟨hp,?_,v,hv,hr⟩
       show(w.cell? ⟨b,off+i*ex.size+j,none⟩).isSome=true
       rw[hv]; rfl
    ·rw[M];simp only[wt,blk];refine Nat.succ_le_succ (cC _ _ (by simp; omega) ?_);grind
  ·rename_i fs hu
   split at h
   case h_2=>cases h
   rename_i ts a6
   split at h
   case isFalse=>cases h
   rename_i hc;simp only[Af,beq_iff_eq]at hc;simp only[C3]at h; subst h;unfold DataW.trod at E;rw[hu]at E;simp only at E
   split at E
   case isFalse=>cases E
   rename_i hl;simp only[Dv]at E;obtain⟨ys,O,rfl⟩:=E;obtain⟨xs,x1,x2,U,x4,x5⟩:=iT ih fuel cs fs.toList ts 0 ys a6 hc.1 O;refine⟨.agg (xs.flatMap D.cells),.agg ts xs x1 x2,?_,by rw[hl,hc.2]; rfl,.inl ⟨ts,rfl⟩,by simpa only[wt,blk]using x5⟩;rw[Bt,AU (by omega)]at U;exact U
  ·rename_i m e hu
   split at h
   case h_2=>cases h
   rename_i ex hex
   split at h
   case isFalse=>cases h
   rename_i hc;simp only[Af,beq_iff_eq]at hc;simp only[C3]at h; subst h;unfold DataW.trod at E;rw[hu]at E;simp only at E
   split at E
   case isFalse=>cases E
   rename_i hl;simp only[Dv]at E;obtain⟨ys,O,rfl⟩:=E;rw[Bi]at O;obtain⟨xs,x1,x2,U,x5⟩:=iQ (ih e ex hex) hc.1 fuel cs m 0 ys O;refine⟨.agg (xs.flatMap D.cells),.agg _ xs (by simp[x1]) ?_,?_,by rw[hl,hc.2]; exact(Ty.sizes_replicate ex m).symm,.inl ⟨_,rfl⟩,by simpa only[wt,blk]using x5⟩
   ·grind
   ·rw[B9,Bt,AU (by omega)]at U;exact U
  ·cases h
end
end Go.Proofs.YtijnglngaogdjaaGreatDoor.PI
namespace Go.Proofs.YtijnglngaogdjaaGreatDoor.PI
open Go Go.RowKit Go.ChangeShapes
variable {v:Value}{a:Addr}{n:Nat}{before:List MemPlace}{args:Array Value}{s:ChangeSpec}{tys:List Ty}{sp:List D→Option D}{fn:Func}{G:Db}
section
variable {H:Type} {enc:TypeId×Value→H} {P:Program} {W W':World}
theorem MD{α β:Type}{f g:α→Option β}:∀ {l:List α} {r:List β},l.mapM f=some r→(∀ x y,x∈l→y∈r→f x=some y→g x=some y)→l.mapM g=some r
 |[],r,h,_=>by simpa using h
 |a::l,r,h,E=>by
  simp only[Bs,Bm,Ay,BD,C3]at h ⊢;obtain⟨b,hb,J,I,rfl⟩:=h;exact⟨b,E a b (by simp) (by simp) hb,J,MD I (fun x y M N=>E x y (by simp[M]) (by simp[N])),rfl⟩
theorem cell?_below(hb:Below W.heap.size W W')(h:W.cell? a=some v):W'.cell? a=some v:=by
 have E:=World.block_lt_of_cell? W a h;rw[← h];simp only[World.cell?,hb.block a.block E]
theorem cells?_below(hb:Below W.heap.size W W'){b:Nat}{cs:List Value}(h:W.cells? b a n=some cs):W'.cells? b a n=some cs:=by
 unfold World.cells? at h ⊢
 split at h
 ·rename_i E;rw[if_pos E];exact MD h fun x y _ _ I=>cell?_below hb I
 ·cases h
theorem pF(hb:Below W.heap.size W W'){S:List TypeId}(hS:Kj P S=true):∀ (fuel:Nat) (t:TypeId),t∈S→∀ (cs:List Value) (x:DataW H×List MemPlace),DataW.trod enc P W 0 (fun _=>true) true fuel t cs=some x→
  ∀ I:Nat→Bool,(∀ p∈x.2,I p.block=true)→DataW.trod enc P W' 0 I true fuel t cs=some x
 |0,t,_=>by intro cs x E; simp[DataW.trod]at E
 |fuel+1,t,ht=>by
  have ih:=pF hb hS fuel;intro cs x E I aa;have hc:Qv P S t=true:=Aj.1 hS t ht;unfold Qv at hc
  split at hc
  ·rename_i hu;unfold DataW.trod at E ⊢;grind
  ·rename_i k hu;unfold DataW.trod at E ⊢;grind
  ·rename_i hu;unfold DataW.trod at E ⊢;grind
  ·rename_i e hu;simp only[Af,A9,decide_eq_true_eq,beq_iff_eq]at hc;obtain⟨⟨M,af⟩,_⟩:=hc
   have N:∀ (b:Addr) (y:DataW H×List MemPlace),(∀ p∈y.2,I p.block=true)→(W.cells? 0 b (P.cellsOf e)).bind (DataW.trod enc P W 0 (fun _=>true) true fuel e)=some y→(W'.cells? 0 b (P.cellsOf e)).bind (DataW.trod enc P W' 0 I true fuel e)=some y:=by
    intro b y J O;simp only[Ay]at O ⊢;obtain⟨cs',V,h3⟩:=O;exact⟨cs',cells?_below hb V,ih e M cs' y h3 I J⟩
   unfold DataW.trod at E ⊢;rw[hu]at E ⊢
   split at E
   all_goals try (first | (rename_i heq _; cases heq; done) | (rename_i heq; cases heq; done))
   all_goals try (simp_all; done)
   rename_i e' a len cap heq;cases heq;simp only[if_true]at E ⊢
   split at E
   case isFalse=>cases E
   rename_i Y;rw[if_pos Y];simp only[Ay,Dv]at E ⊢;obtain⟨elems,O,rest,V,rfl⟩:=E;have hle:elems.length=len:=by simpa using Lib.mapM_length O
   have a1:rest.length=cap - len:=by simpa using Lib.mapM_length V
   have M:∀ y∈elems++rest,∀ p∈y.2,I p.block=true:=fun y J p hp=>aa p (by
    grind)
   refine⟨elems,MD O (fun i y _ J hi=>N _ y (M y (by simp[J])) hi),rest,?_,rfl⟩;rcases B2 cap with h0 | h0
   ·grind
   ·have ab:I a.block=true:=aa (.cell a.block (a.off+0)) (by
     simp only[AK]
     left
     simp only[MemPlace.row,AV,AW];simp_all)
    rw[if_pos ab];exact MD V (fun i y _ J hi=>N _ y (M y (by simp[J])) hi)
  ·rename_i fs hu;simp only[Af,Aj,A9]at hc;unfold DataW.trod at E ⊢;rw[hu]at E ⊢;simp only at E ⊢
   split at E
   case isFalse=>cases E
   rename_i hl;rw[if_pos hl];simp only[Dv]at E ⊢;obtain⟨ys,U,rfl⟩:=E;refine⟨ys,MD U (fun f y hf J hi=>?_),rfl⟩;grind
  ·rename_i m e hu;simp only[Af,A9,beq_iff_eq]at hc;unfold DataW.trod at E ⊢;rw[hu]at E ⊢;simp only at E ⊢
   split at E
   case isFalse=>cases E
   rename_i hl;rw[if_pos hl];simp only[Dv]at E ⊢;obtain⟨ys,U,rfl⟩:=E;refine⟨ys,MD U (fun i y _ J hi=>?_),rfl⟩;grind
  ·cases hc
theorem qz(hb:Below W.heap.size W W'):∀ (n:Nat) (t:TypeId) (ty:Ty),FP P n t=some ty→∀ (fuel:Nat) (cs:List Value) (x:DataW H×List MemPlace),DataW.trod enc P W 0 (fun _=>true) true fuel t cs=some x→
  ∀ I:Nat→Bool,(∀ p∈x.2,I p.block=true)→DataW.trod enc P W' 0 I true fuel t cs=some x
 |0,_,_,h=>by simp[FP]at h
 |n+1,t,ty,h=>by
  have ih:=qz hb n;intro fuel cs x E I N;unfold FP at h
  cases fuel with
  |zero=>simp[DataW.trod]at E
  |succ fuel=>
  split at h
  ·rename_i hu;unfold DataW.trod at E ⊢;grind
  ·rename_i k hu;unfold DataW.trod at E ⊢;grind
  ·rename_i hu;unfold DataW.trod at E ⊢;grind
  ·rename_i e hu
   split at h
   case h_2=>
    split at h
    case isFalse=>cases h
    rename_i O;simp only[Af,A9]at O;exact pF hb O.1 (fuel+1) t O.2 cs x E I N
   rename_i ex hex
   split at h
   case isFalse=>cases h
   rename_i hc;simp only[Af,beq_iff_eq,decide_eq_true_eq]at hc;have af:0<P.cellsOf e:=by rw[hc.1]; exact hc.2
   have U:∀ (b:Addr) (y:DataW H×List MemPlace),(∀ p∈y.2,I p.block=true)→(W.cells? 0 b (P.cellsOf e)).bind (DataW.trod enc P W 0 (fun _=>true) true fuel e)=some y→(W'.cells? 0 b (P.cellsOf e)).bind (DataW.trod enc P W' 0 I true fuel e)=some y:=by
    intro b y J V;simp only[Ay]at V ⊢;obtain⟨cs',Y,h3⟩:=V;exact⟨cs',cells?_below hb Y,ih e ex hex fuel cs' y h3 I J⟩
   unfold DataW.trod at E ⊢;rw[hu]at E ⊢
   split at E
   all_goals try (first | (rename_i heq _; cases heq; done) | (rename_i heq; cases heq; done))
   all_goals try (simp_all; done)
   rename_i e' a len cap heq;cases heq;simp only[if_true]at E ⊢
   split at E
   case isFalse=>cases E
   rename_i aa;rw[if_pos aa];simp only[Ay,Dv]at E ⊢;obtain⟨elems,V,rest,Y,rfl⟩:=E;have hle:elems.length=len:=by simpa using Lib.mapM_length V
   have a3:rest.length=cap - len:=by simpa using Lib.mapM_length Y
   have ab:∀ y∈elems++rest,∀ p∈y.2,I p.block=true:=fun y J p hp=>N p (by
    grind)
   refine⟨elems,MD V (fun i y _ J hi=>U _ y (ab y (by simp[J])) hi),rest,?_,rfl⟩;rcases B2 cap with h0 | h0
   ·grind
   ·have ad:I a.block=true:=N (.cell a.block (a.off+0)) (by
     simp only[AK]
     left
     simp only[MemPlace.row,AV,AW];simp_all)
    rw[if_pos ad];exact MD Y (fun i y _ J hi=>U _ y (ab y (by simp[J])) hi)
  ·rename_i fs hu
   split at h
   case h_2=>cases h
   rename_i ts ac;unfold DataW.trod at E ⊢;rw[hu]at E ⊢;simp only at E ⊢
   split at E
   case isFalse=>cases E
   rename_i hl;rw[if_pos hl];simp only[Dv]at E ⊢;obtain⟨ys,M,rfl⟩:=E
   have a2:∀ f∈fs.toList,∃ ty,FP P n f.type=some ty:=by
    clear M hl hu h;generalize fs.toList=l at ac
    induction l generalizing ts with
    |nil=>intro f hf; cases hf
    |cons f0 l a4=>
     unfold Q8 at ac;grind
   refine⟨ys,MD M (fun f y hf J hi=>?_),rfl⟩;grind
  ·rename_i m e hu
   split at h
   case h_2=>cases h
   rename_i ex hex;unfold DataW.trod at E ⊢;rw[hu]at E ⊢;simp only at E ⊢
   split at E
   case isFalse=>cases E
   rename_i hl;rw[if_pos hl];simp only[Dv]at E ⊢;obtain⟨ys,M,rfl⟩:=E;refine⟨ys,MD M (fun i y _ J hi=>?_),rfl⟩;grind
  ·cases h
theorem jm(hb:Below W.heap.size W W'){n:Nat}:∀ (I:List TypeId) (tys:List Ty) (vs:List Value) (ds:List (DataW H)) (J:List MemPlace),I.mapM (FP P n)=some tys→DataW.TrodAll enc P W 0 (fun _=>true) true I vs ds J→
  ∀ E:Nat→Bool,(∀ p∈J,E p.block=true)→DataW.TrodAll enc P W' 0 E true I vs ds J
 |[],_,[],[],J,_,h=>fun _ _=>h
 |t::I,tys,v::vs,d::ds,J,U,h=>by
  intro E M;simp only[Bs,Bm,Ay,BD,C3]at U;obtain⟨ty,V,N,Y,rfl⟩:=U;obtain⟨p,q,⟨fuel,h3⟩,h4,rfl⟩:=h;exact⟨p,q,⟨fuel,qz hb n t ty V fuel _ _ h3 E (fun x O=>M x (by simp[O]))⟩,jm hb I N vs ds q Y h4 E (fun x O=>M x (by simp[O])),rfl⟩
 |[],_,_::_,_,_,_,h=>by cases h
 |[],_,[],_::_,_,_,h=>by cases h
 |_::_,_,[],_,_,_,h=>by cases h
 |_::_,_,_::_,[],_,_,h=>by cases h
theorem yU{sp:Nat→Bool}{t:TypeId}{ty:Ty}{d:DataW H}{Y:List MemPlace}(E:FP P n t=some ty)(hv:Value.okWide P W .any 0 t v)(h:DataW.Trod enc P W 0 sp true t v d Y) :
  ∃ x,Has ty x∧(RepV W (JO W) [] x v∧purA x=true)∧wt x≤blk d:=by
 obtain⟨fuel,h⟩:=h;obtain⟨x,J,M,h3,h4,h5⟩:=nq n t ty E fuel _ _ h;refine⟨x,J,?_,h5⟩
 have I:(∀ cs,v≠.agg cs)→x.pure1=true→RepV W (JO W) [] x v∧purA x=true:=by
  intro U O;have V:v.cells=#[v]:=by cases v <;> first | rfl | exact absurd rfl (U _)
  rw[Xe O,V]at M;refine⟨M.2.1 0 x v rfl rfl,?_⟩;cases x <;> first | exact O | (simp[D.pure1]at O; done)
 have N:∀ cs l,v=.agg cs→x=.agg l→RepV W (JO W) [] x v∧purA x=true:=by
  intro cs l e1 e2;subst e1; subst e2;refine⟨?_,?_⟩
  ·have:=RepV.agg (w:=W) (g:=JO W) (st:=[]) l cs.toList (by simpa[D.cells,Value.cells]using M.1) (fun i d u hd hu=>M.2.1 i d u hd (by simpa[Value.cells]using hu));omega
  ·simp only[purA,Aj];exact M.2.2
 unfold Value.okWide at hv
 cases n with
 |zero=>simp[FP]at E
 |succ n=>
 unfold FP at E
 split at E
 ·rename_i hu;simp only[C3]at E; subst E;cases J;exact I (fun cs e=>by subst e; simp[hu,Cell.okWide,Cell.ok]at hv) rfl
 ·rename_i k hu;simp only[C3]at E; subst E;cases J;exact I (fun cs e=>by subst e; simp[hu,Cell.okWide,Cell.ok]at hv) rfl
 ·rename_i hu;simp only[C3]at E; subst E;cases J;exact I (fun cs e=>by subst e; simp[hu,Cell.okWide,Cell.ok]at hv) rfl
 ·rename_i e hu
  split at E
  case h_2=>
   split at E
   case isFalse=>cases E
   simp only[C3]at E; subst E;cases J;exact I (fun cs e=>by subst e; simp[hu,Cell.okWide,Cell.ok]at hv) rfl
  split at E
  case isFalse=>cases E
  simp only[C3]at E; subst E;cases J;exact I (fun cs e=>by subst e; simp[hu,Cell.okWide,Cell.ok]at hv) rfl
 ·rename_i fs hu
  split at E
  case h_2=>cases E
  split at E
  case isFalse=>cases E
  simp only[C3]at E; subst E;simp only[hu]at hv;obtain⟨cs,rfl,_,_⟩:=hv
  cases J with
  |agg _ xs _ _=>exact N cs _ rfl rfl
 ·rename_i m e hu
  split at E
  case h_2=>cases E
  split at E
  case isFalse=>cases E
  simp only[C3]at E; subst E;simp only[hu]at hv;obtain⟨cs,rfl,_,_⟩:=hv
  cases J with
  |agg _ xs _ _=>exact N cs _ rfl rfl
 ·cases E
inductive HasAll:List Ty→List D→Prop
 |nil:HasAll [] []
 |cons {t:Ty} {ts:List Ty} {x:D} {xs:List D}:Has t x→HasAll ts xs→HasAll (t::ts) (x::xs)
theorem oV{sp:Nat→Bool}{n:Nat}:∀ (I:List TypeId) (tys:List Ty) (vs:List Value) (ds:List (DataW H)) (J:List MemPlace),I.mapM (FP P n)=some tys→(∀ (j:Nat) t v,I[j]?=some t→vs[j]?=some v→Value.okWide P W .any 0 t v)→DataW.TrodAll enc P W 0 sp true I vs ds J→
  ∃ xs,HasAll tys xs∧xs.length=vs.length∧(∀ (i:Nat) d v,xs[i]?=some d→vs[i]?=some v→RepV W (JO W) [] d v)∧(∀ d∈xs,purA d=true)∧GW xs≤FX ds
 |[],tys,[],[],J,E,_,_=>by
  simp at E; subst E;exact⟨[],.nil,rfl,fun i d v h=>by simp at h,(fun d h=>by cases h),by simp[GW]⟩
 |t::I,tys,v::vs,d::ds,J,E,hv,h=>by
  simp only[Bs,Bm,Ay,BD,C3]at E;obtain⟨ty,O,M,U,rfl⟩:=E;obtain⟨p,q,V,Y,rfl⟩:=h;obtain⟨x,x1,⟨x2,x3⟩,x5⟩:=yU O (hv 0 t v rfl rfl) V;obtain⟨xs,y1,y2,y3,y4,y5⟩:=oV I M vs ds q U (fun j t v E N=>hv (j+1) t v (by simpa using E) (by simpa using N)) Y;refine⟨x::xs,.cons x1 y1,by simp[y2],?_,?_,?_⟩
  ·grind
  ·grind
  ·simp only[GW,FX]; omega
 |[],_,_::_,_,_,_,_,h=>by cases h
 |[],_,[],_::_,_,_,_,h=>by cases h
 |_::_,_,[],_,_,_,_,h=>by cases h
 |_::_,_,_::_,[],_,_,_,h=>by cases h
theorem yF4{K N:Nat}(hC:Contract P G K sp)(M:fn.params.toList.mapM (FP P n)=some tys)(E:s.vars=[])
  (I:∃ tb,fn.resultTypes=#[tb]∧P.underlying tb=some .bool)
  (ac:∀ (H:Type) (ds:List (DataW H)),ds.length=fn.params.size→(s.fn H ds).results=[.lit (.bool true)]∧(s.fn H ds).args=ds∧(s.fn H ds).vars=[])
  (ad:∀ xs,HasAll tys xs→GW xs≤N→sp xs=some (.bool true))
   {ds U:List (DataW H)}  (hG:GlobOK G W (JO W)) (hN:FX ds≤N)
  (V:∀ (j:Nat) t v,fn.params[j]?=some t→args[j]?=some v→Value.okWide P W .any 0 t v)
  (hW:DataW.Whole enc P fn.params.toList s.vars false W args.toList ds U before) :
  Calls P K args W fun e W'=>∃ v,e=.returned v∧s.post enc P fn false true false false W args v W':=by
 obtain⟨tb,I,af⟩:=I;have O:=hW;obtain⟨p,q,Y,hV,rfl,bc,bd⟩:=hW;rw[E]at hV
 have ah:U=[]∧q=[]:=by
  cases U with
  |nil=>exact⟨rfl,hV⟩
  |cons a l=>cases hV
 obtain⟨rfl,rfl⟩:=ah;obtain⟨xs,x1,x2,x3,x4,x5⟩:=oV fn.params.toList tys args.toList ds p M (fun j t v ht hv=>V j t v (by simpa using ht) (by simpa using hv)) Y
 have hlen:∀ (J:List TypeId) (vs:List Value) (ds:List (DataW H)) (ps:List MemPlace),DataW.TrodAll enc P W 0 (fun _=>true) true J vs ds ps→ds.length=J.length:=by
  intro J
  induction J with
  |nil=>intro vs ds ps h; cases vs <;> cases ds <;> first | rfl | cases h
  |cons t J ih=>
   intro vs ds ps h
   cases vs with
   |nil=>cases h
   |cons v vs=>
    cases ds with
    |nil=>cases h
    |cons d ds=>
     obtain⟨_,_,_,h4,_⟩:=h;grind
 have a0:ds.length=fn.params.size:=by simpa using hlen _ _ _ _ Y
 have hc:=hC W (JO W) xs args.toList (.bool true) (ad xs x1 (AS x5 hN)) hG (fun b o h=>h) x2 x3 x4;rw[BC]at hc;refine hc.mono ?_;rintro e W' ⟨v,g',rfl,h1,_,_,_,_,hb⟩;have hv:=KU h1;subst hv;obtain⟨f1,f2,f3⟩:=ac H ds a0;refine⟨_,rfl,ds,[],p++[],[],p,[],O,?_,?_,?_,?_,fun h=>by cases h⟩
 ·rw[Ad,f1,I];exact⟨[],[],⟨1,by unfold DataW.trod; simp[af,Value.cells]⟩,rfl,rfl⟩
 ·rw[Ad,f2];refine jm hb _ tys _ _ _ M Y _ fun x hx=>?_;simpa using O.lt x (by simpa using hx)
 ·rw[Ad,f3,E];rfl
 ·refine⟨hb.os,hb.output,fun i hi=>?_⟩;rw[hb.block i hi];grind
theorem law_contract{K:Nat}(V:Contract P G K sp)(J:fn.params.toList.mapM (FP P n)=some tys)(E:s.vars=[])
  (M:∃ tb,fn.resultTypes=#[tb]∧P.underlying tb=some .bool)
  (O:∀ (H:Type) (ds:List (DataW H)),ds.length=fn.params.size→(s.fn H ds).results=[.lit (.bool true)]∧(s.fn H ds).args=ds∧(s.fn H ds).vars=[])
  (U:∀ xs,HasAll tys xs→sp xs=some (.bool true))
   {ds Y:List (DataW H)}  (hG:GlobOK G W (JO W))
  (I:∀ (j:Nat) t v,fn.params[j]?=some t→args[j]?=some v→Value.okWide P W .any 0 t v)
  (hW:DataW.Whole enc P fn.params.toList s.vars false W args.toList ds Y before) :
  Calls P K args W fun e W'=>∃ v,e=.returned v∧s.post enc P fn false true false false W args v W':=
 yF4 (N:=FX ds) V J E M O (fun xs h _=>U xs h) hG (AE _) I hW
def PR(g:Nat)(k:IntKind)(zs:List Int):Db:=fun n=>if n=g then some (.agg (zs.map fun z=>.int k z))else none
theorem Yo1{I:String}{k:IntKind}{zs:List Int}{g:Nat}(h:Lib.TabIs P W I k zs)(N:P.globalNamed I=some g):GlobOK (PR g k zs) W (JO W):=by
 intro n d E;simp only[PR,As,C3]at E;obtain⟨rfl,rfl⟩:=E
 have hj:∀ (j:Nat) (d:D),(D.agg (zs.map fun z=>D.int k z)).cells[j]?=some d→d=.int k (zs.getD j 0)∧W.cell? ⟨n,j,none⟩=some (.int k (zs.getD j 0)):=by
  intro j d E;simp only[D.cells,AJ,Dv]at E;obtain⟨z,J,rfl⟩:=E;have M:j<zs.length:=(Ac.1 J).1;exact⟨by simp[Ao,J],h.cell N j M⟩
 refine .eptr _ 0 n 0 (fun j=>.int k (zs.getD j 0)) (fun j d E=>?_) (fun j d E=>?_) (fun j d E=>?_)
 ·rw[(hj j d E).1]; rfl
 ·have:=(hj j d E).2;rw[Am];exact⟨by show(W.cell? ⟨n,j,none⟩).isSome=true; rw[this]; rfl,this⟩
 ·rw[(hj j d E).1]; exact .int _ _
end
end Go.Proofs.YtijnglngaogdjaaGreatDoor.PI
namespace Go.Proofs.YtijnglngaogdjaaGreatDoor.PI
open Go
def wD(x:UInt32):D:=.int .u32 (x.toNat:Int)
def qD(x:UInt64):D:=.int .u64 (x.toNat:Int)
theorem Ytl{n:Nat}(m:Nat):CH n (m:Int)=BitVec.ofNat n m:=BitVec.ofInt_natCast ..
theorem QB(n:Nat):IntKind.wrap .u32 (n:Int)=((n % 2 ^ 32:Nat):Int):=by
 rfl
theorem R2(n:Nat):IntKind.wrap .u64 (n:Int)=((n % 2 ^ 64:Nat):Int):=by
 rfl
theorem Zn(n:Nat):IntKind.wrap .u8 (n:Int)=((n % 2 ^ 8:Nat):Int):=by
 rfl
theorem gK(x y:UInt32):Df .add (wD x) (wD y)=some (wD (x+y)):=by
 rfl
theorem Vy(x:UInt32):CH 32 (x.toNat:Int)=x.toBitVec:=by
 simp_all
theorem ZB(x:UInt32):x.toNat % 2 ^ 32=x.toNat:=A4 x.toNat_lt
theorem VC(x y:UInt32):Df .and (wD x) (wD y)=some (wD (x &&& y)):=by
 have h:(CH (IntKind.bits .u32) (x.toNat:Int) &&& CH (IntKind.bits .u32) (y.toNat:Int)).toNat=(x &&& y).toNat:=by
  show(CH 32 (x.toNat:Int) &&& CH 32 (y.toNat:Int)).toNat=_
  simp_all
 simp only[Df,wD,if_true,Ko,Ah,h,QB,ZB]
theorem Um(x y:UInt32):Df .or (wD x) (wD y)=some (wD (x ||| y)):=by
 have h:(CH (IntKind.bits .u32) (x.toNat:Int) ||| CH (IntKind.bits .u32) (y.toNat:Int)).toNat=(x ||| y).toNat:=by
  show(CH 32 (x.toNat:Int) ||| CH 32 (y.toNat:Int)).toNat=_
  simp_all
 simp only[Df,wD,if_true,Ko,Ah,h,QB,ZB]
theorem sj(x y:UInt32):Df .xor (wD x) (wD y)=some (wD (x ^^^ y)):=by
 have h:(CH (IntKind.bits .u32) (x.toNat:Int) ^^^ CH (IntKind.bits .u32) (y.toNat:Int)).toNat=(x ^^^ y).toNat:=by
  show(CH 32 (x.toNat:Int) ^^^ CH 32 (y.toNat:Int)).toNat=_
  simp_all
 simp only[Df,wD,if_true,Ko,Ah,h,QB,ZB]
theorem Ur(x:UInt32):Mf .xor (wD x)=some (wD (~~~x)):=by
 have E:(IntKind.max .u32)=((4294967295:UInt32).toNat:Int):=by decide
 have h:(CH (IntKind.bits .u32) ((4294967295:UInt32).toNat:Int) ^^^ CH (IntKind.bits .u32) (x.toNat:Int)).toNat=(~~~x).toNat:=by
  show(CH 32 ((4294967295:UInt32).toNat:Int) ^^^ CH 32 (x.toNat:Int)).toNat=_
  rw[Vy,Vy,show(4294967295:UInt32).toBitVec=BitVec.allOnes 32 from rfl,BitVec.allOnes_xor];rfl
 simp only[Mf,wD,Ko,Ah,show IntKind.signed .u32=false from rfl,Al,if_false,E,h,QB,ZB]
theorem Ypq(st:St)(b:UInt8):Fa st (.int .u32) (Dc b)=some (wD b.toUInt32):=by
 simp only[Fa,Dc,wD,QB,UInt8.toNat_toUInt32];simp_all
theorem Ypo(st:St)(x:UInt32):Fa st (.int .u8) (wD x)=some (Dc x.toUInt8):=by
 rfl
theorem Ypp(st:St)(x:UInt64):Fa st (.int .u8) (qD x)=some (Dc x.toUInt8):=by
 rfl
theorem r9(x:UInt32)(k:IntKind)(n:Nat)(h:n<32):Df .shl (wD x) (.int k (n:Int))=some (wD (x <<< (UInt32.ofNat n))):=by
 have e:(x <<< (UInt32.ofNat n)).toNat=x.toNat*2 ^ n % 2 ^ 32:=by
  rw[UInt32.toNat_shiftLeft,Nat.shiftLeft_eq,UInt32.toNat_ofNat',A4 (show n<2 ^ 32 by omega),A4 h]
 have E:((x.toNat:Int)*2 ^ n)=((x.toNat*2 ^ n:Nat):Int):=by push_cast; rfl
 simp only[Df,wD,Lo,show ¬ ((n:Int)<0) by omega,if_false,Ah,Bh,show IntKind.bits .u32=32 from rfl,B3 (Cn h),E,QB,e]
theorem se(x:UInt32)(k:IntKind)(n:Nat)(h:n<32):Df .shr (wD x) (.int k (n:Int))=some (wD (x >>> (UInt32.ofNat n))):=by
 have e:(x >>> (UInt32.ofNat n)).toNat=x.toNat / 2 ^ n:=by
  rw[UInt32.toNat_shiftRight,Nat.shiftRight_eq_div_pow,UInt32.toNat_ofNat',A4 (show n<2 ^ 32 by omega),A4 h]
 have E:(x.toNat:Int).fdiv (2 ^ n)=((x.toNat / 2 ^ n:Nat):Int):=by
  grind
 simp only[Df,wD,Lo,show ¬ ((n:Int)<0) by omega,if_false,Ah,Bh,show IntKind.bits .u32=32 from rfl,B3 (Cn h),E,e]
theorem q9(x:UInt64)(k:IntKind)(n:Nat)(h:n<64):Df .shl (qD x) (.int k (n:Int))=some (qD (x <<< (CW n))):=by
 have e:(x <<< (CW n)).toNat=x.toNat*2 ^ n % 2 ^ 64:=by
  rw[UInt64.toNat_shiftLeft,Nat.shiftLeft_eq,UInt64.toNat_ofNat',A4 (show n<2 ^ 64 by omega),A4 h]
 have E:((x.toNat:Int)*2 ^ n)=((x.toNat*2 ^ n:Nat):Int):=by push_cast; rfl
 simp only[Df,qD,Lo,show ¬ ((n:Int)<0) by omega,if_false,Ah,Bh,show IntKind.bits .u64=64 from rfl,B3 (Cn h),E,R2,e]
theorem Ue(x:UInt64)(k:IntKind)(n:Nat)(h:n<64):Df .shr (qD x) (.int k (n:Int))=some (qD (x >>> (CW n))):=by
 have e:(x >>> (CW n)).toNat=x.toNat / 2 ^ n:=by
  rw[UInt64.toNat_shiftRight,Nat.shiftRight_eq_div_pow,UInt64.toNat_ofNat',A4 (show n<2 ^ 64 by omega),A4 h]
 have E:(x.toNat:Int).fdiv (2 ^ n)=((x.toNat / 2 ^ n:Nat):Int):=by
  grind
 simp only[Df,qD,Lo,show ¬ ((n:Int)<0) by omega,if_false,Ah,Bh,show IntKind.bits .u64=64 from rfl,B3 (Cn h),E,e]
variable {n:Int}
theorem N9(E:-9223372036854775808≤n)(I:n<9223372036854775808):IntKind.wrap .i64 n=n:=by
 show(if(true && decide (n % (2 ^ 64:Int) ≥ (2 ^ (64 - 1):Int)))=true then n % (2 ^ 64:Int) - (2 ^ 64:Int)else n % (2 ^ 64:Int))=n
 grind
variable {a:Int}
theorem DP{b:Int}(E:-9223372036854775808≤a+b)(I:a+b<9223372036854775808):Df .add (.int .i64 a) (.int .i64 b)=some (.int .i64 (a+b)):=by
 simp only[Df,if_true,JP,Ah,N9 E I]
theorem Fh{b:Int}(E:-9223372036854775808≤a - b)(I:a - b<9223372036854775808):Df .sub (.int .i64 a) (.int .i64 b)=some (.int .i64 (a - b)):=by
 simp only[Df,if_true,JP,Ah,N9 E I]
theorem MH{b:Int}(E:-9223372036854775808≤a*b)(I:a*b<9223372036854775808):Df .mul (.int .i64 a) (.int .i64 b)=some (.int .i64 (a*b)):=by
 simp only[Df,if_true,JP,Ah,N9 E I]
class Cont (α:Type):Type where
 mk::
 run:α→Prop
class Cont2 (α β:Type):Type where
 mk::
 run:α→β→Prop
class QC:Type where
 mk::
 run:Ex→Frame→St→Prop
class InvC:Type where
 mk::
 run:PS→Prop
class Br:Type where
 mk::
 run:Prop
def on{α:Type}(o:Option α)[k:Cont α]:Prop:=match o with
 |some a=>k.run a
 |none=>False
variable {α:Type}
theorem lg(a:α)(K:α→Prop):@on α (some a) ⟨K⟩=K a:=(rfl)
theorem Ymz(k:Cont α):@on α none k=False:=(rfl)
def Rw(d:D)[k:Cont Bool]:Prop:=match d with
 |.bool b=>k.run b
 |_=>False
theorem Yfm(b:Bool)(K:Bool→Prop):@Rw (.bool b) ⟨K⟩=K b:=(rfl)
def G4(b:Bool)[x:Br][y:Br]:Prop:=if b=true then x.run else y.run
theorem Ygv(x:Prop)(y:Br):@G4 true ⟨x⟩ y=x:=(rfl)
theorem vV(x:Br)(y:Prop):@G4 false x ⟨y⟩=y:=(rfl)
theorem Yof(b:Bool)(x y:Br):@G4 (!b) x y=@G4 b y x:=by cases b <;> rfl
variable {y:Prop}
theorem E8{p:Prop}[Decidable p]{x:Prop}(E:p→x)(I:¬ p→y):@G4 (decide p) ⟨x⟩ ⟨y⟩:=by
 by_cases h:p
 ·rw[show decide p=true by simpa using h]; exact E h
 ·rw[show decide p=false by simpa using h]; exact I h
def ev(d:D)[k:Cont D]:Prop:=k.run d
theorem Vi(d:D)(K:D→Prop):@ev d ⟨K⟩=K d:=(rfl)
def OL(d:D)(st:St)[k:Cont2 D St]:Prop:=k.run d st
theorem Yvr(d:D)(st:St)(K:D→St→Prop):@OL d st ⟨K⟩=K d st:=(rfl)
def ET(T:Tbl)(op:POp)(ρ:PA→D)(st:St)(K:D→St→Prop):Prop:=@on _ (op.exec T ρ st) ⟨fun p=>K p.1 p.2⟩
def kG(fr:Frame)(g:Option (Nat×Bool))(x y:Prop):Prop:=match g with
 |none=>x
 |some (s,want)=>match fr s with
  |.bool b=>@G4 (b == want) ⟨x⟩ ⟨y⟩
  |.tup []=>y
  |_=>False
def FU(G:Db)(T:Tbl):List PI→Frame→St→(Frame→St→Prop)→Prop
 |[],fr,st,K=>K fr st
 |i::l,fr,st,K=>kG fr i.guard (ET T i.op (Dh G fr) st fun d st'=>FU G T l (fr.put i.dst d) st' K) (FU G T l (fr.put i.dst (.tup [])) st K)
theorem Su{G:Db}{T:Tbl}:∀ (l:List PI) (fr:Frame) (st:St) (K:Frame→St→Prop),FU G T l fr st K→∃ E st',EK G T l ⟨fr,st⟩=some ⟨E,st'⟩∧K E st'
 |[],fr,st,K,h=>⟨fr,st,rfl,h⟩
 |i::l,fr,st,K,h=>by
  have yes:ET T i.op (Dh G fr) st (fun d st'=>FU G T l (fr.put i.dst d) st' K)→i.wanted fr=some true→∃ E st',EK G T (i::l) ⟨fr,st⟩=some ⟨E,st'⟩∧K E st':=by
   intro h hw;unfold ET on at h
   split at h
   ·rename_i p O;obtain⟨E,st',M,N⟩:=Su l _ _ K h;exact⟨E,st',by simp only[EK,PI.exec,hw,O,M],N⟩
   ·exact h.elim
  have no:FU G T l (fr.put i.dst (.tup [])) st K→i.wanted fr=some false→∃ E st',EK G T (i::l) ⟨fr,st⟩=some ⟨E,st'⟩∧K E st':=by
   intro h hw;obtain⟨E,st',M,N⟩:=Su l _ _ K h;exact⟨E,st',by simp only[EK,PI.exec,hw,M],N⟩
  rw[FU]at h;unfold kG at h
  split at h
  ·rename_i I;exact yes h (by simp[PI.wanted,I])
  ·rename_i s want I
   split at h
   ·rename_i b hb;have hw:i.wanted fr=some (b == want):=by simp[PI.wanted,I,hb]
    cases J:(b == want)with
    |true=>rw[J]at h hw; exact yes h hw
    |false=>rw[J]at h hw; exact no h hw
   ·rename_i hb;exact no h (by simp[PI.wanted,I,hb])
   ·exact h.elim
def Iz(T:Tbl)(op:POp)(ρ:PA→D)(st:St)(K:D→St→Prop)(X:Nat→D→St→Prop):Prop:=match op.exec T ρ st with
 |some p=>K p.1 p.2
 |none=>match op.execX T ρ st with
  |some r=>X r.1 r.2.1 r.2.2
  |none=>False
def Lj(G:Db)(T:Tbl):List PI→Frame→St→(Frame→St→Prop)→(Nat→D→Frame→St→Prop)→Prop
 |[],fr,st,K,_=>K fr st
 |i::l,fr,st,K,X=>kG fr i.guard (Iz T i.op (Dh G fr) st (fun d st'=>Lj G T l (fr.put i.dst d) st' K X) (fun t d st'=>X t d fr st')) (Lj G T l (fr.put i.dst (.tup [])) st K X)
theorem aR{G:Db}{T:Tbl}:∀ (l:List PI) (fr:Frame) (st:St) (K:Frame→St→Prop) (X:Nat→D→Frame→St→Prop),Lj G T l fr st K X→
  (∃ E st',EK G T l ⟨fr,st⟩=some ⟨E,st'⟩∧K E st')∨∃ t d E st',EK G T l ⟨fr,st⟩=none∧Je G T l ⟨fr,st⟩=some (t,d,⟨E,st'⟩)∧X t d E st'
 |[],fr,st,K,X,h=>.inl ⟨fr,st,rfl,h⟩
 |i::l,fr,st,K,X,h=>by
  have yes:Iz T i.op (Dh G fr) st (fun d st'=>Lj G T l (fr.put i.dst d) st' K X) (fun t d st'=>X t d fr st')→i.wanted fr=some true→
    (∃ E st',EK G T (i::l) ⟨fr,st⟩=some ⟨E,st'⟩∧K E st')∨∃ t d E st',EK G T (i::l) ⟨fr,st⟩=none∧Je G T (i::l) ⟨fr,st⟩=some (t,d,⟨E,st'⟩)∧X t d E st':=by
   intro h hw;unfold Iz at h
   split at h
   ·rename_i p O;rcases aR l _ _ K X h with⟨E,st',I,J⟩ | ⟨t,d,E,st',I,J,U⟩
    ·exact .inl ⟨E,st',by simp only[EK,PI.exec,hw,O,I],J⟩
    ·exact .inr ⟨t,d,E,st',by simp only[EK,PI.exec,hw,O,I],by simp only[Je,PI.exec,hw,O,J],U⟩
   ·rename_i hn
    split at h
    ·rename_i r V;exact .inr ⟨r.1,r.2.1,fr,r.2.2,by simp only[EK,PI.exec,hw,hn],by simp only[Je,PI.exec,PI.execX,hw,hn,V,Ah],h⟩
    ·exact h.elim
  have no:Lj G T l (fr.put i.dst (.tup [])) st K X→i.wanted fr=some false→
    (∃ E st',EK G T (i::l) ⟨fr,st⟩=some ⟨E,st'⟩∧K E st')∨∃ t d E st',EK G T (i::l) ⟨fr,st⟩=none∧Je G T (i::l) ⟨fr,st⟩=some (t,d,⟨E,st'⟩)∧X t d E st':=by
   intro h hw;rcases aR l _ _ K X h with⟨E,st',I,J⟩ | ⟨t,d,E,st',I,J,U⟩
   ·exact .inl ⟨E,st',by simp only[EK,PI.exec,hw,I],J⟩
   ·exact .inr ⟨t,d,E,st',by simp only[EK,PI.exec,hw,I],by simp only[Je,PI.exec,hw,J],U⟩
  rw[Lj]at h;unfold kG at h
  split at h
  ·rename_i M;exact yes h (by simp[PI.wanted,M])
  ·rename_i s want M
   split at h
   ·rename_i b hb;have hw:i.wanted fr=some (b == want):=by simp[PI.wanted,M,hb]
    cases N:(b == want)with
    |true=>rw[N]at h hw; exact yes h hw
    |false=>rw[N]at h hw; exact no h hw
   ·rename_i hb;exact no h (by simp[PI.wanted,M,hb])
   ·exact h.elim
variable {X:Nat→D→St→Prop}{st:St}{T:Tbl}
theorem wi{op:POp}{ρ:PA→D}{K E:D→St→Prop}{I:Nat→D→St→Prop}(h:Iz T op ρ st K X)(hk:∀ d st,K d st→E d st)(J:∀ t d st,X t d st→I t d st):Iz T op ρ st E I:=by
 unfold Iz at h ⊢;grind
variable {fr:Frame}
theorem Yn5{g:Option (Nat×Bool)}{x E I:Prop}(h:kG fr g x y)(J:x→E)(M:y→I):kG fr g E I:=by
 unfold kG at h ⊢
 revert h
 split
 ·exact J
 ·split
  ·unfold G4;grind
  ·exact M
  ·exact id
theorem aJ{G:Db}{T:Tbl}:∀ (l:List PI) (fr:Frame) (st:St) (K E:Frame→St→Prop) (X I:Nat→D→Frame→St→Prop),Lj G T l fr st K X→(∀ fr st,K fr st→E fr st)→(∀ t d fr st,X t d fr st→I t d fr st)→Lj G T l fr st E I
 |[],_,_,_,_,_,_,h,hk,_=>hk _ _ h
 |i::l,fr,st,K,E,X,I,h,hk,J=>by
  rw[Lj]at h ⊢;exact Yn5 h (fun h=>wi h (fun _ _ h=>aJ l _ _ _ _ _ _ h hk J) fun _ _ _ h=>J _ _ _ _ h) fun h=>aJ l _ _ _ _ _ _ h hk J
class XC:Type where
 mk::
 run:Nat→D→Frame→St→Prop
class XC0:Type where
 mk::
 run:Nat→D→St→Prop
def OF(G:Db)(T:Tbl)(l:List PI)(fr:Frame)(st:St)[K:Cont2 Frame St][X:XC]:Prop:=Lj G T l fr st K.run X.run
def I0(T:Tbl)(op:POp)(ρ:PA→D)(st:St)[K:Cont2 D St][X:XC0]:Prop:=Iz T op ρ st K.run X.run
theorem yW(G:Db)(T:Tbl)(fr:Frame)(st:St)(K:Frame→St→Prop)(X:XC):@OF G T [] fr st ⟨K⟩ X=K fr st:=(rfl)
def Rv(o:Option (D×St))(p:Option (Nat×D×St))[K:Cont2 D St][X:XC0]:Prop:=match o with
 |some r=>K.run r.1 r.2
 |none=>match p with
  |some r=>X.run r.1 r.2.1 r.2.2
  |none=>False
theorem Yfl(d:D)(st:St)(p:Option (Nat×D×St))(K:D→St→Prop)(X:XC0):@Rv (some (d,st)) p ⟨K⟩ X=K d st:=(rfl)
theorem wR(t:Nat)(d:D)(st:St)(K:Cont2 D St)(X:Nat→D→St→Prop):@Rv none (some (t,d,st)) K ⟨X⟩=X t d st:=(rfl)
def SU(o:Option (List D→St→Option (D×St)))(ds:List D)(st:St):Option (D×St):=match o with
 |some sp=>sp ds st
 |none=>none
theorem zY(sp:List D→St→Option (D×St))(ds:List D)(st:St):SU (some sp) ds st=sp ds st:=(rfl)
theorem zX(ds:List D)(st:St):SU none ds st=none:=(rfl)
def SV(o:Option (List D→St→Option (Nat×D×St)))(ds:List D)(st:St):Option (Nat×D×St):=match o with
 |some sp=>sp ds st
 |none=>none
theorem z4(sp:List D→St→Option (Nat×D×St))(ds:List D)(st:St):SV (some sp) ds st=sp ds st:=(rfl)
theorem zZ(ds:List D)(st:St):SV none ds st=none:=(rfl)
theorem yQ7(T:Tbl)(f:Nat)(args:List PA)(ρ:PA→D)(st:St)(K:Cont2 D St)(X:XC0):@I0 T (.icall f args) ρ st K X=@Rv (SU (T.i f) (args.map ρ) st) (SV (T.x f) (args.map ρ) st) K X:=by
 rfl
def NP(d:D)(ds:List D):Option (Nat×List D):=match d with
 |.clo f caps=>if f<5000000 then some (f,ds++caps)else if f<10000000 then some (f - 5000000,caps++ds)else none
 |_=>none
theorem WR(T:Tbl)(x:PA)(args:List PA)(ρ:PA→D)(st:St)(K:Cont2 D St)(X:XC0)(f:Nat)(ds:List D)(h:NP (ρ x) (args.map ρ)=some (f,ds)):@I0 T (.callv x args) ρ st K X=@Rv (SU (T.i f) ds st) (SV (T.x f) ds st) K X:=by
 simp only[I0,Iz,POp.exec,Rv,SU,SV,POp.execX,POp.callee];unfold NP at h;grind
def POp.tame:POp→Bool
 |.icall _ _ | .callv _ _=>false
 |_=>true
theorem yV(T:Tbl)(op:POp)(ρ:PA→D)(st:St)(K:Cont2 D St)(X:XC0)(h:op.tame=true):@I0 T op ρ st K X=ET T op ρ st K.run:=by
 have:op.execX T ρ st=none:=by
  cases op <;> first | rfl | (simp[POp.tame]at h; done)
 simp only[I0,Iz,ET,on,this];grind
def kF(fs:List (Option Foot))(b:Bool)(cs:List Nat)(f:Option Foot)(K:List (Option Foot)→Prop):Prop:=@G4 (MN fs f cs) ⟨K (fs++[if b then f else none])⟩ ⟨False⟩
variable {f:Option Foot}{cs:List Nat}{fs:List (Option Foot)}
theorem di{b:Bool}{K:List (Option Foot)→Prop}(h:kF fs b cs f K):MN fs f cs=true∧K (fs++[if b then f else none]):=by
 unfold kF G4 at h;grind
theorem kX{b:Bool}{K E:List (Option Foot)→Prop}(h:kF fs b cs f K)(hk:∀ fs,K fs→E fs):kF fs b cs f E:=by
 obtain⟨I,J⟩:=di h;unfold kF G4;grind
def FG(G:Db)(T:Tbl):List (PI×Bool×List Nat)→List (Option Foot)→Frame→St→(Frame→St→Prop)→Prop
 |[],_,fr,st,K=>K fr st
 |i::l,fs,fr,st,K=>kG fr i.1.guard (kF fs i.2.1 i.2.2 (i.1.op.foot (Dh G fr) st) fun fs'=>ET T i.1.op (Dh G fr) st fun d st'=>FG G T l fs' (fr.put i.1.dst d) st' K)
   (kF fs i.2.1 i.2.2 (some NZ) fun fs'=>FG G T l fs' (fr.put i.1.dst (.tup [])) st K)
theorem Ss{G:Db}{T:Tbl}:∀ (l:List (PI×Bool×List Nat)) (fs:List (Option Foot)) (fr:Frame) (st:St) (K:Frame→St→Prop),FG G T l fs fr st K→∃ E st',GV G T l fs ⟨fr,st⟩=some ⟨E,st'⟩∧K E st'
 |[],_,fr,st,K,h=>⟨fr,st,rfl,h⟩
 |(i,b,cs)::l,fs,fr,st,K,h=>by
  have yes:kF fs b cs (i.op.foot (Dh G fr) st) (fun J=>ET T i.op (Dh G fr) st fun d st'=>FG G T l J (fr.put i.dst d) st' K)→i.wanted fr=some true→∃ E st',GV G T ((i,b,cs)::l) fs ⟨fr,st⟩=some ⟨E,st'⟩∧K E st':=by
   intro h hw;obtain⟨N,h⟩:=di h;unfold ET on at h
   split at h
   ·rename_i p Y;obtain⟨E,st',O,U⟩:=Ss l _ _ _ K h;have hf:i.foot G ⟨fr,st⟩=i.op.foot (Dh G fr) st:=by simp[PI.foot,hw]
    have V:i.exec G T ⟨fr,st⟩=some ⟨fr.put i.dst p.1,p.2⟩:=by simp only[PI.exec,hw,Y]
    exact⟨E,st',by simp only[GV,hf,N,if_true,V,O],U⟩
   ·exact h.elim
  have no:kF fs b cs (some NZ) (fun J=>FG G T l J (fr.put i.dst (.tup [])) st K)→i.wanted fr=some false→∃ E st',GV G T ((i,b,cs)::l) fs ⟨fr,st⟩=some ⟨E,st'⟩∧K E st':=by
   intro h hw;obtain⟨N,h⟩:=di h;obtain⟨E,st',O,U⟩:=Ss l _ _ _ K h;have hf:i.foot G ⟨fr,st⟩=some NZ:=by simp[PI.foot,hw]
   have V:i.exec G T ⟨fr,st⟩=some ⟨fr.put i.dst (.tup []),st⟩:=by simp only[PI.exec,hw]
   exact⟨E,st',by simp only[GV,hf,N,if_true,V,O],U⟩
  rw[FG]at h;unfold kG at h
  split at h
  ·rename_i I;exact yes h (by simp only at I; simp[PI.wanted,I])
  ·rename_i s want I;simp only at I
   split at h
   ·rename_i b hb;have hw:i.wanted fr=some (b == want):=by simp[PI.wanted,I,hb]
    cases M:(b == want)with
    |true=>rw[M]at h hw; exact yes h hw
    |false=>rw[M]at h hw; exact no h hw
   ·rename_i hb;exact no h (by simp[PI.wanted,I,hb])
   ·exact h.elim
theorem So{G:Db}{T:Tbl}:∀ (l:List (PI×Bool×List Nat)) (fs:List (Option Foot)) (fr:Frame) (st:St) (K I:Frame→St→Prop),FG G T l fs fr st K→(∀ fr st,K fr st→I fr st)→FG G T l fs fr st I
 |[],_,_,_,_,_,h,hk=>hk _ _ h
 |i::l,fs,fr,st,K,I,h,hk=>by
  have J:kF fs i.2.1 i.2.2 (i.1.op.foot (Dh G fr) st) (fun E=>ET T i.1.op (Dh G fr) st fun d st'=>FG G T l E (fr.put i.1.dst d) st' K)→kF fs i.2.1 i.2.2 (i.1.op.foot (Dh G fr) st) (fun E=>ET T i.1.op (Dh G fr) st fun d st'=>FG G T l E (fr.put i.1.dst d) st' I):=by
   refine fun h=>kX h fun E=>?_;unfold ET on
   split
   ·exact fun h=>So l _ _ _ _ _ h hk
   ·exact id
  have M:kF fs i.2.1 i.2.2 (some NZ) (fun E=>FG G T l E (fr.put i.1.dst (.tup [])) st K)→kF fs i.2.1 i.2.2 (some NZ) (fun E=>FG G T l E (fr.put i.1.dst (.tup [])) st I):=fun h=>kX h fun E h=>So l _ _ _ _ _ h hk;rw[FG]at h ⊢;unfold kG at h ⊢
  revert h
  split
  ·exact J
  ·split
   ·unfold G4;grind
   ·exact M
   ·exact id
class FsC:Type where
 mk::
 run:List (Option Foot)→Prop
def wF(fs:List (Option Foot))(b:Bool)(cs:List Nat)(f:Option Foot)[K:FsC]:Prop:=kF fs b cs f K.run
theorem EH(fs:List (Option Foot))(f:Option Foot)(K:List (Option Foot)→Prop):@wF fs false [] f ⟨K⟩=K (fs++[none]):=(rfl)
def Zr(l:List (Option Foot))[K:FsC]:Prop:=K.run l
theorem Yvg(l:List (Option Foot))(K:List (Option Foot)→Prop):@Zr l ⟨K⟩=K l:=(rfl)
theorem Ylb(fs:List (Option Foot))(f:Foot)(K:FsC):@wF fs true [] (some f) K=@Zr (fs++[some f]) K:=(rfl)
theorem TF(fs:List (Option Foot))(b:Bool)(j:Nat)(cs:List Nat)(f:Foot)(K:FsC):@wF fs b (j::cs) (some f) K=@G4 (MN fs (some f) (j::cs)) ⟨@Zr (fs++[if b then some f else none]) K⟩ ⟨False⟩:=(rfl)
def SX(a b:PS)[k:Cont PS]:Prop:=a=b∧k.run a
theorem yRm(a:PS)(K:PS→Prop):@SX a a ⟨K⟩=K a:=by simp[SX]
def W2(keep:List Nat)(n:Nat)(fr1:Frame)(st1:St)(fr2:Frame)(st2:St)(K:PS→Prop):Prop:=
 @G4 (st1.length == n+2 && st2.length == n+2) ⟨@SX (restrictAt keep n [n,n+1] ⟨fr1,st1⟩) (restrictAt keep n [n+1,n] ⟨fr2,st2⟩) ⟨K⟩⟩ ⟨False⟩
variable {st1 st2:St}{fr1 fr2:Frame}{keep:List Nat}
theorem Yq7{n:Nat}{K:PS→Prop}(h:W2 keep n fr1 st1 fr2 st2 K):ZM keep n ⟨fr1,st1⟩ ⟨fr2,st2⟩=some (restrictAt keep n [n,n+1] ⟨fr1,st1⟩)∧K (restrictAt keep n [n,n+1] ⟨fr1,st1⟩):=by
 unfold W2 G4 at h
 split at h
 ·rename_i hl;simp only[Af,beq_iff_eq]at hl;obtain⟨I,E⟩:=h;refine⟨?_,E⟩;unfold ZM;grind
 ·exact h.elim
theorem Yq8{n:Nat}{K E:PS→Prop}(h:W2 keep n fr1 st1 fr2 st2 K)(hk:∀ s,K s→E s):W2 keep n fr1 st1 fr2 st2 E:=by
 unfold W2 G4 at h ⊢
 split at h
 ·rename_i hl;rw[if_pos hl];exact⟨h.1,hk _ h.2⟩
 ·exact h.elim
def Iw(G:Db)(T:Tbl)(l:List (PI×Bool×List Nat))(fs:List (Option Foot))(fr:Frame)(st:St)[K:Cont2 Frame St]:Prop:=FG G T l fs fr st K.run
def Hh(G:Db)(T:Tbl)(l:List PI)(fr:Frame)(st:St)[K:Cont2 Frame St]:Prop:=FU G T l fr st K.run
def DX(T:Tbl)(op:POp)(ρ:PA→D)(st:St)[K:Cont2 D St]:Prop:=ET T op ρ st K.run
def kV(d:D)(want:Bool)[x:Br][y:Br]:Prop:=match d with
 |.bool b=>@G4 (b == want) x y
 |.tup []=>y.run
 |_=>False
theorem Yc9(G:Db)(T:Tbl)(fr:Frame)(st:St)(K:Frame→St→Prop):@Hh G T [] fr st ⟨K⟩=K fr st:=(rfl)
theorem yQ5(G:Db)(T:Tbl)(dst:Option Nat)(op:POp)(l:List PI)(fr:Frame)(st:St)(K:Cont2 Frame St) :
  @Hh G T ({dst,op,guard:=none}::l) fr st K=@DX T op (Dh G fr) st ⟨fun d st'=>@Hh G T l (fr.put dst d) st' K⟩:=(rfl)
theorem yQ6(G:Db)(T:Tbl)(dst:Option Nat)(op:POp)(s:Nat)(E:Bool)(l:List PI)(fr:Frame)(st:St)(K:Cont2 Frame St) :
  @Hh G T ({dst,op,guard:=some (s,E)}::l) fr st K=@kV (fr s) E ⟨@DX T op (Dh G fr) st ⟨fun d st'=>@Hh G T l (fr.put dst d) st' K⟩⟩ ⟨@Hh G T l (fr.put dst (.tup [])) st K⟩:=(rfl)
theorem yK4(G:Db)(T:Tbl)(dst:Option Nat)(op:POp)(l:List PI)(fr:Frame)(st:St)(K:Cont2 Frame St)(X:XC) :
  @OF G T ({dst,op,guard:=none}::l) fr st K X=@I0 T op (Dh G fr) st ⟨fun d st'=>@OF G T l (fr.put dst d) st' K X⟩ ⟨fun t d st'=>X.run t d fr st'⟩:=(rfl)
theorem yK5(G:Db)(T:Tbl)(dst:Option Nat)(op:POp)(s:Nat)(E:Bool)(l:List PI)(fr:Frame)(st:St)(K:Cont2 Frame St)(X:XC) :
  @OF G T ({dst,op,guard:=some (s,E)}::l) fr st K X=@kV (fr s) E ⟨@I0 T op (Dh G fr) st ⟨fun d st'=>@OF G T l (fr.put dst d) st' K X⟩ ⟨fun t d st'=>X.run t d fr st'⟩⟩ ⟨@OF G T l (fr.put dst (.tup [])) st K X⟩:=(rfl)
theorem Yla(T:Tbl)(op:POp)(ρ:PA→D)(st:St)(K:D→St→Prop)(X:XC0)(h:op.tame=true):@I0 T op ρ st ⟨K⟩ X=@DX T op ρ st ⟨K⟩:=yV T op ρ st ⟨K⟩ X h
theorem Ydb(G:Db)(T:Tbl)(fs:List (Option Foot))(fr:Frame)(st:St)(K:Frame→St→Prop):@Iw G T [] fs fr st ⟨K⟩=K fr st:=(rfl)
theorem yQ8(G:Db)(T:Tbl)(dst:Option Nat)(op:POp)(b:Bool)(cs:List Nat)(l:List (PI×Bool×List Nat))(fs:List (Option Foot))(fr:Frame)(st:St)(K:Cont2 Frame St) :
  @Iw G T (({dst,op,guard:=none},b,cs)::l) fs fr st K=@wF fs b cs (op.foot (Dh G fr) st) ⟨fun E=>@DX T op (Dh G fr) st ⟨fun d st'=>@Iw G T l E (fr.put dst d) st' K⟩⟩:=(rfl)
theorem yQ9(G:Db)(T:Tbl)(dst:Option Nat)(op:POp)(s:Nat)(E:Bool)(b:Bool)(cs:List Nat)(l:List (PI×Bool×List Nat))(fs:List (Option Foot))(fr:Frame)(st:St)(K:Cont2 Frame St) :
  @Iw G T (({dst,op,guard:=some (s,E)},b,cs)::l) fs fr st K=@kV (fr s) E ⟨@wF fs b cs (op.foot (Dh G fr) st) ⟨fun I=>@DX T op (Dh G fr) st ⟨fun d st'=>@Iw G T l I (fr.put dst d) st' K⟩⟩⟩ ⟨@wF fs b cs (some NZ) ⟨fun I=>@Iw G T l I (fr.put dst (.tup [])) st K⟩⟩:=(rfl)
theorem Yn4(b:Bool)(x y:Br):@kV (.bool b) true x y=@G4 b x y:=by cases b <;> rfl
theorem Ygl(b:Bool)(x y:Br):@kV (.bool b) false x y=@G4 b y x:=by cases b <;> rfl
theorem Yuv(E:Bool)(x:Br)(y:Prop):@kV (.tup []) E x ⟨y⟩=y:=(rfl)
section
variable (T:Tbl) (ρ:PA→D) (st:St) (K:D→St→Prop)
theorem Ir{β:Type}(o:Option α)(f:α→β)(K:β→Prop):@on β (o.map f) ⟨K⟩=@on α o ⟨fun a=>K (f a)⟩:=by cases o <;> rfl
theorem UM(x:PA):@DX T (.mov x) ρ st ⟨K⟩=@ev (ρ x) ⟨fun d=>K d st⟩:=(rfl)
def SS(c x y:D):Option D:=match c with
 |.bool b=>some (if b then x else y)
 |_=>none
theorem ySc(x y:D):SS (.bool true) x y=some x:=(rfl)
theorem yMg(x y:D):SS (.bool false) x y=some y:=(rfl)
theorem ySd(b c e:Bool):SS (.bool b) (.bool c) (.bool e)=some (.bool (if b then c else e)):=by cases b <;> rfl
theorem Yuk(c x y:PA):@DX T (.pick c x y) ρ st ⟨K⟩=@on _ (SS (ρ c) (ρ x) (ρ y)) ⟨fun d=>K d st⟩:=by
 simp only[DX,ET,POp.exec,SS];cases ρ c <;> rfl
def Dx(d:D):Option (List D):=if d.cells.all D.isCell then some d.cells else none
theorem UT(x:PA):@DX T (.box x) ρ st ⟨K⟩=@on _ (Dx (ρ x)) ⟨fun cs=>@OL (.ptr st.length 0) (st++[{row:=false,sz:=1,els:=cs,lent:=false}]) ⟨K⟩⟩:=by
 simp only[DX,ET,POp.exec,Dx]
 split <;> rfl
theorem UU(E:List D)(parts:List (Nat×Nat×PA)):@DX T (.bld E parts) ρ st ⟨K⟩=@on _ (DF E (parts.map fun p=>(p.1,p.2.1,ρ p.2.2))) ⟨fun cs=>K (.agg cs) st⟩:=by
 simp only[DX,ET,POp.exec,Ir]
def E4(sz:Nat)(els:List D):Option D:=if(els.all fun e=>e.cells.length == sz) && decide (0<sz) && decide (els.length*sz≤16777216)then some (.slc sz els true)else none
theorem Yuu(sz:Nat)(parts:List PA):@DX T (.bslc sz parts) ρ st ⟨K⟩=@on _ (D0 st (parts.map ρ)) ⟨fun els=>@on _ (E4 sz els) ⟨fun d=>@OL d (lend ((parts.map ρ).flatMap keys) st) ⟨K⟩⟩⟩:=by
 simp only[DX,ET,POp.exec]
 cases D0 st (parts.map ρ)with
 |none=>rfl
 |some els=>
  simp only[on]
  by_cases h:((els.all fun e=>e.cells.length == sz) && decide (0<sz) && decide (els.length*sz≤16777216))=true
  ·simp only[E4,h,if_true]; rfl
  ·simp only[E4,h,Al,if_false]
theorem Yum(n:Nat)(ag:Bool)(p:PA):@DX T (.load n ag p) ρ st ⟨K⟩=@on _ (E1 st n ag (ρ p)) ⟨fun d=>K d st⟩:=by
 simp only[DX,ET,POp.exec,Ir]
theorem Yuj(n:Nat)(p x:PA):@DX T (.stor n p x) ρ st ⟨K⟩=@on _ (Ll st n (ρ p) (ρ x)) ⟨fun st'=>K (.tup []) st'⟩:=by
 simp only[DX,ET,POp.exec,Ir]
def gX(st:St)(d:D):Option D:=match d with
 |.ptr _ _ | .eptr _ _=>some d
 |.rptr key tot _ _=>if EE st key tot then some d else none
 |_=>none
theorem Yul(x:PA):@DX T (.nilc x) ρ st ⟨K⟩=@on _ (gX st (ρ x)) ⟨fun d=>K d st⟩:=by
 simp only[DX,ET,POp.exec,gX]
 cases ρ x with
 |rptr key tot i off=>
  simp only
  split <;> rfl
 |_=>rfl
theorem UW(op:BinOp)(x y:PA):@DX T (.bin op x y) ρ st ⟨K⟩=@on _ (Df op (ρ x) (ρ y)) ⟨fun d=>K d st⟩:=by
 simp only[DX,ET,POp.exec,Ir]
theorem UX(E:Bool)(x y:PA):@DX T (.beq E x y) ρ st ⟨K⟩=@on _ (Mg E (ρ x) (ρ y)) ⟨fun d=>K d st⟩:=by
 simp only[DX,ET,POp.exec,Ir]
theorem UZ(ks:List Nat)(E:Bool)(x y:PA):@DX T (.aeq ks E x y) ρ st ⟨K⟩=@on _ (Gt ks E (ρ x) (ρ y)) ⟨fun d=>K d st⟩:=by
 simp only[DX,ET,POp.exec,Ir]
theorem gp(op:UnOp)(x:PA):@DX T (.un op x) ρ st ⟨K⟩=@on _ (Mf op (ρ x)) ⟨fun d=>K d st⟩:=by
 simp only[DX,ET,POp.exec,Ir]
theorem Yus(c:PConv)(x:PA):@DX T (.conv c x) ρ st ⟨K⟩=@on _ (Fa st c (ρ x)) ⟨fun d=>K d st⟩:=by
 simp only[DX,ET,POp.exec,Ir]
def OP(sz bytes:Nat)(zero ln cp:D):Option (Nat×Obj):=match Fq ln,Fq cp with
 |some l,some c=>if l≤c∧c≤4294967296∧c*bytes≤140737488355328∧0<sz∧zero.cells.length=sz∧zero.cells.all D.pure1=true then
   some (l,{row:=true,sz,els:=CF l zero,lent:=false})else none
 |_,_=>none
theorem Ynx(sz bytes:Nat)(E:D)(I J:PA):@DX T (.mkslc sz bytes E I J) ρ st ⟨K⟩=@on _ (OP sz bytes E (ρ I) (ρ J)) ⟨fun r=>@OL (.row st.length r.1 0 r.1) (st++[r.2]) ⟨K⟩⟩:=by
 simp only[DX,ET,POp.exec,OP]
 cases Fq (ρ I)with
 |none=>rfl
 |some l=>
  cases Fq (ρ J)with
  |none=>rfl
  |some c=>
   simp only
   split <;> rfl
theorem Ynv(sz:Nat)(x:PA)(lo hi E:Option PA):@DX T (.slice sz x lo hi E) ρ st ⟨K⟩=@on _ (Gm st sz (ρ x) (lo.map ρ) (hi.map ρ) (E.map ρ)) ⟨fun d=>K d st⟩:=by
 simp only[DX,ET,POp.exec,Ir]
theorem Ygj(n sz:Nat)(ag:Bool)(x:PA)(lo hi:Option PA):@DX T (.sliceA n sz ag x lo hi) ρ st ⟨K⟩=@on _ (N1 n sz ag (ρ x) (lo.map ρ) (hi.map ρ)) ⟨fun d=>K d st⟩:=by
 simp only[DX,ET,POp.exec,Ir]
theorem UQ(off:Nat)(p:PA):@DX T (.fld off p) ρ st ⟨K⟩=@on _ (E3 st off (ρ p)) ⟨fun d=>K d st⟩:=by
 simp only[DX,ET,POp.exec,Ir]
theorem Yur(off n:Nat)(ag:Bool)(x:PA):@DX T (.fldv off n ag x) ρ st ⟨K⟩=@on _ (LK off n ag (ρ x)) ⟨fun d=>K d st⟩:=by
 simp only[DX,ET,POp.exec,Ir]
theorem Yup(sz:Nat)(x i:PA):@DX T (.idxS sz x i) ρ st ⟨K⟩=@on _ (F5 st sz (ρ x) (ρ i)) ⟨fun d=>K d st⟩:=by
 simp only[DX,ET,POp.exec,Ir]
theorem Yuq(n sz:Nat)(p i:PA):@DX T (.idxA n sz p i) ρ st ⟨K⟩=@on _ (IE st n sz (ρ p) (ρ i)) ⟨fun d=>K d st⟩:=by
 simp only[DX,ET,POp.exec,Ir]
theorem UP(x i:PA):@DX T (.idx x i) ρ st ⟨K⟩=@on _ (Jz (ρ x) (ρ i)) ⟨fun d=>K d st⟩:=by
 simp only[DX,ET,POp.exec,Ir]
theorem Yuo(E sz:Nat)(ag:Bool)(x i:PA):@DX T (.idxV E sz ag x i) ρ st ⟨K⟩=@on _ (OA E sz ag (ρ x) (ρ i)) ⟨fun d=>K d st⟩:=by
 simp only[DX,ET,POp.exec,Ir]
def Es(st:St)(str:Bool)(d:D):Option D:=if Ip d == str then(ED st d).map fun(n:Nat)=>D.int .i64 (n:Int)else none
theorem UO(E:Bool)(x:PA):@DX T (.len E x) ρ st ⟨K⟩=@on _ (Es st E (ρ x)) ⟨fun d=>K d st⟩:=by
 simp only[DX,ET,POp.exec,Es]
 split
 ·simp only[Ir]
 ·rfl
theorem Yun(n:Nat):@DX T (.lenA n) ρ st ⟨K⟩=@ev (.int .i64 (n:Int)) ⟨fun d=>K d st⟩:=(rfl)
theorem UY(sz bytes:Nat)(s x:PA):@DX T (.app sz bytes s x) ρ st ⟨K⟩=@on _ (D8 st sz bytes (ρ s) (ρ x)) ⟨fun r=>K r.1 r.2⟩:=(rfl)
def ck(sz:Nat):Option Obj:=if 1<sz∧sz≠1000003 then some {row:=false,sz,els:=[],lent:=false} else none
theorem Yny(sz:Nat):@DX T (.mkmap sz) ρ st ⟨K⟩=@on _ (ck sz) ⟨fun o=>@OL (.mapv st.length) (st++[o]) ⟨K⟩⟩:=by
 simp only[DX,ET,POp.exec,ck]
 split <;> rfl
theorem Yn1(sz:Nat)(ks:List Nat)(m k v:PA):@DX T (.mapup sz ks m k v) ρ st ⟨K⟩=@on _ (Rk st sz ks (ρ m) (ρ k) (ρ v)) ⟨fun st'=>K (.tup []) st'⟩:=by
 simp only[DX,ET,POp.exec,Ir]
theorem Ygk(sz:Nat)(ks:List Nat)(ok:Bool)(E:D)(m k:PA):@DX T (.mapget sz ks ok E m k) ρ st ⟨K⟩=@on _ (IJ st sz ks ok E (ρ m) (ρ k)) ⟨fun d=>K d st⟩:=by
 simp only[DX,ET,POp.exec,Ir]
theorem US(sz:Nat)(d s:PA):@DX T (.cpy sz d s) ρ st ⟨K⟩=@on _ (JA st sz (ρ d) (ρ s)) ⟨fun r=>K r.1 r.2⟩:=(rfl)
def Ry(isMax:Bool)(x y:D):Option D:=match x,y with
 |.int k a,.int _ b=>some (.int k (if isMax then(if b > a then b else a)else(if b<a then b else a)))
 |_,_=>none
theorem gr(E:Bool)(x y:PA):@DX T (.mm E x y) ρ st ⟨K⟩=@on _ (Ry E (ρ x) (ρ y)) ⟨fun d=>K d st⟩:=by
 simp only[DX,ET,POp.exec,Ry]
 cases ρ x with
 |int k a=>cases ρ y <;> rfl
 |_=>rfl
def NI(isMax:Bool)(x y z:D):Option D:=match x,y,z with
 |.int k a,.int _ b,.int _ c=>some (.int k (Mj isMax (Mj isMax a b) c))
 |_,_,_=>none
theorem UN(E:Bool)(x y z:PA):@DX T (.mm3 E x y z) ρ st ⟨K⟩=@on _ (NI E (ρ x) (ρ y) (ρ z)) ⟨fun d=>K d st⟩:=by
 simp only[DX,ET,POp.exec,NI]
 cases ρ x with
 |int k a=>cases ρ y <;> first | rfl | (cases ρ z <;> rfl)
 |_=>rfl
theorem Ynw(f:Nat)(args:List PA):@DX T (.rcall f args) ρ st ⟨K⟩=@on _ (T.q f) ⟨fun sp=>@on _ (Ig sp (args.map ρ) st) ⟨fun d=>K d st⟩⟩:=by
 simp only[DX,ET,POp.exec]
 cases T.q f with
 |none=>rfl
 |some sp=>simp only[lg,Ir]
theorem Yn2(f:Nat)(args:List PA):@DX T (.icall f args) ρ st ⟨K⟩=@on _ (T.i f) ⟨fun sp=>@on _ (sp (args.map ρ) st) ⟨fun r=>K r.1 r.2⟩⟩:=by
 simp only[DX,ET,POp.exec];cases T.i f <;> rfl
def Kk(T:Tbl)(d:D):Option ((List D→St→Option (D×St))×List D×List D):=match d with
 |.clo f caps=>if f<5000000 then(T.i f).map fun sp=>(sp,[],caps)else if f<10000000 then(T.i (f - 5000000)).map fun sp=>(sp,caps,[])else if caps.isEmpty then some (T.y (f - 10000000),[],[])else none
 |_=>none
theorem Yn0(f:Nat)(args:List PA):@DX T (.mcall f args) ρ st ⟨K⟩=@on _ (T.m f) ⟨fun sp=>@on _ (sp (args.map ρ)) ⟨fun r=>@OL (r.1 st.length) (st++r.2 st.length) ⟨K⟩⟩⟩:=by
 simp only[DX,ET,POp.exec]
 cases T.m f with
 |none=>rfl
 |some sp=>
  simp only[on];cases sp (args.map ρ) <;> rfl
theorem Yn3(x:PA)(args:List PA):@DX T (.callv x args) ρ st ⟨K⟩=@on _ (Kk T (ρ x)) ⟨fun p=>@on _ (p.1 (p.2.1++(args.map ρ++p.2.2)) st) ⟨fun r=>K r.1 r.2⟩⟩:=by
 simp only[DX,ET,POp.exec,Kk]
 cases ρ x with
 |clo f E=>
  simp only
  by_cases I:f<5000000
  ·simp only[if_pos I];cases T.i f <;> rfl
  ·by_cases h:f<10000000
   ·simp only[if_neg I,if_pos h]
    cases T.i (f - 5000000)with
    |none=>rfl
    |some sp=>simp only[Ah,on,Ad]
   ·simp only[if_neg I,if_neg h]
    cases E with
    |nil=>simp only[List.isEmpty_nil,if_true,on,Ad,Ai]
    |cons a l=>rfl
 |_=>rfl
theorem Ynz(f:Nat)(E:List PA):@DX T (.mkclo f E) ρ st ⟨K⟩=@ev (.clo f (E.map ρ)) ⟨fun d=>K d st⟩:=(rfl)
theorem Yut(f:Nat)(args:List PA):@DX T (.call f args) ρ st ⟨K⟩=@on _ (T.p f) ⟨fun sp=>@on _ (D0 st (args.map ρ)) ⟨fun vs=>@on _ (sp vs) ⟨fun r=>@OL r (if r.noRef then st else lend ((args.map ρ).flatMap keys) st) ⟨K⟩⟩⟩⟩:=by
 simp only[DX,ET,POp.exec]
 cases T.p f with
 |none=>rfl
 |some sp=>
  cases D0 st (args.map ρ)with
  |none=>rfl
  |some vs=>
   simp only[on];cases sp vs <;> rfl
def Ml(d:D)(i:Nat):Option D:=match d with
 |.tup vs=>vs[i]?
 |_=>none
theorem UR(x:PA)(i:Nat):@DX T (.ext x i) ρ st ⟨K⟩=@on _ (Ml (ρ x) i) ⟨fun d=>K d st⟩:=by
 simp only[DX,ET,POp.exec,Ml]
 cases ρ x with
 |tup vs=>simp only[Ir]
 |_=>rfl
theorem Yvq(a:D)(l:List D):Ml (.tup (a::l)) 0=some a:=(rfl)
theorem Yvp(a b:D)(l:List D):Ml (.tup (a::b::l)) 1=some b:=(rfl)
theorem Yvo(a b c:D)(l:List D):Ml (.tup (a::b::c::l)) 2=some c:=(rfl)
end
theorem Yex(fr:Frame)(s:Nat)(d:D):fr.put (some s) d=fr.set s d:=(rfl)
theorem Yey(fr:Frame)(d:D):fr.put none d=fr:=(rfl)
theorem Uh(G:Db)(fr:Frame)(n:Nat):Dh G fr (.s n)=fr n:=(rfl)
theorem Ui(G:Db)(fr:Frame)(d:D):Dh G fr (.c d)=d:=(rfl)
theorem Jc(G:Db)(fr:Frame)(n:Nat)(d:D)(h:G n=some d):Dh G fr (.g n)=.eptr d 0:=by simp[Dh,h]
theorem Ywv(a:D)(l:List D):C4 (a::l) 0=a:=(rfl)
theorem Ywu(a b:D)(l:List D):C4 (a::b::l) 1=b:=(rfl)
theorem Ywt(a b c:D)(l:List D):C4 (a::b::c::l) 2=c:=(rfl)
theorem Yws(a b c d:D)(l:List D):C4 (a::b::c::d::l) 3=d:=(rfl)
theorem Ywr(a b c d e:D)(l:List D):C4 (a::b::c::d::e::l) 4=e:=(rfl)
theorem Ywq(a b c d e f:D)(l:List D):C4 (a::b::c::d::e::f::l) 5=f:=(rfl)
theorem Ywp(a b c d e f g:D)(l:List D):C4 (a::b::c::d::e::f::g::l) 6=g:=(rfl)
theorem Ywo(a b c d e f g h:D)(l:List D):C4 (a::b::c::d::e::f::g::h::l) 7=h:=(rfl)
def L3(B:Frame→St→(Ex→Frame→St→Prop)→Prop)(cut:PS→PS):Nat→PS→(Ex→Frame→St→Prop)→Prop
 |0,_,_=>False
 |n+1,s,Q=>B (cut s).fr (cut s).st fun e fr st=>match e with
  |.next=>L3 B cut n ⟨fr,st⟩ Q
  |e=>Q e fr st
def W(G:Db)(T:Tbl):PC→Frame→St→(Ex→Frame→St→Prop)→Prop
 |.skip,fr,st,Q=>Q .next fr st
 |.ops l,fr,st,Q=>FU G T l fr st (Q .next)
 |.any l,fr,st,Q=>FG G T l [] fr st (Q .next)
 |.any2 keep l1 l2,fr,st,Q=>FG G T l1 [] fr st fun fr1 st1=>FG G T l2 [] fr st fun fr2 st2=>W2 keep st.length fr1 st1 fr2 st2 fun s=>Q .next s.fr s.st
 |.seq a b,fr,st,Q=>W G T a fr st fun e fr' st'=>match e with
  |.next=>W G T b fr' st' Q
  |e=>Q e fr' st'
 |.cond c a b,fr,st,Q=>@Rw (Dh G fr c) ⟨fun v=>@G4 v ⟨W G T a fr st Q⟩ ⟨W G T b fr st Q⟩⟩
 |.block id c,fr,st,Q=>W G T c fr st fun e fr' st'=>match e with
  |.exit id'=>if id'=id then Q .next fr' st' else Q (.exit id') fr' st'
  |e=>Q e fr' st'
 |.loop keep c,fr,st,Q=>∃ n,L3 (W G T c) (restrict keep st.length) n ⟨fr,st⟩ Q
 |.loopA keep c,fr,st,Q=>∃ n,L3 (W G T c) (keepAll keep) n ⟨fr,st⟩ Q
 |.opsX l,fr,st,Q=>Lj G T l fr st (Q .next) (fun t d=>Q (.panic t d))
 |.pan l d1 t x,fr,st,Q=>FU G T l fr st fun fr' st'=>@G4 (KL (Dh G fr' x)) ⟨Q (.panic t (Dh G fr' x)) (fr'.set d1 .junk) st'⟩ ⟨False⟩
 |.alt a b,fr,st,Q=>W G T a fr st Q∨(a.exec G T 0 ⟨fr,st⟩=none∧(∀ m,a.exec G T m ⟨fr,st⟩=none)∧W G T b fr st Q)
 |.range x ps a b,fr,st,Q=>∃ (n:Nat) (st':St) (e:Ex),(∀ m,n≤m→eM T (Dh G fr x) (YL (a.exec G T m) (b.exec G T m) fr ps st.length) (st++[recO 0])=some st')∧gW st' st.length=some e∧Q e fr (st'.set st.length (recO 2))
 |.exit id,fr,st,Q=>Q (.exit id) fr st
 |.ret,fr,st,Q=>Q .ret fr st
 |.fail,_,_,_=>False
theorem KO{G:Db}{T:Tbl}:∀ (c:PC) (fr:Frame) (st:St) (Q:Ex→Frame→St→Prop),W G T c fr st Q→
  ∃ (n:Nat) (e:Ex) (E:Frame) (st':St),(∀ m,n≤m→c.exec G T m ⟨fr,st⟩=some (e,⟨E,st'⟩))∧Q e E st'
 |.skip,fr,st,Q,h=>⟨0,.next,fr,st,fun _ _=>rfl,h⟩
 |.ops l,fr,st,Q,h=>by
  obtain⟨E,st',J,I⟩:=Su l fr st _ h;exact⟨0,.next,E,st',fun m _=>by simp only[PC.exec,J],I⟩
 |.any l,fr,st,Q,h=>by
  obtain⟨E,st',J,I⟩:=Ss l [] fr st _ h;exact⟨0,.next,E,st',fun m _=>by simp only[PC.exec,J],I⟩
 |.any2 keep l1 l2,fr,st,Q,h=>by
  obtain⟨fr1,st1,J,I⟩:=Ss l1 [] fr st _ h;obtain⟨fr2,st2,O,Y⟩:=Ss l2 [] fr st _ I;obtain⟨h5,h6⟩:=Yq7 Y;exact⟨0,.next,_,_,fun m _=>by simp only[PC.exec,J,O,h5,Ah],h6⟩
 |.seq a b,fr,st,Q,h=>by
  obtain⟨n,e,E,st',J,I⟩:=KO a fr st _ h
  cases e with
  |next=>
   obtain⟨n',e',U,V,O,Y⟩:=KO b E st' _ I;exact⟨n+n',e',U,V,fun m hm=>by simp only[PC.exec,J m (by omega),O m (by omega)],Y⟩
  |exit id=>exact⟨n,.exit id,E,st',fun m hm=>by simp only[PC.exec,J m hm],I⟩
  |ret=>exact⟨n,.ret,E,st',fun m hm=>by simp only[PC.exec,J m hm],I⟩
  |panic t d=>exact⟨n,.panic t d,E,st',fun m hm=>by simp only[PC.exec,J m hm],I⟩
 |.cond c a b,fr,st,Q,h=>by
  simp only[W,Rw]at h
  split at h
  ·rename_i v hv
   cases v with
   |true=>
    obtain⟨n,e,E,st',J,I⟩:=KO a fr st _ h;exact⟨n,e,E,st',fun m hm=>by simp only[PC.exec,hv,J m hm],I⟩
   |false=>
    obtain⟨n,e,E,st',J,I⟩:=KO b fr st _ h;exact⟨n,e,E,st',fun m hm=>by simp only[PC.exec,hv,J m hm],I⟩
  ·exact h.elim
 |.block id c,fr,st,Q,h=>by
  obtain⟨n,e,E,st',J,I⟩:=KO c fr st _ h
  cases e with
  |next=>exact⟨n,.next,E,st',fun m hm=>by simp only[PC.exec,J m hm],I⟩
  |ret=>exact⟨n,.ret,E,st',fun m hm=>by simp only[PC.exec,J m hm],I⟩
  |panic t d=>exact⟨n,.panic t d,E,st',fun m hm=>by simp only[PC.exec,J m hm],I⟩
  |exit ae=>
   simp only at I
   split at I
   ·rename_i hi;exact⟨n,.next,E,st',fun m hm=>by simp only[PC.exec,J m hm,hi,if_true],I⟩
   ·rename_i hi;exact⟨n,.exit ae,E,st',fun m hm=>by simp only[PC.exec,J m hm,hi,if_false],I⟩
 |.loop keep c,fr,st,Q,h=>by
  obtain⟨k,h⟩:=h
  have key:∀ (k:Nat) (s:PS),L3 (W G T c) (restrict keep st.length) k s Q→∃ (n:Nat) (e:Ex) (E:Frame) (st':St),(∀ m q,n≤m→k≤q→Jr (c.exec G T m) (restrict keep st.length) q s=some (e,⟨E,st'⟩))∧Q e E st':=by
   intro k
   induction k with
   |zero=>intro s h; exact h.elim
   |succ k ih=>
    intro s h;obtain⟨n,e,E,st',J,I⟩:=KO c _ _ _ h;have N:∀ m,n≤m→c.exec G T m (restrict keep st.length s)=some (e,⟨E,st'⟩):=J
    cases e with
    |next=>
     obtain⟨n',e',U,V,O,Y⟩:=ih _ I;refine⟨n+n',e',U,V,fun m q hm hq=>?_,Y⟩;obtain⟨q,rfl⟩:∃ M,q=M+1:=⟨q - 1,by omega⟩;simp only[Jr,N m (by omega)];grind
    |exit id=>
     refine⟨n,.exit id,E,st',fun m q hm hq=>?_,I⟩;obtain⟨q,rfl⟩:∃ M,q=M+1:=⟨q - 1,by omega⟩;simp only[Jr,N m hm]
    |ret=>
     refine⟨n,.ret,E,st',fun m q hm hq=>?_,I⟩;obtain⟨q,rfl⟩:∃ M,q=M+1:=⟨q - 1,by omega⟩;simp only[Jr,N m hm]
    |panic t d=>
     refine⟨n,.panic t d,E,st',fun m q hm hq=>?_,I⟩;obtain⟨q,rfl⟩:∃ M,q=M+1:=⟨q - 1,by omega⟩;simp only[Jr,N m hm]
  obtain⟨n,e,E,st',J,I⟩:=key k _ h;exact⟨n+k,e,E,st',fun m hm=>by simp only[PC.exec]; exact J m m (by omega) (by omega),I⟩
 |.loopA keep c,fr,st,Q,h=>by
  obtain⟨k,h⟩:=h
  have key:∀ (k:Nat) (s:PS),L3 (W G T c) (keepAll keep) k s Q→∃ (n:Nat) (e:Ex) (E:Frame) (st':St),(∀ m q,n≤m→k≤q→Jr (c.exec G T m) (keepAll keep) q s=some (e,⟨E,st'⟩))∧Q e E st':=by
   intro k
   induction k with
   |zero=>intro s h; exact h.elim
   |succ k ih=>
    intro s h;obtain⟨n,e,E,st',J,I⟩:=KO c _ _ _ h;have N:∀ m,n≤m→c.exec G T m (keepAll keep s)=some (e,⟨E,st'⟩):=J
    cases e with
    |next=>
     obtain⟨n',e',U,V,O,Y⟩:=ih _ I;refine⟨n+n',e',U,V,fun m q hm hq=>?_,Y⟩;obtain⟨q,rfl⟩:∃ M,q=M+1:=⟨q - 1,by omega⟩;simp only[Jr,N m (by omega)];grind
    |exit id=>
     refine⟨n,.exit id,E,st',fun m q hm hq=>?_,I⟩;obtain⟨q,rfl⟩:∃ M,q=M+1:=⟨q - 1,by omega⟩;simp only[Jr,N m hm]
    |ret=>
     refine⟨n,.ret,E,st',fun m q hm hq=>?_,I⟩;obtain⟨q,rfl⟩:∃ M,q=M+1:=⟨q - 1,by omega⟩;simp only[Jr,N m hm]
    |panic t d=>
     refine⟨n,.panic t d,E,st',fun m q hm hq=>?_,I⟩;obtain⟨q,rfl⟩:∃ M,q=M+1:=⟨q - 1,by omega⟩;simp only[Jr,N m hm]
  obtain⟨n,e,E,st',J,I⟩:=key k _ h;exact⟨n+k,e,E,st',fun m hm=>by simp only[PC.exec]; exact J m m (by omega) (by omega),I⟩
 |.range x ps a b,fr,st,Q,h=>by
  obtain⟨n,st',e,J,O,I⟩:=h;exact⟨n,e,fr,_,fun m hm=>by simp only[PC.exec,J m hm,Bl,O,Ah],I⟩
 |.opsX l,fr,st,Q,h=>by
  rcases aR l fr st _ _ h with⟨E,st',J,I⟩ | ⟨t,d,E,st',J,I,O⟩
  ·exact⟨0,.next,E,st',fun m _=>by simp only[PC.exec,J],I⟩
  ·exact⟨0,.panic t d,E,st',fun m _=>by simp only[PC.exec,J,I,Ah],O⟩
 |.pan l d1 t x,fr,st,Q,h=>by
  obtain⟨E,st',J,I⟩:=Su l fr st _ h;unfold G4 at I
  split at I
  ·rename_i hi;exact⟨0,.panic t (Dh G E x),E.set d1 .junk,st',fun m _=>by simp only[PC.exec,J,hi,if_true],I⟩
  ·grind
 |.alt a b,fr,st,Q,h=>by
  rcases h with h | ⟨_,J,h⟩
  ·obtain⟨n,e,E,st',J,I⟩:=KO a fr st _ h;exact⟨n,e,E,st',fun m hm=>by simp only[PC.exec,J m hm],I⟩
  ·obtain⟨n,e,E,st',I,O⟩:=KO b fr st _ h;exact⟨n,e,E,st',fun m hm=>by simp only[PC.exec,J m,I m hm],O⟩
 |.exit id,fr,st,Q,h=>⟨0,.exit id,fr,st,fun _ _=>rfl,h⟩
 |.ret,fr,st,Q,h=>⟨0,.ret,fr,st,fun _ _=>rfl,h⟩
 |.fail,_,_,_,h=>h.elim
theorem Wo{G:Db}{T:Tbl}:∀ (l:List PI) (fr:Frame) (st:St) (K E:Frame→St→Prop),FU G T l fr st K→(∀ fr st,K fr st→E fr st)→FU G T l fr st E
 |[],_,_,_,_,h,hk=>hk _ _ h
 |i::l,fr,st,K,E,h,hk=>by
  have I:ET T i.op (Dh G fr) st (fun d st'=>FU G T l (fr.put i.dst d) st' K)→ET T i.op (Dh G fr) st (fun d st'=>FU G T l (fr.put i.dst d) st' E):=by
   unfold ET on
   split
   ·exact fun h=>Wo l _ _ _ _ h hk
   ·exact id
  have J:FU G T l (fr.put i.dst (.tup [])) st K→FU G T l (fr.put i.dst (.tup [])) st E:=fun h=>Wo l _ _ _ _ h hk;rw[FU]at h ⊢;unfold kG at h ⊢
  split
  ·simp_all
  ·simp_all
   split
   ·simp_all;rename_i b hb;rename_i want _ _
    revert h
    unfold G4;grind
   ·simp_all
   ·simp_all
theorem Kt{G:Db}{T:Tbl}:∀ (c:PC) (fr:Frame) (st:St) (Q I:Ex→Frame→St→Prop),W G T c fr st Q→(∀ e fr st,Q e fr st→I e fr st)→W G T c fr st I
 |.skip,fr,st,Q,I,h,E=>E _ _ _ h
 |.ops l,fr,st,Q,I,h,E=>Wo l fr st _ _ h fun fr st h=>E _ _ _ h
 |.any l,fr,st,Q,I,h,E=>So l [] fr st _ _ h fun fr st h=>E _ _ _ h
 |.any2 keep l1 M,fr,st,Q,I,h,E=>So l1 [] fr st _ _ h fun fr1 st1 h=>So M [] fr st _ _ h fun fr2 st2 h=>Yq8 h fun s h=>E _ _ _ h
 |.seq a b,fr,st,Q,I,h,E=>by
  refine Kt a fr st _ _ h fun e J st' h=>?_
  cases e with
  |next=>exact Kt b _ _ _ _ h E
  |exit id=>exact E _ _ _ h
  |ret=>exact E _ _ _ h
  |panic t d=>exact E _ _ _ h
 |.cond c a b,fr,st,Q,I,h,E=>by
  simp only[W,Rw]at h ⊢
  split
  ·rename_i v hv;rw[hv]at h;simp only at h
   cases v with
   |true=>exact Kt a _ _ _ _ h E
   |false=>exact Kt b _ _ _ _ h E
  ·grind
 |.block id c,fr,st,Q,I,h,E=>by
  refine Kt c fr st _ _ h fun e J st' h=>?_;grind
 |.loop keep c,fr,st,Q,I,h,E=>by
  obtain⟨k,h⟩:=h;refine⟨k,?_⟩
  have key:∀ (k:Nat) (s:PS),L3 (W G T c) (restrict keep st.length) k s Q→L3 (W G T c) (restrict keep st.length) k s I:=by
   intro k
   induction k with
   |zero=>intro s h; exact h
   |succ k N=>
    intro s h;refine Kt c _ _ _ _ h fun e J st' h=>?_;grind
  grind
 |.loopA keep c,fr,st,Q,I,h,E=>by
  obtain⟨k,h⟩:=h;refine⟨k,?_⟩
  have key:∀ (k:Nat) (s:PS),L3 (W G T c) (keepAll keep) k s Q→L3 (W G T c) (keepAll keep) k s I:=by
   intro k
   induction k with
   |zero=>intro s h; exact h
   |succ k N=>
    intro s h;refine Kt c _ _ _ _ h fun e J st' h=>?_;grind
  grind
 |.range x Y a b,fr,st,Q,I,h,E=>by
  obtain⟨n,st',e,O,U,V⟩:=h;exact⟨n,st',e,O,U,E _ _ _ V⟩
 |.opsX l,fr,st,Q,I,h,E=>aJ l fr st _ _ _ _ h (fun _ _ h=>E _ _ _ h) fun _ _ _ _ h=>E _ _ _ h
 |.pan l d1 t x,fr,st,Q,I,h,E=>Wo l fr st _ _ h fun J st' h=>by
  unfold G4 at h ⊢;grind
 |.alt a b,fr,st,Q,I,h,E=>h.imp (fun h=>Kt a _ _ _ _ h E) fun h=>⟨h.1,h.2.1,Kt b _ _ _ _ h.2.2 E⟩
 |.exit id,fr,st,Q,I,h,E=>E _ _ _ h
 |.ret,fr,st,Q,I,h,E=>E _ _ _ h
 |.fail,_,_,_,_,h,_=>h.elim
variable {Q:Ex→Frame→St→Prop}{c:PC}{ι:Type}{G:Db}
theorem Yw3(J:ι→List (Nat×D))(M:ι→St)(P:ι→Prop)(μ:ι→Nat)(E:ι)
  (U:restrict keep st.length ⟨fr,st⟩=⟨GK (J E),M E⟩) (V:P E)
  (N:∀ i,P i→W G T c (GK (J i)) (M i) fun e I st'=>match e with
   |.next=>∃ j,P j∧μ j<μ i∧restrict keep st.length ⟨I,st'⟩=⟨GK (J j),M j⟩
   |e=>Q e I st'):W G T (.loop keep c) fr st Q:=by
 have key:∀ (n:Nat) (i:ι) (s:PS),μ i<n→P i→restrict keep st.length s=⟨GK (J i),M i⟩→L3 (W G T c) (restrict keep st.length) n s Q:=by
  intro n
  induction n with
  |zero=>intro i s h _ _; exact absurd h (Nat.not_lt_zero _)
  |succ n ih=>
   intro i s hi O Y;simp only[L3,Y];refine Kt c _ _ _ _ (N i O) fun e I st' h=>?_;grind
 exact⟨μ E+1,key _ E _ (Cu _) V U⟩
def wW(G:Db)(T:Tbl)(c:PC)(fr:Frame)(st:St)[Q:QC]:Prop:=W G T c fr st Q.run
theorem IC(h:@wW G T c fr st ⟨Q⟩):W G T c fr st Q:=h
theorem ZO(h:W G T c fr st Q):@wW G T c fr st ⟨Q⟩:=h
theorem Yw1(G:Db)(T:Tbl)(fr:Frame)(st:St)(Q:Ex→Frame→St→Prop):@wW G T .skip fr st ⟨Q⟩=Q .next fr st:=(rfl)
theorem VL(G:Db)(T:Tbl)(l:List PI)(fr:Frame)(st:St)(Q:Ex→Frame→St→Prop):@wW G T (.ops l) fr st ⟨Q⟩=@Hh G T l fr st ⟨Q .next⟩:=(rfl)
theorem VM(G:Db)(T:Tbl)(l:List (PI×Bool×List Nat))(fr:Frame)(st:St)(Q:Ex→Frame→St→Prop):@wW G T (.any l) fr st ⟨Q⟩=@Iw G T l [] fr st ⟨Q .next⟩:=(rfl)
theorem Yw6(G:Db)(T:Tbl)(keep:List Nat)(l1 E:List (PI×Bool×List Nat))(fr:Frame)(st:St)(Q:Ex→Frame→St→Prop):@wW G T (.any2 keep l1 E) fr st ⟨Q⟩=
  @Iw G T l1 [] fr st ⟨fun fr1 st1=>@Iw G T E [] fr st ⟨fun fr2 st2=>@G4 (st1.length == st.length+2 && st2.length == st.length+2) ⟨@SX (restrictAt keep st.length [st.length,st.length+1] ⟨fr1,st1⟩) (restrictAt keep st.length [st.length+1,st.length] ⟨fr2,st2⟩) ⟨fun s=>Q .next s.fr s.st⟩⟩ ⟨False⟩⟩⟩:=(rfl)
def Q7(G:Db)(T:Tbl)(b:PC)[Q:QC](e:Ex)(fr:Frame)(st:St):Prop:=match e with
 |.next=>W G T b fr st Q.run
 |e=>Q.run e fr st
theorem VI(G:Db)(T:Tbl)(a b:PC)(fr:Frame)(st:St)(Q:QC):@wW G T (.seq a b) fr st Q=@wW G T a fr st ⟨@Q7 G T b Q⟩:=(rfl)
theorem yo(G:Db)(T:Tbl)(b:PC)(Q:QC)(fr:Frame)(st:St):@Q7 G T b Q .next fr st=@wW G T b fr st Q:=(rfl)
theorem yn(G:Db)(T:Tbl)(b:PC)(Q:Ex→Frame→St→Prop)(E:Nat)(fr:Frame)(st:St):@Q7 G T b ⟨Q⟩ (.exit E) fr st=Q (.exit E) fr st:=(rfl)
theorem Ydm(G:Db)(T:Tbl)(b:PC)(Q:Ex→Frame→St→Prop)(fr:Frame)(st:St):@Q7 G T b ⟨Q⟩ .ret fr st=Q .ret fr st:=(rfl)
theorem yRd(G:Db)(T:Tbl)(b:PC)(Q:Ex→Frame→St→Prop)(t:Nat)(d:D)(fr:Frame)(st:St):@Q7 G T b ⟨Q⟩ (.panic t d) fr st=Q (.panic t d) fr st:=(rfl)
theorem Yw2(G:Db)(T:Tbl)(l:List PI)(fr:Frame)(st:St)(Q:Ex→Frame→St→Prop):@wW G T (.opsX l) fr st ⟨Q⟩=@OF G T l fr st ⟨Q .next⟩ ⟨fun t d=>Q (.panic t d)⟩:=(rfl)
theorem VK(G:Db)(T:Tbl)(l:List PI)(d1 t:Nat)(x:PA)(fr:Frame)(st:St)(Q:Ex→Frame→St→Prop):@wW G T (.pan l d1 t x) fr st ⟨Q⟩=@Hh G T l fr st ⟨fun E st'=>@G4 (KL (Dh G E x)) ⟨Q (.panic t (Dh G E x)) (E.set d1 .junk) st'⟩ ⟨False⟩⟩:=(rfl)
theorem Yw5(G:Db)(T:Tbl)(c:PA)(a b:PC)(fr:Frame)(st:St)(Q:QC):@wW G T (.cond c a b) fr st Q=@Rw (Dh G fr c) ⟨fun v=>@G4 v ⟨@wW G T a fr st Q⟩ ⟨@wW G T b fr st Q⟩⟩:=(rfl)
def K7(id:Nat)[Q:QC](e:Ex)(fr:Frame)(st:St):Prop:=match e with
 |.exit id'=>if id'=id then Q.run .next fr st else Q.run (.exit id') fr st
 |e=>Q.run e fr st
theorem Yq6(G:Db)(T:Tbl)(E:Nat)(c:PC)(fr:Frame)(st:St)(Q:QC):@wW G T (.block E c) fr st Q=@wW G T c fr st ⟨@K7 E Q⟩:=(rfl)
theorem Yff(E:Nat)(Q:Ex→Frame→St→Prop)(fr:Frame)(st:St):@K7 E ⟨Q⟩ .next fr st=Q .next fr st:=(rfl)
theorem Ymw(E:Nat)(Q:Ex→Frame→St→Prop)(fr:Frame)(st:St):@K7 E ⟨Q⟩ .ret fr st=Q .ret fr st:=(rfl)
theorem wY(E:Nat)(Q:Ex→Frame→St→Prop)(t:Nat)(d:D)(fr:Frame)(st:St):@K7 E ⟨Q⟩ (.panic t d) fr st=Q (.panic t d) fr st:=(rfl)
theorem Yth(I E:Nat)(Q:Ex→Frame→St→Prop)(fr:Frame)(st:St):@K7 I ⟨Q⟩ (.exit E) fr st=if E=I then Q .next fr st else Q (.exit E) fr st:=(rfl)
theorem Yw4(G:Db)(T:Tbl)(E:Nat)(fr:Frame)(st:St)(Q:Ex→Frame→St→Prop):@wW G T (.exit E) fr st ⟨Q⟩=Q (.exit E) fr st:=(rfl)
theorem VJ(G:Db)(T:Tbl)(fr:Frame)(st:St)(Q:Ex→Frame→St→Prop):@wW G T .ret fr st ⟨Q⟩=Q .ret fr st:=(rfl)
def Dg(res:List PRes)(r:D)(e:Ex)(fr:Frame)(st:St):Prop:=match e with
 |.exit _ | .panic _ _=>False
 |_=>(Fo ⟨fr,st⟩ res).map DC=some r
theorem Yec(res:List PRes)(r:D)(fr:Frame)(st:St):Dg res r .ret fr st=((Fo ⟨fr,st⟩ res).map DC=some r):=(rfl)
theorem xE(res:List PRes)(r:D)(fr:Frame)(st:St):Dg res r .next fr st=((Fo ⟨fr,st⟩ res).map DC=some r):=(rfl)
def Gs(res:List PRes)[R:Cont2 D St](e:Ex)(fr:Frame)(st:St):Prop:=match e with
 |.exit _ | .panic _ _=>False
 |_=>@on _ (DK ⟨fr,st⟩ res) ⟨fun l=>R.run (DC l) st⟩
theorem mZ(res:List PRes)(R:D→St→Prop)(fr:Frame)(st:St):@Gs res ⟨R⟩ .ret fr st=@on _ (DK ⟨fr,st⟩ res) ⟨fun l=>R (DC l) st⟩:=(rfl)
theorem oS(res:List PRes)(R:D→St→Prop)(fr:Frame)(st:St):@Gs res ⟨R⟩ .next fr st=@on _ (DK ⟨fr,st⟩ res) ⟨fun l=>R (DC l) st⟩:=(rfl)
variable {ds:List D}{F:PF}
theorem m5{r:D}(h:W G T F.code (C4 ds) [] (Dg F.res r)):∃ fuel,F.run G T fuel ds=some r:=by
 obtain⟨n,e,J,st',I,E⟩:=KO _ _ _ _ h;refine⟨n,?_⟩;unfold PF.run;rw[I n (AE _)]
 cases e with
 |next=>exact E
 |ret=>exact E
 |exit id=>exact E.elim
 |panic t d=>exact E.elim
theorem ZZ{R:D→St→Prop}(h:W G T F.code (C4 ds) st (@Gs F.res ⟨R⟩)):∃ fuel r st',(∀ m,fuel≤m→F.runI G T m ds st=some (r,st'))∧R r st':=by
 obtain⟨n,e,I,st',J,E⟩:=KO _ _ _ _ h
 have key:∀ (E:@on _ (DK ⟨I,st'⟩ F.res) ⟨fun l=>R (DC l) st'⟩) (he:e=.next∨e=.ret),∃ fuel r st',(∀ m,fuel≤m→F.runI G T m ds st=some (r,st'))∧R r st':=by
  intro E he;unfold on at E
  split at E
  ·rename_i l hl;refine⟨n,DC l,st',fun m hm=>?_,E⟩;unfold PF.runI;grind
  ·grind
 cases e with
 |next=>exact key E (.inl rfl)
 |ret=>exact key E (.inr rfl)
 |exit id=>exact E.elim
 |panic t d=>exact E.elim
def Md[X:XC0](e:Ex)(_:Frame)(st:St):Prop:=match e with
 |.panic t d=>X.run t d st
 |_=>False
theorem yRo(X:Nat→D→St→Prop)(t:Nat)(d:D)(fr:Frame)(st:St):@Md ⟨X⟩ (.panic t d) fr st=X t d st:=(rfl)
theorem xH(h:W G T F.code (C4 ds) st (@Md ⟨X⟩)):∃ fuel t d st',(∀ m,fuel≤m→F.runX G T m ds st=some (t,d,st'))∧X t d st':=by
 obtain⟨n,e,J,st',I,E⟩:=KO _ _ _ _ h
 cases e with
 |panic t d=>exact⟨n,t,d,st',fun m hm=>by unfold PF.runX; rw[I m hm],E⟩
 |_=>exact E.elim
def NF(h:Nat→D→List D→St→Option St)(das:List D)(res:List PRes)[R:Cont2 D St](e:Ex)(fr:Frame)(st:St):Prop:=match e with
 |.exit _=>False
 |.panic t d=>@on _ (h t d das st) ⟨fun st3=>@on _ (DK ⟨fr,st3⟩ res) ⟨fun l=>R.run (DC l) st3⟩⟩
 |_=>@on _ (DK ⟨fr,st⟩ res) ⟨fun l=>R.run (DC l) st⟩
theorem Yee(h:Nat→D→List D→St→Option St)(E:List D)(res:List PRes)(R:D→St→Prop)(fr:Frame)(st:St):@NF h E res ⟨R⟩ .ret fr st=@on _ (DK ⟨fr,st⟩ res) ⟨fun l=>R (DC l) st⟩:=(rfl)
theorem xB(h:Nat→D→List D→St→Option St)(E:List D)(res:List PRes)(R:D→St→Prop)(fr:Frame)(st:St):@NF h E res ⟨R⟩ .next fr st=@on _ (DK ⟨fr,st⟩ res) ⟨fun l=>R (DC l) st⟩:=(rfl)
theorem yRq(h:Nat→D→List D→St→Option St)(E:List D)(res:List PRes)(R:D→St→Prop)(t:Nat)(d:D)(fr:Frame)(st:St) :
  @NF h E res ⟨R⟩ (.panic t d) fr st=@on _ (h t d E st) ⟨fun I=>@on _ (DK ⟨fr,I⟩ res) ⟨fun l=>R (DC l) I⟩⟩:=(rfl)
def PK(h:Nat→D→List D→St→Option St)(das:List D)(res:List PRes)(r:D)(e:Ex)(fr:Frame)(st:St):Prop:=match e with
 |.exit _=>False
 |.panic t d=>@on _ (h t d das st) ⟨fun st3=>(Fo ⟨fr,st3⟩ res).map DC=some r⟩
 |_=>(Fo ⟨fr,st⟩ res).map DC=some r
theorem xA(h:Nat→D→List D→St→Option St)(E:List D)(res:List PRes)(r:D)(fr:Frame)(st:St):PK h E res r .ret fr st=((Fo ⟨fr,st⟩ res).map DC=some r):=(rfl)
theorem yRr(h:Nat→D→List D→St→Option St)(E:List D)(res:List PRes)(r:D)(fr:Frame)(st:St):PK h E res r .next fr st=((Fo ⟨fr,st⟩ res).map DC=some r):=(rfl)
theorem yLz(h:Nat→D→List D→St→Option St)(E:List D)(res:List PRes)(r:D)(t:Nat)(d:D)(fr:Frame)(st:St):PK h E res r (.panic t d) fr st=@on _ (h t d E st) ⟨fun I=>(Fo ⟨fr,I⟩ res).map DC=some r⟩:=(rfl)
def PO(G:Db)(T:Tbl)(F:PFD)(H:H9)(ds:List D)(st:St)(K:(Nat→D→List D→St→Option St)→List D→Ex→Frame→St→Prop):Prop:=
 @Hh G T F.pre (C4 ds) st ⟨fun fr1 st1=>@on _ (MT (Dh G fr1 F.hf) (F.ha.map (Dh G fr1))) ⟨fun p=>@on _ (H p.1) ⟨fun h=>@wW G T F.code fr1 st1 ⟨K h p.2⟩⟩⟩⟩
theorem xG{F:PFD}{H:H9}{K:(Nat→D→List D→St→Option St)→List D→Ex→Frame→St→Prop}(h:PO G T F H ds st K) :
  ∃ n s1 f M J e I st',EK G T F.pre ⟨C4 ds,st⟩=some s1∧MT (Dh G s1.fr F.hf) (F.ha.map (Dh G s1.fr))=some (f,M)∧H f=some J∧(∀ m,n≤m→F.code.exec G T m s1=some (e,⟨I,st'⟩))∧K J M e I st':=by
 obtain⟨fr1,st1,N,E⟩:=Su _ _ _ _ h;simp only at E;unfold on at E
 split at E
 case h_2=>exact E.elim
 rename_i p O;simp only at E
 split at E
 case h_2=>exact E.elim
 rename_i J U;obtain⟨n,e,I,st',V,Y⟩:=KO _ _ _ _ (show W G T F.code fr1 st1 (K J p.2)from E);exact⟨n,⟨fr1,st1⟩,p.1,p.2,J,e,I,st',N,O,U,V,Y⟩
theorem Yps(fs:List (Option Foot))(g:Option Foot):MN fs g []=true:=(rfl)
theorem Yhv(fs:List (Option Foot))(g:Option Foot)(j:Nat)(r:List Nat):MN fs g (j::r)=(gy fs[j]? g && MN fs g r):=(rfl)
theorem Yvy(f g:Foot):gy (some (some f)) (some g)=f.ok g:=(rfl)
theorem Up(r w I w':List Nat)(m E:Option Nat):Foot.ok ⟨r,w,m⟩ ⟨I,w',E⟩=(Hr w' r && Hr w' w && Hr w I && Ks m I && Ks m w' && Ks E r && Ks E w && (m.isNone || E.isNone)):=(rfl)
theorem Yiu(b:List Nat):Hr [] b=true:=(rfl)
theorem Ycj(k:Nat)(a b:List Nat):Hr (k::a) b=(!b.contains k && Hr a b):=by simp[Hr]
theorem yB(a:List Nat):Ks none a=true:=(rfl)
theorem yC(n:Nat):Ks (some n) []=true:=(rfl)
theorem yNy(n k:Nat)(a:List Nat):Ks (some n) (k::a)=(decide (k<n) && Ks (some n) a):=(rfl)
theorem Yak:NZ=⟨[],[],none⟩:=(rfl)
theorem wU:GR (none:Option α)=[]:=(rfl)
theorem wV(x:α):GR (some x)=[x]:=(rfl)
section
variable (ρ:PA→D) (st:St)
theorem vL(n:Nat)(p x:PA):POp.foot ρ st (.stor n p x)=some ⟨hk (ρ x),hk (ρ p),none⟩:=(rfl)
theorem Yhc(x:PA):POp.foot ρ st (.box x)=some ⟨[],[],some st.length⟩:=(rfl)
theorem zm(a b:Nat)(z:D)(l c:PA):POp.foot ρ st (.mkslc a b z l c)=some ⟨[],[],some st.length⟩:=(rfl)
theorem zl(f:Nat)(l:List PA):POp.foot ρ st (.mcall f l)=some ⟨[],[],some st.length⟩:=(rfl)
def P8(st:St)(s x:D):Option Foot:=match s with
 |.row key _ _ _=>some ⟨hk x,[key],none⟩
 |_=>some ⟨hk x,[],FH x st.length⟩
theorem Yi2(key tot off len:Nat)(x:D):P8 st (.row key tot off len) x=some ⟨hk x,[key],none⟩:=(rfl)
theorem Yi1(sz:Nat)(els:List D)(t:Bool)(x:D):P8 st (.slc sz els t) x=some ⟨hk x,[],FH x st.length⟩:=(rfl)
theorem Yiz(sz:Nat)(t:Bool)(n:Nat):FH (.slc sz [] t) n=none:=(rfl)
theorem Yco(sz:Nat)(a:D)(l:List D)(t:Bool)(n:Nat):FH (.slc sz (a::l) t) n=some n:=(rfl)
theorem Yiy(key tot off len n:Nat):FH (.row key tot off len) n=some n:=(rfl)
theorem Yi0(key off m sz:Nat)(ag:Bool)(n:Nat):FH (.bsl key off m sz ag) n=some n:=(rfl)
theorem Yix(s:List UInt8)(n:Nat):FH (.str s) n=some n:=(rfl)
theorem Yhd(a b:Nat)(s x:PA):POp.foot ρ st (.app a b s x)=P8 st (ρ s) (ρ x):=(rfl)
theorem wh(n:Nat)(ag:Bool)(x:PA):POp.foot ρ st (.load n ag x)=some ⟨hk (ρ x),[],none⟩:=by simp[POp.foot,POp.args]
theorem vK(x:PA):POp.foot ρ st (.nilc x)=some ⟨K5 (ρ x),[],none⟩:=(rfl)
theorem Yl9(key off:Nat):K5 (.ptr key off)=[]:=(rfl)
theorem Yeb(E:D)(off:Nat):K5 (.eptr E off)=[]:=(rfl)
theorem Yea(key tot i off:Nat):K5 (.rptr key tot i off)=[key]:=(rfl)
theorem Yhb(n:Nat)(x:PA):POp.foot ρ st (.fld n x)=some ⟨K5 (ρ x),[],none⟩:=(rfl)
theorem we(n m:Nat)(x i:PA):POp.foot ρ st (.idxA n m x i)=some ⟨K5 (ρ x),[],none⟩:=(rfl)
theorem zn(n:Nat)(x:PA)(a b c:Option PA):POp.foot ρ st (.slice n x a b c)=some ⟨((x::(GR a++GR b++GR c)).map ρ).flatMap hk,[],none⟩:=(rfl)
theorem wc(f:Nat)(l:List PA):POp.foot ρ st (.call f l)=some ⟨(l.map ρ).flatMap hk,[],none⟩:=(rfl)
theorem wb(n:Nat)(l:List PA):POp.foot ρ st (.bslc n l)=some ⟨(l.map ρ).flatMap hk,[],none⟩:=(rfl)
end
attribute [irreducible] kF FG wF Iw Zr SX on Rw G4 ev OL ET kG kV FU W Q7 K7 Dg Gs wW Hh DX Iz Lj OF I0 Rv Md NF PK
def Eo:D→Bool
 |.int _ _ | .bool _ | .str _ | .clo _ [] | .nilf | .nilp=>true
 |.slc sz els t=>!t && nz sz els == sz
 |_=>false
def IF:D→Bool
 |.agg l=>l.all Eo
 |d=>Eo d
variable {d:D}
theorem aD(st:St)(h:Eo d=true):Dw st d=some d:=by
 cases d with
 |clo f l=>cases l <;> simp_all [Eo,Dw,D.pure1]
 |slc sz els t=>simp_all [Eo,Dw]
 |_=>simp_all [Eo,Dw,D.pure1]
theorem QT(st:St):∀ {l:List D},l.all Eo=true→DQ st l=some l
 |[],_=>rfl
 |d::l,h=>by
  simp only[A3,Af]at h;simp only[DQ,aD st h.1,QT st h.2]
theorem Ph(st:St)(h:IF d=true):DO st d=some d:=by
 cases d with
 |agg l=>simp only[DO,QT st h,Ah]
 |tup l=>simp[IF,Eo]at h
 |_=>exact aD st (by simpa only[IF]using h)
theorem aE(h:Eo d=true):EX d=[]:=by
 cases d <;> simp_all [Eo,EX]
theorem Pn(h:IF d=true):keys d=[]:=by
 cases d with
 |agg l=>
  simp only[keys,B4];simp only[IF,Aj]at h;exact fun d E=>aE (h d E)
 |_=>exact aE (by simpa only[IF]using h)
theorem oM(h:Eo d=true):Dp d=[]:=by
 cases d with
 |clo f l=>cases l <;> simp_all [Eo,Dp]
 |_=>simp_all [Eo,Dp,FV]
theorem R5(h:IF d=true):hk d=[]:=by
 cases d with
 |agg l=>
  simp only[hk,B4];simp only[IF,Aj]at h;exact fun d E=>oM (h d E)
 |_=>exact oM (by simpa only[IF]using h)
theorem pV(n:Nat)(σ:List Nat)(h:Eo d=true):En n σ d=d:=by
 cases d with
 |clo f l=>cases l <;> simp_all [Eo,En]
 |_=>simp_all [Eo,En,F9]
theorem Pj(n:Nat)(σ:List Nat)(h:IF d=true):Ef n σ d=d:=by
 cases d with
 |agg l=>
  simp only[Ef,D.agg.injEq];simp only[IF,Aj]at h
  have:∀ l:List D,(∀ d∈l,Eo d=true)→l.map (En n σ)=l:=by
   intro l
   induction l with
   |nil=>intro _; rfl
   |cons a l E=>intro h; simp only[Ax,pV n σ (h a (by simp)),E fun d I=>h d (by simp[I])]
  grind
 |tup l=>simp[IF,Eo]at h
 |_=>exact pV n σ (by simpa only[IF]using h)
structure Dig where
 bs:List UInt8
 len:bs.length=32
 deriving DecidableEq
def Dn:Dig:=⟨CF 32 0,by simp⟩
instance:Inhabited Dig:=⟨Dn⟩
theorem Dig.ext'{a b:Dig}(h:a.bs=b.bs):a=b:=by
 cases a; cases b; simp_all
def CY(d:Dig):List D:=d.bs.map Dc
def C0(d:Dig):D:=.agg (CY d)
theorem DJ(d:Dig):(CY d).length=32:=by simp[CY,d.len]
theorem nE{a b:UInt8}(h:Dc a=Dc b):a=b:=by
 simp only[Dc,D.int.injEq,true_and]at h;exact UInt8.toNat_inj.1 (by omega)
theorem N4{α β:Type}{f:α→β}(I:∀ a b,f a=f b→a=b):∀ {l E:List α},l.map f=E.map f→l=E
 |[],[],_=>rfl
 |[],_::_,h=>by cases h
 |_::_,[],h=>by cases h
 |a::l,b::E,h=>by
  simp only[Ax,Aa]at h;rw[I _ _ h.1,N4 I h.2]
variable {b:List UInt8}
theorem Pb{a:List UInt8}(h:a.map Dc=b.map Dc):a=b:=N4 (fun _ _=>nE) h
theorem mc{a b:Dig}(h:C0 a=C0 b):a=b:=by
 simp only[C0,CY,D.agg.injEq]at h;exact Dig.ext' (Pb h)
theorem Lz{a b:Dig}(h:CY a=CY b):a=b:=Dig.ext' (Pb h)
theorem KC{p:D→Bool}(E:∀ b,p (Dc b)=true)(d:Dig):(CY d).all p=true:=by
 simp only[CY,Aj,AV];grind
theorem IL(d:Dig):(CY d).all D.isCell=true:=KC (fun _=>rfl) d
theorem SC(d:Dig):(CY d).all Eo=true:=KC (fun _=>rfl) d
theorem Pt(d:Dig):IF (C0 d)=true:=SC d
theorem SD(d:Dig):(C0 d).cells=CY d:=(rfl)
theorem pZ(d:Dig):(C0 d).noRef=true:=KC (fun _=>rfl) d
theorem bZ(d:Dig):D.mk true (CY d)=C0 d:=(rfl)
theorem Ym6(x:D)(l:List D):D.mk true (x::l)=.agg (x::l):=(rfl)
theorem Ytv(x:D)(l:List D):D.mk false (x::l)=x:=(rfl)
theorem Yq0(d:Dig):D.agg (CY d)=C0 d:=(rfl)
theorem Ycu:[D.int .u8 0,.int .u8 0,.int .u8 0,.int .u8 0,.int .u8 0,.int .u8 0,.int .u8 0,.int .u8 0,.int .u8 0,.int .u8 0,.int .u8 0,.int .u8 0,.int .u8 0,.int .u8 0,.int .u8 0,.int .u8 0,.int .u8 0,.int .u8 0,.int .u8 0,.int .u8 0,.int .u8 0,.int .u8 0,.int .u8 0,.int .u8 0,.int .u8 0,.int .u8 0,.int .u8 0,.int .u8 0,.int .u8 0,.int .u8 0,.int .u8 0,.int .u8 0]=CY Dn:=(rfl)
theorem V8(d:Dig):(CY d).take 32=CY d:=AU (by rw[DJ]; exact AE _)
theorem Xu(h:Eo d=true):IF d=true:=by
 cases d with
 |agg l=>simp[Eo]at h
 |_=>exact h
theorem Oh(n:Nat)(σ:List Nat):∀ {l:List D},l.all Eo=true→l.map (Ef n σ)=l
 |[],_=>rfl
 |d::l,h=>by
  simp only[A3,Af]at h;simp only[Ax,Pj n σ (Xu h.1),Oh n σ h.2]
theorem Pd:∀ {l:List D},l.all Eo=true→l.flatMap hk=[]
 |[],_=>rfl
 |d::l,h=>by
  simp only[A3,Af]at h;simp only[At,R5 (Xu h.1),Pd h.2,Ad]
theorem Yep(n:Nat)(σ:List Nat)(d:Dig):(CY d).map (Ef n σ)=CY d:=Oh n σ (SC d)
theorem Ygy(d:Dig):(CY d).flatMap hk=[]:=Pd (SC d)
theorem Yoc(st:St)(d:Dig):DO st (C0 d)=some (C0 d):=Ph st (Pt d)
theorem mA(d:Dig):keys (C0 d)=[]:=Pn (Pt d)
theorem Yu8(d:Dig):hk (C0 d)=[]:=R5 (Pt d)
theorem mX(n:Nat)(σ:List Nat)(d:Dig):Ef n σ (C0 d)=C0 d:=Pj n σ (Pt d)
theorem Yql(d:Dig):Dx (C0 d)=some (CY d):=by
 simp only[Dx,SD,IL,if_true]
theorem iW:∀ (n:Nat) (a b:List UInt8),a.length=n→b.length=n→EC (CF n 0) (a.map Dc) (b.map Dc)=some (decide (a=b))
 |0,[],[],_,_=>rfl
 |0,_::_,_,h,_=>by cases h
 |0,[],_::_,_,h=>by cases h
 |n+1,[],_,h,_=>by cases h
 |n+1,_::_,[],_,h=>by cases h
 |n+1,a::l,b::I,h,E=>by
  simp only[Ak,Nat.add_right_cancel_iff]at h E;simp only[BU,Ax,EC,iW n l I h E];simp only[Ii,Dc,if_true]
  congr 1
  by_cases e:a=b
  ·grind
  ·have:¬ ((a.toNat:Int)=(b.toNat:Int)):=fun h=>e (UInt8.toNat_inj.1 (by omega));grind
theorem p6(a b:Dig):EC (CF 32 0) (CY a) (CY b)=some (decide (a=b)):=by
 rw[CY,CY,iW 32 a.bs b.bs a.len b.len]
 congr 1
 by_cases e:a=b
 ·grind
 ·have E:¬ a.bs=b.bs:=fun h=>e (Dig.ext' h);simp[e,E]
theorem Yq2(E:Bool)(a b:Dig):Gt [0,0,0,0,0,0,0,0,0,0,0,0,0,0,0,0,0,0,0,0,0,0,0,0,0,0,0,0,0,0,0,0] E (C0 a) (C0 b)=some (.bool (decide (a=b) != E)):=by
 show(EC (CF 32 0) (CY a) (CY b)).map _=_
 rw[p6]; rfl
theorem getElem?_getD[Inhabited α](l:List α)(i:Nat)(h:i<l.length):l[i]?=some (l.getD i default):=by
 grind
theorem yg[Inhabited α](l:List α)(i:Nat)(h:i<l.length):l.take (i+1)=l.take i++[l.getD i default]:=by
 simp_all
theorem nU[Inhabited α](l:List α)(i:Nat)(h:i<l.length):l.drop i=l.getD i default::l.drop (i+1):=by
 simp_all
theorem pX(l xs:List D)(h:l.length=xs.length):Fc l 0 xs=xs:=by
 simp[Fc,h]
theorem pY(a b:Dig):Fc (CY a) 0 (CY b)=CY b:=pX _ _ (by rw[DJ,DJ])
theorem yLe(x:D)(l ys:List D)(n:Nat):Fc (x::l) (n+1) ys=x::Fc l n ys:=by
 simp[Fc,Nat.add_right_comm]
def Dq(o:Option Obj)(n:Nat)(ag:Bool)(off:Nat):Option D:=if !ag && n != 1 then none else o.bind fun o=>if !o.row && decide (off+n≤o.els.length)then some (.mk ag ((o.els.drop off).take n))else none
def DY(o:Option Obj)(n:Nat)(off:Nat)(x:D):Option Obj:=o.bind fun o=>if !o.row && !o.lent && decide (off+n≤o.els.length) && x.cells.length == n && x.cells.all D.isCell then some {o with els:=Fc o.els off x.cells} else none
theorem xU(st:St)(n:Nat)(ag:Bool)(key off:Nat):E1 st n ag (.ptr key off)=Dq st[key]? n ag off:=by
 simp only[E1,Dq];grind
theorem xn(st:St)(n:Nat)(key off:Nat)(x:D):Ll st n (.ptr key off) x=(DY st[key]? n off x).map fun o=>st.set key o:=by
 simp only[Ll,DY];grind
section
variable {α:Type} (sz:Nat) (lent:Bool)
theorem Qs(x:D)(l:List D):Dq (some ⟨false,sz,x::l,lent⟩) 1 false 0=some x:=by
 rfl
theorem mC(x:D)(l:List D)(n:Nat)(ag:Bool)(off:Nat):Dq (some ⟨false,sz,x::l,lent⟩) n ag (off+1)=Dq (some ⟨false,sz,l,lent⟩) n ag off:=by
 simp only[Dq,Bl,List.drop_succ_cons,Ak];grind
theorem Ynm(d:Dig):Dq (some ⟨false,sz,CY d,lent⟩) 32 true 0=some (C0 d):=by
 simp[Dq,DJ,V8,bZ]
theorem WT(x:D)(d:Dig):Dq (some ⟨false,sz,x::CY d,lent⟩) 33 true 0=some (.agg (x::CY d)):=by
 simp[Dq,DJ,V8,D.mk]
theorem kR{α:Type}[Inhabited α](f:α→D)(E:List α)(i:Nat)(h:i<E.length):Dq (some ⟨false,sz,E.map f,lent⟩) 1 false i=some (f (E.getD i default)):=by
 have I:i+1≤E.length:=h
 have:(E.map f).drop i=f (E.getD i default)::(E.map f).drop (i+1):=by
  rw[← Ci,nU E i h,Ax,Ci]
 simp[Dq,this,D.mk,I]
theorem KT(cs:List D)(n:Nat)(h:cs.length=n):Dq (some ⟨false,sz,cs,lent⟩) n true 0=some (.agg cs):=by
 subst h; simp[Dq,D.mk]
theorem yS5{α:Type}(f:α→D)(E:List α)(n:Nat)(h:E.length=n):Dq (some ⟨false,sz,E.map f,lent⟩) n true 0=some (.agg (E.map f)):=
 KT sz lent _ n (by simpa using h)
theorem Ylx(x v:D)(l:List D)(hv:v.isCell=true):DY (some ⟨false,sz,x::l,false⟩) 1 0 v=some ⟨false,sz,v::l,false⟩:=by
 simp[DY,Px hv,hv,Fc]
theorem Yly(x:D)(k:IntKind)(n:Int)(l:List D):DY (some ⟨false,sz,x::l,false⟩) 1 0 (.int k n)=some ⟨false,sz,.int k n::l,false⟩:=Ylx sz _ _ _ rfl
theorem Ylz(d e:Dig):DY (some ⟨false,sz,CY d,false⟩) 32 0 (C0 e)=some ⟨false,sz,CY e,false⟩:=by
 simp[DY,DJ,SD,IL,pY]
theorem Lx(cs ds:List D)(n:Nat)(h:cs.length=n)(E:ds.length=n)(hc:ds.all D.isCell=true):DY (some ⟨false,sz,cs,false⟩) n 0 (.agg ds)=some ⟨false,sz,ds,false⟩:=by
 subst h;simp[DY,D.cells,E,hc,pX _ _ E.symm]
theorem qy(x:D)(k:IntKind)(m:Int)(d e:Dig):DY (some ⟨false,sz,x::CY d,false⟩) 33 0 (.agg (.int k m::CY e))=some ⟨false,sz,.int k m::CY e,false⟩:=
 Lx sz _ _ 33 (by simp[DJ]) (by simp[DJ]) (by simp[IL,D.isCell])
theorem lD(f:α→D)(I:∀ a,(f a).isCell=true)(E:List α)(i:Nat)(v:α)(h:i<E.length):DY (some ⟨false,sz,E.map f,false⟩) 1 i (f v)=some ⟨false,sz,(E.set i v).map f,false⟩:=by
 have J:i+1≤E.length:=h
 have M:Fc (E.map f) i [f v]=(E.set i v).map f:=by
  rw[List.map_set,Fc,B5];simp[h]
 simp[DY,Px (I v),I v,J,M]
theorem Ydv(E:List UInt8)(i:Nat)(v:UInt8)(h:i<E.length):DY (some ⟨false,sz,E.map Dc,false⟩) 1 i (Dc v)=some ⟨false,sz,(E.set i v).map Dc,false⟩:=lD sz Dc (fun _=>rfl) E i v h
theorem Ydu(E:List UInt32)(i:Nat)(v:UInt32)(h:i<E.length):DY (some ⟨false,sz,E.map wD,false⟩) 1 i (wD v)=some ⟨false,sz,(E.set i v).map wD,false⟩:=lD sz wD (fun _=>rfl) E i v h
theorem Wp{α:Type}(f:α→D)(I:∀ a,(f a).isCell=true)(E:List α):(E.map f).all D.isCell=true:=by
 grind
theorem Ydw(E vs:List UInt32)(n:Nat)(h:E.length=n)(I:vs.length=n):DY (some ⟨false,sz,E.map wD,false⟩) n 0 (.agg (vs.map wD))=some ⟨false,sz,vs.map wD,false⟩:=
 Lx sz _ _ n (by simpa using h) (by simpa using I) (Wp wD (fun _=>rfl) vs)
theorem Ydx(E vs:List UInt8)(n:Nat)(h:E.length=n)(I:vs.length=n):DY (some ⟨false,sz,E.map Dc,false⟩) n 0 (.agg (vs.map Dc))=some ⟨false,sz,vs.map Dc,false⟩:=
 Lx sz _ _ n (by simpa using h) (by simpa using I) (Wp Dc (fun _=>rfl) vs)
end
theorem yR0(st:St)(n:Nat)(ag:Bool)(key tot i off:Nat):E1 st n ag (.rptr key tot i off)=if !ag && n != 1 then none else(st[key]?).bind fun o=>if o.row && o.els.length == tot then(o.els[i]?).bind fun el=>if off+n≤el.cells.length then some (.mk ag ((el.cells.drop off).take n))else none else none:=by
 simp only[E1];grind
theorem yR5(st:St)(d:Dig):E1 st 32 true (.eptr (C0 d) 0)=some (C0 d):=by
 simp[E1,SD,DJ,V8,bZ]
theorem Pe(k:IntKind)(n:Int)(h:0≤n):Fq (.int k n)=some n.toNat:=by simp[Fq,h]
theorem z7(k:IntKind):Fq (.int k 0)=some 0:=(rfl)
theorem N7(st:St)(n key off:Nat)(k:IntKind)(i:Int)(E:0≤i)(J:i<(n:Int)):IE st n 1 (.ptr key off) (.int k i)=some (.ptr key (off+i.toNat)):=by
 have I:i.toNat<n:=by omega
 simp[IE,Pe k i E,I,E3]
theorem vU(st:St)(n off:Nat)(E:D)(k:IntKind)(i:Int)(I:0≤i)(M:i<(n:Int)):IE st n 1 (.eptr E off) (.int k i)=some (.eptr E (off+i.toNat)):=by
 have J:i.toNat<n:=by omega
 simp[IE,Pe k i I,J,E3]
theorem yR3[Inhabited α](st:St)(f:α→D)(E:List α)(i:Nat)(h:i<E.length):E1 st 1 false (.eptr (.agg (E.map f)) i)=some (f (E.getD i default)):=by
 have:=kR 1 false f E i h;simpa[E1,Dq,D.cells]using this
theorem eI(st:St)(x:D)(h:x.isCell=true):E1 st 1 false (.eptr x 0)=some x:=by
 simp[E1,Px h,D.mk]
theorem aV(st:St)(b:UInt8):E1 st 1 false (.eptr (Dc b) 0)=some (Dc b):=eI st _ rfl
theorem yR4(st:St)(k:IntKind)(n:Int):E1 st 1 false (.eptr (.int k n) 0)=some (.int k n):=eI st _ rfl
theorem Ygx[Inhabited α](st:St)(sz:Nat)(f:α→D)(l:List α)(t:Bool)(k:IntKind)(i:Int)(E:0≤i)(J:i<(l.length:Int)) :
  F5 st sz (.slc sz (l.map f) t) (.int k i)=some (.eptr (f (l.getD i.toNat default)) 0):=by
 have I:i.toNat<l.length:=by omega
 simp only[F5,Pe k i E,AJ,getElem?_getD l i.toNat I,Ah,beq_self_eq_true,if_true]
theorem Yf2(st:St)(sz:Nat)(els:List D)(t:Bool):Es st false (.slc sz els t)=some (.int .i64 (els.length:Int)):=(rfl)
theorem Yf1(st:St)(s:List UInt8):Es st true (.str s)=some (.int .i64 (s.length:Int)):=(rfl)
theorem Yf3(st:St)(key tot off len:Nat):Es st false (.row key tot off len)=if EE st key tot then some (.int .i64 (len:Int))else none:=by
 simp only[Es,Ip,ED,beq_self_eq_true,if_true];grind
theorem Ye7(st:St)(sz bytes key tot:Nat)(x:D)(o:Obj)(xs:List D)(E:Nat)(I:st[key]?=some o)(J:o.row=true)(M:o.sz=sz)(N:o.els.length=tot)
  (O:Gy st x=some (E,xs)) (U:E=sz∨xs=[]) (V:sz≠0) (hb:(tot+xs.length)*bytes≤140737488355328) (hl:tot+xs.length≤4294967296) :
  D8 st sz bytes (.row key tot 0 tot) x=some (.row key (tot+xs.length) 0 (tot+xs.length),st.set key {o with els:=o.els++xs}):=by
 have e:(!(E == sz || xs.isEmpty) || sz == 0)=false:=by
  grind
 simp only[D8,O,e,I,J,M,N,hb,hl,beq_self_eq_true,Az,decide_true,if_true,Al,if_false]
theorem nf(st:St)(sz bytes E:Nat)(els:List D)(x:D)(xs:List D)(I:Nat)(J:Gy st x=some (I,xs))(V:I=sz∨xs=[])(O:E=sz∨els=[])(Y:sz≠0)(U:xs≠[])
  (hb:(els.length+xs.length)*bytes≤140737488355328) (hl:els.length+xs.length≤4294967296) :
  D8 st sz bytes (.slc E els true) x=some (.row st.length (els.length+xs.length) 0 (els.length+xs.length),st++[{row:=true,sz,els:=els++xs,lent:=false}]):=by
 have M:xs.isEmpty=false:=by cases xs <;> simp_all
 have e:(!(I == sz || false) || sz == 0)=false:=by
  grind
 have N:(E == sz || els.isEmpty)=true:=by
  grind
 simp only[D8,J,e,M,N,hb,hl,Az,decide_true,if_true,Al,if_false]
theorem ng(st:St)(sz bytes E:Nat)(els:List D)(x:D)(I:Nat)(J:Gy st x=some (I,[]))(M:sz≠0) :
  D8 st sz bytes (.slc E els true) x=some (.slc E els true,st):=by
 simp[D8,J,M]
theorem qW:∀ (l:List D),IN 1 false l l.length=l
 |[]=>rfl
 |a::l=>by simp[IN,D.mk,qW l]
def DV(sz key:Nat)(els:List D):D:=if els.isEmpty then .slc sz [] true else .row key els.length 0 els.length
def Dr(sz:Nat)(els:List D):St:=if els.isEmpty then []else [{row:=true,sz,els,lent:=false}]
theorem lQ(sz key:Nat):DV sz key []=.slc sz [] true:=(rfl)
theorem Ye8(st:St)(sz sz0 bytes:Nat)(els xs:List D)(x:D)(E:Nat)(I:Gy (st++Dr sz els) x=some (E,xs))(J:E=sz∨xs=[])(hs0:sz≠0)
  (hb:(els.length+xs.length)*bytes≤140737488355328) (hl:els.length+xs.length≤4294967296) :
  D8 (st++Dr sz els) sz bytes (DV sz0 st.length els) x=some (DV sz0 st.length (els++xs),st++Dr sz (els++xs)):=by
 cases els with
 |nil=>
  cases xs with
  |nil=>
   rw[lQ,ng _ _ _ _ _ _ E I hs0];rfl
  |cons a l=>
   rw[lQ,nf _ _ _ _ _ _ (a::l) E I J (.inr rfl) hs0 (by simp) (by simpa using hb) (by simpa using hl)];simp[DV,Dr]
 |cons e r=>
  have M:(st++Dr sz (e::r))[st.length]?=some {row:=true,sz,els:=e::r,lent:=false}:=by simp[Dr]
  have:=Ye7 (st++Dr sz (e::r)) sz bytes st.length (e::r).length x _ xs E M rfl rfl rfl I J hs0 hb hl;simp only[DV,List.isEmpty_cons,Al,if_false,Ae]at this ⊢;rw[this];simp[Dr,Nat.add_right_comm]
theorem Ys6(fr:Frame)(s t:Nat)(d:D):(fr.set s d) t=if t=s then d else fr t:=(rfl)
theorem Ytw(s t:Nat)(d:D)(r:List (Nat×D)):GK ((s,d)::r) t=if t=s then d else GK r t:=(rfl)
attribute [push_cast] Yw6 yRm VM Ydb yQ8 yQ9 EH Ylb TF Yvg Yn0 Yps Yhv Yvy Up Yiu Ycj yB yC yNy Yak wU wV vL Yhc zm zl Yi2 Yi1 Yiz Yco Yiy Yi0 Yix Yhd wh vK Yhb we zn wc wb Yl9 Yeb Yea Option.isNone_none Option.isNone_some
attribute [push_cast] lg Ymz Yfm Ygv vV Yc9 yQ5 yQ6 Yn4 Ygl Yuv Yny Yn1 Ygk US UM Yuk UT UU Yuu Yum Yuj Yul UW UX UZ gp Yus Ynx Ynv Ygj UQ Yur Yup Yuq UP Yuo UO Yun UY gr UN Ynw Yn2 Yn3 Ynz Yut UR Yex Yey Ys6 Uh Ui Ytw Ywv Ywu Ywt Yws Ywr Ywq Ywp Ywo Yw1 VL VI yo yn Ydm Yw5 Yq6 Yff Ymw Yth Yw4 VJ Yec xE mZ oS Ycu
attribute [push_cast] Yof Vi Yvr ySc yMg ySd Yvq Yvp Yvo Yoc mA Yu8 mX DJ IL SD pZ bZ Yq0 Ym6 Ytv V8 Yql Yq2 yR5 xU xn Qs mC Ynm WT kR yS5 Yly Ylz qy Ydv Ydu Ydw Ydx aV yR4 yR3 Yf2 Yf1
theorem kL(st:St)(k:IntKind)(n:Int):DO st (.int k n)=some (.int k n):=(rfl)
theorem Ygs(st:St)(b:Bool):DO st (.bool b)=some (.bool b):=(rfl)
theorem Yn8(st:St)(s:List UInt8):DO st (.str s)=some (.str s):=(rfl)
theorem Yn9(st:St)(sz:Nat)(els:List D)(t:Bool):DO st (.slc sz els t)=some (.slc (nz sz els) els false):=(rfl)
theorem Yoa(st:St)(key tot off len:Nat):DO st (.row key tot off len)=(Hf st key tot off len).map fun p=>.slc (nz p.1 p.2) p.2 false:=(rfl)
theorem kK(st:St)(l:List D):DO st (.agg l)=(DQ st l).map .agg:=(rfl)
theorem Ygt(st:St):DQ st []=some []:=(rfl)
theorem oe(st:St)(d:D)(l:List D):DQ st (d::l)=(Dw st d).bind fun x=>(DQ st l).map (x::·):=by
 simp only[DQ]
 cases Dw st d with
 |none=>rfl
 |some x=>cases DQ st l <;> rfl
theorem Ygo(st:St):D0 st []=some []:=(rfl)
theorem wJ(st:St)(d:D)(l:List D):D0 st (d::l)=(DO st d).bind fun x=>(D0 st l).map (x::·):=by
 simp only[D0]
 cases DO st d with
 |none=>rfl
 |some x=>cases D0 st l <;> rfl
theorem mv(st:St)(d:Dig):DQ st (CY d)=some (CY d):=QT st (SC d)
theorem Yg5(s:PS):Fo s []=some []:=(rfl)
theorem vP(s:PS)(r:PRes)(l:List PRes):Fo s (r::l)=(r.get s).bind fun x=>(Fo s l).map (x::·):=by
 simp only[Fo]
 cases r.get s with
 |none=>rfl
 |some x=>cases Fo s l <;> rfl
theorem Yo3(fr:Frame)(st:St)(t:Nat):PRes.get ⟨fr,st⟩ (.tmp t)=DO st (fr t):=(rfl)
theorem Yg8(fr:Frame)(st:St)(t n:Nat)(ag:Bool):PRes.get ⟨fr,st⟩ (.cell t n ag)=(E1 st n ag (fr t)).bind fun d=>DO st d:=by
 simp only[PRes.get];grind
theorem eN(s:PS):DK s []=some []:=(rfl)
theorem eO(fr:Frame)(st:St)(t:Nat)(l:List PRes):DK ⟨fr,st⟩ (.tmp t::l)=(DK ⟨fr,st⟩ l).map (fr t::·):=(rfl)
theorem Yfb(d:D):DC [d]=d:=(rfl)
theorem Yfa(a b:D)(l:List D):DC (a::b::l)=.tup (a::b::l):=(rfl)
theorem Yfc:DC []=.tup []:=(rfl)
theorem wO(k:IntKind)(n:Int):(D.int k n).noRef=true:=(rfl)
theorem ySk(b:Bool):(D.bool b).noRef=true:=(rfl)
theorem wP(sz:Nat)(els:List D)(t:Bool):(D.slc sz els t).noRef=false:=(rfl)
theorem mB(k:IntKind)(n:Int):keys (.int k n)=[]:=(rfl)
theorem wm(b:Bool):keys (.bool b)=[]:=(rfl)
theorem Ygb(s:List UInt8):keys (.str s)=[]:=(rfl)
theorem Ygc(sz:Nat)(els:List D)(t:Bool):keys (.slc sz els t)=[]:=(rfl)
theorem Ygd(key tot off len:Nat):keys (.row key tot off len)=[key]:=(rfl)
theorem Yu7(k:IntKind)(n:Int):hk (.int k n)=[]:=(rfl)
theorem Yoq(b:Bool):hk (.bool b)=[]:=(rfl)
theorem Yu1(s:List UInt8):hk (.str s)=[]:=(rfl)
theorem Yu2(sz:Nat)(els:List D)(t:Bool):hk (.slc sz els t)=[]:=(rfl)
theorem Yu3(key tot off len:Nat):hk (.row key tot off len)=[key]:=(rfl)
theorem Yu4(key off:Nat):hk (.ptr key off)=[key]:=(rfl)
theorem Yu0(l:List D):hk (.tup l)=[]:=(rfl)
theorem Yon:hk .junk=[]:=(rfl)
theorem Yme(n:Nat)(σ:List Nat)(k:IntKind)(m:Int):Ef n σ (.int k m)=.int k m:=(rfl)
theorem Yel(n:Nat)(σ:List Nat)(b:Bool):Ef n σ (.bool b)=.bool b:=(rfl)
theorem Yma(n:Nat)(σ:List Nat)(s:List UInt8):Ef n σ (.str s)=.str s:=(rfl)
theorem Ymb(n:Nat)(σ:List Nat)(sz:Nat)(els:List D)(t:Bool):Ef n σ (.slc sz els t)=.slc sz els t:=(rfl)
theorem Ymc(n:Nat)(σ:List Nat)(key tot off len:Nat):Ef n σ (.row key tot off len)=IH (fun k=>.row k tot off len) (EA n σ key):=(rfl)
theorem Ymd(n:Nat)(σ:List Nat)(key off:Nat):Ef n σ (.ptr key off)=IH (fun k=>.ptr k off) (EA n σ key):=(rfl)
theorem yMi(f:Nat→D)(k:Nat):IH f (some k)=f k:=(rfl)
theorem Yiq(k:IntKind)(n:Int):Dx (.int k n)=some [.int k n]:=(rfl)
theorem Ycd(b:Bool):Dx (.bool b)=some [.bool b]:=(rfl)
theorem Yip(sz:Nat)(els:List D)(t:Bool):Dx (.slc sz els t)=some [.slc sz els t]:=(rfl)
theorem Ya2(k:IntKind)(n:Int):(D.int k n).cells=[.int k n]:=(rfl)
theorem zJ(b:Bool):(D.bool b).cells=[.bool b]:=(rfl)
theorem Yaz(sz:Nat)(els:List D)(t:Bool):(D.slc sz els t).cells=[.slc sz els t]:=(rfl)
theorem Ya0(key tot off len:Nat):(D.row key tot off len).cells=[.row key tot off len]:=(rfl)
theorem Ya3(l:List D):(D.agg l).cells=l:=(rfl)
theorem pJ(k:IntKind)(n:Int):(D.int k n).isCell=true:=(rfl)
theorem yM7(b:Bool):(D.bool b).isCell=true:=(rfl)
theorem zC(sz:Nat)(els:List D)(t:Bool):(D.slc sz els t).isCell=true:=(rfl)
theorem zB(key tot off len:Nat):(D.row key tot off len).isCell=true:=(rfl)
theorem Ysc(b:Bool):Mf .not (.bool b)=some (.bool !b):=(rfl)
theorem Yqp(k:IntKind)(a b:Int):Df .lss (.int k a) (.int k b)=some (.bool (decide (a<b))):=by simp only[Df,if_true,I4,Ah]
theorem Yqq(k:IntKind)(a b:Int):Df .leq (.int k a) (.int k b)=some (.bool (decide (a≤b))):=by simp only[Df,if_true,I4,Ah]
theorem Yqr(k:IntKind)(a b:Int):Df .gtr (.int k a) (.int k b)=some (.bool (decide (b<a))):=by simp only[Df,if_true,I4,Ah,gt_iff_lt]
theorem Yqs(k:IntKind)(a b:Int):Df .geq (.int k a) (.int k b)=some (.bool (decide (b≤a))):=by simp only[Df,if_true,I4,Ah,ge_iff_le]
theorem tu(k:IntKind)(a b:Int):Df .eql (.int k a) (.int k b)=some (.bool (decide (a=b))):=by
 simp only[Df,if_true,I4,Ah];rfl
theorem Yqo(k:IntKind)(a b:Int):Df .neq (.int k a) (.int k b)=some (.bool (!decide (a=b))):=by
 simp only[Df,if_true,I4,Ah];rfl
theorem Yit(E a b:Bool):Mg E (.bool a) (.bool b)=some (.bool ((a == b) != E)):=(rfl)
theorem Ytu(k k':IntKind)(a b:Int):Ry true (.int k a) (.int k' b)=some (.int k (max a b)):=by
 simp only[Ry,if_true]
 congr 2
 omega
theorem Ytt(k k':IntKind)(a b:Int):Ry false (.int k a) (.int k' b)=some (.int k (min a b)):=by
 simp only[Ry,Al,if_false]
 congr 2
 omega
theorem Ym5(k k' E:IntKind)(a b c:Int):NI true (.int k a) (.int k' b) (.int E c)=some (.int k (max (max a b) c)):=by
 simp only[NI,Mj,if_true]
 congr 2
 omega
theorem Ye3(st:St)(off key o:Nat):E3 st off (.ptr key o)=some (.ptr key (o+off)):=(rfl)
theorem w6(st:St)(off:Nat)(E:D)(o:Nat):E3 st off (.eptr E o)=some (.eptr E (o+off)):=(rfl)
theorem Yf0(st:St):lend [] st=st:=(rfl)
theorem wv(k:Nat)(r:List Nat)(st:St):lend (k::r) st=lend r (st.modify k fun o=>{o with lent:=true}):=(rfl)
theorem yM5(b:Bool)(x:St):(if b=true then x else x)=x:=by cases b <;> rfl
theorem pU(n sz:Nat)(ag:Bool)(key off:Nat)(h:0<n):N1 n sz ag (.ptr key off) none none=some (.bsl key off n sz ag):=by
 have:¬ 0=n:=by omega
 simp[N1,FW,this]
attribute [push_cast] kL Ygs Yn8 Yn9 Yoa kK Ygt oe Ygo wJ mv Yg5 vP Yo3 Yg8 eN eO Yfb Yfa Yfc wO ySk wP mB wm Ygb Ygc Ygd Yu7 Yoq Yu1 Yu2 Yu3 Yu4 Yu0 Yon Yme Yel Yma Ymb Ymc Ymd yMi Yiq Ycd Yip Ya2 zJ Yaz Ya0 Ya3 pJ yM7 zC zB Ysc Yqp Yqq Yqr Yqs tu Yqo Yit Ytu Ytt Ym5 Ye3 w6 Yf0 wv yM5 Option.map_some Option.map_none Option.bind_some Option.bind_none List.map_cons List.map_nil List.flatMap_cons List.flatMap_nil List.append_nil List.nil_append List.cons_append List.getElem?_cons_zero List.getElem?_cons_succ List.set_cons_zero List.set_cons_succ List.modify_zero_cons List.modify_succ_cons List.length_cons List.length_nil List.length_map List.take_zero List.take_succ_cons List.all_cons List.all_nil Nat.zero_add Nat.add_zero Bool.not_true Bool.not_false Bool.and_self Bool.true_and Bool.and_true Bool.false_and Bool.and_false Bool.or_false Bool.false_or Bool.true_or Bool.or_true Bool.not_not if_true if_false decide_true decide_false beq_self_eq_true Bool.false_eq_true Bool.true_eq_false ne_eq bne_self_eq_false Bool.bne_false Bool.bne_true Nat.lt_irrefl Nat.le_refl
def L7(fr:Frame):List Nat→List Nat
 |[]=>[]
 |k::r=>hk (fr k)++L7 fr r
def Ja(fr:Frame)(n:Nat)(σ:List Nat):List Nat→List (Nat×D)
 |[]=>[]
 |k::r=>(k,Ef n σ (fr k))::Ja fr n σ r
def IB:St→List Nat
 |[]=>[]
 |o::r=>(if o.row then []else o.els.flatMap hk)++IB r
def Lk(n:Nat)(σ:List Nat)(st:St):List Nat→St
 |[]=>[]
 |k::r=>ES n σ (st.getD k default)::Lk n σ st r
def I1(n:Nat)(σ:List Nat):St→St
 |[]=>[]
 |o::r=>ES n σ o::I1 n σ r
def Sj(keep:List Nat)(n m:Nat)(l:List Nat)(fr:Frame)(st:St):PS:=restrictAt keep n (ER n m l []) ⟨fr,st⟩
theorem eg(fr:Frame):∀ keep:List Nat,L7 fr keep=keep.flatMap fun k=>hk (fr k)
 |[]=>rfl
 |k::r=>by rw[L7,At,eg fr r]
theorem tv:∀ st:St,IB st=st.flatMap fun o=>if o.row then []else o.els.flatMap hk
 |[]=>rfl
 |k::r=>by rw[IB,At,tv r]
theorem RN(fr:Frame)(n:Nat)(σ:List Nat):∀ keep:List Nat,Ja fr n σ keep=keep.map fun k=>(k,Ef n σ (fr k))
 |[]=>rfl
 |k::r=>by rw[Ja,Ax,RN fr n σ r]
theorem eG(n:Nat)(σ:List Nat)(st:St):∀ l:List Nat,Lk n σ st l=l.map fun k=>ES n σ (st.getD k default)
 |[]=>rfl
 |k::r=>by rw[Lk,Ax,eG n σ st r]
theorem Y6(n:Nat)(σ:List Nat):∀ st:St,I1 n σ st=st.map (ES n σ)
 |[]=>rfl
 |k::r=>by rw[I1,Ax,Y6 n σ r]
def ZY(keep:List Nat)(n:Nat)(fr:Frame)(st:St):PS:=Sj keep n st.length (L7 fr keep++IB (st.take n)) fr st
theorem yL1(keep:List Nat)(n:Nat)(fr:Frame)(st:St):restrict keep n ⟨fr,st⟩=ZY keep (if n≤st.length then n else st.length) fr st:=by
 simp only[restrict,ZY,Sj,Ta,eg,tv]
theorem yH8(keep:List Nat)(n:Nat)(fr:Frame)(st:St):ZY keep n fr st=Sj keep n st.length (L7 fr keep++IB (st.take n)) fr st:=(rfl)
def Sk(keep:List Nat)(n:Nat)(σ:List Nat)(fr:Frame)(st:St):PS:=⟨GK (Ja fr n σ keep),I1 n σ (st.take n)++Lk n σ st σ⟩
theorem yH9(keep:List Nat)(n m:Nat)(l:List Nat)(fr:Frame)(st:St):Sj keep n m l fr st=Sk keep n (ER n m l []) fr st:=by
 simp only[Sj,restrictAt,Sk,RN,picked,Y6,eG]
theorem yE9(keep:List Nat)(n:Nat)(σ:List Nat)(fr:Frame)(st:St):restrictAt keep n σ ⟨fr,st⟩=Sk keep n σ fr st:=by
 simp only[restrictAt,Sk,RN,picked,Y6,eG]
theorem yH7(keep:List Nat)(n:Nat)(σ:List Nat)(fr:Frame)(st:St):Sk keep n σ fr st=⟨GK (Ja fr n σ keep),I1 n σ (st.take n)++Lk n σ st σ⟩:=(rfl)
theorem vR(fr:Frame):L7 fr []=[]:=(rfl)
theorem zu(fr:Frame)(k:Nat)(r:List Nat):L7 fr (k::r)=hk (fr k)++L7 fr r:=(rfl)
theorem vQ(fr:Frame)(n:Nat)(σ:List Nat):Ja fr n σ []=[]:=(rfl)
theorem zt(fr:Frame)(n:Nat)(σ:List Nat)(k:Nat)(r:List Nat):Ja fr n σ (k::r)=(k,Ef n σ (fr k))::Ja fr n σ r:=(rfl)
theorem Yin:IB []=[]:=(rfl)
theorem Yim(sz:Nat)(els:List D)(lent:Bool)(r:St):IB ({row:=true,sz,els,lent}::r)=IB r:=(rfl)
theorem Yio(sz:Nat)(els:List D)(lent:Bool)(r:St):IB ({row:=false,sz,els,lent}::r)=els.flatMap hk++IB r:=(rfl)
theorem w8(n:Nat)(σ:List Nat)(st:St):Lk n σ st []=[]:=(rfl)
theorem ySb(n:Nat)(σ:List Nat)(st:St)(k:Nat)(r:List Nat):Lk n σ st (k::r)=ES n σ (st.getD k default)::Lk n σ st r:=(rfl)
theorem Yem(n:Nat)(σ:List Nat):I1 n σ []=[]:=(rfl)
theorem xz(n:Nat)(σ:List Nat)(o:Obj)(r:St):I1 n σ (o::r)=ES n σ o::I1 n σ r:=(rfl)
theorem Ydf(lo hi:Nat)(E:List Nat):ER lo hi [] E=E:=(rfl)
theorem yR(lo hi k:Nat)(r E:List Nat):ER lo hi (k::r) E=ER lo hi r (if lo≤k∧k<hi∧E.contains k=false then E++[k]else E):=(rfl)
theorem Ymj(n:Nat)(σ:List Nat)(key:Nat):EA n σ key=if key<n then some key else OB σ n key:=(rfl)
theorem Ye1(k k':Nat)(r:List Nat)(b:Nat):OB (k::r) b k'=if k'=k then some b else OB r (b+1) k':=(rfl)
theorem Yen(n:Nat)(σ:List Nat)(sz:Nat)(els:List D)(lent:Bool):ES n σ {row:=true,sz,els,lent}={row:=true,sz,els,lent}:=(rfl)
theorem Yeo(n:Nat)(σ:List Nat)(sz:Nat)(els:List D)(lent:Bool):ES n σ {row:=false,sz,els,lent}={row:=false,sz,els:=els.map (Ef n σ),lent}:=(rfl)
theorem Yet(n:Nat)(σ:List Nat)(k:IntKind)(m:Int):En n σ (.int k m)=.int k m:=(rfl)
theorem xx(n:Nat)(σ:List Nat)(b:Bool):En n σ (.bool b)=.bool b:=(rfl)
theorem Yer(n:Nat)(σ:List Nat)(sz:Nat)(els:List D)(t:Bool):En n σ (.slc sz els t)=.slc sz els t:=(rfl)
theorem Yeq(n:Nat)(σ:List Nat)(s:List UInt8):En n σ (.str s)=.str s:=(rfl)
theorem Yes(n:Nat)(σ:List Nat)(key tot off len:Nat):En n σ (.row key tot off len)=IH (fun k=>.row k tot off len) (EA n σ key):=(rfl)
theorem You(k:IntKind)(m:Int):Dp (.int k m)=[]:=(rfl)
theorem Ygz(b:Bool):Dp (.bool b)=[]:=(rfl)
theorem Yos(sz:Nat)(els:List D)(t:Bool):Dp (.slc sz els t)=[]:=(rfl)
theorem Yor(s:List UInt8):Dp (.str s)=[]:=(rfl)
theorem Yot(key tot off len:Nat):Dp (.row key tot off len)=[key]:=(rfl)
theorem Yvb(key off m sz:Nat)(ag:Bool):hk (.bsl key off m sz ag)=[key]:=(rfl)
theorem Yoi(key tot i off:Nat):hk (.rptr key tot i off)=[key]:=(rfl)
theorem Yom(key:Nat):hk (.mapv key)=[key]:=(rfl)
theorem Yol:hk .nilf=[]:=(rfl)
theorem Yoj:hk .nilp=[]:=(rfl)
theorem Yok:hk .nilm=[]:=(rfl)
theorem Yoo(l:List (Int×Nat)):hk (.gmap l)=[]:=(rfl)
theorem Yek(n:Nat)(σ:List Nat)(l:List (Int×Nat)):Ef n σ (.gmap l)=.gmap l:=(rfl)
theorem Yeg(n:Nat)(σ:List Nat):Ef n σ .nilm=.nilm:=(rfl)
theorem Yej(n:Nat)(σ:List Nat)(key:Nat):Ef n σ (.mapv key)=IH .mapv (EA n σ key):=(rfl)
theorem Yeh(n:Nat)(σ:List Nat):Ef n σ .nilf=.nilf:=(rfl)
theorem Yef(n:Nat)(σ:List Nat):Ef n σ .nilp=.nilp:=(rfl)
def QW(keep:List Nat)(n:Nat)[Inv:InvC][Q:QC](e:Ex)(fr:Frame)(st:St):Prop:=match e with
 |.next=>Inv.run (restrict keep n ⟨fr,st⟩)
 |e=>Q.run e fr st
def Yv(s:PS)[Inv:InvC]:Prop:=Inv.run s
theorem zT(keep:List Nat)(n:Nat)(E:PS→Prop)(Q:QC)(fr:Frame)(st:St):@QW keep n ⟨E⟩ Q .next fr st=@Yv (restrict keep n ⟨fr,st⟩) ⟨E⟩:=(rfl)
theorem zS(keep:List Nat)(n:Nat)(E:InvC)(Q:Ex→Frame→St→Prop)(I:Nat)(fr:Frame)(st:St):@QW keep n E ⟨Q⟩ (.exit I) fr st=Q (.exit I) fr st:=(rfl)
theorem wE(keep:List Nat)(n:Nat)(E:InvC)(Q:Ex→Frame→St→Prop)(fr:Frame)(st:St):@QW keep n E ⟨Q⟩ .ret fr st=Q .ret fr st:=(rfl)
theorem yMt(keep:List Nat)(n:Nat)(E:InvC)(Q:Ex→Frame→St→Prop)(t:Nat)(d:D)(fr:Frame)(st:St):@QW keep n E ⟨Q⟩ (.panic t d) fr st=Q (.panic t d) fr st:=(rfl)
theorem GF(E:ι→List (Nat×D))(I:ι→St)(P:ι→Prop)(μ:ι→Nat)(J:ι)
  (N:restrict keep st.length ⟨fr,st⟩=⟨GK (E J),I J⟩) (O:P J)
  (M:∀ i,P i→@wW G T c (GK (E i)) (I i) ⟨@QW keep st.length ⟨fun s=>∃ j,(P j∧μ j<μ i)∧s=⟨GK (E j),I j⟩⟩ ⟨Q⟩⟩):@wW G T (.loop keep c) fr st ⟨Q⟩:=by
 refine ZO (Yw3 E I P μ J N O fun i hi=>Kt c _ _ _ _ (IC (M i hi)) fun e U st' h=>?_)
 cases e with
 |next=>
  obtain⟨j,⟨V,Y⟩,h3⟩:=h;grind
 |exit id=>exact h
 |ret=>exact h
 |panic t d=>exact h
theorem Fi{E:ι→List (Nat×D)}{I:ι→St}{P m:ι→Prop}{s:PS}(j:ι)(J:P j)(M:m j)(N:s=⟨GK (E j),I j⟩):@Yv s ⟨fun s=>∃ j,(P j∧m j)∧s=⟨GK (E j),I j⟩⟩:=⟨j,⟨J,M⟩,N⟩
def S8(keep:List Nat)[Inv:InvC][Q:QC](e:Ex)(fr:Frame)(st:St):Prop:=match e with
 |.next=>Inv.run (keepAll keep ⟨fr,st⟩)
 |e=>Q.run e fr st
theorem yMu(keep:List Nat)(E:PS→Prop)(Q:QC)(fr:Frame)(st:St):@S8 keep ⟨E⟩ Q .next fr st=@Yv (keepAll keep ⟨fr,st⟩) ⟨E⟩:=(rfl)
theorem yMv(keep:List Nat)(E:InvC)(Q:Ex→Frame→St→Prop)(I:Nat)(fr:Frame)(st:St):@S8 keep E ⟨Q⟩ (.exit I) fr st=Q (.exit I) fr st:=(rfl)
theorem zR(keep:List Nat)(E:InvC)(Q:Ex→Frame→St→Prop)(fr:Frame)(st:St):@S8 keep E ⟨Q⟩ .ret fr st=Q .ret fr st:=(rfl)
theorem yIx(keep:List Nat)(E:InvC)(Q:Ex→Frame→St→Prop)(t:Nat)(d:D)(fr:Frame)(st:St):@S8 keep E ⟨Q⟩ (.panic t d) fr st=Q (.panic t d) fr st:=(rfl)
def Zy(fr:Frame):List Nat→List (Nat×D)
 |[]=>[]
 |k::l=>(k,fr k)::Zy fr l
theorem wj(fr:Frame):Zy fr []=[]:=(rfl)
theorem yS8(fr:Frame)(k:Nat)(l:List Nat):Zy fr (k::l)=(k,fr k)::Zy fr l:=(rfl)
theorem fL(T:Tbl)(l:Nat)(y:List D→St→Option (D×St)):(ik T l y).p=T.p:=(rfl)
theorem fN(T:Tbl)(l:Nat)(y:List D→St→Option (D×St)):(ik T l y).i=T.i:=(rfl)
theorem fM(T:Tbl)(l:Nat)(y:List D→St→Option (D×St)):(ik T l y).m=T.m:=(rfl)
theorem tI(T:Tbl)(f:Nat)(E:List D)(h:f<5000000):Kk T (.clo f E)=(T.i f).map fun sp=>(sp,[],E):=by
 simp only[Kk,if_pos h]
theorem Og(T:Tbl)(f f':Nat)(E:List D)(h:f=f'+5000000)(I:f'<5000000):Kk T (.clo f E)=(T.i f').map fun sp=>(sp,E,[]):=by
 subst h;simp only[Kk,if_neg (show ¬ f'+5000000<5000000 by omega),if_pos (show f'+5000000<10000000 by omega),Cl]
theorem Tq(f:Nat)(E ds:List D)(h:f<5000000):NP (.clo f E) ds=some (f,ds++E):=by
 simp only[NP,if_pos h]
theorem wL(k:IntKind)(n:Int):KL (.int k n)=true:=(rfl)
theorem zA(k:IntKind)(n:Int):KL (.agg [.int k n])=true:=(rfl)
attribute [push_cast] yRd Yw2 VK wY yW yK4 yK5 yQ7 Yfl wR zY zX z4 zZ yRo Yee xB yRq xA yRr yLz wL zA
attribute [irreducible] S8
attribute [push_cast] yMu yMv zR wj yS8 fL fN fM tI Og Tq Yla
attribute [irreducible] QW Yv
attribute [push_cast] zT zS wE yMt yIx
attribute [push_cast] Yvb Yoi Yom Yol Yoj Yok Yoo Yek Yeg Yej Yeh Yef Yep Ygy
attribute [push_cast] yE9 yL1 yH8 yH9 yH7 vR zu vQ zt Yin Yim Yio w8 ySb Yem xz Ydf yR Ymj Ye1 Yen Yeo Yet xx Yer Yeq Yes You Ygz Yos Yor Yot List.getD_cons_zero List.getD_cons_succ List.contains_nil List.contains_cons false_and and_false and_true true_and and_self Int.toNat_natCast Int.cast_ofNat_Int Int.toNat_zero Int.toNat_one
noncomputable def Dd{α:Type}(enc:α→List D)(pre:α→Prop)(f:α→D):List D→Option D:=
 fun ds=>@dite _ (∃ a,enc a=ds∧pre a) (Classical.propDecidable _) (fun h=>some (f h.choose)) (fun _=>none)
theorem fl{enc:α→List D}{pre:α→Prop}{f:α→D}(h:Dd enc pre f ds=some d):∃ a,enc a=ds∧pre a∧f a=d:=by
 unfold Dd at h
 split at h
 ·grind
 ·cases h
theorem DW{enc:α→List D}{pre:α→Prop}{f:α→D}(E:∀ a b,enc a=enc b→a=b)(a:α)(I:pre a):Dd enc pre f (enc a)=some (f a):=by
 have J:∃ b,enc b=enc a∧pre b:=⟨a,rfl,I⟩;unfold Dd;grind
def DZ{α:Type}:List (Nat×α)→Nat→Option α
 |[],_=>none
 |(k,a)::r,n=>if n=k then some a else DZ r n
def tb(l:List (Nat×(List D→Option D)))(li:List (Nat×(List D→St→Option (D×St))))(lm:List (Nat×(List D→Option ((Nat→D)×(Nat→List Obj)))):=[]):Tbl:={p:=DZ l,i:=DZ li,m:=DZ lm}
theorem fT(l:List (Nat×(List D→Option D)))(li:List (Nat×(List D→St→Option (D×St))))(E:List (Nat×(List D→Option ((Nat→D)×(Nat→List Obj)))))(n:Nat):(tb l li E).p n=DZ l n:=(rfl)
theorem TX(l:List (Nat×(List D→Option D)))(li:List (Nat×(List D→St→Option (D×St))))(E:List (Nat×(List D→Option ((Nat→D)×(Nat→List Obj)))))(n:Nat):(tb l li E).i n=DZ li n:=(rfl)
theorem fU(l:List (Nat×(List D→Option D)))(li:List (Nat×(List D→St→Option (D×St))))(E:List (Nat×(List D→Option ((Nat→D)×(Nat→List Obj)))))(n:Nat):(tb l li E).m n=DZ E n:=(rfl)
theorem Yfy(n:Nat):DZ ([]:List (Nat×α)) n=none:=(rfl)
theorem ov(k:Nat)(a:α)(r:List (Nat×α))(n:Nat):DZ ((k,a)::r) n=if n=k then some a else DZ r n:=(rfl)
theorem JU{α:Type}:∀ {l:List (Nat×α)} {n:Nat} {a:α},DZ l n=some a→(n,a)∈l
 |[],_,_,h=>by cases h
 |(k,b)::r,n,a,h=>by
  simp only[DZ]at h
  split at h
  ·grind
  ·exact Ar _ (JU h)
variable {li:List (Nat×(List D→St→Option (D×St)))}{l:List (Nat×(List D→Option D))}{P:Program}
theorem DB(h:∀ x∈l,Contract P G x.1 x.2)(hi:∀ x∈li,IContract P G x.1 x.2)(I:l.all (fun x=>decide (x.1<50000000))=true:=by rfl):TblOK P G (tb l li):=
 ⟨fun _ _ E=>.inl ⟨of_decide_eq_true (Aj.1 I _ (JU E)),h _ (JU E)⟩,fun _ _ E=>hi _ (JU E),fun _ _ E=>(by cases E),fun _ _ E=>(by cases E),fun _ _ E=>(by cases E),fun _ _ E=>(by cases E)⟩
def fS(l:List (Nat×(List D→Option D)))(li:List (Nat×(List D→St→Option (D×St))))(lr:List (Nat×((List D→St→Option (D×St))→List D→St→Option (D×St)))):Tbl:={p:=DZ l,i:=DZ li,m:=fun _=>none,r:=DZ lr}
theorem TO(l:List (Nat×(List D→Option D)))(li:List (Nat×(List D→St→Option (D×St))))(E:List (Nat×((List D→St→Option (D×St))→List D→St→Option (D×St))))(n:Nat):(fS l li E).p n=DZ l n:=(rfl)
theorem TP(l:List (Nat×(List D→Option D)))(li:List (Nat×(List D→St→Option (D×St))))(E:List (Nat×((List D→St→Option (D×St))→List D→St→Option (D×St))))(n:Nat):(fS l li E).i n=DZ li n:=(rfl)
theorem TN(l:List (Nat×(List D→Option D)))(li:List (Nat×(List D→St→Option (D×St))))(E:List (Nat×((List D→St→Option (D×St))→List D→St→Option (D×St))))(n:Nat):(fS l li E).r n=DZ E n:=(rfl)
def LH(l:List (Nat×(List D→Option D)))(li:List (Nat×(List D→St→Option (D×St))))(lx:List (Nat×(List D→St→Option (Nat×D×St)))):Tbl:={p:=DZ l,i:=DZ li,m:=fun _=>none,x:=DZ lx}
theorem TL(l:List (Nat×(List D→Option D)))(li:List (Nat×(List D→St→Option (D×St))))(E:List (Nat×(List D→St→Option (Nat×D×St))))(n:Nat):(LH l li E).p n=DZ l n:=(rfl)
theorem TM(l:List (Nat×(List D→Option D)))(li:List (Nat×(List D→St→Option (D×St))))(E:List (Nat×(List D→St→Option (Nat×D×St))))(n:Nat):(LH l li E).i n=DZ li n:=(rfl)
theorem TK(l:List (Nat×(List D→Option D)))(li:List (Nat×(List D→St→Option (D×St))))(E:List (Nat×(List D→St→Option (Nat×D×St))))(n:Nat):(LH l li E).x n=DZ E n:=(rfl)
theorem MW{I:List (Nat×(List D→St→Option (Nat×D×St)))}(h:∀ x∈l,Contract P G x.1 x.2)(hi:∀ x∈li,IContract P G x.1 x.2)
  (M:∀ x∈I,Pq P G x.1 x.2) (J:l.all (fun x=>decide (x.1<50000000))=true:=by rfl):TblOK P G (LH l li I):=
 ⟨fun _ _ E=>.inl ⟨of_decide_eq_true (Aj.1 J _ (JU E)),h _ (JU E)⟩,fun _ _ E=>hi _ (JU E),fun _ _ E=>(by cases E),fun _ _ E=>(by cases E),fun _ _ E=>M _ (JU E),fun _ _ E=>(by cases E)⟩
def PQ(l:List (Nat×(List D→Option D)))(li:List (Nat×(List D→St→Option (D×St))))(lq:List (Nat×(List D→List (Option (Bool×Nat×List D))→Option D))):Tbl:={p:=DZ l,i:=DZ li,m:=fun _=>none,q:=DZ lq}
theorem TR(l:List (Nat×(List D→Option D)))(li:List (Nat×(List D→St→Option (D×St))))(E:List (Nat×(List D→List (Option (Bool×Nat×List D))→Option D)))(n:Nat):(PQ l li E).p n=DZ l n:=(rfl)
theorem TS(l:List (Nat×(List D→Option D)))(li:List (Nat×(List D→St→Option (D×St))))(E:List (Nat×(List D→List (Option (Bool×Nat×List D))→Option D)))(n:Nat):(PQ l li E).i n=DZ li n:=(rfl)
theorem TQ(l:List (Nat×(List D→Option D)))(li:List (Nat×(List D→St→Option (D×St))))(E:List (Nat×(List D→List (Option (Bool×Nat×List D))→Option D)))(n:Nat):(PQ l li E).q n=DZ E n:=(rfl)
theorem cA{I:List (Nat×(List D→List (Option (Bool×Nat×List D))→Option D))}(h:∀ x∈l,Contract P G x.1 x.2)(hi:∀ x∈li,IContract P G x.1 x.2)
  (M:∀ x∈I,IContract P G x.1 (fun ds st=>(Ig x.2 ds st).map (·,st))) (J:l.all (fun x=>decide (x.1<50000000))=true:=by rfl):TblOK P G (PQ l li I):=
 ⟨fun _ _ E=>.inl ⟨of_decide_eq_true (Aj.1 J _ (JU E)),h _ (JU E)⟩,fun _ _ E=>hi _ (JU E),fun _ _ E=>(by cases E),fun _ _ E=>(by cases E),fun _ _ E=>(by cases E),fun _ _ E=>M _ (JU E)⟩
theorem all_nil{p:α→Prop}:∀ x∈([]:List α),p x:=fun _ h=>by cases h
theorem all_cons{p:α→Prop}{a:α}{l:List α}(h:p a)(hl:∀ x∈l,p x):∀ x∈a::l,p x:=by
 grind
theorem D9{il:List Nat}{f:Nat}{hints:List (List Nat)}(E:Ds P il f hints=some F)(I:TblOK P G T){enc:α→List D}{pre:α→Prop}{r:α→D}
  (h:∀ a,pre a→@wW G T F.code (C4 (enc a)) [] ⟨Dg F.res (r a)⟩) (J:T.y=fun _ _ _=>none:=by rfl):Contract P G f (Dd enc pre r):=by
 refine mO I J E fun ds d M=>?_;obtain⟨a,rfl,N,rfl⟩:=fl M;exact m5 (IC (h a N))
theorem dU{a b:List Dig}:a.map C0=b.map C0↔a=b:=⟨N4 fun _ _=>mc,fun h=>by rw[h]⟩
theorem MA{a b:Dig}:C0 a=C0 b↔a=b:=⟨mc,fun h=>by rw[h]⟩
theorem N5{a b:Dig}:CY a=CY b↔a=b:=⟨Lz,fun h=>by rw[h]⟩
theorem nF{a:List UInt8}:a.map Dc=b.map Dc↔a=b:=⟨Pb,fun h=>by rw[h]⟩
theorem Yij{a b:UInt8}:Dc a=Dc b↔a=b:=⟨nE,fun h=>by rw[h]⟩
theorem Kq(sz:Nat)(els:List D):nz (nz sz els) els=nz sz els:=by cases els <;> rfl
theorem Ytm(sz:Nat):nz sz []=0:=(rfl)
theorem Ym1(sz:Nat)(a:D)(l:List D):nz sz (a::l)=sz:=(rfl)
theorem gY(sz:Nat)(els:List D):nz sz els=sz∨els=[]:=by cases els <;> simp[nz]
theorem Lt[Inhabited α](st:St)(sz:Nat)(f:α→D)(l:List α)(t:Bool)(k:IntKind)(i:Int)(E:0≤i)(I:i<(l.length:Int)) :
  F5 st sz (.slc (nz sz (l.map f)) (l.map f) t) (.int k i)=some (.eptr (f (l.getD i.toNat default)) 0):=by
 have:nz sz (l.map f)=sz:=by
  rcases gY sz (l.map f)with h | h
  ·exact h
  ·have:l.length=0:=by simpa using congrArg List.length h
   omega
 rw[this];exact Ygx st sz f l t k i E I
attribute [push_cast] Kq Ytm Ym1 fT TX fU TO TP TN TL TM TK TR TS TQ Yfy ov List.map_nil
theorem mH(h:n≤64):min n.toNat 64=n.toNat:=by omega
variable {x:Int}{k k':IntKind}
theorem sd(hk:k=.i64∨k=.u64)(I:0≤n)(E:n≤64):Df .shr (.int k x) (.int k' n)=some (.int k (x / 2 ^ n.toNat)):=by
 have hb:k.bits=64:=by rcases hk with rfl | rfl <;> rfl
 simp only[Df,Lo,show ¬ n<0 by omega,if_false,Ah,hb,mH E];grind
theorem MI(E:0≤n)(I:n≤64):Df .shr (.int .u64 x) (.int k' n)=some (.int .u64 (x / 2 ^ n.toNat)):=sd (.inr rfl) E I
theorem ic(E:0≤n)(I:n≤64):Df .shr (.int .i64 x) (.int k' n)=some (.int .i64 (x / 2 ^ n.toNat)):=sd (.inl rfl) E I
theorem Uf(M:0≤n)(E:n≤64)(I:-9223372036854775808≤x*2 ^ n.toNat)(J:x*2 ^ n.toNat<9223372036854775808):Df .shl (.int .i64 x) (.int k' n)=some (.int .i64 (x*2 ^ n.toNat)):=by
 simp only[Df,Lo,show ¬ n<0 by omega,if_false,Ah,show IntKind.bits .i64=64 from rfl,mH E,N9 I J]
theorem Yl8(E:0≤n)(I:n≤62):Df .shl (.int .i64 1) (.int k' n)=some (.int .i64 (2 ^ n.toNat)):=by
 have J:(2:Int) ^ n.toNat≤2 ^ 62:=by
  have M:(2:Nat) ^ n.toNat≤2 ^ 62:=Nat.pow_le_pow_right (by decide) (by omega);grind
 have N:(0:Int)≤2 ^ n.toNat:=Int.pow_nonneg (by decide);have:=Uf (x:=1) (k':=k') E (by omega) (by omega) (by rw[Int.one_mul]; omega);grind
theorem Uk{b:Int}(hb:0<b)(E:0≤a)(J:a<9223372036854775808):Df .quo (.int .i64 a) (.int .i64 b)=some (.int .i64 (a / b)):=by
 have I:a.tdiv b=a / b:=BN E;have M:a / b≤a:=Cf b E;have N:0≤a / b:=Ck E (by omega);simp only[Df,if_true,JP,show ¬ b=0 by omega,if_false,Ah,I,N9 (show -9223372036854775808≤a / b by omega) (show a / b<9223372036854775808 by omega)]
theorem rW{b:Int}(hb:0<b)(E:0≤a):Df .rem (.int .i64 a) (.int .i64 b)=some (.int .i64 (a % b)):=by
 have I:a.tmod b=a % b:=Int.tmod_eq_emod_of_nonneg E;simp only[Df,if_true,JP,show ¬ b=0 by omega,if_false,Ah,I]
theorem toNat_ofInt(E:0≤a)(I:a<9223372036854775808):(CH 64 a).toNat=a.toNat:=by
 grind
theorem Yqz(E:0≤a)(I:a<9223372036854775808):Df .and (.int .i64 a) (.int .i64 1)=some (.int .i64 (a % 2)):=by
 have h:(CH (IntKind.bits .i64) a &&& CH (IntKind.bits .i64) 1).toNat=(a % 2).toNat:=by
  show(CH 64 a &&& CH 64 1).toNat=_
  rw[Cv,toNat_ofInt E I,show(CH 64 1).toNat=2 ^ 1 - 1 from rfl,BE];omega
 simp only[Df,if_true,Ko,Ah,h];rw[N9 (by omega) (by omega)]
 congr 2
 omega
theorem YW(st:St)(E:0≤a)(I:a<9223372036854775808):Fa st (.int .u64) (.int .i64 a)=some (.int .u64 a):=by
 obtain⟨n,rfl⟩:=Bc E;simp only[Fa,R2]
 congr 2
 omega
theorem tJ(st:St)(I:0≤a)(E:a<9223372036854775808):Fa st (.int .i64) (.int k a)=some (.int .i64 a):=by
 simp only[Fa,N9 (show -9223372036854775808≤a by omega) E]
theorem Mz(st:St)(E:0≤a):Fa st (.int .u8) (.int k a)=some (Dc (UInt8.ofNat a.toNat)):=by
 obtain⟨n,rfl⟩:=Bc E;rfl
theorem N0(st:St)(b:UInt8):Fa st (.int .i64) (Dc b)=some (.int .i64 (b.toNat:Int)):=by
 have:=b.toNat_lt;simp only[Dc];exact tJ st (by omega) (by omega)
theorem Yog(s:List UInt8)(k:IntKind)(i:Int)(E:0≤i)(J:i<(s.length:Int)):Jz (.str s) (.int k i)=some (Dc (s.getD i.toNat default)):=by
 have I:i.toNat<s.length:=by omega
 simp only[Jz,Pe k i E,getElem?_getD s i.toNat I]
theorem Ygw(s:List UInt8)(b:UInt8)(h:b.toNat<s.length):Jz (.str s) (Dc b)=some (Dc (s.getD b.toNat default)):=by
 have:=Yog s .u8 (b.toNat:Int) (by omega) (by omega);simpa[Dc]using this
theorem yRx{s:List UInt8}{h:Int}(E:0≤h)(I:h≤(s.length:Int)):Gm st 0 (.str s) none (some (.int k h)) none=some (.str (s.take h.toNat)):=by
 simp[Gm,FW,Pe k h E];omega
theorem Yb1(st:St)(b:UInt8):DO st (Dc b)=some (Dc b):=(rfl)
theorem yH(b:UInt8):keys (Dc b)=[]:=(rfl)
theorem Yik(b:UInt8):hk (Dc b)=[]:=(rfl)
theorem Yb0(n:Nat)(σ:List Nat)(b:UInt8):Ef n σ (Dc b)=Dc b:=(rfl)
theorem yNv(b:UInt8):(Dc b).cells=[Dc b]:=(rfl)
theorem yKr(b:UInt8):(Dc b).isCell=true:=(rfl)
theorem yNu(b:UInt8):(Dc b).noRef=true:=(rfl)
theorem Yb2(b:UInt8):Dx (Dc b)=some [Dc b]:=(rfl)
theorem yFv(b:UInt8):E4 1 [Dc b]=some (.slc 1 [Dc b] true):=(rfl)
theorem zM(st:St)(s:List UInt8):Fa st .bytes (.str s)=some (.slc 1 (s.map Dc) false):=(rfl)
theorem wA(a:Nat)(l:List D)(t:Bool):E4 1 [.slc a l t]=some (.slc 1 [.slc a l t] true):=(rfl)
theorem wB(a b:Nat)(l m:List D)(t u:Bool):E4 1 [.slc a l t,.slc b m u]=some (.slc 1 [.slc a l t,.slc b m u] true):=(rfl)
theorem wC(a b c:Nat)(l m n:List D)(t u v:Bool):E4 1 [.slc a l t,.slc b m u,.slc c n v]=some (.slc 1 [.slc a l t,.slc b m u,.slc c n v] true):=(rfl)
theorem wz:E4 1 []=some (.slc 1 [] true):=(rfl)
theorem zP:E4 32 []=some (.slc 32 [] true):=(rfl)
theorem JV(k:IntKind)(n:Int)(d:Dig):Dx (.agg (.int k n::CY d))=some (.int k n::CY d):=by
 simp[Dx,D.cells,IL,D.isCell]
theorem yJ8(k:IntKind)(n:Int)(d:Dig):(D.agg (.int k n::CY d)).noRef=true:=by
 have:=pZ d;simp only[C0,D.noRef]at this;simp[D.noRef,D.noRef1,this]
theorem yM1(k:IntKind)(n:Int)(d:Dig):keys (.agg (.int k n::CY d))=[]:=Pn (by simp[IF,Eo,SC])
theorem yNb(k k':IntKind)(n m:Int)(z d:Dig):DF (.int k n::CY z) [(0,1,.int k' m),(1,32,C0 d)]=some (.int k' m::CY d):=by
 have I:Fc (.int k n::CY z) 0 [.int k' m]=.int k' m::CY z:=rfl
 have J:Fc (.int k' m::CY z) 1 (CY d)=.int k' m::CY d:=by
  rw[show(1:Nat)=0+1 from rfl,yLe,pY]
 have E:(CY d).length=32:=DJ d;have M:(CY z).length=32:=DJ z;simp only[DF,SD,IL,E];have N:(D.int k' m).cells=[.int k' m]:=rfl;have O:(([D.int k' m].length == 1) && decide (0+1≤(D.int k n::CY z).length) && [D.int k' m].all D.isCell)=true:=by simp[D.isCell]
 grind
attribute [push_cast] JV yJ8 yM1 yNb
theorem mq(st:St)(k:IntKind)(n:Int):Dw st (.int k n)=some (.int k n):=(rfl)
theorem vW(st:St)(b:Bool):Dw st (.bool b)=some (.bool b):=(rfl)
theorem Ygu(st:St)(s:List UInt8):Dw st (.str s)=some (.str s):=(rfl)
theorem eh(st:St)(sz:Nat)(els:List D)(t:Bool):Dw st (.slc sz els t)=some (.slc (nz sz els) els false):=(rfl)
attribute [push_cast] mq vW Ygu eh Nat.zero_le
attribute [push_cast] wz zP zM wA wB wC
theorem oy(f:α→D)(E:∀ a,Eo (f a)=true)(l:List α):(l.map f).all Eo=true:=by
 grind
theorem bl(l:List UInt8):(l.map Dc).all Eo=true:=oy Dc (fun _=>rfl) l
theorem bq(l:List UInt32):(l.map wD).all Eo=true:=oy wD (fun _=>rfl) l
theorem zz(st:St)(l:List UInt32):DQ st (l.map wD)=some (l.map wD):=QT st (bq l)
theorem zx(st:St)(l:List UInt8):DQ st (l.map Dc)=some (l.map Dc):=QT st (bl l)
theorem yRs(n:Nat)(σ:List Nat)(l:List UInt32):(l.map wD).map (Ef n σ)=l.map wD:=Oh n σ (bq l)
theorem yRt(n:Nat)(σ:List Nat)(l:List UInt8):(l.map Dc).map (Ef n σ)=l.map Dc:=Oh n σ (bl l)
theorem vT(l:List UInt32):(l.map wD).flatMap hk=[]:=Pd (bq l)
theorem vS(l:List UInt8):(l.map Dc).flatMap hk=[]:=Pd (bl l)
attribute [push_cast] yRs yRt vT vS
theorem yMm(l:List UInt32):(D.agg (l.map wD)).noRef=true:=by
 simp only[D.noRef,Aj,AV];rintro x ⟨a,_,rfl⟩;rfl
theorem Yb9(l:List UInt32):Dx (.agg (l.map wD))=some (l.map wD):=by
 simp only[Dx,D.cells,Wp wD (fun _=>rfl),if_true]
theorem sY{a b:UInt32}(h:wD a=wD b):a=b:=by
 simp only[wD,D.int.injEq,true_and]at h;exact UInt32.toNat_inj.1 (by omega)
theorem Ycv{a b:UInt32}:wD a=wD b↔a=b:=⟨sY,fun h=>by rw[h]⟩
theorem yy{a b:List UInt32}:a.map wD=b.map wD↔a=b:=⟨N4 fun _ _=>sY,fun h=>by rw[h]⟩
theorem Yr9(st:St)(b:UInt32):DO st (wD b)=some (wD b):=(rfl)
theorem Ylc(b:UInt32):keys (wD b)=[]:=(rfl)
theorem Yda(b:UInt32):(wD b).noRef=true:=(rfl)
theorem TG(b:UInt32):hk (wD b)=[]:=(rfl)
theorem Yr8(n:Nat)(σ:List Nat)(b:UInt32):Ef n σ (wD b)=wD b:=(rfl)
def zW(n:Nat):List UInt32:=CF n 0
theorem Ykh(n:Nat):D.int .u32 0::(zW n).map wD=(zW (n+1)).map wD:=(rfl)
theorem Yki:[D.int .u32 0,.int .u32 0,.int .u32 0,.int .u32 0,.int .u32 0,.int .u32 0,.int .u32 0,.int .u32 0]=(zW 8).map wD:=(rfl)
theorem Nm(f:α→D)(I:∀ a,(f a).isCell=true)(E:List α)(i:Nat)(v:α)(r:List (Nat×Nat×D))(h:i<E.length):DF (E.map f) ((i,1,f v)::r)=DF ((E.set i v).map f) r:=by
 have J:i+1≤E.length:=h
 have M:Fc (E.map f) i [f v]=(E.set i v).map f:=by
  rw[List.map_set,Fc,B5];simp[h]
 simp[DF,Px (I v),I v,J,M]
theorem Nd(cs:List D):DF cs []=some cs:=(rfl)
theorem U5(a b c d e f g h:UInt32):DF ((zW 8).map wD) [(0,1,wD a),(1,1,wD b),(2,1,wD c),(3,1,wD d),(4,1,wD e),(5,1,wD f),(6,1,wD g),(7,1,wD h)]=some ([a,b,c,d,e,f,g,h].map wD):=by
 have hf:∀ a,(wD a).isCell=true:=fun _=>rfl;rw[Nm wD hf _ _ _ _ (by simp[zW]),Nm wD hf _ _ _ _ (by simp[zW]),Nm wD hf _ _ _ _ (by simp[zW]),Nm wD hf _ _ _ _ (by simp[zW]),Nm wD hf _ _ _ _ (by simp[zW]),Nm wD hf _ _ _ _ (by simp[zW]),Nm wD hf _ _ _ _ (by simp[zW]),Nm wD hf _ _ _ _ (by simp[zW]),Nd];rfl
theorem Ys4(x:UInt32)(k:IntKind)(z:Int)(E:0≤z)(h:z<32):Df .shl (wD x) (.int k z)=some (wD (x <<< UInt32.ofNat z.toNat)):=by
 obtain⟨n,rfl⟩:=Bc E;exact r9 x k n (by omega)
theorem sQ(x:UInt32)(k:IntKind)(z:Int)(E:0≤z)(h:z<32):Df .shr (wD x) (.int k z)=some (wD (x >>> UInt32.ofNat z.toNat)):=by
 obtain⟨n,rfl⟩:=Bc E;exact se x k n (by omega)
theorem Ys2(x:UInt64)(k:IntKind)(z:Int)(E:0≤z)(h:z<64):Df .shr (qD x) (.int k z)=some (qD (x >>> CW z.toNat)):=by
 obtain⟨n,rfl⟩:=Bc E;exact Ue x k n (by omega)
def KE(s:List UInt8):D:=.slc (nz 1 (s.map Dc)) (s.map Dc) false
theorem Yqi{a:List UInt8}(h:KE a=KE b):a=b:=by
 simp only[KE,D.slc.injEq]at h;exact Pb h.2.1
theorem Yqh{a b:List (List UInt8)}:a.map KE=b.map KE↔a=b:=⟨N4 fun _ _=>Yqi,fun h=>by rw[h]⟩
theorem xT(st:St)(s:List UInt8):E1 st 1 false (.eptr (KE s) 0)=some (.slc (nz 1 (s.map Dc)) (s.map Dc) false):=eI st _ rfl
theorem T6(sz:Nat)(E I J M N O U V:D)(a b c d e f g h:UInt32):DY (some ⟨false,sz,[E,I,J,M,N,O,U,V],false⟩) 8 0 (.agg [wD a,wD b,wD c,wD d,wD e,wD f,wD g,wD h])=some ⟨false,sz,[wD a,wD b,wD c,wD d,wD e,wD f,wD g,wD h],false⟩:=Lx sz _ _ 8 rfl rfl rfl
attribute [push_cast] T6 zz zx yMm Yb9 Yr9 Ylc Yda TG Yr8 Ykh Yki U5 Nd xT
attribute [push_cast] Yb1 yH Yik Yb0 yNv yKr yNu Yb2 yFv
set_option linter.unusedSimpArgs false
def E9(n:Nat)(els:List D):List Nat:=if els.isEmpty then []else [n]
theorem Qj(sz key:Nat)(els:List D)(h:els≠[]):DV sz key els=.row key els.length 0 els.length:=by
 cases els with
 |nil=>exact absurd rfl h
 |cons a l=>rfl
theorem O1(sz:Nat)(els:List D)(h:els≠[]):Dr sz els=[{row:=true,sz,els,lent:=false}]:=by
 cases els with
 |nil=>exact absurd rfl h
 |cons a l=>rfl
theorem Yva(sz n:Nat)(els:List D):hk (DV sz n els)=E9 n els:=by cases els <;> rfl
theorem Ymg(sz n:Nat)(els:List D):Ef n (E9 n els) (DV sz n els)=DV sz n els:=by
 cases els with
 |nil=>rfl
 |cons a l=>simp[E9,DV,Ef,En,F9,EA,OB,IH]
theorem nr(n hi sz:Nat)(els:List D)(r:List Nat)(h:hi=(Dr sz els).length+n):ER n hi (E9 n els++r) []=ER n hi r (E9 n els):=by
 cases els with
 |nil=>rfl
 |cons a l=>
  have:n<hi:=by rw[h]; simp[Dr]
  simp[E9,ER,this]
theorem lL(sz:Nat)(els:List D)(r:List Nat):ER 1 ((Dr sz els).length+1) (E9 1 els++r) []=ER 1 ((Dr sz els).length+1) r (E9 1 els):=nr 1 _ sz els r (by simp)
theorem Ylf(sz:Nat)(els:List D):ER 1 ((Dr sz els).length+1) (E9 1 els) []=E9 1 els:=by
 have:=lL sz els [];rwa [Ad]at this
theorem lM(sz:Nat)(els:List D)(r:List Nat):ER 2 ((Dr sz els).length+1+1) (E9 2 els++r) []=ER 2 ((Dr sz els).length+1+1) r (E9 2 els):=nr 2 _ sz els r (by simp)
theorem Yle(sz:Nat)(els:List D):ER 2 ((Dr sz els).length+1+1) (E9 2 els) []=E9 2 els:=by
 have:=lM sz els [];rwa [Ad]at this
theorem nk(l:St)(sz:Nat)(els:List D):Lk l.length (E9 l.length els) (l++Dr sz els) (E9 l.length els)=Dr sz els:=by
 cases els with
 |nil=>rfl
 |cons a r=>simp[E9,Dr,Lk,ES]
theorem w9(a:Obj)(sz:Nat)(els:List D):Lk 1 (E9 1 els) (a::Dr sz els) (E9 1 els)=Dr sz els:=nk [a] sz els
theorem xM(a b:Obj)(sz:Nat)(els:List D):Lk 2 (E9 2 els) (a::b::Dr sz els) (E9 2 els)=Dr sz els:=nk [a,b] sz els
theorem wZ(l:St)(sz sz0 E bytes:Nat)(els xs:List D)(t:Bool)(I:E=sz∨xs=[])(hs0:sz≠0)(hb:(els.length+xs.length)*bytes≤140737488355328)(hl:els.length+xs.length≤4294967296) :
  D8 (l++Dr sz els) sz bytes (DV sz0 l.length els) (.slc E xs t)=some (DV sz0 l.length (els++xs),l++Dr sz (els++xs)):=
 Ye8 l sz sz0 bytes els xs _ E rfl I hs0 hb hl
section
variable {α:Type} (f:α→D) (a b c d:Obj) (sz sz0 bytes:Nat) (A B:List α) (t:Bool) (hs0:sz≠0) (hb:(A.length+B.length)*bytes≤140737488355328) (hl:A.length+B.length≤4294967296)
include hs0 hb hl
theorem ZU(l:St)(E:Nat)(I:E=sz∨B.map f=[]):D8 (l++Dr sz (A.map f)) sz bytes (DV sz0 l.length (A.map f)) (.slc E (B.map f) t)=some (DV sz0 l.length ((A++B).map f),l++Dr sz ((A++B).map f)):=by
 rw[wZ l sz sz0 E bytes (A.map f) (B.map f) t I hs0 (by simpa using hb) (by simpa using hl),Bv]
theorem Ymu:D8 (a::Dr sz (A.map f)) sz bytes (DV sz0 1 (A.map f)) (.slc (nz sz (B.map f)) (B.map f) t)=some (DV sz0 1 ((A++B).map f),a::Dr sz ((A++B).map f)):=ZU f sz sz0 bytes A B t hs0 hb hl [a] _ (gY _ _)
end
section
variable {α:Type} (f:α→D) (a b c d:Obj) (sz sz0 bytes:Nat) (A:List α) (x:α) (t:Bool) (hs0:sz≠0) (hb:(A.length+1)*bytes≤140737488355328) (hl:A.length+1≤4294967296)
include hs0 hb hl
theorem nh(l:St):D8 (l++Dr sz (A.map f)) sz bytes (DV sz0 l.length (A.map f)) (.slc sz [f x] t)=some (DV sz0 l.length ((A++[x]).map f),l++Dr sz ((A++[x]).map f)):=
 ZU f sz sz0 bytes A [x] t hs0 hb hl l sz (.inl rfl)
theorem Ymt:D8 (a::Dr sz (A.map f)) sz bytes (DV sz0 1 (A.map f)) (.slc sz [f x] t)=some (DV sz0 1 ((A++[x]).map f),a::Dr sz ((A++[x]).map f)):=nh f sz sz0 bytes A x t hs0 hb hl [a]
theorem lh:D8 (a::b::Dr sz (A.map f)) sz bytes (DV sz0 2 (A.map f)) (.slc sz [f x] t)=some (DV sz0 2 ((A++[x]).map f),a::b::Dr sz ((A++[x]).map f)):=nh f sz sz0 bytes A x t hs0 hb hl [a,b]
end
theorem pM(f:α→D)(st:St)(sz sz0 bytes:Nat)(B:List α)(t:Bool)(hs0:sz≠0)(hb:B.length*bytes≤140737488355328)(hl:B.length≤4294967296) :
  D8 st sz bytes (.slc sz0 [] true) (.slc (nz sz (B.map f)) (B.map f) t)=some (DV sz0 st.length (B.map f),st++Dr sz (B.map f)):=by
 have:=ZU f sz sz0 bytes [] B t hs0 (by simpa using hb) (by simpa using hl) st _ (gY _ _);simpa[Dr,DV]using this
theorem kZ(f:α→D)(sz:Nat)(A:List α)(h:Nat):nz (nz sz (A.map f)) ((A.take h).map f)=nz sz ((A.take h).map f):=by
 cases A with
 |nil=>simp[nz]
 |cons a r=>rfl
theorem kY(f:α→D)(sz:Nat)(A:List α)(l:Nat):nz (nz sz (A.map f)) ((A.drop l).map f)=nz sz ((A.drop l).map f):=by
 cases A with
 |nil=>simp[nz]
 |cons a r=>rfl
theorem oC(st:St)(sz bytes E I:Nat)(els:List D)(t:Bool)(hs0:sz≠0):D8 st sz bytes (.slc E els true) (.slc I [] t)=some (.slc E els true,st):=ng st sz bytes E els _ I rfl hs0
attribute [push_cast] kZ kY
theorem Yod(l:St)(sz sz0:Nat)(els:List D):DO (l++Dr sz els) (DV sz0 l.length els)=some (.slc (nz sz els) els false):=by
 cases els with
 |nil=>rfl
 |cons a r=>simp[DV,Dr,DO,Dw,Hf]
theorem tl(a b:Obj)(sz sz0:Nat)(els:List D):DO (a::b::Dr sz els) (DV sz0 2 els)=some (.slc (nz sz els) els false):=Yod [a,b] sz sz0 els
theorem Yf4(l:St)(sz sz0:Nat)(els:List D):Es (l++Dr sz els) false (DV sz0 l.length els)=some (.int .i64 (els.length:Int)):=by
 cases els with
 |nil=>rfl
 |cons a r=>simp[DV,Dr,Es,Ip,ED,EE]
theorem Ynf(a:Obj)(sz sz0:Nat)(els:List D):Es (a::Dr sz els) false (DV sz0 1 els)=some (.int .i64 (els.length:Int)):=Yf4 [a] sz sz0 els
theorem Yt4(n m:Nat):n≤m+n:=Nat.le_add_left n m
theorem Yfn(key:Nat):D.slc 0 [] true=DV 0 key []:=(rfl)
def OM(o:Option Obj)(sz bytes tot:Nat)(xs:Option (Nat×List D)):Option Obj:=match o,xs with
 |some o,some (szx,xs)=>if !(szx == sz || xs.isEmpty) || sz == 0 then none
  else if o.row && o.sz == sz && o.els.length == tot && decide ((tot+xs.length)*bytes≤140737488355328) && decide (tot+xs.length≤4294967296)then some {o with els:=o.els++xs} else none
 |_,_=>none
theorem ZV(st:St)(sz bytes key tot:Nat)(x:D):D8 st sz bytes (.row key tot 0 tot) x=(OM st[key]? sz bytes tot (Gy st x)).map fun o=>(.row key o.els.length 0 o.els.length,st.set key o):=by
 simp only[D8,OM];grind
theorem cF(f:α→D)(sz bytes:Nat)(A B:List α)(lent:Bool)(hs0:sz≠0)(hb:(A.length+B.length)*bytes≤140737488355328)(hl:A.length+B.length≤4294967296)(E:Nat)(I:E=sz∨B.map f=[]) :
  OM (some ⟨true,sz,A.map f,lent⟩) sz bytes A.length (some (E,B.map f))=some ⟨true,sz,(A++B).map f,lent⟩:=by
 have e:(!(E == sz || (B.map f).isEmpty) || sz == 0)=false:=by
  grind
 simp only[OM,e,Al,if_false];grind
theorem Yqw(f:α→D)(sz bytes:Nat)(A:List α)(x:α)(lent t:Bool)(st:St)(hs0:sz≠0)(hb:(A.length+1)*bytes≤140737488355328)(hl:A.length+1≤4294967296) :
  OM (some ⟨true,sz,A.map f,lent⟩) sz bytes A.length (Gy st (.slc sz [f x] t))=some ⟨true,sz,(A++[x]).map f,lent⟩:=cF f sz bytes A [x] lent hs0 hb hl _ (.inl rfl)
def Zq(o:Option Obj)(tot off len:Nat):Option (Nat×List D):=o.bind fun o=>if o.row && o.els.length == tot && decide (off+len≤tot)then some (o.sz,(o.els.drop off).take len)else none
theorem xF(st:St)(key tot off len:Nat):Hf st key tot off len=Zq st[key]? tot off len:=by
 unfold Hf Zq; cases st[key]? <;> rfl
theorem Yew(f:α→D)(sz:Nat)(A:List α)(lent:Bool)(off len:Nat)(h:off+len≤A.length):Zq (some ⟨true,sz,A.map f,lent⟩) A.length off len=some (sz,((A.drop off).take len).map f):=by
 simp[Zq,h,Ci,B1]
def PZ(o:Option Obj)(tot:Nat):Bool:=match o with
 |some o=>o.row && o.els.length == tot
 |none=>false
theorem Ynd(st:St)(key tot:Nat):EE st key tot=PZ st[key]? tot:=(rfl)
theorem Yne(f:α→D)(sz:Nat)(A:List α)(lent:Bool):PZ (some ⟨true,sz,A.map f,lent⟩) A.length=true:=by simp[PZ]
def OJ(o:Option Obj)(sz key tot off len:Nat)(j:Int):Option D:=if 0≤j then o.bind fun o=>if o.row && o.sz == sz && o.els.length == tot && decide (j.toNat<len)then some (.rptr key tot (off+j.toNat) 0)else none else none
theorem mo(st:St)(sz key tot off len:Nat)(k:IntKind)(j:Int):F5 st sz (.row key tot off len) (.int k j)=OJ st[key]? sz key tot off len j:=by
 simp only[F5,OJ,Fq];grind
theorem kW(f:α→D)(sz:Nat)(A:List α)(lent:Bool)(key off len:Nat)(j:Int)(E:0≤j)(I:j<(len:Int)):OJ (some ⟨true,sz,A.map f,lent⟩) sz key A.length off len j=some (.rptr key A.length (off+j.toNat) 0):=by
 have:j.toNat<len:=by omega
 simp[OJ,E,this]
def UE(o:Option Obj)(n:Nat)(ag:Bool)(tot i off:Nat):Option D:=if !ag && n != 1 then none else o.bind fun o=>if o.row && o.els.length == tot then(o.els[i]?).bind fun el=>if off+n≤el.cells.length then some (.mk ag ((el.cells.drop off).take n))else none else none
theorem iK(st:St)(n:Nat)(ag:Bool)(key tot i off:Nat):E1 st n ag (.rptr key tot i off)=UE st[key]? n ag tot i off:=yR0 st n ag key tot i off
theorem Yf9[Inhabited α](f:α→D)(E:∀ a,(f a).isCell=true)(sz:Nat)(A:List α)(lent:Bool)(i:Nat)(h:i<A.length):UE (some ⟨true,sz,A.map f,lent⟩) 1 false A.length i 0=some (f (A.getD i default)):=by
 have:(f A[i]).cells=[f A[i]]:=Px (E _);simp[UE,h,this,D.mk,Ao]
def OH(o:Option Obj)(sz:Nat)(x:D)(key tot off len l h:Nat):Option D:=o.bind fun o=>if o.row && o.sz == sz && o.els.length == tot && sz != 0 then(if l≤h∧h≤len then(if l=0∧h=len then some x else if l=h then some (.slc sz [] false)else some (.row key tot (off+l) (h - l)))else none)else none
theorem yRy(st:St)(sz key tot off len:Nat)(lo hi:Option D):Gm st sz (.row key tot off len) lo hi none=(FW lo 0).bind fun l=>(FW hi len).bind fun h=>OH st[key]? sz (.row key tot off len) key tot off len l h:=by
 simp only[Gm,OH]
 cases st[key]? with
 |none=>cases FW lo 0 <;> cases FW hi len <;> rfl
 |some o=>
  simp only[Bl]
  split
  ·cases FW lo 0 <;> cases FW hi len <;> rfl
  ·simp_all
theorem lB(f:α→D)(sz:Nat)(A:List α)(lent:Bool)(x:D)(key off len l h:Nat)(E:sz≠0)(I:l≤h)(J:h≤len):OH (some ⟨true,sz,A.map f,lent⟩) sz x key A.length off len l h=(if l=0∧h=len then some x else if l=h then some (.slc sz [] false)else some (.row key A.length (off+l) (h - l))):=by
 simp[OH,E,I,J]
theorem Yir(d:Nat):FW none d=some d:=(rfl)
theorem Yqn(k:IntKind)(n:Int)(d:Nat)(h:0≤n):FW (some (.int k n)) d=some n.toNat:=by simp[FW,Fq,h]
theorem z6(sz bytes:Nat)(E:D)(k k':IntKind)(c:Int)(I:0≤c)(U:c≤4294967296)(J:c.toNat*bytes≤140737488355328)(M:0<sz)(N:E.cells.length=sz)(O:E.cells.all D.pure1=true) :
  OP sz bytes E (.int k 0) (.int k' c)=some (0,⟨true,sz,[],false⟩):=by
 have:c.toNat≤4294967296:=by omega
 simp[OP,Pe k' c I,z7,this,J,M,N,O]
theorem Yfq(k k' E:IntKind)(n c:Int)(I:0≤c)(J:c≤4294967296):OP 1 1 (.int E n) (.int k 0) (.int k' c)=some (0,⟨true,1,([]:List UInt8).map Dc,false⟩):=
 z6 1 1 _ k k' c I J (by omega) (by decide) rfl rfl
theorem VA(f:α→D)(sz bytes E:Nat)(B:List α)(lent:Bool)(I:E=sz∨B.map f=[])(hs0:sz≠0)(hb:B.length*bytes≤140737488355328)(hl:B.length≤4294967296) :
  OM (some ⟨true,sz,[],lent⟩) sz bytes 0 (some (E,B.map f))=some ⟨true,sz,B.map f,lent⟩:=cF f sz bytes [] B lent hs0 (by simpa using hb) (by simpa using hl) E I
theorem Yww(B:List UInt8)(lent:Bool)(hl:B.length≤4294967296):OM (some ⟨true,1,[],lent⟩) 1 1 0 (some (1,B.map Dc))=some ⟨true,1,B.map Dc,lent⟩:=VA Dc 1 1 1 B lent (.inl rfl) (by decide) (by omega) hl
theorem gH(A B:List UInt8)(lent:Bool)(hl:A.length+B.length≤4294967296):OM (some ⟨true,1,A.map Dc,lent⟩) 1 1 A.length (some (1,B.map Dc))=some ⟨true,1,(A++B).map Dc,lent⟩:=cF Dc 1 1 A B lent (by decide) (by omega) hl 1 (.inl rfl)
def Vj(o:Option Obj):Option (Nat×List D):=o.bind fun o=>if !o.row && decide (32≤o.els.length) && (IN 1 false o.els 32).all purA then some (1,IN 1 false o.els 32)else none
theorem qC(st:St)(key:Nat):Gy st (.bsl key 0 32 1 false)=Vj st[key]?:=by
 simp only[Gy,Kv,Vj];grind
theorem Ypi(sz:Nat)(d:Dig)(lent:Bool):Vj (some ⟨false,sz,CY d,lent⟩)=some (1,d.bs.map Dc):=by
 have E:IN 1 false (CY d) 32=CY d:=by
  have:=qW (CY d);rwa [DJ]at this
 have I:(CY d).all purA=true:=KC (fun _=>rfl) d;simp only[Vj,Bl,DJ,E,I];rfl
attribute [push_cast] qC Ypi Yww gH
attribute [push_cast] List.drop_zero List.take_length
attribute [push_cast] ZV Yqw xF Yew Yf3 Ynd Yne mo kW iK yRy Yir Yqn
attribute [push_cast] Yva Ymg lL Ylf lM Yle w9 xM Ymu Ymt lh tl Ynf Yt4
end Go.Proofs.YtijnglngaogdjaaGreatDoor.PI
