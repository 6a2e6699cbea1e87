/-
  Slices that are made by appending, from nothing: laid out for rewriting.
  Conditions: none; these are lemmas.
-/
import Derived.Test.YtijnglngaogdjaaGreatDoorEngR
import Derived.ChangeArms
import Derived.Lib.LaidTab
import Derived.ChangeSame
open BitVec renaming ofInt→CF
open List renaming range→CG,replicate→CD
open UInt64 renaming ofNat→CU
set_option linter.unusedVariables false
set_option linter.unusedSimpArgs false
namespace Go.Proofs.YtijnglngaogdjaaGreatDoor.PI
open Go Go.RowKit
inductive Ty where
 |bool
 |int (k:IntKind)
 |str
 |slc (e:Ty)
 |agg (fs:List Ty)
 /-- a slice whose elements' type is told of in another way -/
 |opq (Q:D→Prop)
 deriving Inhabited
mutual
def Ty.size:Ty→Nat
 |.agg fs=>Ty.sizes fs
 |_=>1
def Ty.sizes:List Ty→Nat
 |[]=>0
 |f::r=>f.size+Ty.sizes r
end
inductive Has:Ty→D→Prop
 |bool (b:Bool):Has .bool (.bool b)
 |int (k:IntKind) (n:Int):(Lit.int k n).wf=true→Has (.int k) (.int k n)
 |str (s:List UInt8):s.length≤maxLen→Has .str (.str s)
 |slc (e:Ty) (els:List D):(∀ (i:Nat) x,els[i]?=some x→Has e x)→els.length≤maxLen→Has (.slc e) (.slc (nz e.size els) els false)
 |opq (Q:D→Prop) (sz:Nat) (els:List D):Q (.slc (nz sz els) els false)→Has (.opq Q) (.slc (nz sz els) els false)
 |agg (fs:List Ty) (xs:List D):fs.length=xs.length→(∀ (i:Nat) f x,fs[i]?=some f→xs[i]?=some x→Has f x)→Has (.agg fs) (.agg (xs.flatMap D.cells))
def Ys(P:Program):Nat→List Field→List Ty→Bool
 |_,[],[]=>true
 |o,f::fs,t::ts=>f.offset == o && P.cellsOf f.type == t.size && Ys P (o+t.size) fs ts
 |_,_,_=>false
def QZ(tf:TypeId→Option Ty):List Field→Option (List Ty)
 |[]=>some []
 |f::fs=>match tf f.type,QZ tf fs with
  |some t,some ts=>some (t::ts)
  |_,_=>none
inductive TyD (P:Program):TypeId→D→Prop
 |bool (t:TypeId) (b:Bool):P.underlying t=some .bool→TyD P t (.bool b)
 |int (t:TypeId) (k:IntKind) (n:Int):P.underlying t=some (.int k)→(Lit.int k n).wf=true→TyD P t (.int k n)
 |str (t:TypeId) (s:List UInt8):P.underlying t=some .string→s.length≤maxLen→TyD P t (.str s)
 |slc (t e:TypeId) (els:List D):P.underlying t=some (.slice e)→(∀ x∈els,TyD P e x)→els.length≤maxLen→TyD P t (.slc (nz (P.cellsOf e) els) els false)
 |agg (t:TypeId) (fs:Array Field) (xs:List D):P.underlying t=some (.struct fs)→fs.toList.length=xs.length→(∀ (i:Nat) f x,fs.toList[i]?=some f→xs[i]?=some x→TyD P f.type x)→TyD P t (.agg (xs.flatMap D.cells))
 |arr (t:TypeId) (m:Nat) (e:TypeId) (xs:List D):P.underlying t=some (.array m e)→xs.length=m→(∀ x∈xs,TyD P e x)→TyD P t (.agg (xs.flatMap D.cells))
def SM(P:Program):Nat→Nat→List Field→Bool
 |o,n,[]=>o == n
 |o,n,f::fs=>f.offset == o && SM P (o+P.cellsOf f.type) n fs
def Qi(P:Program)(S:List TypeId)(t:TypeId):Bool:=match P.underlying t with
 |some .bool | some (.int _) | some .string=>P.cellsOf t == 1
 |some (.slice e)=>S.contains e && decide (0<P.cellsOf e) && P.cellsOf t == 1
 |some (.struct fs)=>fs.toList.all (fun f=>S.contains f.type) && SM P 0 (P.cellsOf t) fs.toList
 |some (.array m e)=>S.contains e && P.cellsOf t == m*P.cellsOf e
 |_=>false
def Kb(P:Program)(S:List TypeId):Bool:=S.all (Qi P S)
def Yvx(P:Program)(t:TypeId):List TypeId:=match P.underlying t with
 |some (.slice e) | some (.array _ e)=>[e]
 |some (.struct fs)=>fs.toList.map (·.type)
 |_=>[]
def PT(P:Program):Nat→List TypeId→List TypeId
 |0,S=>S
 |n+1,S=>PT P n ((S++S.flatMap (Yvx P)).eraseDups)
def FJ(P:Program):Nat→TypeId→Option Ty
 |0,_=>none
 |n+1,t=>match P.underlying t with
  |some .bool=>some .bool
  |some (.int k)=>some (.int k)
  |some .string=>some .str
  |some (.slice e)=>match FJ P n e with
   |some x=>if P.cellsOf e == x.size && decide (0<x.size)then some (.slc x)else none
   |none=>if Kb P (PT P 6 [t]) && (PT P 6 [t]).contains t then some (.opq (TyD P t))else none
  |some (.struct fs)=>match QZ (FJ P n) fs.toList with
   |some ts=>if Ys P 0 fs.toList ts && P.cellsOf t == Ty.sizes ts then some (.agg ts)else none
   |none=>none
  |some (.array m e)=>match FJ P n e with
   |some x=>if P.cellsOf e == x.size && P.cellsOf t == m*x.size then some (.agg (CD m x))else none
   |none=>none
  |_=>none
def Vw(w:World):Nat→Nat→Prop:=fun b o=>(w.cell? ⟨b,o,none⟩).isSome=true
def JH(w:World):Ghost:={β:=id,γ:=id,Im:=Vw w}
variable {cs:List Value}{a:Addr}
section
variable {H:Type} {enc:TypeId×Value→H} {P:Program} {w:World}
def RepL(w:World)(xs:List D)(cs:List Value):Prop:=xs.length=cs.length∧(∀ (j:Nat) y v,xs[j]?=some y→cs[j]?=some v→RepV w (JH w) [] y v)∧∀ y∈xs,y.pure1=true
theorem RepL.nil:RepL w [] []:=⟨rfl,fun j y v h=>by simp at h,fun y h=>by cases h⟩
theorem RepL.append{xs ys:List D}{ds:List Value}(h:RepL w xs cs)(I:RepL w ys ds):RepL w (xs++ys) (cs++ds):=by
 refine⟨by simp[h.1,I.1],fun j y v E hv=>?_,fun y E=>?_⟩
 ·rcases A6 j xs.length with hj | hj
  ·rw[At hj]at E;rw[At (by rw[← h.1]; exact hj)]at hv;exact h.2.1 j y v E hv
  ·rw[AI hj]at E;rw[AI (by rw[← h.1]; exact hj),← h.1]at hv;exact I.2.1 _ y v E hv
 ·rcases AK.1 E with E | E
  ·exact h.2.2 y E
  ·exact I.2.2 y E
theorem RepL.one{x:D}{v:Value}(h:RepV w (JH w) [] x v)(E:x.pure1=true):RepL w x.cells [v]:=by
 rw[WW E];refine⟨rfl,fun j y u I hu=>?_,fun y I=>?_⟩
 ·grind
 ·grind
theorem sP{s:ByteArray}:RepV w (JH w) [] (.str s.data.toList) (.string s):=di s _ rfl
mutual
def wt:D→Nat
 |.slc _ els _=>GM els+1
 |.agg l=>GM l
 |.str s=>s.length+1
 |.int _ _=>1
 |.bool _=>1
 |_=>0
def GM:List D→Nat
 |[]=>0
 |d::l=>wt d+GM l
end
mutual
def blk{H:Type}:DataW H→Nat
 |.lit (.string s)=>s.length+1
 |.lit _=>1
 |.nil=>1
 |.slice e _=>FP e+1
 |.agg p=>FP p
 |_=>0
def FP{H:Type}:List (DataW H)→Nat
 |[]=>0
 |d::l=>blk d+FP l
end
theorem Sy:∀ (a b:List D),GM (a++b)=GM a+GM b
 |[],b=>by simp[GM]
 |x::a,b=>by rw[Ae,GM,GM,Sy a b]; omega
theorem Ws(d:D):GM d.cells=wt d:=by
 cases d <;> simp[D.cells,GM,wt]
theorem bY:∀ (a:List D) (b:List (DataW H)),a.length=b.length→(∀ (i:Nat) x y,a[i]?=some x→b[i]?=some y→wt x≤blk y)→GM a≤FP b
 |[],b,_,_=>by simp[GM]
 |x::a,[],h,_=>by simp at h
 |x::a,y::b,h,hle=>by
  have J:=hle 0 x y rfl rfl;have M:=bY a b (by simpa using h) (fun i x y E I=>hle (i+1) x y (by simpa using E) (by simpa using I));simp only[GM,FP];omega
def gn(enc:TypeId×Value→H)(P:Program)(w:World)(sp:Nat→Bool)(t:TypeId)(ty:Ty):Prop:=
 ∀ (fuel:Nat) (cs:List Value) (x:DataW H×List MemPlace),DataW.trod enc P w 0 sp true fuel t cs=some x→∃ d,Has ty d∧RepL w d.cells cs∧cs.length=ty.size∧((∃ fs,ty=.agg fs)∨d.pure1=true)∧wt d≤blk x.1
theorem iN{sp:Nat→Bool}{O:TypeId→Option Ty}(J:∀ t ty,O t=some ty→gn enc P w sp t ty)(fuel:Nat)(cs:List Value):∀ (fs:List Field) (E:List Ty) (o:Nat) (ys:List (DataW H×List MemPlace)),
  QZ O fs=some E→Ys P o fs E=true→fs.mapM (fun f=>DataW.trod enc P w 0 sp true fuel f.type ((cs.drop f.offset).take (P.cellsOf f.type)))=some ys→
  ∃ xs:List D,E.length=xs.length∧(∀ (i:Nat) f x,E[i]?=some f→xs[i]?=some x→Has f x)∧RepL w (xs.flatMap D.cells) ((cs.drop o).take (Ty.sizes E))∧(o≤cs.length→o+Ty.sizes E≤cs.length)∧GM (xs.flatMap D.cells)≤FP (ys.map (·.1))
 |[],E,o,ys,I,M,N=>by
  simp[QZ]at I; subst I;exact⟨[],rfl,fun i f x h=>by simp at h,by simpa[Ty.sizes]using RepL.nil,fun h=>by simpa[Ty.sizes]using h,by simp[GM]⟩
 |f::fs,E,o,ys,I,M,N=>by
  unfold QZ at I
  split at I
  case h_2=>cases I
  rename_i t U ht V;simp only[CX]at I; subst I;simp only[Ys,Af,beq_iff_eq]at M;obtain⟨⟨e1,e2⟩,e3⟩:=M;simp only[Bs,Bm,Ay,BD,CX]at N;obtain⟨y,Y,aa,ab,rfl⟩:=N;rw[e1,e2]at Y;obtain⟨d,d1,d2,d3,_,d5⟩:=J _ _ ht fuel _ _ Y;obtain⟨xs,x1,x2,x3,x4,x5⟩:=iN J fuel cs fs U (o+t.size) aa V e3 ab
  have hlen:o+t.size≤cs.length∨t.size=0:=by
   grind
  refine⟨d::xs,by simp[x1],?_,?_,?_,?_⟩
  ·grind
  ·have:=d2.append x3;simp only[Au,Ty.sizes];rw[Cq,Bq];exact this
  ·intro ho;simp only[Ty.sizes];omega
  ·simp only[Au,Sy,Ws,Ax,FP];omega
theorem ij{sp:Nat→Bool}{e:TypeId}{x:Ty}(E:gn enc P w sp e x)(hc:P.cellsOf e=x.size)(fuel:Nat)(cs:List Value):∀ (n k:Nat) (ys:List (DataW H×List MemPlace)),
  (List.range' k n).mapM (fun i=>DataW.trod enc P w 0 sp true fuel e ((cs.drop (i*P.cellsOf e)).take (P.cellsOf e)))=some ys→
  ∃ xs:List D,xs.length=n∧(∀ (i:Nat) y,xs[i]?=some y→Has x y)∧RepL w (xs.flatMap D.cells) ((cs.drop (k*x.size)).take (n*x.size))∧GM (xs.flatMap D.cells)≤FP (ys.map (·.1))
 |0,k,ys,h=>⟨[],rfl,fun i y h=>by simp at h,by simpa using RepL.nil,by simp[GM]⟩
 |n+1,k,ys,h=>by
  simp only[BQ,Bs,Bm,Ay,BD,CX]at h;obtain⟨y,I,J,M,rfl⟩:=h;rw[hc]at I;obtain⟨d,d1,d2,d3,_,d5⟩:=E fuel _ _ I;obtain⟨xs,N,U,O,V⟩:=ij E hc fuel cs n (k+1) J M;refine⟨d::xs,by simp[N],?_,?_,?_⟩
  ·grind
  ·have:=d2.append O;simp only[Au];rw[A0,Bu,Nat.add_comm (n*x.size),Cq,Bq];grind
  ·simp only[Au,Sy,Ws,Ax,FP];omega
theorem Ty.sizes_replicate(x:Ty):∀ m,Ty.sizes (CD m x)=m*x.size
 |0=>by simp[Ty.sizes]
 |m+1=>by rw[BT,Ty.sizes,Ty.sizes_replicate x m,A0,Bu,Nat.add_comm]
theorem cells?_get{base:Nat}{n:Nat}(h:w.cells? base a n=some cs):cs.length=n∧∀ (j:Nat) v,cs[j]?=some v→w.cell? (a.add j)=some v:=by
 unfold World.cells? at h
 split at h
 ·have hl:cs.length=n:=by simpa using Lib.mapM_length h
  refine⟨hl,fun j v hv=>?_⟩;have hj:j<n:=by rw[← hl]; exact(Ac.1 hv).1
  obtain⟨b,hb,hf⟩:=Lib.mapM_at h j j (by simp[hj]);grind
 ·cases h
def gT(enc:TypeId×Value→H)(P:Program)(w:World)(sp:Nat→Bool)(fuel:Nat)(t:TypeId):Prop:=
 ∀ (cs:List Value) (x:DataW H×List MemPlace),DataW.trod enc P w 0 sp true fuel t cs=some x→∃ d,TyD P t d∧RepL w d.cells cs∧cs.length=P.cellsOf t∧((∃ l,d=.agg l)∨d.pure1=true)∧wt d≤blk x.1
theorem iY{sp:Nat→Bool}{fuel:Nat}(cs:List Value)(n:Nat):∀ (fs:List Field) (o:Nat) (ys:List (DataW H×List MemPlace)),(∀ f∈fs,gT enc P w sp fuel f.type)→SM P o n fs=true→
  fs.mapM (fun f=>DataW.trod enc P w 0 sp true fuel f.type ((cs.drop f.offset).take (P.cellsOf f.type)))=some ys→
  ∃ xs:List D,fs.length=xs.length∧(∀ (i:Nat) f x,fs[i]?=some f→xs[i]?=some x→TyD P f.type x)∧RepL w (xs.flatMap D.cells) ((cs.drop o).take (n - o))∧o≤n∧GM (xs.flatMap D.cells)≤FP (ys.map (·.1))
 |[],o,ys,_,E,J=>by
  simp only[SM,beq_iff_eq]at E;subst E;exact⟨[],rfl,fun i f x h=>by simp at h,by simpa using RepL.nil,AE _,by simp[GM]⟩
 |f::fs,o,ys,I,E,J=>by
  simp only[SM,Af,beq_iff_eq]at E;obtain⟨U,V⟩:=E;simp only[Bs,Bm,Ay,BD,CX]at J;obtain⟨y,M,N,O,rfl⟩:=J;rw[U]at M;obtain⟨d,d1,d2,d3,_,d5⟩:=I f (by simp) _ _ M;obtain⟨xs,Y,x2,x3,x4,x5⟩:=iY cs n fs (o+P.cellsOf f.type) N (fun g hg=>I g (by simp[hg])) V O;refine⟨d::xs,by simp[Y],?_,?_,by omega,?_⟩
  ·grind
  ·have:=d2.append x3;simp only[Au];rw[show n - o=P.cellsOf f.type+(n - (o+P.cellsOf f.type)) by omega,Cq,Bq];exact this
  ·simp only[Au,Sy,Ws,Ax,FP];omega
theorem iR{sp:Nat→Bool}{fuel:Nat}{e:TypeId}(E:gT enc P w sp fuel e)(cs:List Value):∀ (n k:Nat) (ys:List (DataW H×List MemPlace)),
  (List.range' k n).mapM (fun i=>DataW.trod enc P w 0 sp true fuel e ((cs.drop (i*P.cellsOf e)).take (P.cellsOf e)))=some ys→
  ∃ xs:List D,xs.length=n∧(∀ y∈xs,TyD P e y)∧RepL w (xs.flatMap D.cells) ((cs.drop (k*P.cellsOf e)).take (n*P.cellsOf e))∧GM (xs.flatMap D.cells)≤FP (ys.map (·.1))
 |0,k,ys,h=>⟨[],rfl,(fun y h=>by cases h),by simpa using RepL.nil,by simp[GM]⟩
 |n+1,k,ys,h=>by
  simp only[BQ,Bs,Bm,Ay,BD,CX]at h;obtain⟨y,M,I,J,rfl⟩:=h;obtain⟨d,d1,d2,d3,_,d5⟩:=E _ _ M;obtain⟨xs,N,U,O,V⟩:=iR E cs n (k+1) I J;refine⟨d::xs,by simp[N],?_,?_,?_⟩
  ·grind
  ·have:=d2.append O;simp only[Au];rw[A0,Bu,Nat.add_comm (n*P.cellsOf e),Cq,Bq];grind
  ·simp only[Au,Sy,Ws,Ax,FP];omega
theorem yK6{Q:D→Prop}{sz:Nat}{len cap:Nat}{Y:Nat→Nat}(J:0<sz)(aa:len≤cap)
  (E:∀ i,i<len→∃ d,Q d∧d.cells.length=sz∧(∀ (j:Nat) y,d.cells[j]?=some y→y.pure1=true∧∃ v,w.cell? ((a.add (i*sz)).add j)=some v∧RepV w (JH w) [] y v)∧wt d≤Y i) :
  ∃ els:List D,els.length=len∧(∀ x∈els,Q x)∧RepL w (D.slc (nz sz els) els false).cells [.slice (some a) len cap]∧∀ (i:Nat) x,els[i]?=some x→wt x≤Y i:=by
 let f:Nat→D:=fun i=>if hi:i<len then(E i hi).choose else .junk
 have hf:∀ i (hi:i<len),f i=(E i hi).choose:=fun i hi=>by simp[f,hi]
 have O:∀ (i:Nat) x,((CG len).map f)[i]?=some x→∃ hi:i<len,x=(E i hi).choose:=by
  intro i x M;simp only[AJ,Dt]at M;obtain⟨i',I,rfl⟩:=M;rw[Ac]at I;obtain⟨U,h3⟩:=I;simp at U h3;grind
 refine⟨(CG len).map f,by simp,fun x M=>?_,?_,fun i x M=>?_⟩
 ·grind
 ·refine RepL.one (RepV.nz (t:=false) ?_) rfl;rcases B1 len with V | V
  ·subst V;exact .slcE _ false (some a) cap (fun h=>by cases h)
  ·have N:a.spot=none:=by
    obtain⟨d1,d2,d3,_⟩:=(E 0 V).choose_spec;obtain⟨_,v,I,_⟩:=d3 0 _ (An (by rw[d2]; exact J));rw[B8]at I;have U:(a.add 0).add 0=a:=by simp[Addr.add]
    rw[U]at I;unfold World.cell? at I
    split at I
    ·split at I
     ·cases I
     ·rename_i hs; simpa using hs
    ·cases I
   obtain⟨b,off,spot⟩:=a;simp only at N;subst N;have hl:len=((CG len).map f).length:=by simp
   conv=>rhs; rw[hl]
   refine RepV.slc_mk J ?_ (by simpa using aa) (fun h=>by cases h) ?_
   ·grind
   ·intro i j d hd;obtain⟨e',he,hj⟩:=Hz hd;obtain⟨ab,rfl⟩:=O i e' he;obtain⟨hp,v,hv,hr⟩:=(E i ab).choose_spec.2.2.1 j d hj;rw[Kp,Kp]at hv;refine⟨hp,?_,v,hv,hr⟩
    show(w.cell? ⟨b,off+i*sz+j,none⟩).isSome=true
    rw[hv]; rfl
 ·grind
theorem pd{sp:Nat→Bool}{S:List TypeId}(hS:Kb P S=true):∀ (fuel:Nat) (t:TypeId),t∈S→gT enc P w sp fuel t
 |0,t,_=>by intro cs x E; simp[DataW.trod]at E
 |fuel+1,t,U=>by
  have V:=fun t U=>pd (sp:=sp) hS fuel t U;have hc:Qi P S t=true:=Aj.1 hS t U;unfold Qi at hc;intro cs x E
  split at hc
  ·rename_i hu;simp only[beq_iff_eq]at hc;unfold DataW.trod at E;rw[hu]at E
   split at E <;> simp_all
   exact⟨_,.bool t _ hu,RepL.one (.bool _) rfl,.inr rfl,by rw[← E]; simp[wt,blk]⟩
  ·rename_i k hu;simp only[beq_iff_eq]at hc;unfold DataW.trod at E;rw[hu]at E
   split at E <;> simp_all
   rename_i k' m;obtain⟨⟨rfl,hw⟩,I⟩:=E;exact⟨_,.int t _ _ hu hw,RepL.one (.int _ _) rfl,.inr rfl,by rw[← I]; simp[wt,blk]⟩
  ·rename_i hu;simp only[beq_iff_eq]at hc;unfold DataW.trod at E;rw[hu]at E
   split at E <;> simp_all
   rename_i s;exact⟨_,.str t s.data.toList hu (by simpa using E.1),RepL.one sP rfl,.inr rfl,by rw[← E.2]; simp[wt,blk]⟩
  ·rename_i e hu;simp only[Af,A9,decide_eq_true_eq,beq_iff_eq]at hc;obtain⟨⟨J,Y⟩,N⟩:=hc;rcases DataW.trod_slice hu E with⟨rfl,I⟩ | ⟨a,len,cap,elems,rest,m,hm,rfl,I,_,a1,a9,hlen,a2,_,_⟩
   ·refine⟨.slc (nz (P.cellsOf e) []) [] false,.slc t e [] hu (fun x h=>by cases h) (Bf _),RepL.one (.slcE _ false none 0 (fun h=>by cases h)) rfl,N.symm,.inr rfl,by rw[I]; simp[wt,GM,blk]⟩
   ·obtain rfl:m=fuel:=by omega
    have aa:∀ i,i<len→∃ d,TyD P e d∧d.cells.length=P.cellsOf e∧(∀ (j:Nat) y,d.cells[j]?=some y→y.pure1=true∧∃ v,w.cell? ((a.add (i*P.cellsOf e)).add j)=some v∧RepV w (JH w) [] y v)∧wt d≤((elems[i]?).map fun y=>blk y.1).getD 0:=by
     intro i hi;have h1:=a2 i hi;rw[An (by omega)]at h1 ⊢;simp only[Ay]at h1;obtain⟨cs',h2,h3⟩:=h1;obtain⟨d,d1,d2,d3,_,d5⟩:=V e J cs' _ h3;obtain⟨h4,h5⟩:=cells?_get h2;refine⟨d,d1,by rw[d2.1,h4],fun j y hy=>⟨d2.2.2 y (Aq hy),?_⟩,by simpa using d5⟩;have hj:j<cs'.length:=by rw[← d2.1]; exact(Ac.1 hy).1
     exact⟨cs'[j],h5 j _ (An hj),d2.2.1 j y _ hy (An hj)⟩
    obtain⟨els,e1,e2,e3,e4⟩:=yK6 Y a1 aa;refine⟨_,.slc t e els hu e2 (by omega),e3,N.symm,.inr rfl,?_⟩;rw[I];simp only[wt,blk];refine Nat.succ_le_succ (bY _ _ (by simp; omega) ?_);grind
  ·rename_i fs hu;simp only[Af,Aj,A9]at hc;obtain⟨J,ad⟩:=hc;unfold DataW.trod at E;rw[hu]at E;simp only at E
   split at E
   case isFalse=>cases E
   rename_i hl;simp only[Dt]at E;obtain⟨ys,M,rfl⟩:=E;obtain⟨xs,x1,x2,O,x4,x5⟩:=iY cs (P.cellsOf t) fs.toList 0 ys (fun f hf=>V f.type (J f hf)) ad M;refine⟨.agg (xs.flatMap D.cells),.agg t fs xs hu x1 x2,?_,hl,.inl ⟨_,rfl⟩,by simpa only[wt,blk]using x5⟩;rw[Bt,Nat.sub_zero,AU (by omega)]at O;exact O
  ·rename_i m e hu;simp only[Af,A9,beq_iff_eq]at hc;obtain⟨J,ba⟩:=hc;unfold DataW.trod at E;rw[hu]at E;simp only at E
   split at E
   case isFalse=>cases E
   rename_i hl;simp only[Dt]at E;obtain⟨ys,M,rfl⟩:=E;rw[Bi]at M;obtain⟨xs,x1,x2,O,x5⟩:=iR (V e J) cs m 0 ys M;refine⟨.agg (xs.flatMap D.cells),.arr t m e xs hu x1 x2,?_,hl,.inl ⟨_,rfl⟩,by simpa only[wt,blk]using x5⟩;rw[B8,Bt,AU (by omega)]at O;exact O
  ·cases hc
theorem m9{sp:Nat→Bool}:∀ (n:Nat) (t:TypeId) (ty:Ty),FJ P n t=some ty→gn enc P w sp t ty
 |0,_,_,h=>by simp[FJ]at h
 |n+1,t,ty,h=>by
  have ih:=m9 (sp:=sp) n;intro fuel cs x E;unfold FJ at h
  cases fuel with
  |zero=>simp[DataW.trod]at E
  |succ fuel=>
  split at h
  ·rename_i hu;simp only[CX]at h; subst h;unfold DataW.trod at E;rw[hu]at E
   split at E <;> simp_all
   exact⟨_,.bool _,RepL.one (.bool _) rfl,rfl,rfl,by rw[← E]; simp[wt,blk]⟩
  ·rename_i k hu;simp only[CX]at h; subst h;unfold DataW.trod at E;rw[hu]at E
   split at E <;> simp_all
   rename_i k' m;obtain⟨⟨rfl,hw⟩,M⟩:=E;exact⟨_,.int _ _ hw,RepL.one (.int _ _) rfl,rfl,rfl,by rw[← M]; simp[wt,blk]⟩
  ·rename_i hu;simp only[CX]at h; subst h;unfold DataW.trod at E;rw[hu]at E
   split at E <;> simp_all
   rename_i s;exact⟨_,.str s.data.toList (by simpa using E.1),RepL.one sP rfl,rfl,rfl,by rw[← E.2]; simp[wt,blk]⟩
  ·rename_i e hu
   split at h
   case h_2=>
    split at h
    case isFalse=>cases h
    rename_i N;simp only[Af,A9]at N;simp only[CX]at h; subst h;obtain⟨d,d1,d2,d3,d4,d5⟩:=pd N.1 (fuel+1) t N.2 cs x E
    have ab:P.cellsOf t=1:=by
     have:=Aj.1 N.1 t N.2;unfold Qi at this;grind
    rw[ab]at d3
    have:∃ sz els,d=.slc (nz sz els) els false:=by
     cases d1 with
     |slc _ e' els I V h3=>exact⟨_,_,rfl⟩
     |agg _ fs xs I=>rw[hu]at I; cases I
     |arr _ m e' xs I=>rw[hu]at I; cases I
     |bool _ b I=>rw[hu]at I; cases I
     |int _ k n I=>rw[hu]at I; cases I
     |str _ s I=>rw[hu]at I; cases I
    obtain⟨sz,els,rfl⟩:=this;exact⟨_,.opq _ sz els d1,d2,d3,.inr rfl,d5⟩
   rename_i ex hex
   split at h
   case isFalse=>cases h
   rename_i hc;simp only[Af,beq_iff_eq,decide_eq_true_eq]at hc;simp only[CX]at h; subst h;rcases DataW.trod_slice hu E with⟨rfl,M⟩ | ⟨a,len,cap,elems,rest,m,_,rfl,M,_,a3,be,hlen,a4,_,_⟩
   ·exact⟨_,.slc ex [] (fun i x h=>by simp at h) (Bf _),RepL.one (.slcE _ false none 0 (fun h=>by cases h)) rfl,rfl,.inr rfl,by rw[M]; simp[wt,GM,blk]⟩
   ·have J:∀ i (hi:i<len),∃ d,Has ex d∧d.cells.length=ex.size∧(∀ (j:Nat) y,d.cells[j]?=some y→y.pure1=true∧∃ v,w.cell? ((a.add (i*ex.size)).add j)=some v∧RepV w (JH w) [] y v)∧wt d≤blk (elems[i]'(by omega)).1:=by
     intro i hi;have I:=a4 i hi;rw[hc.1,An (by omega)]at I;simp only[Ay]at I;obtain⟨cs',V,h3⟩:=I;obtain⟨d,d1,d2,d3,_,d5⟩:=ih e ex hex m cs' _ h3;obtain⟨h4,h5⟩:=cells?_get V;refine⟨d,d1,by rw[d2.1,h4],fun j y hy=>⟨d2.2.2 y (Aq hy),?_⟩,d5⟩;have hj:j<cs'.length:=by rw[← d2.1]; exact(Ac.1 hy).1
     exact⟨cs'[j],h5 j _ (An hj),d2.2.1 j y _ hy (An hj)⟩
    let f:Nat→D:=fun i=>if hi:i<len then(J i hi).choose else .junk
    have hf:∀ i (hi:i<len),f i=(J i hi).choose:=fun i hi=>by simp[f,hi]
    have ae:∀ (i:Nat) x,((CG len).map f)[i]?=some x→∃ hi:i<len,x=(J i hi).choose:=by
     grind
    refine⟨.slc (nz ex.size ((CG len).map f)) ((CG len).map f) false,.slc ex _ (fun i x E=>?_) (by simp; omega),?_,rfl,.inr rfl,?_⟩
    ·grind
    ·refine RepL.one (RepV.nz (t:=false) ?_) rfl;rcases B1 len with h0 | h0
     ·subst h0;exact .slcE _ false (some a) cap (fun h=>by cases h)
     ·have Y:a.spot=none:=by
       obtain⟨d1,d2,d3,_⟩:=(J 0 h0).choose_spec;obtain⟨_,v,I,_⟩:=d3 0 _ (An (by rw[d2]; exact hc.2));rw[B8]at I;have V:(a.add 0).add 0=a:=by simp[Addr.add]
       rw[V]at I;unfold World.cell? at I
       split at I
       ·split at I
        ·cases I
        ·rename_i hs; simpa using hs
       ·cases I
      obtain⟨b,off,spot⟩:=a;simp only at Y;subst Y;have hl:len=((CG len).map f).length:=by simp
      conv=>rhs; rw[hl]
      refine RepV.slc_mk hc.2 ?_ (by simpa using a3) (fun h=>by cases h) ?_
      ·grind
      ·intro i j d hd;obtain⟨e',he,hj⟩:=Hz hd;obtain⟨a5,rfl⟩:=ae i e' he;obtain⟨hp,v,hv,hr⟩:=(J i a5).choose_spec.2.2.1 j d hj;rw[Kp,Kp]at hv;refine⟨hp,?_,v,hv,hr⟩
       show(w.cell? ⟨b,off+i*ex.size+j,none⟩).isSome=true
       rw[hv]; rfl
    ·rw[M];simp only[wt,blk];refine Nat.succ_le_succ (bY _ _ (by simp; omega) ?_);grind
  ·rename_i fs hu
   split at h
   case h_2=>cases h
   rename_i ts a6
   split at h
   case isFalse=>cases h
   rename_i hc;simp only[Af,beq_iff_eq]at hc;simp only[CX]at h; subst h;unfold DataW.trod at E;rw[hu]at E;simp only at E
   split at E
   case isFalse=>cases E
   rename_i hl;simp only[Dt]at E;obtain⟨ys,O,rfl⟩:=E;obtain⟨xs,x1,x2,U,x4,x5⟩:=iN ih fuel cs fs.toList ts 0 ys a6 hc.1 O;refine⟨.agg (xs.flatMap D.cells),.agg ts xs x1 x2,?_,by rw[hl,hc.2]; rfl,.inl ⟨ts,rfl⟩,by simpa only[wt,blk]using x5⟩;rw[Bt,AU (by omega)]at U;exact U
  ·rename_i m e hu
   split at h
   case h_2=>cases h
   rename_i ex hex
   split at h
   case isFalse=>cases h
   rename_i hc;simp only[Af,beq_iff_eq]at hc;simp only[CX]at h; subst h;unfold DataW.trod at E;rw[hu]at E;simp only at E
   split at E
   case isFalse=>cases E
   rename_i hl;simp only[Dt]at E;obtain⟨ys,O,rfl⟩:=E;rw[Bi]at O;obtain⟨xs,x1,x2,U,x5⟩:=ij (ih e ex hex) hc.1 fuel cs m 0 ys O;refine⟨.agg (xs.flatMap D.cells),.agg _ xs (by simp[x1]) ?_,?_,by rw[hl,hc.2]; exact(Ty.sizes_replicate ex m).symm,.inl ⟨_,rfl⟩,by simpa only[wt,blk]using x5⟩
   ·grind
   ·rw[B8,Bt,AU (by omega)]at U;exact U
  ·cases h
end
end Go.Proofs.YtijnglngaogdjaaGreatDoor.PI
namespace Go.Proofs.YtijnglngaogdjaaGreatDoor.PI
open Go Go.RowKit Go.ChangeShapes
variable {v:Value}{a:Addr}{n:Nat}{before:List MemPlace}{args:Array Value}{s:ChangeSpec}{tys:List Ty}{sp:List D→Option D}{fn:Func}{G:C9}
section
variable {H:Type} {enc:TypeId×Value→H} {P:Program} {W W':World}
theorem Mp{α β:Type}{f g:α→Option β}:∀ {l:List α} {r:List β},l.mapM f=some r→(∀ x y,x∈l→y∈r→f x=some y→g x=some y)→l.mapM g=some r
 |[],r,h,_=>by simpa using h
 |a::l,r,h,E=>by
  simp only[Bs,Bm,Ay,BD,CX]at h ⊢;obtain⟨b,hb,J,I,rfl⟩:=h;exact⟨b,E a b (by simp) (by simp) hb,J,Mp I (fun x y M N=>E x y (by simp[M]) (by simp[N])),rfl⟩
theorem cell?_below(hb:Below W.heap.size W W')(h:W.cell? a=some v):W'.cell? a=some v:=by
 have E:=World.block_lt_of_cell? W a h;rw[← h];simp only[World.cell?,hb.block a.block E]
theorem cells?_below(hb:Below W.heap.size W W'){b:Nat}{cs:List Value}(h:W.cells? b a n=some cs):W'.cells? b a n=some cs:=by
 unfold World.cells? at h ⊢
 split at h
 ·rename_i E;rw[if_pos E];exact Mp h fun x y _ _ I=>cell?_below hb I
 ·cases h
theorem pb(hb:Below W.heap.size W W'){S:List TypeId}(hS:Kb P S=true):∀ (fuel:Nat) (t:TypeId),t∈S→∀ (cs:List Value) (x:DataW H×List MemPlace),DataW.trod enc P W 0 (fun _=>true) true fuel t cs=some x→
  ∀ I:Nat→Bool,(∀ p∈x.2,I p.block=true)→DataW.trod enc P W' 0 I true fuel t cs=some x
 |0,t,_=>by intro cs x E; simp[DataW.trod]at E
 |fuel+1,t,ht=>by
  have ih:=pb hb hS fuel;intro cs x E I aa;have hc:Qi P S t=true:=Aj.1 hS t ht;unfold Qi at hc
  split at hc
  ·rename_i hu;unfold DataW.trod at E ⊢;grind
  ·rename_i k hu;unfold DataW.trod at E ⊢;grind
  ·rename_i hu;unfold DataW.trod at E ⊢;grind
  ·rename_i e hu;simp only[Af,A9,decide_eq_true_eq,beq_iff_eq]at hc;obtain⟨⟨M,af⟩,_⟩:=hc
   have N:∀ (b:Addr) (y:DataW H×List MemPlace),(∀ p∈y.2,I p.block=true)→(W.cells? 0 b (P.cellsOf e)).bind (DataW.trod enc P W 0 (fun _=>true) true fuel e)=some y→(W'.cells? 0 b (P.cellsOf e)).bind (DataW.trod enc P W' 0 I true fuel e)=some y:=by
    intro b y J O;simp only[Ay]at O ⊢;obtain⟨cs',V,h3⟩:=O;exact⟨cs',cells?_below hb V,ih e M cs' y h3 I J⟩
   unfold DataW.trod at E ⊢;rw[hu]at E ⊢
   split at E
   all_goals try (first | (rename_i heq _; cases heq; done) | (rename_i heq; cases heq; done))
   all_goals try (simp_all; done)
   rename_i e' a len cap heq;cases heq;simp only[if_true]at E ⊢
   split at E
   case isFalse=>cases E
   rename_i Y;rw[if_pos Y];simp only[Ay,Dt]at E ⊢;obtain⟨elems,O,rest,V,rfl⟩:=E;have hle:elems.length=len:=by simpa using Lib.mapM_length O
   have a1:rest.length=cap - len:=by simpa using Lib.mapM_length V
   have M:∀ y∈elems++rest,∀ p∈y.2,I p.block=true:=fun y J p hp=>aa p (by
    grind)
   refine⟨elems,Mp O (fun i y _ J hi=>N _ y (M y (by simp[J])) hi),rest,?_,rfl⟩;rcases B1 cap with h0 | h0
   ·grind
   ·have ab:I a.block=true:=aa (.cell a.block (a.off+0)) (by
     simp only[AK]
     left
     simp only[MemPlace.row,AV,AW];simp_all)
    rw[if_pos ab];exact Mp V (fun i y _ J hi=>N _ y (M y (by simp[J])) hi)
  ·rename_i fs hu;simp only[Af,Aj,A9]at hc;unfold DataW.trod at E ⊢;rw[hu]at E ⊢;simp only at E ⊢
   split at E
   case isFalse=>cases E
   rename_i hl;rw[if_pos hl];simp only[Dt]at E ⊢;obtain⟨ys,U,rfl⟩:=E;refine⟨ys,Mp U (fun f y hf J hi=>?_),rfl⟩;grind
  ·rename_i m e hu;simp only[Af,A9,beq_iff_eq]at hc;unfold DataW.trod at E ⊢;rw[hu]at E ⊢;simp only at E ⊢
   split at E
   case isFalse=>cases E
   rename_i hl;rw[if_pos hl];simp only[Dt]at E ⊢;obtain⟨ys,U,rfl⟩:=E;refine⟨ys,Mp U (fun i y _ J hi=>?_),rfl⟩;grind
  ·cases hc
theorem pY(hb:Below W.heap.size W W'):∀ (n:Nat) (t:TypeId) (ty:Ty),FJ P n t=some ty→∀ (fuel:Nat) (cs:List Value) (x:DataW H×List MemPlace),DataW.trod enc P W 0 (fun _=>true) true fuel t cs=some x→
  ∀ I:Nat→Bool,(∀ p∈x.2,I p.block=true)→DataW.trod enc P W' 0 I true fuel t cs=some x
 |0,_,_,h=>by simp[FJ]at h
 |n+1,t,ty,h=>by
  have ih:=pY hb n;intro fuel cs x E I N;unfold FJ at h
  cases fuel with
  |zero=>simp[DataW.trod]at E
  |succ fuel=>
  split at h
  ·rename_i hu;unfold DataW.trod at E ⊢;grind
  ·rename_i k hu;unfold DataW.trod at E ⊢;grind
  ·rename_i hu;unfold DataW.trod at E ⊢;grind
  ·rename_i e hu
   split at h
   case h_2=>
    split at h
    case isFalse=>cases h
    rename_i O;simp only[Af,A9]at O;exact pb hb O.1 (fuel+1) t O.2 cs x E I N
   rename_i ex hex
   split at h
   case isFalse=>cases h
   rename_i hc;simp only[Af,beq_iff_eq,decide_eq_true_eq]at hc;have af:0<P.cellsOf e:=by rw[hc.1]; exact hc.2
   have U:∀ (b:Addr) (y:DataW H×List MemPlace),(∀ p∈y.2,I p.block=true)→(W.cells? 0 b (P.cellsOf e)).bind (DataW.trod enc P W 0 (fun _=>true) true fuel e)=some y→(W'.cells? 0 b (P.cellsOf e)).bind (DataW.trod enc P W' 0 I true fuel e)=some y:=by
    intro b y J V;simp only[Ay]at V ⊢;obtain⟨cs',Y,h3⟩:=V;exact⟨cs',cells?_below hb Y,ih e ex hex fuel cs' y h3 I J⟩
   unfold DataW.trod at E ⊢;rw[hu]at E ⊢
   split at E
   all_goals try (first | (rename_i heq _; cases heq; done) | (rename_i heq; cases heq; done))
   all_goals try (simp_all; done)
   rename_i e' a len cap heq;cases heq;simp only[if_true]at E ⊢
   split at E
   case isFalse=>cases E
   rename_i aa;rw[if_pos aa];simp only[Ay,Dt]at E ⊢;obtain⟨elems,V,rest,Y,rfl⟩:=E;have hle:elems.length=len:=by simpa using Lib.mapM_length V
   have a3:rest.length=cap - len:=by simpa using Lib.mapM_length Y
   have ab:∀ y∈elems++rest,∀ p∈y.2,I p.block=true:=fun y J p hp=>N p (by
    grind)
   refine⟨elems,Mp V (fun i y _ J hi=>U _ y (ab y (by simp[J])) hi),rest,?_,rfl⟩;rcases B1 cap with h0 | h0
   ·grind
   ·have ad:I a.block=true:=N (.cell a.block (a.off+0)) (by
     simp only[AK]
     left
     simp only[MemPlace.row,AV,AW];simp_all)
    rw[if_pos ad];exact Mp Y (fun i y _ J hi=>U _ y (ab y (by simp[J])) hi)
  ·rename_i fs hu
   split at h
   case h_2=>cases h
   rename_i ts ac;unfold DataW.trod at E ⊢;rw[hu]at E ⊢;simp only at E ⊢
   split at E
   case isFalse=>cases E
   rename_i hl;rw[if_pos hl];simp only[Dt]at E ⊢;obtain⟨ys,M,rfl⟩:=E
   have a2:∀ f∈fs.toList,∃ ty,FJ P n f.type=some ty:=by
    clear M hl hu h;generalize fs.toList=l at ac
    induction l generalizing ts with
    |nil=>intro f hf; cases hf
    |cons f0 l a4=>
     unfold QZ at ac;grind
   refine⟨ys,Mp M (fun f y hf J hi=>?_),rfl⟩;grind
  ·rename_i m e hu
   split at h
   case h_2=>cases h
   rename_i ex hex;unfold DataW.trod at E ⊢;rw[hu]at E ⊢;simp only at E ⊢
   split at E
   case isFalse=>cases E
   rename_i hl;rw[if_pos hl];simp only[Dt]at E ⊢;obtain⟨ys,M,rfl⟩:=E;refine⟨ys,Mp M (fun i y _ J hi=>?_),rfl⟩;grind
  ·cases h
theorem jb(hb:Below W.heap.size W W'){n:Nat}:∀ (I:List TypeId) (tys:List Ty) (vs:List Value) (ds:List (DataW H)) (J:List MemPlace),I.mapM (FJ P n)=some tys→DataW.TrodAll enc P W 0 (fun _=>true) true I vs ds J→
  ∀ E:Nat→Bool,(∀ p∈J,E p.block=true)→DataW.TrodAll enc P W' 0 E true I vs ds J
 |[],_,[],[],J,_,h=>fun _ _=>h
 |t::I,tys,v::vs,d::ds,J,U,h=>by
  intro E M;simp only[Bs,Bm,Ay,BD,CX]at U;obtain⟨ty,V,N,Y,rfl⟩:=U;obtain⟨p,q,⟨fuel,h3⟩,h4,rfl⟩:=h;exact⟨p,q,⟨fuel,pY hb n t ty V fuel _ _ h3 E (fun x O=>M x (by simp[O]))⟩,jb hb I N vs ds q Y h4 E (fun x O=>M x (by simp[O])),rfl⟩
 |[],_,_::_,_,_,_,h=>by cases h
 |[],_,[],_::_,_,_,h=>by cases h
 |_::_,_,[],_,_,_,h=>by cases h
 |_::_,_,_::_,[],_,_,h=>by cases h
theorem yg{sp:Nat→Bool}{t:TypeId}{ty:Ty}{d:DataW H}{Y:List MemPlace}(E:FJ P n t=some ty)(hv:Value.okWide P W .any 0 t v)(h:DataW.Trod enc P W 0 sp true t v d Y) :
  ∃ x,Has ty x∧(RepV W (JH W) [] x v∧purA x=true)∧wt x≤blk d:=by
 obtain⟨fuel,h⟩:=h;obtain⟨x,J,M,h3,h4,h5⟩:=m9 n t ty E fuel _ _ h;refine⟨x,J,?_,h5⟩
 have I:(∀ cs,v≠.agg cs)→x.pure1=true→RepV W (JH W) [] x v∧purA x=true:=by
  intro U O;have V:v.cells=#[v]:=by cases v <;> first | rfl | exact absurd rfl (U _)
  rw[WW O,V]at M;refine⟨M.2.1 0 x v rfl rfl,?_⟩;cases x <;> first | exact O | (simp[D.pure1]at O; done)
 have N:∀ cs l,v=.agg cs→x=.agg l→RepV W (JH W) [] x v∧purA x=true:=by
  intro cs l e1 e2;subst e1; subst e2;refine⟨?_,?_⟩
  ·have:=RepV.agg (w:=W) (g:=JH W) (st:=[]) l cs.toList (by simpa[D.cells,Value.cells]using M.1) (fun i d u hd hu=>M.2.1 i d u hd (by simpa[Value.cells]using hu));omega
  ·simp only[purA,Aj];exact M.2.2
 unfold Value.okWide at hv
 cases n with
 |zero=>simp[FJ]at E
 |succ n=>
 unfold FJ at E
 split at E
 ·rename_i hu;simp only[CX]at E; subst E;cases J;exact I (fun cs e=>by subst e; simp[hu,Cell.okWide,Cell.ok]at hv) rfl
 ·rename_i k hu;simp only[CX]at E; subst E;cases J;exact I (fun cs e=>by subst e; simp[hu,Cell.okWide,Cell.ok]at hv) rfl
 ·rename_i hu;simp only[CX]at E; subst E;cases J;exact I (fun cs e=>by subst e; simp[hu,Cell.okWide,Cell.ok]at hv) rfl
 ·rename_i e hu
  split at E
  case h_2=>
   split at E
   case isFalse=>cases E
   simp only[CX]at E; subst E;cases J;exact I (fun cs e=>by subst e; simp[hu,Cell.okWide,Cell.ok]at hv) rfl
  split at E
  case isFalse=>cases E
  simp only[CX]at E; subst E;cases J;exact I (fun cs e=>by subst e; simp[hu,Cell.okWide,Cell.ok]at hv) rfl
 ·rename_i fs hu
  split at E
  case h_2=>cases E
  split at E
  case isFalse=>cases E
  simp only[CX]at E; subst E;simp only[hu]at hv;obtain⟨cs,rfl,_,_⟩:=hv
  cases J with
  |agg _ xs _ _=>exact N cs _ rfl rfl
 ·rename_i m e hu
  split at E
  case h_2=>cases E
  split at E
  case isFalse=>cases E
  simp only[CX]at E; subst E;simp only[hu]at hv;obtain⟨cs,rfl,_,_⟩:=hv
  cases J with
  |agg _ xs _ _=>exact N cs _ rfl rfl
 ·cases E
inductive HasAll:List Ty→List D→Prop
 |nil:HasAll [] []
 |cons {t:Ty} {ts:List Ty} {x:D} {xs:List D}:Has t x→HasAll ts xs→HasAll (t::ts) (x::xs)
theorem oT{sp:Nat→Bool}{n:Nat}:∀ (I:List TypeId) (tys:List Ty) (vs:List Value) (ds:List (DataW H)) (J:List MemPlace),I.mapM (FJ P n)=some tys→(∀ (j:Nat) t v,I[j]?=some t→vs[j]?=some v→Value.okWide P W .any 0 t v)→DataW.TrodAll enc P W 0 sp true I vs ds J→
  ∃ xs,HasAll tys xs∧xs.length=vs.length∧(∀ (i:Nat) d v,xs[i]?=some d→vs[i]?=some v→RepV W (JH W) [] d v)∧(∀ d∈xs,purA d=true)∧GM xs≤FP ds
 |[],tys,[],[],J,E,_,_=>by
  simp at E; subst E;exact⟨[],.nil,rfl,fun i d v h=>by simp at h,(fun d h=>by cases h),by simp[GM]⟩
 |t::I,tys,v::vs,d::ds,J,E,hv,h=>by
  simp only[Bs,Bm,Ay,BD,CX]at E;obtain⟨ty,O,M,U,rfl⟩:=E;obtain⟨p,q,V,Y,rfl⟩:=h;obtain⟨x,x1,⟨x2,x3⟩,x5⟩:=yg O (hv 0 t v rfl rfl) V;obtain⟨xs,y1,y2,y3,y4,y5⟩:=oT I M vs ds q U (fun j t v E N=>hv (j+1) t v (by simpa using E) (by simpa using N)) Y;refine⟨x::xs,.cons x1 y1,by simp[y2],?_,?_,?_⟩
  ·grind
  ·grind
  ·simp only[GM,FP]; omega
 |[],_,_::_,_,_,_,_,h=>by cases h
 |[],_,[],_::_,_,_,_,h=>by cases h
 |_::_,_,[],_,_,_,_,h=>by cases h
 |_::_,_,_::_,[],_,_,_,h=>by cases h
theorem yFl{K N:Nat}(hC:Contract P G K sp)(M:fn.params.toList.mapM (FJ P n)=some tys)(E:s.vars=[])
  (I:∃ tb,fn.resultTypes=#[tb]∧P.underlying tb=some .bool)
  (ac:∀ (H:Type) (ds:List (DataW H)),ds.length=fn.params.size→(s.fn H ds).results=[.lit (.bool true)]∧(s.fn H ds).args=ds∧(s.fn H ds).vars=[])
  (ad:∀ xs,HasAll tys xs→GM xs≤N→sp xs=some (.bool true))
   {ds U:List (DataW H)}  (hG:GlobOK G W (JH W)) (hN:FP ds≤N)
  (V:∀ (j:Nat) t v,fn.params[j]?=some t→args[j]?=some v→Value.okWide P W .any 0 t v)
  (hW:DataW.Whole enc P fn.params.toList s.vars false W args.toList ds U before) :
  Calls P K args W fun e W'=>∃ v,e=.returned v∧s.post enc P fn false true false false W args v W':=by
 obtain⟨tb,I,af⟩:=I;have O:=hW;obtain⟨p,q,Y,hV,rfl,bc,bd⟩:=hW;rw[E]at hV
 have ah:U=[]∧q=[]:=by
  cases U with
  |nil=>exact⟨rfl,hV⟩
  |cons a l=>cases hV
 obtain⟨rfl,rfl⟩:=ah;obtain⟨xs,x1,x2,x3,x4,x5⟩:=oT fn.params.toList tys args.toList ds p M (fun j t v ht hv=>V j t v (by simpa using ht) (by simpa using hv)) Y
 have hlen:∀ (J:List TypeId) (vs:List Value) (ds:List (DataW H)) (ps:List MemPlace),DataW.TrodAll enc P W 0 (fun _=>true) true J vs ds ps→ds.length=J.length:=by
  intro J
  induction J with
  |nil=>intro vs ds ps h; cases vs <;> cases ds <;> first | rfl | cases h
  |cons t J ih=>
   intro vs ds ps h
   cases vs with
   |nil=>cases h
   |cons v vs=>
    cases ds with
    |nil=>cases h
    |cons d ds=>
     obtain⟨_,_,_,h4,_⟩:=h;grind
 have a0:ds.length=fn.params.size:=by simpa using hlen _ _ _ _ Y
 have hc:=hC W (JH W) xs args.toList (.bool true) (ad xs x1 (AS x5 hN)) hG (fun b o h=>h) x2 x3 x4;rw[BC]at hc;refine hc.mono ?_;rintro e W' ⟨v,g',rfl,h1,_,_,_,_,hb⟩;have hv:=KL h1;subst hv;obtain⟨f1,f2,f3⟩:=ac H ds a0;refine⟨_,rfl,ds,[],p++[],[],p,[],O,?_,?_,?_,?_,fun h=>by cases h⟩
 ·rw[Ad,f1,I];exact⟨[],[],⟨1,by unfold DataW.trod; simp[af,Value.cells]⟩,rfl,rfl⟩
 ·rw[Ad,f2];refine jb hb _ tys _ _ _ M Y _ fun x hx=>?_;simpa using O.lt x (by simpa using hx)
 ·rw[Ad,f3,E];rfl
 ·refine⟨hb.os,hb.output,fun i hi=>?_⟩;rw[hb.block i hi];grind
theorem law_contract{K:Nat}(V:Contract P G K sp)(J:fn.params.toList.mapM (FJ P n)=some tys)(E:s.vars=[])
  (M:∃ tb,fn.resultTypes=#[tb]∧P.underlying tb=some .bool)
  (O:∀ (H:Type) (ds:List (DataW H)),ds.length=fn.params.size→(s.fn H ds).results=[.lit (.bool true)]∧(s.fn H ds).args=ds∧(s.fn H ds).vars=[])
  (U:∀ xs,HasAll tys xs→sp xs=some (.bool true))
   {ds Y:List (DataW H)}  (hG:GlobOK G W (JH W))
  (I:∀ (j:Nat) t v,fn.params[j]?=some t→args[j]?=some v→Value.okWide P W .any 0 t v)
  (hW:DataW.Whole enc P fn.params.toList s.vars false W args.toList ds Y before) :
  Calls P K args W fun e W'=>∃ v,e=.returned v∧s.post enc P fn false true false false W args v W':=
 yFl (N:=FP ds) V J E M O (fun xs h _=>U xs h) hG (AE _) I hW
def Py(g:Nat)(k:IntKind)(zs:List Int):C9:=fun n=>if n=g then some (.agg (zs.map fun z=>.int k z))else none
theorem Yoj{I:String}{k:IntKind}{zs:List Int}{g:Nat}(h:Lib.TabIs P W I k zs)(N:P.globalNamed I=some g):GlobOK (Py g k zs) W (JH W):=by
 intro n d E;simp only[Py,As,CX]at E;obtain⟨rfl,rfl⟩:=E
 have hj:∀ (j:Nat) (d:D),(D.agg (zs.map fun z=>D.int k z)).cells[j]?=some d→d=.int k (zs.getD j 0)∧W.cell? ⟨n,j,none⟩=some (.int k (zs.getD j 0)):=by
  intro j d E;simp only[D.cells,AJ,Dt]at E;obtain⟨z,J,rfl⟩:=E;have M:j<zs.length:=(Ac.1 J).1;exact⟨by simp[Ao,J],h.cell N j M⟩
 refine .eptr _ 0 n 0 (fun j=>.int k (zs.getD j 0)) (fun j d E=>?_) (fun j d E=>?_) (fun j d E=>?_)
 ·rw[(hj j d E).1]; rfl
 ·have:=(hj j d E).2;rw[Am];exact⟨by show(W.cell? ⟨n,j,none⟩).isSome=true; rw[this]; rfl,this⟩
 ·rw[(hj j d E).1]; exact .int _ _
end
end Go.Proofs.YtijnglngaogdjaaGreatDoor.PI
namespace Go.Proofs.YtijnglngaogdjaaGreatDoor.PI
open Go
def wD(x:UInt32):D:=.int .u32 (x.toNat:Int)
def qD(x:UInt64):D:=.int .u64 (x.toNat:Int)
theorem Ysx{n:Nat}(m:Nat):CF n (m:Int)=BitVec.ofNat n m:=BitVec.ofInt_natCast ..
theorem Qt(n:Nat):IntKind.wrap .u32 (n:Int)=((n % 2 ^ 32:Nat):Int):=by
 rfl
theorem R4(n:Nat):IntKind.wrap .u64 (n:Int)=((n % 2 ^ 64:Nat):Int):=by
 rfl
theorem Zc(n:Nat):IntKind.wrap .u8 (n:Int)=((n % 2 ^ 8:Nat):Int):=by
 rfl
theorem gr(x y:UInt32):Dd .add (wD x) (wD y)=some (wD (x+y)):=by
 rfl
theorem Vq(x:UInt32):CF 32 (x.toNat:Int)=x.toBitVec:=by
 simp_all
theorem Zr(x:UInt32):x.toNat % 2 ^ 32=x.toNat:=A4 x.toNat_lt
theorem Vu(x y:UInt32):Dd .and (wD x) (wD y)=some (wD (x &&& y)):=by
 have h:(CF (IntKind.bits .u32) (x.toNat:Int) &&& CF (IntKind.bits .u32) (y.toNat:Int)).toNat=(x &&& y).toNat:=by
  show(CF 32 (x.toNat:Int) &&& CF 32 (y.toNat:Int)).toNat=_
  simp_all
 simp only[Dd,wD,if_true,Kh,Ag,h,Qt,Zr]
theorem Ue(x y:UInt32):Dd .or (wD x) (wD y)=some (wD (x ||| y)):=by
 have h:(CF (IntKind.bits .u32) (x.toNat:Int) ||| CF (IntKind.bits .u32) (y.toNat:Int)).toNat=(x ||| y).toNat:=by
  show(CF 32 (x.toNat:Int) ||| CF 32 (y.toNat:Int)).toNat=_
  simp_all
 simp only[Dd,wD,if_true,Kh,Ag,h,Qt,Zr]
theorem rZ(x y:UInt32):Dd .xor (wD x) (wD y)=some (wD (x ^^^ y)):=by
 have h:(CF (IntKind.bits .u32) (x.toNat:Int) ^^^ CF (IntKind.bits .u32) (y.toNat:Int)).toNat=(x ^^^ y).toNat:=by
  show(CF 32 (x.toNat:Int) ^^^ CF 32 (y.toNat:Int)).toNat=_
  simp_all
 simp only[Dd,wD,if_true,Kh,Ag,h,Qt,Zr]
theorem Uj(x:UInt32):LZ .xor (wD x)=some (wD (~~~x)):=by
 have E:(IntKind.max .u32)=((4294967295:UInt32).toNat:Int):=by decide
 have h:(CF (IntKind.bits .u32) ((4294967295:UInt32).toNat:Int) ^^^ CF (IntKind.bits .u32) (x.toNat:Int)).toNat=(~~~x).toNat:=by
  show(CF 32 ((4294967295:UInt32).toNat:Int) ^^^ CF 32 (x.toNat:Int)).toNat=_
  rw[Vq,Vq,show(4294967295:UInt32).toBitVec=BitVec.allOnes 32 from rfl,BitVec.allOnes_xor];rfl
 simp only[LZ,wD,Kh,Ag,show IntKind.signed .u32=false from rfl,Al,if_false,E,h,Qt,Zr]
theorem Yo6(st:St)(b:UInt8):E7 st (.int .u32) (Da b)=some (wD b.toUInt32):=by
 simp only[E7,Da,wD,Qt,UInt8.toNat_toUInt32];simp_all
theorem Yo4(st:St)(x:UInt32):E7 st (.int .u8) (wD x)=some (Da x.toUInt8):=by
 rfl
theorem Yo5(st:St)(x:UInt64):E7 st (.int .u8) (qD x)=some (Da x.toUInt8):=by
 rfl
theorem rR(x:UInt32)(k:IntKind)(n:Nat)(h:n<32):Dd .shl (wD x) (.int k (n:Int))=some (wD (x <<< (UInt32.ofNat n))):=by
 have e:(x <<< (UInt32.ofNat n)).toNat=x.toNat*2 ^ n % 2 ^ 32:=by
  rw[UInt32.toNat_shiftLeft,Nat.shiftLeft_eq,UInt32.toNat_ofNat',A4 (show n<2 ^ 32 by omega),A4 h]
 have E:((x.toNat:Int)*2 ^ n)=((x.toNat*2 ^ n:Nat):Int):=by push_cast; rfl
 simp only[Dd,wD,Le,show ¬ ((n:Int)<0) by omega,if_false,Ag,Bg,show IntKind.bits .u32=32 from rfl,B2 (Cl h),E,Qt,e]
theorem rT(x:UInt32)(k:IntKind)(n:Nat)(h:n<32):Dd .shr (wD x) (.int k (n:Int))=some (wD (x >>> (UInt32.ofNat n))):=by
 have e:(x >>> (UInt32.ofNat n)).toNat=x.toNat / 2 ^ n:=by
  rw[UInt32.toNat_shiftRight,Nat.shiftRight_eq_div_pow,UInt32.toNat_ofNat',A4 (show n<2 ^ 32 by omega),A4 h]
 have E:(x.toNat:Int).fdiv (2 ^ n)=((x.toNat / 2 ^ n:Nat):Int):=by
  grind
 simp only[Dd,wD,Le,show ¬ ((n:Int)<0) by omega,if_false,Ag,Bg,show IntKind.bits .u32=32 from rfl,B2 (Cl h),E,e]
theorem qQ(x:UInt64)(k:IntKind)(n:Nat)(h:n<64):Dd .shl (qD x) (.int k (n:Int))=some (qD (x <<< (CU n))):=by
 have e:(x <<< (CU n)).toNat=x.toNat*2 ^ n % 2 ^ 64:=by
  rw[UInt64.toNat_shiftLeft,Nat.shiftLeft_eq,UInt64.toNat_ofNat',A4 (show n<2 ^ 64 by omega),A4 h]
 have E:((x.toNat:Int)*2 ^ n)=((x.toNat*2 ^ n:Nat):Int):=by push_cast; rfl
 simp only[Dd,qD,Le,show ¬ ((n:Int)<0) by omega,if_false,Ag,Bg,show IntKind.bits .u64=64 from rfl,B2 (Cl h),E,R4,e]
theorem T6(x:UInt64)(k:IntKind)(n:Nat)(h:n<64):Dd .shr (qD x) (.int k (n:Int))=some (qD (x >>> (CU n))):=by
 have e:(x >>> (CU n)).toNat=x.toNat / 2 ^ n:=by
  rw[UInt64.toNat_shiftRight,Nat.shiftRight_eq_div_pow,UInt64.toNat_ofNat',A4 (show n<2 ^ 64 by omega),A4 h]
 have E:(x.toNat:Int).fdiv (2 ^ n)=((x.toNat / 2 ^ n:Nat):Int):=by
  grind
 simp only[Dd,qD,Le,show ¬ ((n:Int)<0) by omega,if_false,Ag,Bg,show IntKind.bits .u64=64 from rfl,B2 (Cl h),E,e]
variable {n:Int}
theorem N1(E:-9223372036854775808≤n)(I:n<9223372036854775808):IntKind.wrap .i64 n=n:=by
 show(if(true && decide (n % (2 ^ 64:Int) ≥ (2 ^ (64 - 1):Int)))=true then n % (2 ^ 64:Int) - (2 ^ 64:Int)else n % (2 ^ 64:Int))=n
 grind
variable {a:Int}
theorem DL{b:Int}(E:-9223372036854775808≤a+b)(I:a+b<9223372036854775808):Dd .add (.int .i64 a) (.int .i64 b)=some (.int .i64 (a+b)):=by
 simp only[Dd,if_true,JI,Ag,N1 E I]
theorem Fa{b:Int}(E:-9223372036854775808≤a - b)(I:a - b<9223372036854775808):Dd .sub (.int .i64 a) (.int .i64 b)=some (.int .i64 (a - b)):=by
 simp only[Dd,if_true,JI,Ag,N1 E I]
theorem Mw{b:Int}(E:-9223372036854775808≤a*b)(I:a*b<9223372036854775808):Dd .mul (.int .i64 a) (.int .i64 b)=some (.int .i64 (a*b)):=by
 simp only[Dd,if_true,JI,Ag,N1 E I]
class Cont (α:Type):Type where
 mk::
 run:α→Prop
class Cont2 (α β:Type):Type where
 mk::
 run:α→β→Prop
class QC:Type where
 mk::
 run:Ex→Frame→St→Prop
class InvC:Type where
 mk::
 run:PS→Prop
class Br:Type where
 mk::
 run:Prop
def on{α:Type}(o:Option α)[k:Cont α]:Prop:=match o with
 |some a=>k.run a
 |none=>False
variable {α:Type}
theorem kY(a:α)(K:α→Prop):@on α (some a) ⟨K⟩=K a:=(rfl)
theorem Ymi(k:Cont α):@on α none k=False:=(rfl)
def Rr(d:D)[k:Cont Bool]:Prop:=match d with
 |.bool b=>k.run b
 |_=>False
theorem Ye8(b:Bool)(K:Bool→Prop):@Rr (.bool b) ⟨K⟩=K b:=(rfl)
def GX(b:Bool)[x:Br][y:Br]:Prop:=if b=true then x.run else y.run
theorem Ygh(x:Prop)(y:Br):@GX true ⟨x⟩ y=x:=(rfl)
theorem wj(x:Br)(y:Prop):@GX false x ⟨y⟩=y:=(rfl)
theorem Yny(b:Bool)(x y:Br):@GX (!b) x y=@GX b y x:=by cases b <;> rfl
variable {y:Prop}
theorem E4{p:Prop}[Decidable p]{x:Prop}(E:p→x)(I:¬ p→y):@GX (decide p) ⟨x⟩ ⟨y⟩:=by
 by_cases h:p
 ·rw[show decide p=true by simpa using h]; exact E h
 ·rw[show decide p=false by simpa using h]; exact I h
def ev(d:D)[k:Cont D]:Prop:=k.run d
theorem Va(d:D)(K:D→Prop):@ev d ⟨K⟩=K d:=(rfl)
def Ox(d:D)(st:St)[k:Cont2 D St]:Prop:=k.run d st
theorem Yu2(d:D)(st:St)(K:D→St→Prop):@Ox d st ⟨K⟩=K d st:=(rfl)
def EN(T:Tbl)(op:POp)(ρ:PA→D)(st:St)(K:D→St→Prop):Prop:=@on _ (op.exec T ρ st) ⟨fun p=>K p.1 p.2⟩
def kG(fr:Frame)(g:Option (Nat×Bool))(x y:Prop):Prop:=match g with
 |none=>x
 |some (s,want)=>match fr s with
  |.bool b=>@GX (b == want) ⟨x⟩ ⟨y⟩
  |.tup []=>y
  |_=>False
def FM(G:C9)(T:Tbl):List PI→Frame→St→(Frame→St→Prop)→Prop
 |[],fr,st,K=>K fr st
 |i::l,fr,st,K=>kG fr i.guard (EN T i.op (De G fr) st fun d st'=>FM G T l (fr.put i.dst d) st' K) (FM G T l (fr.put i.dst (.tup [])) st K)
theorem Sw{G:C9}{T:Tbl}:∀ (l:List PI) (fr:Frame) (st:St) (K:Frame→St→Prop),FM G T l fr st K→∃ E st',ED G T l ⟨fr,st⟩=some ⟨E,st'⟩∧K E st'
 |[],fr,st,K,h=>⟨fr,st,rfl,h⟩
 |i::l,fr,st,K,h=>by
  have yes:EN T i.op (De G fr) st (fun d st'=>FM G T l (fr.put i.dst d) st' K)→i.wanted fr=some true→∃ E st',ED G T (i::l) ⟨fr,st⟩=some ⟨E,st'⟩∧K E st':=by
   intro h hw;unfold EN on at h
   split at h
   ·rename_i p O;obtain⟨E,st',M,N⟩:=Sw l _ _ K h;exact⟨E,st',by simp only[ED,PI.exec,hw,O,M],N⟩
   ·exact h.elim
  have no:FM G T l (fr.put i.dst (.tup [])) st K→i.wanted fr=some false→∃ E st',ED G T (i::l) ⟨fr,st⟩=some ⟨E,st'⟩∧K E st':=by
   intro h hw;obtain⟨E,st',M,N⟩:=Sw l _ _ K h;exact⟨E,st',by simp only[ED,PI.exec,hw,M],N⟩
  rw[FM]at h;unfold kG at h
  split at h
  ·rename_i I;exact yes h (by simp[PI.wanted,I])
  ·rename_i s want I
   split at h
   ·rename_i b hb;have hw:i.wanted fr=some (b == want):=by simp[PI.wanted,I,hb]
    cases J:(b == want)with
    |true=>rw[J]at h hw; exact yes h hw
    |false=>rw[J]at h hw; exact no h hw
   ·rename_i hb;exact no h (by simp[PI.wanted,I,hb])
   ·exact h.elim
def Io(T:Tbl)(op:POp)(ρ:PA→D)(st:St)(K:D→St→Prop)(X:Nat→D→St→Prop):Prop:=match op.exec T ρ st with
 |some p=>K p.1 p.2
 |none=>match op.execX T ρ st with
  |some r=>X r.1 r.2.1 r.2.2
  |none=>False
def K8(G:C9)(T:Tbl):List PI→Frame→St→(Frame→St→Prop)→(Nat→D→Frame→St→Prop)→Prop
 |[],fr,st,K,_=>K fr st
 |i::l,fr,st,K,X=>kG fr i.guard (Io T i.op (De G fr) st (fun d st'=>K8 G T l (fr.put i.dst d) st' K X) (fun t d st'=>X t d fr st')) (K8 G T l (fr.put i.dst (.tup [])) st K X)
theorem aN{G:C9}{T:Tbl}:∀ (l:List PI) (fr:Frame) (st:St) (K:Frame→St→Prop) (X:Nat→D→Frame→St→Prop),K8 G T l fr st K X→
  (∃ E st',ED G T l ⟨fr,st⟩=some ⟨E,st'⟩∧K E st')∨∃ t d E st',ED G T l ⟨fr,st⟩=none∧I5 G T l ⟨fr,st⟩=some (t,d,⟨E,st'⟩)∧X t d E st'
 |[],fr,st,K,X,h=>.inl ⟨fr,st,rfl,h⟩
 |i::l,fr,st,K,X,h=>by
  have yes:Io T i.op (De G fr) st (fun d st'=>K8 G T l (fr.put i.dst d) st' K X) (fun t d st'=>X t d fr st')→i.wanted fr=some true→
    (∃ E st',ED G T (i::l) ⟨fr,st⟩=some ⟨E,st'⟩∧K E st')∨∃ t d E st',ED G T (i::l) ⟨fr,st⟩=none∧I5 G T (i::l) ⟨fr,st⟩=some (t,d,⟨E,st'⟩)∧X t d E st':=by
   intro h hw;unfold Io at h
   split at h
   ·rename_i p O;rcases aN l _ _ K X h with⟨E,st',I,J⟩ | ⟨t,d,E,st',I,J,U⟩
    ·exact .inl ⟨E,st',by simp only[ED,PI.exec,hw,O,I],J⟩
    ·exact .inr ⟨t,d,E,st',by simp only[ED,PI.exec,hw,O,I],by simp only[I5,PI.exec,hw,O,J],U⟩
   ·rename_i hn
    split at h
    ·rename_i r V;exact .inr ⟨r.1,r.2.1,fr,r.2.2,by simp only[ED,PI.exec,hw,hn],by simp only[I5,PI.exec,PI.execX,hw,hn,V,Ag],h⟩
    ·exact h.elim
  have no:K8 G T l (fr.put i.dst (.tup [])) st K X→i.wanted fr=some false→
    (∃ E st',ED G T (i::l) ⟨fr,st⟩=some ⟨E,st'⟩∧K E st')∨∃ t d E st',ED G T (i::l) ⟨fr,st⟩=none∧I5 G T (i::l) ⟨fr,st⟩=some (t,d,⟨E,st'⟩)∧X t d E st':=by
   intro h hw;rcases aN l _ _ K X h with⟨E,st',I,J⟩ | ⟨t,d,E,st',I,J,U⟩
   ·exact .inl ⟨E,st',by simp only[ED,PI.exec,hw,I],J⟩
   ·exact .inr ⟨t,d,E,st',by simp only[ED,PI.exec,hw,I],by simp only[I5,PI.exec,hw,J],U⟩
  rw[K8]at h;unfold kG at h
  split at h
  ·rename_i M;exact yes h (by simp[PI.wanted,M])
  ·rename_i s want M
   split at h
   ·rename_i b hb;have hw:i.wanted fr=some (b == want):=by simp[PI.wanted,M,hb]
    cases N:(b == want)with
    |true=>rw[N]at h hw; exact yes h hw
    |false=>rw[N]at h hw; exact no h hw
   ·rename_i hb;exact no h (by simp[PI.wanted,M,hb])
   ·exact h.elim
variable {X:Nat→D→St→Prop}{st:St}{T:Tbl}
theorem v9{op:POp}{ρ:PA→D}{K E:D→St→Prop}{I:Nat→D→St→Prop}(h:Io T op ρ st K X)(hk:∀ d st,K d st→E d st)(J:∀ t d st,X t d st→I t d st):Io T op ρ st E I:=by
 unfold Io at h ⊢;grind
variable {fr:Frame}
theorem Yno{g:Option (Nat×Bool)}{x E I:Prop}(h:kG fr g x y)(J:x→E)(M:y→I):kG fr g E I:=by
 unfold kG at h ⊢
 revert h
 split
 ·exact J
 ·split
  ·unfold GX;grind
  ·exact M
  ·exact id
theorem Z6{G:C9}{T:Tbl}:∀ (l:List PI) (fr:Frame) (st:St) (K E:Frame→St→Prop) (X I:Nat→D→Frame→St→Prop),K8 G T l fr st K X→(∀ fr st,K fr st→E fr st)→(∀ t d fr st,X t d fr st→I t d fr st)→K8 G T l fr st E I
 |[],_,_,_,_,_,_,h,hk,_=>hk _ _ h
 |i::l,fr,st,K,E,X,I,h,hk,J=>by
  rw[K8]at h ⊢;exact Yno h (fun h=>v9 h (fun _ _ h=>Z6 l _ _ _ _ _ _ h hk J) fun _ _ _ h=>J _ _ _ _ h) fun h=>Z6 l _ _ _ _ _ _ h hk J
class XC:Type where
 mk::
 run:Nat→D→Frame→St→Prop
class XC0:Type where
 mk::
 run:Nat→D→St→Prop
def On(G:C9)(T:Tbl)(l:List PI)(fr:Frame)(st:St)[K:Cont2 Frame St][X:XC]:Prop:=K8 G T l fr st K.run X.run
def IN(T:Tbl)(op:POp)(ρ:PA→D)(st:St)[K:Cont2 D St][X:XC0]:Prop:=Io T op ρ st K.run X.run
theorem yn(G:C9)(T:Tbl)(fr:Frame)(st:St)(K:Frame→St→Prop)(X:XC):@On G T [] fr st ⟨K⟩ X=K fr st:=(rfl)
def Rq(o:Option (D×St))(p:Option (Nat×D×St))[K:Cont2 D St][X:XC0]:Prop:=match o with
 |some r=>K.run r.1 r.2
 |none=>match p with
  |some r=>X.run r.1 r.2.1 r.2.2
  |none=>False
theorem Ye7(d:D)(st:St)(p:Option (Nat×D×St))(K:D→St→Prop)(X:XC0):@Rq (some (d,st)) p ⟨K⟩ X=K d st:=(rfl)
theorem wI(t:Nat)(d:D)(st:St)(K:Cont2 D St)(X:Nat→D→St→Prop):@Rq none (some (t,d,st)) K ⟨X⟩=X t d st:=(rfl)
def SK(o:Option (List D→St→Option (D×St)))(ds:List D)(st:St):Option (D×St):=match o with
 |some sp=>sp ds st
 |none=>none
theorem zL(sp:List D→St→Option (D×St))(ds:List D)(st:St):SK (some sp) ds st=sp ds st:=(rfl)
theorem zK(ds:List D)(st:St):SK none ds st=none:=(rfl)
def SL(o:Option (List D→St→Option (Nat×D×St)))(ds:List D)(st:St):Option (Nat×D×St):=match o with
 |some sp=>sp ds st
 |none=>none
theorem zN(sp:List D→St→Option (Nat×D×St))(ds:List D)(st:St):SL (some sp) ds st=sp ds st:=(rfl)
theorem zM(ds:List D)(st:St):SL none ds st=none:=(rfl)
theorem yQs(T:Tbl)(f:Nat)(args:List PA)(ρ:PA→D)(st:St)(K:Cont2 D St)(X:XC0):@IN T (.icall f args) ρ st K X=@Rq (SK (T.i f) (args.map ρ) st) (SL (T.x f) (args.map ρ) st) K X:=by
 rfl
def ND(d:D)(ds:List D):Option (Nat×List D):=match d with
 |.clo f caps=>if f<5000000 then some (f,ds++caps)else if f<10000000 then some (f - 5000000,caps++ds)else none
 |_=>none
theorem WH(T:Tbl)(x:PA)(args:List PA)(ρ:PA→D)(st:St)(K:Cont2 D St)(X:XC0)(f:Nat)(ds:List D)(h:ND (ρ x) (args.map ρ)=some (f,ds)):@IN T (.callv x args) ρ st K X=@Rq (SK (T.i f) ds st) (SL (T.x f) ds st) K X:=by
 simp only[IN,Io,POp.exec,Rq,SK,SL,POp.execX,POp.callee];unfold ND at h;grind
def POp.tame:POp→Bool
 |.icall _ _ | .callv _ _=>false
 |_=>true
theorem ym(T:Tbl)(op:POp)(ρ:PA→D)(st:St)(K:Cont2 D St)(X:XC0)(h:op.tame=true):@IN T op ρ st K X=EN T op ρ st K.run:=by
 have:op.execX T ρ st=none:=by
  cases op <;> first | rfl | (simp[POp.tame]at h; done)
 simp only[IN,Io,EN,on,this];grind
def kF(fs:List (Option Foot))(b:Bool)(cs:List Nat)(f:Option Foot)(K:List (Option Foot)→Prop):Prop:=@GX (MC fs f cs) ⟨K (fs++[if b then f else none])⟩ ⟨False⟩
variable {f:Option Foot}{cs:List Nat}{fs:List (Option Foot)}
theorem cC{b:Bool}{K:List (Option Foot)→Prop}(h:kF fs b cs f K):MC fs f cs=true∧K (fs++[if b then f else none]):=by
 unfold kF GX at h;grind
theorem kM{b:Bool}{K E:List (Option Foot)→Prop}(h:kF fs b cs f K)(hk:∀ fs,K fs→E fs):kF fs b cs f E:=by
 obtain⟨I,J⟩:=cC h;unfold kF GX;grind
def Fy(G:C9)(T:Tbl):List (PI×Bool×List Nat)→List (Option Foot)→Frame→St→(Frame→St→Prop)→Prop
 |[],_,fr,st,K=>K fr st
 |i::l,fs,fr,st,K=>kG fr i.1.guard (kF fs i.2.1 i.2.2 (i.1.op.foot (De G fr) st) fun fs'=>EN T i.1.op (De G fr) st fun d st'=>Fy G T l fs' (fr.put i.1.dst d) st' K)
   (kF fs i.2.1 i.2.2 (some NK) fun fs'=>Fy G T l fs' (fr.put i.1.dst (.tup [])) st K)
theorem Sv{G:C9}{T:Tbl}:∀ (l:List (PI×Bool×List Nat)) (fs:List (Option Foot)) (fr:Frame) (st:St) (K:Frame→St→Prop),Fy G T l fs fr st K→∃ E st',GL G T l fs ⟨fr,st⟩=some ⟨E,st'⟩∧K E st'
 |[],_,fr,st,K,h=>⟨fr,st,rfl,h⟩
 |(i,b,cs)::l,fs,fr,st,K,h=>by
  have yes:kF fs b cs (i.op.foot (De G fr) st) (fun J=>EN T i.op (De G fr) st fun d st'=>Fy G T l J (fr.put i.dst d) st' K)→i.wanted fr=some true→∃ E st',GL G T ((i,b,cs)::l) fs ⟨fr,st⟩=some ⟨E,st'⟩∧K E st':=by
   intro h hw;obtain⟨N,h⟩:=cC h;unfold EN on at h
   split at h
   ·rename_i p Y;obtain⟨E,st',O,U⟩:=Sv l _ _ _ K h;have hf:i.foot G ⟨fr,st⟩=i.op.foot (De G fr) st:=by simp[PI.foot,hw]
    have V:i.exec G T ⟨fr,st⟩=some ⟨fr.put i.dst p.1,p.2⟩:=by simp only[PI.exec,hw,Y]
    exact⟨E,st',by simp only[GL,hf,N,if_true,V,O],U⟩
   ·exact h.elim
  have no:kF fs b cs (some NK) (fun J=>Fy G T l J (fr.put i.dst (.tup [])) st K)→i.wanted fr=some false→∃ E st',GL G T ((i,b,cs)::l) fs ⟨fr,st⟩=some ⟨E,st'⟩∧K E st':=by
   intro h hw;obtain⟨N,h⟩:=cC h;obtain⟨E,st',O,U⟩:=Sv l _ _ _ K h;have hf:i.foot G ⟨fr,st⟩=some NK:=by simp[PI.foot,hw]
   have V:i.exec G T ⟨fr,st⟩=some ⟨fr.put i.dst (.tup []),st⟩:=by simp only[PI.exec,hw]
   exact⟨E,st',by simp only[GL,hf,N,if_true,V,O],U⟩
  rw[Fy]at h;unfold kG at h
  split at h
  ·rename_i I;exact yes h (by simp only at I; simp[PI.wanted,I])
  ·rename_i s want I;simp only at I
   split at h
   ·rename_i b hb;have hw:i.wanted fr=some (b == want):=by simp[PI.wanted,I,hb]
    cases M:(b == want)with
    |true=>rw[M]at h hw; exact yes h hw
    |false=>rw[M]at h hw; exact no h hw
   ·rename_i hb;exact no h (by simp[PI.wanted,I,hb])
   ·exact h.elim
theorem Sc{G:C9}{T:Tbl}:∀ (l:List (PI×Bool×List Nat)) (fs:List (Option Foot)) (fr:Frame) (st:St) (K I:Frame→St→Prop),Fy G T l fs fr st K→(∀ fr st,K fr st→I fr st)→Fy G T l fs fr st I
 |[],_,_,_,_,_,h,hk=>hk _ _ h
 |i::l,fs,fr,st,K,I,h,hk=>by
  have J:kF fs i.2.1 i.2.2 (i.1.op.foot (De G fr) st) (fun E=>EN T i.1.op (De G fr) st fun d st'=>Fy G T l E (fr.put i.1.dst d) st' K)→kF fs i.2.1 i.2.2 (i.1.op.foot (De G fr) st) (fun E=>EN T i.1.op (De G fr) st fun d st'=>Fy G T l E (fr.put i.1.dst d) st' I):=by
   refine fun h=>kM h fun E=>?_;unfold EN on
   split
   ·exact fun h=>Sc l _ _ _ _ _ h hk
   ·exact id
  have M:kF fs i.2.1 i.2.2 (some NK) (fun E=>Fy G T l E (fr.put i.1.dst (.tup [])) st K)→kF fs i.2.1 i.2.2 (some NK) (fun E=>Fy G T l E (fr.put i.1.dst (.tup [])) st I):=fun h=>kM h fun E h=>Sc l _ _ _ _ _ h hk;rw[Fy]at h ⊢;unfold kG at h ⊢
  revert h
  split
  ·exact J
  ·split
   ·unfold GX;grind
   ·exact M
   ·exact id
class FsC:Type where
 mk::
 run:List (Option Foot)→Prop
def wF(fs:List (Option Foot))(b:Bool)(cs:List Nat)(f:Option Foot)[K:FsC]:Prop:=kF fs b cs f K.run
theorem EC(fs:List (Option Foot))(f:Option Foot)(K:List (Option Foot)→Prop):@wF fs false [] f ⟨K⟩=K (fs++[none]):=(rfl)
def Ze(l:List (Option Foot))[K:FsC]:Prop:=K.run l
theorem Yur(l:List (Option Foot))(K:List (Option Foot)→Prop):@Ze l ⟨K⟩=K l:=(rfl)
theorem Ykw(fs:List (Option Foot))(f:Foot)(K:FsC):@wF fs true [] (some f) K=@Ze (fs++[some f]) K:=(rfl)
theorem Tw(fs:List (Option Foot))(b:Bool)(j:Nat)(cs:List Nat)(f:Foot)(K:FsC):@wF fs b (j::cs) (some f) K=@GX (MC fs (some f) (j::cs)) ⟨@Ze (fs++[if b then some f else none]) K⟩ ⟨False⟩:=(rfl)
def SQ(a b:PS)[k:Cont PS]:Prop:=a=b∧k.run a
theorem yRa(a:PS)(K:PS→Prop):@SQ a a ⟨K⟩=K a:=by simp[SQ]
def W2(keep:List Nat)(n:Nat)(fr1:Frame)(st1:St)(fr2:Frame)(st2:St)(K:PS→Prop):Prop:=
 @GX (st1.length == n+2 && st2.length == n+2) ⟨@SQ (restrictAt keep n [n,n+1] ⟨fr1,st1⟩) (restrictAt keep n [n+1,n] ⟨fr2,st2⟩) ⟨K⟩⟩ ⟨False⟩
variable {st1 st2:St}{fr1 fr2:Frame}{keep:List Nat}
theorem Yqm{n:Nat}{K:PS→Prop}(h:W2 keep n fr1 st1 fr2 st2 K):Zu keep n ⟨fr1,st1⟩ ⟨fr2,st2⟩=some (restrictAt keep n [n,n+1] ⟨fr1,st1⟩)∧K (restrictAt keep n [n,n+1] ⟨fr1,st1⟩):=by
 unfold W2 GX at h
 split at h
 ·rename_i hl;simp only[Af,beq_iff_eq]at hl;obtain⟨I,E⟩:=h;refine⟨?_,E⟩;unfold Zu;grind
 ·exact h.elim
theorem Yqn{n:Nat}{K E:PS→Prop}(h:W2 keep n fr1 st1 fr2 st2 K)(hk:∀ s,K s→E s):W2 keep n fr1 st1 fr2 st2 E:=by
 unfold W2 GX at h ⊢
 split at h
 ·rename_i hl;rw[if_pos hl];exact⟨h.1,hk _ h.2⟩
 ·exact h.elim
def Ij(G:C9)(T:Tbl)(l:List (PI×Bool×List Nat))(fs:List (Option Foot))(fr:Frame)(st:St)[K:Cont2 Frame St]:Prop:=Fy G T l fs fr st K.run
def Hd(G:C9)(T:Tbl)(l:List PI)(fr:Frame)(st:St)[K:Cont2 Frame St]:Prop:=FM G T l fr st K.run
def DX(T:Tbl)(op:POp)(ρ:PA→D)(st:St)[K:Cont2 D St]:Prop:=EN T op ρ st K.run
def kV(d:D)(want:Bool)[x:Br][y:Br]:Prop:=match d with
 |.bool b=>@GX (b == want) x y
 |.tup []=>y.run
 |_=>False
theorem Ycv(G:C9)(T:Tbl)(fr:Frame)(st:St)(K:Frame→St→Prop):@Hd G T [] fr st ⟨K⟩=K fr st:=(rfl)
theorem yQq(G:C9)(T:Tbl)(dst:Option Nat)(op:POp)(l:List PI)(fr:Frame)(st:St)(K:Cont2 Frame St) :
  @Hd G T ({dst,op,guard:=none}::l) fr st K=@DX T op (De G fr) st ⟨fun d st'=>@Hd G T l (fr.put dst d) st' K⟩:=(rfl)
theorem yQr(G:C9)(T:Tbl)(dst:Option Nat)(op:POp)(s:Nat)(E:Bool)(l:List PI)(fr:Frame)(st:St)(K:Cont2 Frame St) :
  @Hd G T ({dst,op,guard:=some (s,E)}::l) fr st K=@kV (fr s) E ⟨@DX T op (De G fr) st ⟨fun d st'=>@Hd G T l (fr.put dst d) st' K⟩⟩ ⟨@Hd G T l (fr.put dst (.tup [])) st K⟩:=(rfl)
theorem yKj(G:C9)(T:Tbl)(dst:Option Nat)(op:POp)(l:List PI)(fr:Frame)(st:St)(K:Cont2 Frame St)(X:XC) :
  @On G T ({dst,op,guard:=none}::l) fr st K X=@IN T op (De G fr) st ⟨fun d st'=>@On G T l (fr.put dst d) st' K X⟩ ⟨fun t d st'=>X.run t d fr st'⟩:=(rfl)
theorem yKk(G:C9)(T:Tbl)(dst:Option Nat)(op:POp)(s:Nat)(E:Bool)(l:List PI)(fr:Frame)(st:St)(K:Cont2 Frame St)(X:XC) :
  @On G T ({dst,op,guard:=some (s,E)}::l) fr st K X=@kV (fr s) E ⟨@IN T op (De G fr) st ⟨fun d st'=>@On G T l (fr.put dst d) st' K X⟩ ⟨fun t d st'=>X.run t d fr st'⟩⟩ ⟨@On G T l (fr.put dst (.tup [])) st K X⟩:=(rfl)
theorem Ykv(T:Tbl)(op:POp)(ρ:PA→D)(st:St)(K:D→St→Prop)(X:XC0)(h:op.tame=true):@IN T op ρ st ⟨K⟩ X=@DX T op ρ st ⟨K⟩:=ym T op ρ st ⟨K⟩ X h
theorem Ycx(G:C9)(T:Tbl)(fs:List (Option Foot))(fr:Frame)(st:St)(K:Frame→St→Prop):@Ij G T [] fs fr st ⟨K⟩=K fr st:=(rfl)
theorem yQt(G:C9)(T:Tbl)(dst:Option Nat)(op:POp)(b:Bool)(cs:List Nat)(l:List (PI×Bool×List Nat))(fs:List (Option Foot))(fr:Frame)(st:St)(K:Cont2 Frame St) :
  @Ij G T (({dst,op,guard:=none},b,cs)::l) fs fr st K=@wF fs b cs (op.foot (De G fr) st) ⟨fun E=>@DX T op (De G fr) st ⟨fun d st'=>@Ij G T l E (fr.put dst d) st' K⟩⟩:=(rfl)
theorem yQu(G:C9)(T:Tbl)(dst:Option Nat)(op:POp)(s:Nat)(E:Bool)(b:Bool)(cs:List Nat)(l:List (PI×Bool×List Nat))(fs:List (Option Foot))(fr:Frame)(st:St)(K:Cont2 Frame St) :
  @Ij G T (({dst,op,guard:=some (s,E)},b,cs)::l) fs fr st K=@kV (fr s) E ⟨@wF fs b cs (op.foot (De G fr) st) ⟨fun I=>@DX T op (De G fr) st ⟨fun d st'=>@Ij G T l I (fr.put dst d) st' K⟩⟩⟩ ⟨@wF fs b cs (some NK) ⟨fun I=>@Ij G T l I (fr.put dst (.tup [])) st K⟩⟩:=(rfl)
theorem Ynn(b:Bool)(x y:Br):@kV (.bool b) true x y=@GX b x y:=by cases b <;> rfl
theorem Yf7(b:Bool)(x y:Br):@kV (.bool b) false x y=@GX b y x:=by cases b <;> rfl
theorem Yt8(E:Bool)(x:Br)(y:Prop):@kV (.tup []) E x ⟨y⟩=y:=(rfl)
section
variable (T:Tbl) (ρ:PA→D) (st:St) (K:D→St→Prop)
theorem Ib{β:Type}(o:Option α)(f:α→β)(K:β→Prop):@on β (o.map f) ⟨K⟩=@on α o ⟨fun a=>K (f a)⟩:=by cases o <;> rfl
theorem UE(x:PA):@DX T (.mov x) ρ st ⟨K⟩=@ev (ρ x) ⟨fun d=>K d st⟩:=(rfl)
def SO(c x y:D):Option D:=match c with
 |.bool b=>some (if b then x else y)
 |_=>none
theorem yR0(x y:D):SO (.bool true) x y=some x:=(rfl)
theorem yLx(x y:D):SO (.bool false) x y=some y:=(rfl)
theorem yR1(b c e:Bool):SO (.bool b) (.bool c) (.bool e)=some (.bool (if b then c else e)):=by cases b <;> rfl
theorem Ytx(c x y:PA):@DX T (.pick c x y) ρ st ⟨K⟩=@on _ (SO (ρ c) (ρ x) (ρ y)) ⟨fun d=>K d st⟩:=by
 simp only[DX,EN,POp.exec,SO];cases ρ c <;> rfl
def Dv(d:D):Option (List D):=if d.cells.all D.isCell then some d.cells else none
theorem UL(x:PA):@DX T (.box x) ρ st ⟨K⟩=@on _ (Dv (ρ x)) ⟨fun cs=>@Ox (.ptr st.length 0) (st++[{row:=false,sz:=1,els:=cs,lent:=false}]) ⟨K⟩⟩:=by
 simp only[DX,EN,POp.exec,Dv]
 split <;> rfl
theorem UM(E:List D)(parts:List (Nat×Nat×PA)):@DX T (.bld E parts) ρ st ⟨K⟩=@on _ (DD E (parts.map fun p=>(p.1,p.2.1,ρ p.2.2))) ⟨fun cs=>K (.agg cs) st⟩:=by
 simp only[DX,EN,POp.exec,Ib]
def E0(sz:Nat)(els:List D):Option D:=if(els.all fun e=>e.cells.length == sz) && decide (0<sz) && decide (els.length*sz≤16777216)then some (.slc sz els true)else none
theorem Yt7(sz:Nat)(parts:List PA):@DX T (.bslc sz parts) ρ st ⟨K⟩=@on _ (DZ st (parts.map ρ)) ⟨fun els=>@on _ (E0 sz els) ⟨fun d=>@Ox d (lend ((parts.map ρ).flatMap keys) st) ⟨K⟩⟩⟩:=by
 simp only[DX,EN,POp.exec]
 cases DZ st (parts.map ρ)with
 |none=>rfl
 |some els=>
  simp only[on]
  by_cases h:((els.all fun e=>e.cells.length == sz) && decide (0<sz) && decide (els.length*sz≤16777216))=true
  ·simp only[E0,h,if_true]; rfl
  ·simp only[E0,h,Al,if_false]
theorem Ytz(n:Nat)(ag:Bool)(p:PA):@DX T (.load n ag p) ρ st ⟨K⟩=@on _ (EV st n ag (ρ p)) ⟨fun d=>K d st⟩:=by
 simp only[DX,EN,POp.exec,Ib]
theorem Ytw(n:Nat)(p x:PA):@DX T (.stor n p x) ρ st ⟨K⟩=@on _ (La st n (ρ p) (ρ x)) ⟨fun st'=>K (.tup []) st'⟩:=by
 simp only[DX,EN,POp.exec,Ib]
def gA(st:St)(d:D):Option D:=match d with
 |.ptr _ _ | .eptr _ _=>some d
 |.rptr key tot _ _=>if Ez st key tot then some d else none
 |_=>none
theorem Yty(x:PA):@DX T (.nilc x) ρ st ⟨K⟩=@on _ (gA st (ρ x)) ⟨fun d=>K d st⟩:=by
 simp only[DX,EN,POp.exec,gA]
 cases ρ x with
 |rptr key tot i off=>
  simp only
  split <;> rfl
 |_=>rfl
theorem UN(op:BinOp)(x y:PA):@DX T (.bin op x y) ρ st ⟨K⟩=@on _ (Dd op (ρ x) (ρ y)) ⟨fun d=>K d st⟩:=by
 simp only[DX,EN,POp.exec,Ib]
theorem UO(E:Bool)(x y:PA):@DX T (.beq E x y) ρ st ⟨K⟩=@on _ (L0 E (ρ x) (ρ y)) ⟨fun d=>K d st⟩:=by
 simp only[DX,EN,POp.exec,Ib]
theorem UQ(ks:List Nat)(E:Bool)(x y:PA):@DX T (.aeq ks E x y) ρ st ⟨K⟩=@on _ (Gn ks E (ρ x) (ρ y)) ⟨fun d=>K d st⟩:=by
 simp only[DX,EN,POp.exec,Ib]
theorem fV(op:UnOp)(x:PA):@DX T (.un op x) ρ st ⟨K⟩=@on _ (LZ op (ρ x)) ⟨fun d=>K d st⟩:=by
 simp only[DX,EN,POp.exec,Ib]
theorem Yt5(c:PConv)(x:PA):@DX T (.conv c x) ρ st ⟨K⟩=@on _ (E7 st c (ρ x)) ⟨fun d=>K d st⟩:=by
 simp only[DX,EN,POp.exec,Ib]
def OE(sz bytes:Nat)(zero ln cp:D):Option (Nat×Obj):=match Fk ln,Fk cp with
 |some l,some c=>if l≤c∧c≤4294967296∧c*bytes≤140737488355328∧0<sz∧zero.cells.length=sz∧zero.cells.all D.pure1=true then
   some (l,{row:=true,sz,els:=CD l zero,lent:=false})else none
 |_,_=>none
theorem Yng(sz bytes:Nat)(E:D)(I J:PA):@DX T (.mkslc sz bytes E I J) ρ st ⟨K⟩=@on _ (OE sz bytes E (ρ I) (ρ J)) ⟨fun r=>@Ox (.row st.length r.1 0 r.1) (st++[r.2]) ⟨K⟩⟩:=by
 simp only[DX,EN,POp.exec,OE]
 cases Fk (ρ I)with
 |none=>rfl
 |some l=>
  cases Fk (ρ J)with
  |none=>rfl
  |some c=>
   simp only
   split <;> rfl
theorem Yne(sz:Nat)(x:PA)(lo hi E:Option PA):@DX T (.slice sz x lo hi E) ρ st ⟨K⟩=@on _ (Gh st sz (ρ x) (lo.map ρ) (hi.map ρ) (E.map ρ)) ⟨fun d=>K d st⟩:=by
 simp only[DX,EN,POp.exec,Ib]
theorem Yf5(n sz:Nat)(ag:Bool)(x:PA)(lo hi:Option PA):@DX T (.sliceA n sz ag x lo hi) ρ st ⟨K⟩=@on _ (NR n sz ag (ρ x) (lo.map ρ) (hi.map ρ)) ⟨fun d=>K d st⟩:=by
 simp only[DX,EN,POp.exec,Ib]
theorem UI(off:Nat)(p:PA):@DX T (.fld off p) ρ st ⟨K⟩=@on _ (EZ st off (ρ p)) ⟨fun d=>K d st⟩:=by
 simp only[DX,EN,POp.exec,Ib]
theorem Yt4(off n:Nat)(ag:Bool)(x:PA):@DX T (.fldv off n ag x) ρ st ⟨K⟩=@on _ (Lw off n ag (ρ x)) ⟨fun d=>K d st⟩:=by
 simp only[DX,EN,POp.exec,Ib]
theorem Yt2(sz:Nat)(x i:PA):@DX T (.idxS sz x i) ρ st ⟨K⟩=@on _ (FY st sz (ρ x) (ρ i)) ⟨fun d=>K d st⟩:=by
 simp only[DX,EN,POp.exec,Ib]
theorem Yt3(n sz:Nat)(p i:PA):@DX T (.idxA n sz p i) ρ st ⟨K⟩=@on _ (Iu st n sz (ρ p) (ρ i)) ⟨fun d=>K d st⟩:=by
 simp only[DX,EN,POp.exec,Ib]
theorem UH(x i:PA):@DX T (.idx x i) ρ st ⟨K⟩=@on _ (Jp (ρ x) (ρ i)) ⟨fun d=>K d st⟩:=by
 simp only[DX,EN,POp.exec,Ib]
theorem Yt1(E sz:Nat)(ag:Bool)(x i:PA):@DX T (.idxV E sz ag x i) ρ st ⟨K⟩=@on _ (Om E sz ag (ρ x) (ρ i)) ⟨fun d=>K d st⟩:=by
 simp only[DX,EN,POp.exec,Ib]
def EH(st:St)(str:Bool)(d:D):Option D:=if IZ d == str then(EK st d).map fun(n:Nat)=>D.int .i64 (n:Int)else none
theorem UG(E:Bool)(x:PA):@DX T (.len E x) ρ st ⟨K⟩=@on _ (EH st E (ρ x)) ⟨fun d=>K d st⟩:=by
 simp only[DX,EN,POp.exec,EH]
 split
 ·simp only[Ib]
 ·rfl
theorem Yt0(n:Nat):@DX T (.lenA n) ρ st ⟨K⟩=@ev (.int .i64 (n:Int)) ⟨fun d=>K d st⟩:=(rfl)
theorem UP(sz bytes:Nat)(s x:PA):@DX T (.app sz bytes s x) ρ st ⟨K⟩=@on _ (D7 st sz bytes (ρ s) (ρ x)) ⟨fun r=>K r.1 r.2⟩:=(rfl)
def bO(sz:Nat):Option Obj:=if 1<sz∧sz≠1000003 then some {row:=false,sz,els:=[],lent:=false} else none
theorem Ynh(sz:Nat):@DX T (.mkmap sz) ρ st ⟨K⟩=@on _ (bO sz) ⟨fun o=>@Ox (.mapv st.length) (st++[o]) ⟨K⟩⟩:=by
 simp only[DX,EN,POp.exec,bO]
 split <;> rfl
theorem Ynk(sz:Nat)(ks:List Nat)(m k v:PA):@DX T (.mapup sz ks m k v) ρ st ⟨K⟩=@on _ (Ro st sz ks (ρ m) (ρ k) (ρ v)) ⟨fun st'=>K (.tup []) st'⟩:=by
 simp only[DX,EN,POp.exec,Ib]
theorem Yf6(sz:Nat)(ks:List Nat)(ok:Bool)(E:D)(m k:PA):@DX T (.mapget sz ks ok E m k) ρ st ⟨K⟩=@on _ (Iz st sz ks ok E (ρ m) (ρ k)) ⟨fun d=>K d st⟩:=by
 simp only[DX,EN,POp.exec,Ib]
theorem UK(sz:Nat)(d s:PA):@DX T (.cpy sz d s) ρ st ⟨K⟩=@on _ (Jq st sz (ρ d) (ρ s)) ⟨fun r=>K r.1 r.2⟩:=(rfl)
def Rt(isMax:Bool)(x y:D):Option D:=match x,y with
 |.int k a,.int _ b=>some (.int k (if isMax then(if b > a then b else a)else(if b<a then b else a)))
 |_,_=>none
theorem fW(E:Bool)(x y:PA):@DX T (.mm E x y) ρ st ⟨K⟩=@on _ (Rt E (ρ x) (ρ y)) ⟨fun d=>K d st⟩:=by
 simp only[DX,EN,POp.exec,Rt]
 cases ρ x with
 |int k a=>cases ρ y <;> rfl
 |_=>rfl
def Nw(isMax:Bool)(x y z:D):Option D:=match x,y,z with
 |.int k a,.int _ b,.int _ c=>some (.int k (L3 isMax (L3 isMax a b) c))
 |_,_,_=>none
theorem UF(E:Bool)(x y z:PA):@DX T (.mm3 E x y z) ρ st ⟨K⟩=@on _ (Nw E (ρ x) (ρ y) (ρ z)) ⟨fun d=>K d st⟩:=by
 simp only[DX,EN,POp.exec,Nw]
 cases ρ x with
 |int k a=>cases ρ y <;> first | rfl | (cases ρ z <;> rfl)
 |_=>rfl
theorem Ynf(f:Nat)(args:List PA):@DX T (.rcall f args) ρ st ⟨K⟩=@on _ (T.q f) ⟨fun sp=>@on _ (H5 sp (args.map ρ) st) ⟨fun d=>K d st⟩⟩:=by
 simp only[DX,EN,POp.exec]
 cases T.q f with
 |none=>rfl
 |some sp=>simp only[kY,Ib]
theorem Ynl(f:Nat)(args:List PA):@DX T (.icall f args) ρ st ⟨K⟩=@on _ (T.i f) ⟨fun sp=>@on _ (sp (args.map ρ) st) ⟨fun r=>K r.1 r.2⟩⟩:=by
 simp only[DX,EN,POp.exec];cases T.i f <;> rfl
def Kc(T:Tbl)(d:D):Option ((List D→St→Option (D×St))×List D×List D):=match d with
 |.clo f caps=>if f<5000000 then(T.i f).map fun sp=>(sp,[],caps)else if f<10000000 then(T.i (f - 5000000)).map fun sp=>(sp,caps,[])else if caps.isEmpty then some (T.y (f - 10000000),[],[])else none
 |_=>none
theorem Ynj(f:Nat)(args:List PA):@DX T (.mcall f args) ρ st ⟨K⟩=@on _ (T.m f) ⟨fun sp=>@on _ (sp (args.map ρ)) ⟨fun r=>@Ox (r.1 st.length) (st++r.2 st.length) ⟨K⟩⟩⟩:=by
 simp only[DX,EN,POp.exec]
 cases T.m f with
 |none=>rfl
 |some sp=>
  simp only[on];cases sp (args.map ρ) <;> rfl
theorem Ynm(x:PA)(args:List PA):@DX T (.callv x args) ρ st ⟨K⟩=@on _ (Kc T (ρ x)) ⟨fun p=>@on _ (p.1 (p.2.1++(args.map ρ++p.2.2)) st) ⟨fun r=>K r.1 r.2⟩⟩:=by
 simp only[DX,EN,POp.exec,Kc]
 cases ρ x with
 |clo f E=>
  simp only
  by_cases I:f<5000000
  ·simp only[if_pos I];cases T.i f <;> rfl
  ·by_cases h:f<10000000
   ·simp only[if_neg I,if_pos h]
    cases T.i (f - 5000000)with
    |none=>rfl
    |some sp=>simp only[Ag,on,Ad]
   ·simp only[if_neg I,if_neg h]
    cases E with
    |nil=>simp only[List.isEmpty_nil,if_true,on,Ad,Ai]
    |cons a l=>rfl
 |_=>rfl
theorem Yni(f:Nat)(E:List PA):@DX T (.mkclo f E) ρ st ⟨K⟩=@ev (.clo f (E.map ρ)) ⟨fun d=>K d st⟩:=(rfl)
theorem Yt6(f:Nat)(args:List PA):@DX T (.call f args) ρ st ⟨K⟩=@on _ (T.p f) ⟨fun sp=>@on _ (DZ st (args.map ρ)) ⟨fun vs=>@on _ (sp vs) ⟨fun r=>@Ox r (if r.noRef then st else lend ((args.map ρ).flatMap keys) st) ⟨K⟩⟩⟩⟩:=by
 simp only[DX,EN,POp.exec]
 cases T.p f with
 |none=>rfl
 |some sp=>
  cases DZ st (args.map ρ)with
  |none=>rfl
  |some vs=>
   simp only[on];cases sp vs <;> rfl
def L5(d:D)(i:Nat):Option D:=match d with
 |.tup vs=>vs[i]?
 |_=>none
theorem UJ(x:PA)(i:Nat):@DX T (.ext x i) ρ st ⟨K⟩=@on _ (L5 (ρ x) i) ⟨fun d=>K d st⟩:=by
 simp only[DX,EN,POp.exec,L5]
 cases ρ x with
 |tup vs=>simp only[Ib]
 |_=>rfl
theorem Yu1(a:D)(l:List D):L5 (.tup (a::l)) 0=some a:=(rfl)
theorem Yu0(a b:D)(l:List D):L5 (.tup (a::b::l)) 1=some b:=(rfl)
theorem Yuz(a b c:D)(l:List D):L5 (.tup (a::b::c::l)) 2=some c:=(rfl)
end
theorem Yei(fr:Frame)(s:Nat)(d:D):fr.put (some s) d=fr.set s d:=(rfl)
theorem Yej(fr:Frame)(d:D):fr.put none d=fr:=(rfl)
theorem T9(G:C9)(fr:Frame)(n:Nat):De G fr (.s n)=fr n:=(rfl)
theorem Ua(G:C9)(fr:Frame)(d:D):De G fr (.c d)=d:=(rfl)
theorem I2(G:C9)(fr:Frame)(n:Nat)(d:D)(h:G n=some d):De G fr (.g n)=.eptr d 0:=by simp[De,h]
theorem Yv5(a:D)(l:List D):C3 (a::l) 0=a:=(rfl)
theorem Yv4(a b:D)(l:List D):C3 (a::b::l) 1=b:=(rfl)
theorem Yv3(a b c:D)(l:List D):C3 (a::b::c::l) 2=c:=(rfl)
theorem Yv2(a b c d:D)(l:List D):C3 (a::b::c::d::l) 3=d:=(rfl)
theorem Yv1(a b c d e:D)(l:List D):C3 (a::b::c::d::e::l) 4=e:=(rfl)
theorem Yv0(a b c d e f:D)(l:List D):C3 (a::b::c::d::e::f::l) 5=f:=(rfl)
theorem Yvz(a b c d e f g:D)(l:List D):C3 (a::b::c::d::e::f::g::l) 6=g:=(rfl)
theorem Yvy(a b c d e f g h:D)(l:List D):C3 (a::b::c::d::e::f::g::h::l) 7=h:=(rfl)
def LP(B:Frame→St→(Ex→Frame→St→Prop)→Prop)(cut:PS→PS):Nat→PS→(Ex→Frame→St→Prop)→Prop
 |0,_,_=>False
 |n+1,s,Q=>B (cut s).fr (cut s).st fun e fr st=>match e with
  |.next=>LP B cut n ⟨fr,st⟩ Q
  |e=>Q e fr st
def W(G:C9)(T:Tbl):PC→Frame→St→(Ex→Frame→St→Prop)→Prop
 |.skip,fr,st,Q=>Q .next fr st
 |.ops l,fr,st,Q=>FM G T l fr st (Q .next)
 |.any l,fr,st,Q=>Fy G T l [] fr st (Q .next)
 |.any2 keep l1 l2,fr,st,Q=>Fy G T l1 [] fr st fun fr1 st1=>Fy G T l2 [] fr st fun fr2 st2=>W2 keep st.length fr1 st1 fr2 st2 fun s=>Q .next s.fr s.st
 |.seq a b,fr,st,Q=>W G T a fr st fun e fr' st'=>match e with
  |.next=>W G T b fr' st' Q
  |e=>Q e fr' st'
 |.cond c a b,fr,st,Q=>@Rr (De G fr c) ⟨fun v=>@GX v ⟨W G T a fr st Q⟩ ⟨W G T b fr st Q⟩⟩
 |.block id c,fr,st,Q=>W G T c fr st fun e fr' st'=>match e with
  |.exit id'=>if id'=id then Q .next fr' st' else Q (.exit id') fr' st'
  |e=>Q e fr' st'
 |.loop keep c,fr,st,Q=>∃ n,LP (W G T c) (restrict keep st.length) n ⟨fr,st⟩ Q
 |.loopA keep c,fr,st,Q=>∃ n,LP (W G T c) (keepAll keep) n ⟨fr,st⟩ Q
 |.opsX l,fr,st,Q=>K8 G T l fr st (Q .next) (fun t d=>Q (.panic t d))
 |.pan l d1 t x,fr,st,Q=>FM G T l fr st fun fr' st'=>@GX (KB (De G fr' x)) ⟨Q (.panic t (De G fr' x)) (fr'.set d1 .junk) st'⟩ ⟨False⟩
 |.alt a b,fr,st,Q=>W G T a fr st Q∨(a.exec G T 0 ⟨fr,st⟩=none∧(∀ m,a.exec G T m ⟨fr,st⟩=none)∧W G T b fr st Q)
 |.range x ps a b,fr,st,Q=>∃ (n:Nat) (st':St) (e:Ex),(∀ m,n≤m→ep T (De G fr x) (YJ (a.exec G T m) (b.exec G T m) fr ps st.length) (st++[recO 0])=some st')∧gM st' st.length=some e∧Q e fr (st'.set st.length (recO 2))
 |.exit id,fr,st,Q=>Q (.exit id) fr st
 |.ret,fr,st,Q=>Q .ret fr st
 |.fail,_,_,_=>False
theorem KG{G:C9}{T:Tbl}:∀ (c:PC) (fr:Frame) (st:St) (Q:Ex→Frame→St→Prop),W G T c fr st Q→
  ∃ (n:Nat) (e:Ex) (E:Frame) (st':St),(∀ m,n≤m→c.exec G T m ⟨fr,st⟩=some (e,⟨E,st'⟩))∧Q e E st'
 |.skip,fr,st,Q,h=>⟨0,.next,fr,st,fun _ _=>rfl,h⟩
 |.ops l,fr,st,Q,h=>by
  obtain⟨E,st',J,I⟩:=Sw l fr st _ h;exact⟨0,.next,E,st',fun m _=>by simp only[PC.exec,J],I⟩
 |.any l,fr,st,Q,h=>by
  obtain⟨E,st',J,I⟩:=Sv l [] fr st _ h;exact⟨0,.next,E,st',fun m _=>by simp only[PC.exec,J],I⟩
 |.any2 keep l1 l2,fr,st,Q,h=>by
  obtain⟨fr1,st1,J,I⟩:=Sv l1 [] fr st _ h;obtain⟨fr2,st2,O,Y⟩:=Sv l2 [] fr st _ I;obtain⟨h5,h6⟩:=Yqm Y;exact⟨0,.next,_,_,fun m _=>by simp only[PC.exec,J,O,h5,Ag],h6⟩
 |.seq a b,fr,st,Q,h=>by
  obtain⟨n,e,E,st',J,I⟩:=KG a fr st _ h
  cases e with
  |next=>
   obtain⟨n',e',U,V,O,Y⟩:=KG b E st' _ I;exact⟨n+n',e',U,V,fun m hm=>by simp only[PC.exec,J m (by omega),O m (by omega)],Y⟩
  |exit id=>exact⟨n,.exit id,E,st',fun m hm=>by simp only[PC.exec,J m hm],I⟩
  |ret=>exact⟨n,.ret,E,st',fun m hm=>by simp only[PC.exec,J m hm],I⟩
  |panic t d=>exact⟨n,.panic t d,E,st',fun m hm=>by simp only[PC.exec,J m hm],I⟩
 |.cond c a b,fr,st,Q,h=>by
  simp only[W,Rr]at h
  split at h
  ·rename_i v hv
   cases v with
   |true=>
    obtain⟨n,e,E,st',J,I⟩:=KG a fr st _ h;exact⟨n,e,E,st',fun m hm=>by simp only[PC.exec,hv,J m hm],I⟩
   |false=>
    obtain⟨n,e,E,st',J,I⟩:=KG b fr st _ h;exact⟨n,e,E,st',fun m hm=>by simp only[PC.exec,hv,J m hm],I⟩
  ·exact h.elim
 |.block id c,fr,st,Q,h=>by
  obtain⟨n,e,E,st',J,I⟩:=KG c fr st _ h
  cases e with
  |next=>exact⟨n,.next,E,st',fun m hm=>by simp only[PC.exec,J m hm],I⟩
  |ret=>exact⟨n,.ret,E,st',fun m hm=>by simp only[PC.exec,J m hm],I⟩
  |panic t d=>exact⟨n,.panic t d,E,st',fun m hm=>by simp only[PC.exec,J m hm],I⟩
  |exit ae=>
   simp only at I
   split at I
   ·rename_i hi;exact⟨n,.next,E,st',fun m hm=>by simp only[PC.exec,J m hm,hi,if_true],I⟩
   ·rename_i hi;exact⟨n,.exit ae,E,st',fun m hm=>by simp only[PC.exec,J m hm,hi,if_false],I⟩
 |.loop keep c,fr,st,Q,h=>by
  obtain⟨k,h⟩:=h
  have key:∀ (k:Nat) (s:PS),LP (W G T c) (restrict keep st.length) k s Q→∃ (n:Nat) (e:Ex) (E:Frame) (st':St),(∀ m q,n≤m→k≤q→Jh (c.exec G T m) (restrict keep st.length) q s=some (e,⟨E,st'⟩))∧Q e E st':=by
   intro k
   induction k with
   |zero=>intro s h; exact h.elim
   |succ k ih=>
    intro s h;obtain⟨n,e,E,st',J,I⟩:=KG c _ _ _ h;have N:∀ m,n≤m→c.exec G T m (restrict keep st.length s)=some (e,⟨E,st'⟩):=J
    cases e with
    |next=>
     obtain⟨n',e',U,V,O,Y⟩:=ih _ I;refine⟨n+n',e',U,V,fun m q hm hq=>?_,Y⟩;obtain⟨q,rfl⟩:∃ M,q=M+1:=⟨q - 1,by omega⟩;simp only[Jh,N m (by omega)];grind
    |exit id=>
     refine⟨n,.exit id,E,st',fun m q hm hq=>?_,I⟩;obtain⟨q,rfl⟩:∃ M,q=M+1:=⟨q - 1,by omega⟩;simp only[Jh,N m hm]
    |ret=>
     refine⟨n,.ret,E,st',fun m q hm hq=>?_,I⟩;obtain⟨q,rfl⟩:∃ M,q=M+1:=⟨q - 1,by omega⟩;simp only[Jh,N m hm]
    |panic t d=>
     refine⟨n,.panic t d,E,st',fun m q hm hq=>?_,I⟩;obtain⟨q,rfl⟩:∃ M,q=M+1:=⟨q - 1,by omega⟩;simp only[Jh,N m hm]
  obtain⟨n,e,E,st',J,I⟩:=key k _ h;exact⟨n+k,e,E,st',fun m hm=>by simp only[PC.exec]; exact J m m (by omega) (by omega),I⟩
 |.loopA keep c,fr,st,Q,h=>by
  obtain⟨k,h⟩:=h
  have key:∀ (k:Nat) (s:PS),LP (W G T c) (keepAll keep) k s Q→∃ (n:Nat) (e:Ex) (E:Frame) (st':St),(∀ m q,n≤m→k≤q→Jh (c.exec G T m) (keepAll keep) q s=some (e,⟨E,st'⟩))∧Q e E st':=by
   intro k
   induction k with
   |zero=>intro s h; exact h.elim
   |succ k ih=>
    intro s h;obtain⟨n,e,E,st',J,I⟩:=KG c _ _ _ h;have N:∀ m,n≤m→c.exec G T m (keepAll keep s)=some (e,⟨E,st'⟩):=J
    cases e with
    |next=>
     obtain⟨n',e',U,V,O,Y⟩:=ih _ I;refine⟨n+n',e',U,V,fun m q hm hq=>?_,Y⟩;obtain⟨q,rfl⟩:∃ M,q=M+1:=⟨q - 1,by omega⟩;simp only[Jh,N m (by omega)];grind
    |exit id=>
     refine⟨n,.exit id,E,st',fun m q hm hq=>?_,I⟩;obtain⟨q,rfl⟩:∃ M,q=M+1:=⟨q - 1,by omega⟩;simp only[Jh,N m hm]
    |ret=>
     refine⟨n,.ret,E,st',fun m q hm hq=>?_,I⟩;obtain⟨q,rfl⟩:∃ M,q=M+1:=⟨q - 1,by omega⟩;simp only[Jh,N m hm]
    |panic t d=>
     refine⟨n,.panic t d,E,st',fun m q hm hq=>?_,I⟩;obtain⟨q,rfl⟩:∃ M,q=M+1:=⟨q - 1,by omega⟩;simp only[Jh,N m hm]
  obtain⟨n,e,E,st',J,I⟩:=key k _ h;exact⟨n+k,e,E,st',fun m hm=>by simp only[PC.exec]; exact J m m (by omega) (by omega),I⟩
 |.range x ps a b,fr,st,Q,h=>by
  obtain⟨n,st',e,J,O,I⟩:=h;exact⟨n,e,fr,_,fun m hm=>by simp only[PC.exec,J m hm,Bl,O,Ag],I⟩
 |.opsX l,fr,st,Q,h=>by
  rcases aN l fr st _ _ h with⟨E,st',J,I⟩ | ⟨t,d,E,st',J,I,O⟩
  ·exact⟨0,.next,E,st',fun m _=>by simp only[PC.exec,J],I⟩
  ·exact⟨0,.panic t d,E,st',fun m _=>by simp only[PC.exec,J,I,Ag],O⟩
 |.pan l d1 t x,fr,st,Q,h=>by
  obtain⟨E,st',J,I⟩:=Sw l fr st _ h;unfold GX at I
  split at I
  ·rename_i hi;exact⟨0,.panic t (De G E x),E.set d1 .junk,st',fun m _=>by simp only[PC.exec,J,hi,if_true],I⟩
  ·grind
 |.alt a b,fr,st,Q,h=>by
  rcases h with h | ⟨_,J,h⟩
  ·obtain⟨n,e,E,st',J,I⟩:=KG a fr st _ h;exact⟨n,e,E,st',fun m hm=>by simp only[PC.exec,J m hm],I⟩
  ·obtain⟨n,e,E,st',I,O⟩:=KG b fr st _ h;exact⟨n,e,E,st',fun m hm=>by simp only[PC.exec,J m,I m hm],O⟩
 |.exit id,fr,st,Q,h=>⟨0,.exit id,fr,st,fun _ _=>rfl,h⟩
 |.ret,fr,st,Q,h=>⟨0,.ret,fr,st,fun _ _=>rfl,h⟩
 |.fail,_,_,_,h=>h.elim
theorem Wk{G:C9}{T:Tbl}:∀ (l:List PI) (fr:Frame) (st:St) (K E:Frame→St→Prop),FM G T l fr st K→(∀ fr st,K fr st→E fr st)→FM G T l fr st E
 |[],_,_,_,_,h,hk=>hk _ _ h
 |i::l,fr,st,K,E,h,hk=>by
  have I:EN T i.op (De G fr) st (fun d st'=>FM G T l (fr.put i.dst d) st' K)→EN T i.op (De G fr) st (fun d st'=>FM G T l (fr.put i.dst d) st' E):=by
   unfold EN on
   split
   ·exact fun h=>Wk l _ _ _ _ h hk
   ·exact id
  have J:FM G T l (fr.put i.dst (.tup [])) st K→FM G T l (fr.put i.dst (.tup [])) st E:=fun h=>Wk l _ _ _ _ h hk;rw[FM]at h ⊢;unfold kG at h ⊢
  split
  ·simp_all
  ·simp_all
   split
   ·simp_all;rename_i b hb;rename_i want _ _
    revert h
    unfold GX;grind
   ·simp_all
   ·simp_all
theorem Kk{G:C9}{T:Tbl}:∀ (c:PC) (fr:Frame) (st:St) (Q I:Ex→Frame→St→Prop),W G T c fr st Q→(∀ e fr st,Q e fr st→I e fr st)→W G T c fr st I
 |.skip,fr,st,Q,I,h,E=>E _ _ _ h
 |.ops l,fr,st,Q,I,h,E=>Wk l fr st _ _ h fun fr st h=>E _ _ _ h
 |.any l,fr,st,Q,I,h,E=>Sc l [] fr st _ _ h fun fr st h=>E _ _ _ h
 |.any2 keep l1 M,fr,st,Q,I,h,E=>Sc l1 [] fr st _ _ h fun fr1 st1 h=>Sc M [] fr st _ _ h fun fr2 st2 h=>Yqn h fun s h=>E _ _ _ h
 |.seq a b,fr,st,Q,I,h,E=>by
  refine Kk a fr st _ _ h fun e J st' h=>?_
  cases e with
  |next=>exact Kk b _ _ _ _ h E
  |exit id=>exact E _ _ _ h
  |ret=>exact E _ _ _ h
  |panic t d=>exact E _ _ _ h
 |.cond c a b,fr,st,Q,I,h,E=>by
  simp only[W,Rr]at h ⊢
  split
  ·rename_i v hv;rw[hv]at h;simp only at h
   cases v with
   |true=>exact Kk a _ _ _ _ h E
   |false=>exact Kk b _ _ _ _ h E
  ·grind
 |.block id c,fr,st,Q,I,h,E=>by
  refine Kk c fr st _ _ h fun e J st' h=>?_;grind
 |.loop keep c,fr,st,Q,I,h,E=>by
  obtain⟨k,h⟩:=h;refine⟨k,?_⟩
  have key:∀ (k:Nat) (s:PS),LP (W G T c) (restrict keep st.length) k s Q→LP (W G T c) (restrict keep st.length) k s I:=by
   intro k
   induction k with
   |zero=>intro s h; exact h
   |succ k N=>
    intro s h;refine Kk c _ _ _ _ h fun e J st' h=>?_;grind
  grind
 |.loopA keep c,fr,st,Q,I,h,E=>by
  obtain⟨k,h⟩:=h;refine⟨k,?_⟩
  have key:∀ (k:Nat) (s:PS),LP (W G T c) (keepAll keep) k s Q→LP (W G T c) (keepAll keep) k s I:=by
   intro k
   induction k with
   |zero=>intro s h; exact h
   |succ k N=>
    intro s h;refine Kk c _ _ _ _ h fun e J st' h=>?_;grind
  grind
 |.range x Y a b,fr,st,Q,I,h,E=>by
  obtain⟨n,st',e,O,U,V⟩:=h;exact⟨n,st',e,O,U,E _ _ _ V⟩
 |.opsX l,fr,st,Q,I,h,E=>Z6 l fr st _ _ _ _ h (fun _ _ h=>E _ _ _ h) fun _ _ _ _ h=>E _ _ _ h
 |.pan l d1 t x,fr,st,Q,I,h,E=>Wk l fr st _ _ h fun J st' h=>by
  unfold GX at h ⊢;grind
 |.alt a b,fr,st,Q,I,h,E=>h.imp (fun h=>Kk a _ _ _ _ h E) fun h=>⟨h.1,h.2.1,Kk b _ _ _ _ h.2.2 E⟩
 |.exit id,fr,st,Q,I,h,E=>E _ _ _ h
 |.ret,fr,st,Q,I,h,E=>E _ _ _ h
 |.fail,_,_,_,_,h,_=>h.elim
variable {Q:Ex→Frame→St→Prop}{c:PC}{ι:Type}{G:C9}
theorem Ywc(J:ι→List (Nat×D))(M:ι→St)(P:ι→Prop)(μ:ι→Nat)(E:ι)
  (U:restrict keep st.length ⟨fr,st⟩=⟨GC (J E),M E⟩) (V:P E)
  (N:∀ i,P i→W G T c (GC (J i)) (M i) fun e I st'=>match e with
   |.next=>∃ j,P j∧μ j<μ i∧restrict keep st.length ⟨I,st'⟩=⟨GC (J j),M j⟩
   |e=>Q e I st'):W G T (.loop keep c) fr st Q:=by
 have key:∀ (n:Nat) (i:ι) (s:PS),μ i<n→P i→restrict keep st.length s=⟨GC (J i),M i⟩→LP (W G T c) (restrict keep st.length) n s Q:=by
  intro n
  induction n with
  |zero=>intro i s h _ _; exact absurd h (Nat.not_lt_zero _)
  |succ n ih=>
   intro i s hi O Y;simp only[LP,Y];refine Kk c _ _ _ _ (N i O) fun e I st' h=>?_;grind
 exact⟨μ E+1,key _ E _ (Cs _) V U⟩
def wW(G:C9)(T:Tbl)(c:PC)(fr:Frame)(st:St)[Q:QC]:Prop:=W G T c fr st Q.run
theorem Ir(h:@wW G T c fr st ⟨Q⟩):W G T c fr st Q:=h
theorem Zz(h:W G T c fr st Q):@wW G T c fr st ⟨Q⟩:=h
theorem Ywa(G:C9)(T:Tbl)(fr:Frame)(st:St)(Q:Ex→Frame→St→Prop):@wW G T .skip fr st ⟨Q⟩=Q .next fr st:=(rfl)
theorem VD(G:C9)(T:Tbl)(l:List PI)(fr:Frame)(st:St)(Q:Ex→Frame→St→Prop):@wW G T (.ops l) fr st ⟨Q⟩=@Hd G T l fr st ⟨Q .next⟩:=(rfl)
theorem VE(G:C9)(T:Tbl)(l:List (PI×Bool×List Nat))(fr:Frame)(st:St)(Q:Ex→Frame→St→Prop):@wW G T (.any l) fr st ⟨Q⟩=@Ij G T l [] fr st ⟨Q .next⟩:=(rfl)
theorem Ywf(G:C9)(T:Tbl)(keep:List Nat)(l1 E:List (PI×Bool×List Nat))(fr:Frame)(st:St)(Q:Ex→Frame→St→Prop):@wW G T (.any2 keep l1 E) fr st ⟨Q⟩=
  @Ij G T l1 [] fr st ⟨fun fr1 st1=>@Ij G T E [] fr st ⟨fun fr2 st2=>@GX (st1.length == st.length+2 && st2.length == st.length+2) ⟨@SQ (restrictAt keep st.length [st.length,st.length+1] ⟨fr1,st1⟩) (restrictAt keep st.length [st.length+1,st.length] ⟨fr2,st2⟩) ⟨fun s=>Q .next s.fr s.st⟩⟩ ⟨False⟩⟩⟩:=(rfl)
def QY(G:C9)(T:Tbl)(b:PC)[Q:QC](e:Ex)(fr:Frame)(st:St):Prop:=match e with
 |.next=>W G T b fr st Q.run
 |e=>Q.run e fr st
theorem VA(G:C9)(T:Tbl)(a b:PC)(fr:Frame)(st:St)(Q:QC):@wW G T (.seq a b) fr st Q=@wW G T a fr st ⟨@QY G T b Q⟩:=(rfl)
theorem yH(G:C9)(T:Tbl)(b:PC)(Q:QC)(fr:Frame)(st:St):@QY G T b Q .next fr st=@wW G T b fr st Q:=(rfl)
theorem yG(G:C9)(T:Tbl)(b:PC)(Q:Ex→Frame→St→Prop)(E:Nat)(fr:Frame)(st:St):@QY G T b ⟨Q⟩ (.exit E) fr st=Q (.exit E) fr st:=(rfl)
theorem Yc8(G:C9)(T:Tbl)(b:PC)(Q:Ex→Frame→St→Prop)(fr:Frame)(st:St):@QY G T b ⟨Q⟩ .ret fr st=Q .ret fr st:=(rfl)
theorem yQy(G:C9)(T:Tbl)(b:PC)(Q:Ex→Frame→St→Prop)(t:Nat)(d:D)(fr:Frame)(st:St):@QY G T b ⟨Q⟩ (.panic t d) fr st=Q (.panic t d) fr st:=(rfl)
theorem Ywb(G:C9)(T:Tbl)(l:List PI)(fr:Frame)(st:St)(Q:Ex→Frame→St→Prop):@wW G T (.opsX l) fr st ⟨Q⟩=@On G T l fr st ⟨Q .next⟩ ⟨fun t d=>Q (.panic t d)⟩:=(rfl)
theorem VC(G:C9)(T:Tbl)(l:List PI)(d1 t:Nat)(x:PA)(fr:Frame)(st:St)(Q:Ex→Frame→St→Prop):@wW G T (.pan l d1 t x) fr st ⟨Q⟩=@Hd G T l fr st ⟨fun E st'=>@GX (KB (De G E x)) ⟨Q (.panic t (De G E x)) (E.set d1 .junk) st'⟩ ⟨False⟩⟩:=(rfl)
theorem Ywe(G:C9)(T:Tbl)(c:PA)(a b:PC)(fr:Frame)(st:St)(Q:QC):@wW G T (.cond c a b) fr st Q=@Rr (De G fr c) ⟨fun v=>@GX v ⟨@wW G T a fr st Q⟩ ⟨@wW G T b fr st Q⟩⟩:=(rfl)
def KX(id:Nat)[Q:QC](e:Ex)(fr:Frame)(st:St):Prop:=match e with
 |.exit id'=>if id'=id then Q.run .next fr st else Q.run (.exit id') fr st
 |e=>Q.run e fr st
theorem Yql(G:C9)(T:Tbl)(E:Nat)(c:PC)(fr:Frame)(st:St)(Q:QC):@wW G T (.block E c) fr st Q=@wW G T c fr st ⟨@KX E Q⟩:=(rfl)
theorem Ye1(E:Nat)(Q:Ex→Frame→St→Prop)(fr:Frame)(st:St):@KX E ⟨Q⟩ .next fr st=Q .next fr st:=(rfl)
theorem Ymf(E:Nat)(Q:Ex→Frame→St→Prop)(fr:Frame)(st:St):@KX E ⟨Q⟩ .ret fr st=Q .ret fr st:=(rfl)
theorem xD(E:Nat)(Q:Ex→Frame→St→Prop)(t:Nat)(d:D)(fr:Frame)(st:St):@KX E ⟨Q⟩ (.panic t d) fr st=Q (.panic t d) fr st:=(rfl)
theorem Ysu(I E:Nat)(Q:Ex→Frame→St→Prop)(fr:Frame)(st:St):@KX I ⟨Q⟩ (.exit E) fr st=if E=I then Q .next fr st else Q (.exit E) fr st:=(rfl)
theorem Ywd(G:C9)(T:Tbl)(E:Nat)(fr:Frame)(st:St)(Q:Ex→Frame→St→Prop):@wW G T (.exit E) fr st ⟨Q⟩=Q (.exit E) fr st:=(rfl)
theorem VB(G:C9)(T:Tbl)(fr:Frame)(st:St)(Q:Ex→Frame→St→Prop):@wW G T .ret fr st ⟨Q⟩=Q .ret fr st:=(rfl)
def Df(res:List PRes)(r:D)(e:Ex)(fr:Frame)(st:St):Prop:=match e with
 |.exit _ | .panic _ _=>False
 |_=>(Fi ⟨fr,st⟩ res).map Dz=some r
theorem Ydx(res:List PRes)(r:D)(fr:Frame)(st:St):Df res r .ret fr st=((Fi ⟨fr,st⟩ res).map Dz=some r):=(rfl)
theorem xS(res:List PRes)(r:D)(fr:Frame)(st:St):Df res r .next fr st=((Fi ⟨fr,st⟩ res).map Dz=some r):=(rfl)
def Gm(res:List PRes)[R:Cont2 D St](e:Ex)(fr:Frame)(st:St):Prop:=match e with
 |.exit _ | .panic _ _=>False
 |_=>@on _ (DI ⟨fr,st⟩ res) ⟨fun l=>R.run (Dz l) st⟩
theorem nk(res:List PRes)(R:D→St→Prop)(fr:Frame)(st:St):@Gm res ⟨R⟩ .ret fr st=@on _ (DI ⟨fr,st⟩ res) ⟨fun l=>R (Dz l) st⟩:=(rfl)
theorem oD(res:List PRes)(R:D→St→Prop)(fr:Frame)(st:St):@Gm res ⟨R⟩ .next fr st=@on _ (DI ⟨fr,st⟩ res) ⟨fun l=>R (Dz l) st⟩:=(rfl)
variable {ds:List D}{F:PF}
theorem nq{r:D}(h:W G T F.code (C3 ds) [] (Df F.res r)):∃ fuel,F.run G T fuel ds=some r:=by
 obtain⟨n,e,J,st',I,E⟩:=KG _ _ _ _ h;refine⟨n,?_⟩;unfold PF.run;rw[I n (AE _)]
 cases e with
 |next=>exact E
 |ret=>exact E
 |exit id=>exact E.elim
 |panic t d=>exact E.elim
theorem Z0{R:D→St→Prop}(h:W G T F.code (C3 ds) st (@Gm F.res ⟨R⟩)):∃ fuel r st',(∀ m,fuel≤m→F.runI G T m ds st=some (r,st'))∧R r st':=by
 obtain⟨n,e,I,st',J,E⟩:=KG _ _ _ _ h
 have key:∀ (E:@on _ (DI ⟨I,st'⟩ F.res) ⟨fun l=>R (Dz l) st'⟩) (he:e=.next∨e=.ret),∃ fuel r st',(∀ m,fuel≤m→F.runI G T m ds st=some (r,st'))∧R r st':=by
  intro E he;unfold on at E
  split at E
  ·rename_i l hl;refine⟨n,Dz l,st',fun m hm=>?_,E⟩;unfold PF.runI;grind
  ·grind
 cases e with
 |next=>exact key E (.inl rfl)
 |ret=>exact key E (.inr rfl)
 |exit id=>exact E.elim
 |panic t d=>exact E.elim
def LX[X:XC0](e:Ex)(_:Frame)(st:St):Prop:=match e with
 |.panic t d=>X.run t d st
 |_=>False
theorem yRc(X:Nat→D→St→Prop)(t:Nat)(d:D)(fr:Frame)(st:St):@LX ⟨X⟩ (.panic t d) fr st=X t d st:=(rfl)
theorem xV(h:W G T F.code (C3 ds) st (@LX ⟨X⟩)):∃ fuel t d st',(∀ m,fuel≤m→F.runX G T m ds st=some (t,d,st'))∧X t d st':=by
 obtain⟨n,e,J,st',I,E⟩:=KG _ _ _ _ h
 cases e with
 |panic t d=>exact⟨n,t,d,st',fun m hm=>by unfold PF.runX; rw[I m hm],E⟩
 |_=>exact E.elim
def Nt(h:Nat→D→List D→St→Option St)(das:List D)(res:List PRes)[R:Cont2 D St](e:Ex)(fr:Frame)(st:St):Prop:=match e with
 |.exit _=>False
 |.panic t d=>@on _ (h t d das st) ⟨fun st3=>@on _ (DI ⟨fr,st3⟩ res) ⟨fun l=>R.run (Dz l) st3⟩⟩
 |_=>@on _ (DI ⟨fr,st⟩ res) ⟨fun l=>R.run (Dz l) st⟩
theorem Ydz(h:Nat→D→List D→St→Option St)(E:List D)(res:List PRes)(R:D→St→Prop)(fr:Frame)(st:St):@Nt h E res ⟨R⟩ .ret fr st=@on _ (DI ⟨fr,st⟩ res) ⟨fun l=>R (Dz l) st⟩:=(rfl)
theorem xz(h:Nat→D→List D→St→Option St)(E:List D)(res:List PRes)(R:D→St→Prop)(fr:Frame)(st:St):@Nt h E res ⟨R⟩ .next fr st=@on _ (DI ⟨fr,st⟩ res) ⟨fun l=>R (Dz l) st⟩:=(rfl)
theorem yRe(h:Nat→D→List D→St→Option St)(E:List D)(res:List PRes)(R:D→St→Prop)(t:Nat)(d:D)(fr:Frame)(st:St) :
  @Nt h E res ⟨R⟩ (.panic t d) fr st=@on _ (h t d E st) ⟨fun I=>@on _ (DI ⟨fr,I⟩ res) ⟨fun l=>R (Dz l) I⟩⟩:=(rfl)
def Pq(h:Nat→D→List D→St→Option St)(das:List D)(res:List PRes)(r:D)(e:Ex)(fr:Frame)(st:St):Prop:=match e with
 |.exit _=>False
 |.panic t d=>@on _ (h t d das st) ⟨fun st3=>(Fi ⟨fr,st3⟩ res).map Dz=some r⟩
 |_=>(Fi ⟨fr,st⟩ res).map Dz=some r
theorem xx(h:Nat→D→List D→St→Option St)(E:List D)(res:List PRes)(r:D)(fr:Frame)(st:St):Pq h E res r .ret fr st=((Fi ⟨fr,st⟩ res).map Dz=some r):=(rfl)
theorem yRf(h:Nat→D→List D→St→Option St)(E:List D)(res:List PRes)(r:D)(fr:Frame)(st:St):Pq h E res r .next fr st=((Fi ⟨fr,st⟩ res).map Dz=some r):=(rfl)
theorem yLg(h:Nat→D→List D→St→Option St)(E:List D)(res:List PRes)(r:D)(t:Nat)(d:D)(fr:Frame)(st:St):Pq h E res r (.panic t d) fr st=@on _ (h t d E st) ⟨fun I=>(Fi ⟨fr,I⟩ res).map Dz=some r⟩:=(rfl)
def Pv(G:C9)(T:Tbl)(F:PFD)(H:HX)(ds:List D)(st:St)(K:(Nat→D→List D→St→Option St)→List D→Ex→Frame→St→Prop):Prop:=
 @Hd G T F.pre (C3 ds) st ⟨fun fr1 st1=>@on _ (MK (De G fr1 F.hf) (F.ha.map (De G fr1))) ⟨fun p=>@on _ (H p.1) ⟨fun h=>@wW G T F.code fr1 st1 ⟨K h p.2⟩⟩⟩⟩
theorem xU{F:PFD}{H:HX}{K:(Nat→D→List D→St→Option St)→List D→Ex→Frame→St→Prop}(h:Pv G T F H ds st K) :
  ∃ n s1 f M J e I st',ED G T F.pre ⟨C3 ds,st⟩=some s1∧MK (De G s1.fr F.hf) (F.ha.map (De G s1.fr))=some (f,M)∧H f=some J∧(∀ m,n≤m→F.code.exec G T m s1=some (e,⟨I,st'⟩))∧K J M e I st':=by
 obtain⟨fr1,st1,N,E⟩:=Sw _ _ _ _ h;simp only at E;unfold on at E
 split at E
 case h_2=>exact E.elim
 rename_i p O;simp only at E
 split at E
 case h_2=>exact E.elim
 rename_i J U;obtain⟨n,e,I,st',V,Y⟩:=KG _ _ _ _ (show W G T F.code fr1 st1 (K J p.2)from E);exact⟨n,⟨fr1,st1⟩,p.1,p.2,J,e,I,st',N,O,U,V,Y⟩
theorem Yo8(fs:List (Option Foot))(g:Option Foot):MC fs g []=true:=(rfl)
theorem Yhf(fs:List (Option Foot))(g:Option Foot)(j:Nat)(r:List Nat):MC fs g (j::r)=(gb fs[j]? g && MC fs g r):=(rfl)
theorem Yu8(f g:Foot):gb (some (some f)) (some g)=f.ok g:=(rfl)
theorem Uh(r w I w':List Nat)(m E:Option Nat):Foot.ok ⟨r,w,m⟩ ⟨I,w',E⟩=(Hn w' r && Hn w' w && Hn w I && Kg m I && Kg m w' && Kg E r && Kg E w && (m.isNone || E.isNone)):=(rfl)
theorem Yie(b:List Nat):Hn [] b=true:=(rfl)
theorem Yb5(k:Nat)(a b:List Nat):Hn (k::a) b=(!b.contains k && Hn a b):=by simp[Hn]
theorem yx(a:List Nat):Kg none a=true:=(rfl)
theorem yy(n:Nat):Kg (some n) []=true:=(rfl)
theorem yNh(n k:Nat)(a:List Nat):Kg (some n) (k::a)=(decide (k<n) && Kg (some n) a):=(rfl)
theorem vT:NK=⟨[],[],none⟩:=(rfl)
theorem xA:GI (none:Option α)=[]:=(rfl)
theorem xB(x:α):GI (some x)=[x]:=(rfl)
section
variable (ρ:PA→D) (st:St)
theorem vI(n:Nat)(p x:PA):POp.foot ρ st (.stor n p x)=some ⟨hk (ρ x),hk (ρ p),none⟩:=(rfl)
theorem Ygw(x:PA):POp.foot ρ st (.box x)=some ⟨[],[],some st.length⟩:=(rfl)
theorem ze(a b:Nat)(z:D)(l c:PA):POp.foot ρ st (.mkslc a b z l c)=some ⟨[],[],some st.length⟩:=(rfl)
theorem zc(f:Nat)(l:List PA):POp.foot ρ st (.mcall f l)=some ⟨[],[],some st.length⟩:=(rfl)
def PV(st:St)(s x:D):Option Foot:=match s with
 |.row key _ _ _=>some ⟨hk x,[key],none⟩
 |_=>some ⟨hk x,[],Fz x st.length⟩
theorem Yim(key tot off len:Nat)(x:D):PV st (.row key tot off len) x=some ⟨hk x,[key],none⟩:=(rfl)
theorem Yil(sz:Nat)(els:List D)(t:Bool)(x:D):PV st (.slc sz els t) x=some ⟨hk x,[],Fz x st.length⟩:=(rfl)
theorem Yij(sz:Nat)(t:Bool)(n:Nat):Fz (.slc sz [] t) n=none:=(rfl)
theorem Yca(sz:Nat)(a:D)(l:List D)(t:Bool)(n:Nat):Fz (.slc sz (a::l) t) n=some n:=(rfl)
theorem Yii(key tot off len n:Nat):Fz (.row key tot off len) n=some n:=(rfl)
theorem Yik(key off m sz:Nat)(ag:Bool)(n:Nat):Fz (.bsl key off m sz ag) n=some n:=(rfl)
theorem Yih(s:List UInt8)(n:Nat):Fz (.str s) n=some n:=(rfl)
theorem Ygx(a b:Nat)(s x:PA):POp.foot ρ st (.app a b s x)=PV st (ρ s) (ρ x):=(rfl)
theorem vG(n:Nat)(ag:Bool)(x:PA):POp.foot ρ st (.load n ag x)=some ⟨hk (ρ x),[],none⟩:=by simp[POp.foot,POp.args]
theorem vH(x:PA):POp.foot ρ st (.nilc x)=some ⟨KV (ρ x),[],none⟩:=(rfl)
theorem Ylu(key off:Nat):KV (.ptr key off)=[]:=(rfl)
theorem Ydw(E:D)(off:Nat):KV (.eptr E off)=[]:=(rfl)
theorem Ydv(key tot i off:Nat):KV (.rptr key tot i off)=[key]:=(rfl)
theorem Ygv(n:Nat)(x:PA):POp.foot ρ st (.fld n x)=some ⟨KV (ρ x),[],none⟩:=(rfl)
theorem vF(n m:Nat)(x i:PA):POp.foot ρ st (.idxA n m x i)=some ⟨KV (ρ x),[],none⟩:=(rfl)
theorem zf(n:Nat)(x:PA)(a b c:Option PA):POp.foot ρ st (.slice n x a b c)=some ⟨((x::(GI a++GI b++GI c)).map ρ).flatMap hk,[],none⟩:=(rfl)
theorem vE(f:Nat)(l:List PA):POp.foot ρ st (.call f l)=some ⟨(l.map ρ).flatMap hk,[],none⟩:=(rfl)
theorem vB(n:Nat)(l:List PA):POp.foot ρ st (.bslc n l)=some ⟨(l.map ρ).flatMap hk,[],none⟩:=(rfl)
end
attribute [irreducible] kF Fy wF Ij Ze SQ on Rr GX ev Ox EN kG kV FM W QY KX Df Gm wW Hd DX Io K8 On IN Rq LX Nt Pq
def El:D→Bool
 |.int _ _ | .bool _ | .str _ | .clo _ [] | .nilf | .nilp=>true
 |.slc sz els t=>!t && nz sz els == sz
 |_=>false
def Iv:D→Bool
 |.agg l=>l.all El
 |d=>El d
variable {d:D}
theorem aj(st:St)(h:El d=true):Du st d=some d:=by
 cases d with
 |clo f l=>cases l <;> simp_all [El,Du,D.pure1]
 |slc sz els t=>simp_all [El,Du]
 |_=>simp_all [El,Du,D.pure1]
theorem QK(st:St):∀ {l:List D},l.all El=true→DM st l=some l
 |[],_=>rfl
 |d::l,h=>by
  simp only[A3,Af]at h;simp only[DM,aj st h.1,QK st h.2]
theorem QB(st:St)(h:Iv d=true):DN st d=some d:=by
 cases d with
 |agg l=>simp only[DN,QK st h,Ag]
 |tup l=>simp[Iv,El]at h
 |_=>exact aj st (by simpa only[Iv]using h)
theorem ak(h:El d=true):ES d=[]:=by
 cases d <;> simp_all [El,ES]
theorem QJ(h:Iv d=true):keys d=[]:=by
 cases d with
 |agg l=>
  simp only[keys,B3];simp only[Iv,Aj]at h;exact fun d E=>ak (h d E)
 |_=>exact ak (by simpa only[Iv]using h)
theorem oG(h:El d=true):Dm d=[]:=by
 cases d with
 |clo f l=>cases l <;> simp_all [El,Dm]
 |_=>simp_all [El,Dm,FN]
theorem RS(h:Iv d=true):hk d=[]:=by
 cases d with
 |agg l=>
  simp only[hk,B3];simp only[Iv,Aj]at h;exact fun d E=>oG (h d E)
 |_=>exact oG (by simpa only[Iv]using h)
theorem pT(n:Nat)(σ:List Nat)(h:El d=true):Ek n σ d=d:=by
 cases d with
 |clo f l=>cases l <;> simp_all [El,Ek]
 |_=>simp_all [El,Ek,F2]
theorem O3(n:Nat)(σ:List Nat)(h:Iv d=true):Ed n σ d=d:=by
 cases d with
 |agg l=>
  simp only[Ed,D.agg.injEq];simp only[Iv,Aj]at h
  have:∀ l:List D,(∀ d∈l,El d=true)→l.map (Ek n σ)=l:=by
   intro l
   induction l with
   |nil=>intro _; rfl
   |cons a l E=>intro h; simp only[Ax,pT n σ (h a (by simp)),E fun d I=>h d (by simp[I])]
  grind
 |tup l=>simp[Iv,El]at h
 |_=>exact pT n σ (by simpa only[Iv]using h)
structure Dig where
 bs:List UInt8
 len:bs.length=32
 deriving DecidableEq
def Dl:Dig:=⟨CD 32 0,by simp⟩
instance:Inhabited Dig:=⟨Dl⟩
theorem Dig.ext'{a b:Dig}(h:a.bs=b.bs):a=b:=by
 cases a; cases b; simp_all
def CW(d:Dig):List D:=d.bs.map Da
def CY(d:Dig):D:=.agg (CW d)
theorem DH(d:Dig):(CW d).length=32:=by simp[CW,d.len]
theorem nX{a b:UInt8}(h:Da a=Da b):a=b:=by
 simp only[Da,D.int.injEq,true_and]at h;exact UInt8.toNat_inj.1 (by omega)
theorem NQ{α β:Type}{f:α→β}(I:∀ a b,f a=f b→a=b):∀ {l E:List α},l.map f=E.map f→l=E
 |[],[],_=>rfl
 |[],_::_,h=>by cases h
 |_::_,[],h=>by cases h
 |a::l,b::E,h=>by
  simp only[Ax,Aa]at h;rw[I _ _ h.1,NQ I h.2]
variable {b:List UInt8}
theorem O6{a:List UInt8}(h:a.map Da=b.map Da):a=b:=NQ (fun _ _=>nX) h
theorem mD{a b:Dig}(h:CY a=CY b):a=b:=by
 simp only[CY,CW,D.agg.injEq]at h;exact Dig.ext' (O6 h)
theorem Ll{a b:Dig}(h:CW a=CW b):a=b:=Dig.ext' (O6 h)
theorem Kt{p:D→Bool}(E:∀ b,p (Da b)=true)(d:Dig):(CW d).all p=true:=by
 simp only[CW,Aj,AV];grind
theorem IC(d:Dig):(CW d).all D.isCell=true:=Kt (fun _=>rfl) d
theorem Sq(d:Dig):(CW d).all El=true:=Kt (fun _=>rfl) d
theorem Pa(d:Dig):Iv (CY d)=true:=Sq d
theorem Sr(d:Dig):(CY d).cells=CW d:=(rfl)
theorem pg(d:Dig):(CY d).noRef=true:=Kt (fun _=>rfl) d
theorem bN(d:Dig):D.mk true (CW d)=CY d:=(rfl)
theorem Ymq(x:D)(l:List D):D.mk true (x::l)=.agg (x::l):=(rfl)
theorem Ys7(x:D)(l:List D):D.mk false (x::l)=x:=(rfl)
theorem Yqf(d:Dig):D.agg (CW d)=CY d:=(rfl)
theorem Ycg:[D.int .u8 0,.int .u8 0,.int .u8 0,.int .u8 0,.int .u8 0,.int .u8 0,.int .u8 0,.int .u8 0,.int .u8 0,.int .u8 0,.int .u8 0,.int .u8 0,.int .u8 0,.int .u8 0,.int .u8 0,.int .u8 0,.int .u8 0,.int .u8 0,.int .u8 0,.int .u8 0,.int .u8 0,.int .u8 0,.int .u8 0,.int .u8 0,.int .u8 0,.int .u8 0,.int .u8 0,.int .u8 0,.int .u8 0,.int .u8 0,.int .u8 0,.int .u8 0]=CW Dl:=(rfl)
theorem V4(d:Dig):(CW d).take 32=CW d:=AU (by rw[DH]; exact AE _)
theorem Xk(h:El d=true):Iv d=true:=by
 cases d with
 |agg l=>simp[El]at h
 |_=>exact h
theorem N6(n:Nat)(σ:List Nat):∀ {l:List D},l.all El=true→l.map (Ed n σ)=l
 |[],_=>rfl
 |d::l,h=>by
  simp only[A3,Af]at h;simp only[Ax,O3 n σ (Xk h.1),N6 n σ h.2]
theorem OZ:∀ {l:List D},l.all El=true→l.flatMap hk=[]
 |[],_=>rfl
 |d::l,h=>by
  simp only[A3,Af]at h;simp only[Au,RS (Xk h.1),OZ h.2,Ad]
theorem Yea(n:Nat)(σ:List Nat)(d:Dig):(CW d).map (Ed n σ)=CW d:=N6 n σ (Sq d)
theorem Ygk(d:Dig):(CW d).flatMap hk=[]:=OZ (Sq d)
theorem Ynv(st:St)(d:Dig):DN st (CY d)=some (CY d):=QB st (Pa d)
theorem m0(d:Dig):keys (CY d)=[]:=QJ (Pa d)
theorem Yul(d:Dig):hk (CY d)=[]:=RS (Pa d)
theorem ni(n:Nat)(σ:List Nat)(d:Dig):Ed n σ (CY d)=CY d:=O3 n σ (Pa d)
theorem Yp0(d:Dig):Dv (CY d)=some (CW d):=by
 simp only[Dv,Sr,IC,if_true]
theorem iQ:∀ (n:Nat) (a b:List UInt8),a.length=n→b.length=n→Ey (CD n 0) (a.map Da) (b.map Da)=some (decide (a=b))
 |0,[],[],_,_=>rfl
 |0,_::_,_,h,_=>by cases h
 |0,[],_::_,_,h=>by cases h
 |n+1,[],_,h,_=>by cases h
 |n+1,_::_,[],_,h=>by cases h
 |n+1,a::l,b::I,h,E=>by
  simp only[Ak,Nat.add_right_cancel_iff]at h E;simp only[BT,Ax,Ey,iQ n l I h E];simp only[H6,Da,if_true]
  congr 1
  by_cases e:a=b
  ·grind
  ·have:¬ ((a.toNat:Int)=(b.toNat:Int)):=fun h=>e (UInt8.toNat_inj.1 (by omega));grind
theorem pq(a b:Dig):Ey (CD 32 0) (CW a) (CW b)=some (decide (a=b)):=by
 rw[CW,CW,iQ 32 a.bs b.bs a.len b.len]
 congr 1
 by_cases e:a=b
 ·grind
 ·have E:¬ a.bs=b.bs:=fun h=>e (Dig.ext' h);simp[e,E]
theorem Yqh(E:Bool)(a b:Dig):Gn [0,0,0,0,0,0,0,0,0,0,0,0,0,0,0,0,0,0,0,0,0,0,0,0,0,0,0,0,0,0,0,0] E (CY a) (CY b)=some (.bool (decide (a=b) != E)):=by
 show(Ey (CD 32 0) (CW a) (CW b)).map _=_
 rw[pq]; rfl
theorem getElem?_getD[Inhabited α](l:List α)(i:Nat)(h:i<l.length):l[i]?=some (l.getD i default):=by
 grind
theorem yE[Inhabited α](l:List α)(i:Nat)(h:i<l.length):l.take (i+1)=l.take i++[l.getD i default]:=by
 simp_all
theorem nQ[Inhabited α](l:List α)(i:Nat)(h:i<l.length):l.drop i=l.getD i default::l.drop (i+1):=by
 simp_all
theorem pV(l xs:List D)(h:l.length=xs.length):E8 l 0 xs=xs:=by
 simp[E8,h]
theorem pW(a b:Dig):E8 (CW a) 0 (CW b)=CW b:=pV _ _ (by rw[DH,DH])
theorem yKv(x:D)(l ys:List D)(n:Nat):E8 (x::l) (n+1) ys=x::E8 l n ys:=by
 simp[E8,Nat.add_right_comm]
def Dn(o:Option Obj)(n:Nat)(ag:Bool)(off:Nat):Option D:=if !ag && n != 1 then none else o.bind fun o=>if !o.row && decide (off+n≤o.els.length)then some (.mk ag ((o.els.drop off).take n))else none
def DQ(o:Option Obj)(n:Nat)(off:Nat)(x:D):Option Obj:=o.bind fun o=>if !o.row && !o.lent && decide (off+n≤o.els.length) && x.cells.length == n && x.cells.all D.isCell then some {o with els:=E8 o.els off x.cells} else none
theorem w9(st:St)(n:Nat)(ag:Bool)(key off:Nat):EV st n ag (.ptr key off)=Dn st[key]? n ag off:=by
 simp only[EV,Dn];grind
theorem xg(st:St)(n:Nat)(key off:Nat)(x:D):La st n (.ptr key off) x=(DQ st[key]? n off x).map fun o=>st.set key o:=by
 simp only[La,DQ];grind
section
variable {α:Type} (sz:Nat) (lent:Bool)
theorem P8(x:D)(l:List D):Dn (some ⟨false,sz,x::l,lent⟩) 1 false 0=some x:=by
 rfl
theorem m5(x:D)(l:List D)(n:Nat)(ag:Bool)(off:Nat):Dn (some ⟨false,sz,x::l,lent⟩) n ag (off+1)=Dn (some ⟨false,sz,l,lent⟩) n ag off:=by
 simp only[Dn,Bl,List.drop_succ_cons,Ak];grind
theorem Ym6(d:Dig):Dn (some ⟨false,sz,CW d,lent⟩) 32 true 0=some (CY d):=by
 simp[Dn,DH,V4,bN]
theorem WA(x:D)(d:Dig):Dn (some ⟨false,sz,x::CW d,lent⟩) 33 true 0=some (.agg (x::CW d)):=by
 simp[Dn,DH,V4,D.mk]
theorem kP{α:Type}[Inhabited α](f:α→D)(E:List α)(i:Nat)(h:i<E.length):Dn (some ⟨false,sz,E.map f,lent⟩) 1 false i=some (f (E.getD i default)):=by
 have I:i+1≤E.length:=h
 have:(E.map f).drop i=f (E.getD i default)::(E.map f).drop (i+1):=by
  rw[← Cg,nQ E i h,Ax,Cg]
 simp[Dn,this,D.mk,I]
theorem KJ(cs:List D)(n:Nat)(h:cs.length=n):Dn (some ⟨false,sz,cs,lent⟩) n true 0=some (.agg cs):=by
 subst h; simp[Dn,D.mk]
theorem zz{α:Type}(f:α→D)(E:List α)(n:Nat)(h:E.length=n):Dn (some ⟨false,sz,E.map f,lent⟩) n true 0=some (.agg (E.map f)):=
 KJ sz lent _ n (by simpa using h)
theorem Ylh(x v:D)(l:List D)(hv:v.isCell=true):DQ (some ⟨false,sz,x::l,false⟩) 1 0 v=some ⟨false,sz,v::l,false⟩:=by
 simp[DQ,Pk hv,hv,E8]
theorem Yli(x:D)(k:IntKind)(n:Int)(l:List D):DQ (some ⟨false,sz,x::l,false⟩) 1 0 (.int k n)=some ⟨false,sz,.int k n::l,false⟩:=Ylh sz _ _ _ rfl
theorem Ylj(d e:Dig):DQ (some ⟨false,sz,CW d,false⟩) 32 0 (CY e)=some ⟨false,sz,CW e,false⟩:=by
 simp[DQ,DH,Sr,IC,pW]
theorem Lj(cs ds:List D)(n:Nat)(h:cs.length=n)(E:ds.length=n)(hc:ds.all D.isCell=true):DQ (some ⟨false,sz,cs,false⟩) n 0 (.agg ds)=some ⟨false,sz,ds,false⟩:=by
 subst h;simp[DQ,D.cells,E,hc,pV _ _ E.symm]
theorem pX(x:D)(k:IntKind)(m:Int)(d e:Dig):DQ (some ⟨false,sz,x::CW d,false⟩) 33 0 (.agg (.int k m::CW e))=some ⟨false,sz,.int k m::CW e,false⟩:=
 Lj sz _ _ 33 (by simp[DH]) (by simp[DH]) (by simp[IC,D.isCell])
theorem lD(f:α→D)(I:∀ a,(f a).isCell=true)(E:List α)(i:Nat)(v:α)(h:i<E.length):DQ (some ⟨false,sz,E.map f,false⟩) 1 i (f v)=some ⟨false,sz,(E.set i v).map f,false⟩:=by
 have J:i+1≤E.length:=h
 have M:E8 (E.map f) i [f v]=(E.set i v).map f:=by
  rw[List.map_set,E8,B4];simp[h]
 simp[DQ,Pk (I v),I v,J,M]
theorem Ydg(E:List UInt8)(i:Nat)(v:UInt8)(h:i<E.length):DQ (some ⟨false,sz,E.map Da,false⟩) 1 i (Da v)=some ⟨false,sz,(E.set i v).map Da,false⟩:=lD sz Da (fun _=>rfl) E i v h
theorem Ydf(E:List UInt32)(i:Nat)(v:UInt32)(h:i<E.length):DQ (some ⟨false,sz,E.map wD,false⟩) 1 i (wD v)=some ⟨false,sz,(E.set i v).map wD,false⟩:=lD sz wD (fun _=>rfl) E i v h
theorem Wq{α:Type}(f:α→D)(I:∀ a,(f a).isCell=true)(E:List α):(E.map f).all D.isCell=true:=by
 grind
theorem Ydh(E vs:List UInt32)(n:Nat)(h:E.length=n)(I:vs.length=n):DQ (some ⟨false,sz,E.map wD,false⟩) n 0 (.agg (vs.map wD))=some ⟨false,sz,vs.map wD,false⟩:=
 Lj sz _ _ n (by simpa using h) (by simpa using I) (Wq wD (fun _=>rfl) vs)
theorem Ydi(E vs:List UInt8)(n:Nat)(h:E.length=n)(I:vs.length=n):DQ (some ⟨false,sz,E.map Da,false⟩) n 0 (.agg (vs.map Da))=some ⟨false,sz,vs.map Da,false⟩:=
 Lj sz _ _ n (by simpa using h) (by simpa using I) (Wq Da (fun _=>rfl) vs)
end
theorem yRo(st:St)(n:Nat)(ag:Bool)(key tot i off:Nat):EV st n ag (.rptr key tot i off)=if !ag && n != 1 then none else(st[key]?).bind fun o=>if o.row && o.els.length == tot then(o.els[i]?).bind fun el=>if off+n≤el.cells.length then some (.mk ag ((el.cells.drop off).take n))else none else none:=by
 simp only[EV];grind
theorem yRt(st:St)(d:Dig):EV st 32 true (.eptr (CY d) 0)=some (CY d):=by
 simp[EV,Sr,DH,V4,bN]
theorem O0(k:IntKind)(n:Int)(h:0≤n):Fk (.int k n)=some n.toNat:=by simp[Fk,h]
theorem zP(k:IntKind):Fk (.int k 0)=some 0:=(rfl)
theorem NW(st:St)(n key off:Nat)(k:IntKind)(i:Int)(E:0≤i)(J:i<(n:Int)):Iu st n 1 (.ptr key off) (.int k i)=some (.ptr key (off+i.toNat)):=by
 have I:i.toNat<n:=by omega
 simp[Iu,O0 k i E,I,EZ]
theorem wi(st:St)(n off:Nat)(E:D)(k:IntKind)(i:Int)(I:0≤i)(M:i<(n:Int)):Iu st n 1 (.eptr E off) (.int k i)=some (.eptr E (off+i.toNat)):=by
 have J:i.toNat<n:=by omega
 simp[Iu,O0 k i I,J,EZ]
theorem yRr[Inhabited α](st:St)(f:α→D)(E:List α)(i:Nat)(h:i<E.length):EV st 1 false (.eptr (.agg (E.map f)) i)=some (f (E.getD i default)):=by
 have:=kP 1 false f E i h;simpa[EV,Dn,D.cells]using this
theorem eN(st:St)(x:D)(h:x.isCell=true):EV st 1 false (.eptr x 0)=some x:=by
 simp[EV,Pk h,D.mk]
theorem aV(st:St)(b:UInt8):EV st 1 false (.eptr (Da b) 0)=some (Da b):=eN st _ rfl
theorem yRs(st:St)(k:IntKind)(n:Int):EV st 1 false (.eptr (.int k n) 0)=some (.int k n):=eN st _ rfl
theorem Ygj[Inhabited α](st:St)(sz:Nat)(f:α→D)(l:List α)(t:Bool)(k:IntKind)(i:Int)(E:0≤i)(J:i<(l.length:Int)) :
  FY st sz (.slc sz (l.map f) t) (.int k i)=some (.eptr (f (l.getD i.toNat default)) 0):=by
 have I:i.toNat<l.length:=by omega
 simp only[FY,O0 k i E,AJ,getElem?_getD l i.toNat I,Ag,beq_self_eq_true,if_true]
theorem Yfo(st:St)(sz:Nat)(els:List D)(t:Bool):EH st false (.slc sz els t)=some (.int .i64 (els.length:Int)):=(rfl)
theorem Yfn(st:St)(s:List UInt8):EH st true (.str s)=some (.int .i64 (s.length:Int)):=(rfl)
theorem Yfp(st:St)(key tot off len:Nat):EH st false (.row key tot off len)=if Ez st key tot then some (.int .i64 (len:Int))else none:=by
 simp only[EH,IZ,EK,beq_self_eq_true,if_true];grind
theorem Yet(st:St)(sz bytes key tot:Nat)(x:D)(o:Obj)(xs:List D)(E:Nat)(I:st[key]?=some o)(J:o.row=true)(M:o.sz=sz)(N:o.els.length=tot)
  (O:Gt st x=some (E,xs)) (U:E=sz∨xs=[]) (V:sz≠0) (hb:(tot+xs.length)*bytes≤140737488355328) (hl:tot+xs.length≤4294967296) :
  D7 st sz bytes (.row key tot 0 tot) x=some (.row key (tot+xs.length) 0 (tot+xs.length),st.set key {o with els:=o.els++xs}):=by
 have e:(!(E == sz || xs.isEmpty) || sz == 0)=false:=by
  grind
 simp only[D7,O,e,I,J,M,N,hb,hl,beq_self_eq_true,Az,decide_true,if_true,Al,if_false]
theorem mN(st:St)(sz bytes E:Nat)(els:List D)(x:D)(xs:List D)(I:Nat)(J:Gt st x=some (I,xs))(V:I=sz∨xs=[])(O:E=sz∨els=[])(Y:sz≠0)(U:xs≠[])
  (hb:(els.length+xs.length)*bytes≤140737488355328) (hl:els.length+xs.length≤4294967296) :
  D7 st sz bytes (.slc E els true) x=some (.row st.length (els.length+xs.length) 0 (els.length+xs.length),st++[{row:=true,sz,els:=els++xs,lent:=false}]):=by
 have M:xs.isEmpty=false:=by cases xs <;> simp_all
 have e:(!(I == sz || false) || sz == 0)=false:=by
  grind
 have N:(E == sz || els.isEmpty)=true:=by
  grind
 simp only[D7,J,e,M,N,hb,hl,Az,decide_true,if_true,Al,if_false]
theorem mO(st:St)(sz bytes E:Nat)(els:List D)(x:D)(I:Nat)(J:Gt st x=some (I,[]))(M:sz≠0) :
  D7 st sz bytes (.slc E els true) x=some (.slc E els true,st):=by
 simp[D7,J,M]
theorem qh:∀ (l:List D),IE 1 false l l.length=l
 |[]=>rfl
 |a::l=>by simp[IE,D.mk,qh l]
def DV(sz key:Nat)(els:List D):D:=if els.isEmpty then .slc sz [] true else .row key els.length 0 els.length
def Dp(sz:Nat)(els:List D):St:=if els.isEmpty then []else [{row:=true,sz,els,lent:=false}]
theorem lP(sz key:Nat):DV sz key []=.slc sz [] true:=(rfl)
theorem Yeu(st:St)(sz sz0 bytes:Nat)(els xs:List D)(x:D)(E:Nat)(I:Gt (st++Dp sz els) x=some (E,xs))(J:E=sz∨xs=[])(hs0:sz≠0)
  (hb:(els.length+xs.length)*bytes≤140737488355328) (hl:els.length+xs.length≤4294967296) :
  D7 (st++Dp sz els) sz bytes (DV sz0 st.length els) x=some (DV sz0 st.length (els++xs),st++Dp sz (els++xs)):=by
 cases els with
 |nil=>
  cases xs with
  |nil=>
   rw[lP,mO _ _ _ _ _ _ E I hs0];rfl
  |cons a l=>
   rw[lP,mN _ _ _ _ _ _ (a::l) E I J (.inr rfl) hs0 (by simp) (by simpa using hb) (by simpa using hl)];simp[DV,Dp]
 |cons e r=>
  have M:(st++Dp sz (e::r))[st.length]?=some {row:=true,sz,els:=e::r,lent:=false}:=by simp[Dp]
  have:=Yet (st++Dp sz (e::r)) sz bytes st.length (e::r).length x _ xs E M rfl rfl rfl I J hs0 hb hl;simp only[DV,List.isEmpty_cons,Al,if_false,Ae]at this ⊢;rw[this];simp[Dp,Nat.add_right_comm]
theorem Ysj(fr:Frame)(s t:Nat)(d:D):(fr.set s d) t=if t=s then d else fr t:=(rfl)
theorem Ys8(s t:Nat)(d:D)(r:List (Nat×D)):GC ((s,d)::r) t=if t=s then d else GC r t:=(rfl)
attribute [push_cast] Ywf yRa VE Ycx yQt yQu EC Ykw Tw Yur Ynj Yo8 Yhf Yu8 Uh Yie Yb5 yx yy yNh vT xA xB vI Ygw ze zc Yim Yil Yij Yca Yii Yik Yih Ygx vG vH Ygv vF zf vE vB Ylu Ydw Ydv Option.isNone_none Option.isNone_some
attribute [push_cast] kY Ymi Ye8 Ygh wj Ycv yQq yQr Ynn Yf7 Yt8 Ynh Ynk Yf6 UK UE Ytx UL UM Yt7 Ytz Ytw Yty UN UO UQ fV Yt5 Yng Yne Yf5 UI Yt4 Yt2 Yt3 UH Yt1 UG Yt0 UP fW UF Ynf Ynl Ynm Yni Yt6 UJ Yei Yej Ysj T9 Ua Ys8 Yv5 Yv4 Yv3 Yv2 Yv1 Yv0 Yvz Yvy Ywa VD VA yH yG Yc8 Ywe Yql Ye1 Ymf Ysu Ywd VB Ydx xS nk oD Ycg
attribute [push_cast] Yny Va Yu2 yR0 yLx yR1 Yu1 Yu0 Yuz Ynv m0 Yul ni DH IC Sr pg bN Yqf Ymq Ys7 V4 Yp0 Yqh yRt w9 xg P8 m5 Ym6 WA kP zz Yli Ylj pX Ydg Ydf Ydh Ydi aV yRs yRr Yfo Yfn
theorem kH(st:St)(k:IntKind)(n:Int):DN st (.int k n)=some (.int k n):=(rfl)
theorem Yge(st:St)(b:Bool):DN st (.bool b)=some (.bool b):=(rfl)
theorem Ynr(st:St)(s:List UInt8):DN st (.str s)=some (.str s):=(rfl)
theorem Yns(st:St)(sz:Nat)(els:List D)(t:Bool):DN st (.slc sz els t)=some (.slc (nz sz els) els false):=(rfl)
theorem Ynt(st:St)(key tot off len:Nat):DN st (.row key tot off len)=(Hb st key tot off len).map fun p=>.slc (nz p.1 p.2) p.2 false:=(rfl)
theorem kS(st:St)(l:List D):DN st (.agg l)=(DM st l).map .agg:=(rfl)
theorem Ygf(st:St):DM st []=some []:=(rfl)
theorem ox(st:St)(d:D)(l:List D):DM st (d::l)=(Du st d).bind fun x=>(DM st l).map (x::·):=by
 simp only[DM]
 cases Du st d with
 |none=>rfl
 |some x=>cases DM st l <;> rfl
theorem Yga(st:St):DZ st []=some []:=(rfl)
theorem vX(st:St)(d:D)(l:List D):DZ st (d::l)=(DN st d).bind fun x=>(DZ st l).map (x::·):=by
 simp only[DZ]
 cases DN st d with
 |none=>rfl
 |some x=>cases DZ st l <;> rfl
theorem ml(st:St)(d:Dig):DM st (CW d)=some (CW d):=QK st (Sq d)
theorem Ygp(s:PS):Fi s []=some []:=(rfl)
theorem vM(s:PS)(r:PRes)(l:List PRes):Fi s (r::l)=(r.get s).bind fun x=>(Fi s l).map (x::·):=by
 simp only[Fi]
 cases r.get s with
 |none=>rfl
 |some x=>cases Fi s l <;> rfl
theorem Yol(fr:Frame)(st:St)(t:Nat):PRes.get ⟨fr,st⟩ (.tmp t)=DN st (fr t):=(rfl)
theorem Ygs(fr:Frame)(st:St)(t n:Nat)(ag:Bool):PRes.get ⟨fr,st⟩ (.cell t n ag)=(EV st n ag (fr t)).bind fun d=>DN st d:=by
 simp only[PRes.get];grind
theorem eu(s:PS):DI s []=some []:=(rfl)
theorem ew(fr:Frame)(st:St)(t:Nat)(l:List PRes):DI ⟨fr,st⟩ (.tmp t::l)=(DI ⟨fr,st⟩ l).map (fr t::·):=(rfl)
theorem Yex(d:D):Dz [d]=d:=(rfl)
theorem Yew(a b:D)(l:List D):Dz (a::b::l)=.tup (a::b::l):=(rfl)
theorem Yey:Dz []=.tup []:=(rfl)
theorem wC(k:IntKind)(n:Int):(D.int k n).noRef=true:=(rfl)
theorem yR9(b:Bool):(D.bool b).noRef=true:=(rfl)
theorem wE(sz:Nat)(els:List D)(t:Bool):(D.slc sz els t).noRef=false:=(rfl)
theorem m4(k:IntKind)(n:Int):keys (.int k n)=[]:=(rfl)
theorem wc(b:Bool):keys (.bool b)=[]:=(rfl)
theorem Yfx(s:List UInt8):keys (.str s)=[]:=(rfl)
theorem Yfy(sz:Nat)(els:List D)(t:Bool):keys (.slc sz els t)=[]:=(rfl)
theorem Yfz(key tot off len:Nat):keys (.row key tot off len)=[key]:=(rfl)
theorem Yuk(k:IntKind)(n:Int):hk (.int k n)=[]:=(rfl)
theorem Yn9(b:Bool):hk (.bool b)=[]:=(rfl)
theorem Yue(s:List UInt8):hk (.str s)=[]:=(rfl)
theorem Yuf(sz:Nat)(els:List D)(t:Bool):hk (.slc sz els t)=[]:=(rfl)
theorem Yug(key tot off len:Nat):hk (.row key tot off len)=[key]:=(rfl)
theorem Yuh(key off:Nat):hk (.ptr key off)=[key]:=(rfl)
theorem Yud(l:List D):hk (.tup l)=[]:=(rfl)
theorem Yn6:hk .junk=[]:=(rfl)
theorem Ylz(n:Nat)(σ:List Nat)(k:IntKind)(m:Int):Ed n σ (.int k m)=.int k m:=(rfl)
theorem Yd6(n:Nat)(σ:List Nat)(b:Bool):Ed n σ (.bool b)=.bool b:=(rfl)
theorem Ylv(n:Nat)(σ:List Nat)(s:List UInt8):Ed n σ (.str s)=.str s:=(rfl)
theorem Ylw(n:Nat)(σ:List Nat)(sz:Nat)(els:List D)(t:Bool):Ed n σ (.slc sz els t)=.slc sz els t:=(rfl)
theorem Ylx(n:Nat)(σ:List Nat)(key tot off len:Nat):Ed n σ (.row key tot off len)=Ix (fun k=>.row k tot off len) (Eu n σ key):=(rfl)
theorem Yly(n:Nat)(σ:List Nat)(key off:Nat):Ed n σ (.ptr key off)=Ix (fun k=>.ptr k off) (Eu n σ key):=(rfl)
theorem yLz(f:Nat→D)(k:Nat):Ix f (some k)=f k:=(rfl)
theorem Yia(k:IntKind)(n:Int):Dv (.int k n)=some [.int k n]:=(rfl)
theorem Ybz(b:Bool):Dv (.bool b)=some [.bool b]:=(rfl)
theorem Yh9(sz:Nat)(els:List D)(t:Bool):Dv (.slc sz els t)=some [.slc sz els t]:=(rfl)
theorem Yao(k:IntKind)(n:Int):(D.int k n).cells=[.int k n]:=(rfl)
theorem yN(b:Bool):(D.bool b).cells=[.bool b]:=(rfl)
theorem Yal(sz:Nat)(els:List D)(t:Bool):(D.slc sz els t).cells=[.slc sz els t]:=(rfl)
theorem Yam(key tot off len:Nat):(D.row key tot off len).cells=[.row key tot off len]:=(rfl)
theorem Yap(l:List D):(D.agg l).cells=l:=(rfl)
theorem pE(k:IntKind)(n:Int):(D.int k n).isCell=true:=(rfl)
theorem yMn(b:Bool):(D.bool b).isCell=true:=(rfl)
theorem zw(sz:Nat)(els:List D)(t:Bool):(D.slc sz els t).isCell=true:=(rfl)
theorem z6(key tot off len:Nat):(D.row key tot off len).isCell=true:=(rfl)
theorem Yrq(b:Bool):LZ .not (.bool b)=some (.bool !b):=(rfl)
theorem Yp4(k:IntKind)(a b:Int):Dd .lss (.int k a) (.int k b)=some (.bool (decide (a<b))):=by simp only[Dd,if_true,IT,Ag]
theorem Yp5(k:IntKind)(a b:Int):Dd .leq (.int k a) (.int k b)=some (.bool (decide (a≤b))):=by simp only[Dd,if_true,IT,Ag]
theorem Yp6(k:IntKind)(a b:Int):Dd .gtr (.int k a) (.int k b)=some (.bool (decide (b<a))):=by simp only[Dd,if_true,IT,Ag,gt_iff_lt]
theorem Yp7(k:IntKind)(a b:Int):Dd .geq (.int k a) (.int k b)=some (.bool (decide (b≤a))):=by simp only[Dd,if_true,IT,Ag,ge_iff_le]
theorem tA(k:IntKind)(a b:Int):Dd .eql (.int k a) (.int k b)=some (.bool (decide (a=b))):=by
 simp only[Dd,if_true,IT,Ag];rfl
theorem Yp3(k:IntKind)(a b:Int):Dd .neq (.int k a) (.int k b)=some (.bool (!decide (a=b))):=by
 simp only[Dd,if_true,IT,Ag];rfl
theorem Yid(E a b:Bool):L0 E (.bool a) (.bool b)=some (.bool ((a == b) != E)):=(rfl)
theorem Ys6(k k':IntKind)(a b:Int):Rt true (.int k a) (.int k' b)=some (.int k (max a b)):=by
 simp only[Rt,if_true]
 congr 2
 omega
theorem Ys5(k k':IntKind)(a b:Int):Rt false (.int k a) (.int k' b)=some (.int k (min a b)):=by
 simp only[Rt,Al,if_false]
 congr 2
 omega
theorem Ymp(k k' E:IntKind)(a b c:Int):Nw true (.int k a) (.int k' b) (.int E c)=some (.int k (max (max a b) c)):=by
 simp only[Nw,L3,if_true]
 congr 2
 omega
theorem Yep(st:St)(off key o:Nat):EZ st off (.ptr key o)=some (.ptr key (o+off)):=(rfl)
theorem xF(st:St)(off:Nat)(E:D)(o:Nat):EZ st off (.eptr E o)=some (.eptr E (o+off)):=(rfl)
theorem Yfm(st:St):lend [] st=st:=(rfl)
theorem wM(k:Nat)(r:List Nat)(st:St):lend (k::r) st=lend r (st.modify k fun o=>{o with lent:=true}):=(rfl)
theorem yMl(b:Bool)(x:St):(if b=true then x else x)=x:=by cases b <;> rfl
theorem p9(n sz:Nat)(ag:Bool)(key off:Nat)(h:0<n):NR n sz ag (.ptr key off) none none=some (.bsl key off n sz ag):=by
 have:¬ 0=n:=by omega
 simp[NR,FO,this]
attribute [push_cast] kH Yge Ynr Yns Ynt kS Ygf ox Yga vX ml Ygp vM Yol Ygs eu ew Yex Yew Yey wC yR9 wE m4 wc Yfx Yfy Yfz Yuk Yn9 Yue Yuf Yug Yuh Yud Yn6 Ylz Yd6 Ylv Ylw Ylx Yly yLz Yia Ybz Yh9 Yao yN Yal Yam Yap pE yMn zw z6 Yrq Yp4 Yp5 Yp6 Yp7 tA Yp3 Yid Ys6 Ys5 Ymp Yep xF Yfm wM yMl Option.map_some Option.map_none Option.bind_some Option.bind_none List.map_cons List.map_nil List.flatMap_cons List.flatMap_nil List.append_nil List.nil_append List.cons_append List.getElem?_cons_zero List.getElem?_cons_succ List.set_cons_zero List.set_cons_succ List.modify_zero_cons List.modify_succ_cons List.length_cons List.length_nil List.length_map List.take_zero List.take_succ_cons List.all_cons List.all_nil Nat.zero_add Nat.add_zero Bool.not_true Bool.not_false Bool.and_self Bool.true_and Bool.and_true Bool.false_and Bool.and_false Bool.or_false Bool.false_or Bool.true_or Bool.or_true Bool.not_not if_true if_false decide_true decide_false beq_self_eq_true Bool.false_eq_true Bool.true_eq_false ne_eq bne_self_eq_false Bool.bne_false Bool.bne_true Nat.lt_irrefl Nat.le_refl
def Lu(fr:Frame):List Nat→List Nat
 |[]=>[]
 |k::r=>hk (fr k)++Lu fr r
def IY(fr:Frame)(n:Nat)(σ:List Nat):List Nat→List (Nat×D)
 |[]=>[]
 |k::r=>(k,Ed n σ (fr k))::IY fr n σ r
def Iq:St→List Nat
 |[]=>[]
 |o::r=>(if o.row then []else o.els.flatMap hk)++Iq r
def K9(n:Nat)(σ:List Nat)(st:St):List Nat→St
 |[]=>[]
 |k::r=>EL n σ (st.getD k default)::K9 n σ st r
def IP(n:Nat)(σ:List Nat):St→St
 |[]=>[]
 |o::r=>EL n σ o::IP n σ r
def Sf(keep:List Nat)(n m:Nat)(l:List Nat)(fr:Frame)(st:St):PS:=restrictAt keep n (EJ n m l []) ⟨fr,st⟩
theorem dK(fr:Frame):∀ keep:List Nat,Lu fr keep=keep.flatMap fun k=>hk (fr k)
 |[]=>rfl
 |k::r=>by rw[Lu,Au,dK fr r]
theorem ti:∀ st:St,Iq st=st.flatMap fun o=>if o.row then []else o.els.flatMap hk
 |[]=>rfl
 |k::r=>by rw[Iq,Au,ti r]
theorem RL(fr:Frame)(n:Nat)(σ:List Nat):∀ keep:List Nat,IY fr n σ keep=keep.map fun k=>(k,Ed n σ (fr k))
 |[]=>rfl
 |k::r=>by rw[IY,Ax,RL fr n σ r]
theorem eM(n:Nat)(σ:List Nat)(st:St):∀ l:List Nat,K9 n σ st l=l.map fun k=>EL n σ (st.getD k default)
 |[]=>rfl
 |k::r=>by rw[K9,Ax,eM n σ st r]
theorem YZ(n:Nat)(σ:List Nat):∀ st:St,IP n σ st=st.map (EL n σ)
 |[]=>rfl
 |k::r=>by rw[IP,Ax,YZ n σ r]
def ZZ(keep:List Nat)(n:Nat)(fr:Frame)(st:St):PS:=Sf keep n st.length (Lu fr keep++Iq (st.take n)) fr st
theorem yLi(keep:List Nat)(n:Nat)(fr:Frame)(st:St):restrict keep n ⟨fr,st⟩=ZZ keep (if n≤st.length then n else st.length) fr st:=by
 simp only[restrict,ZZ,Sf,S3,dK,ti]
theorem yHp(keep:List Nat)(n:Nat)(fr:Frame)(st:St):ZZ keep n fr st=Sf keep n st.length (Lu fr keep++Iq (st.take n)) fr st:=(rfl)
def Sk(keep:List Nat)(n:Nat)(σ:List Nat)(fr:Frame)(st:St):PS:=⟨GC (IY fr n σ keep),IP n σ (st.take n)++K9 n σ st σ⟩
theorem yHq(keep:List Nat)(n m:Nat)(l:List Nat)(fr:Frame)(st:St):Sf keep n m l fr st=Sk keep n (EJ n m l []) fr st:=by
 simp only[Sf,restrictAt,Sk,RL,picked,YZ,eM]
theorem yEq(keep:List Nat)(n:Nat)(σ:List Nat)(fr:Frame)(st:St):restrictAt keep n σ ⟨fr,st⟩=Sk keep n σ fr st:=by
 simp only[restrictAt,Sk,RL,picked,YZ,eM]
theorem yHo(keep:List Nat)(n:Nat)(σ:List Nat)(fr:Frame)(st:St):Sk keep n σ fr st=⟨GC (IY fr n σ keep),IP n σ (st.take n)++K9 n σ st σ⟩:=(rfl)
theorem vO(fr:Frame):Lu fr []=[]:=(rfl)
theorem zT(fr:Frame)(k:Nat)(r:List Nat):Lu fr (k::r)=hk (fr k)++Lu fr r:=(rfl)
theorem vN(fr:Frame)(n:Nat)(σ:List Nat):IY fr n σ []=[]:=(rfl)
theorem zS(fr:Frame)(n:Nat)(σ:List Nat)(k:Nat)(r:List Nat):IY fr n σ (k::r)=(k,Ed n σ (fr k))::IY fr n σ r:=(rfl)
theorem Yh7:Iq []=[]:=(rfl)
theorem Yh6(sz:Nat)(els:List D)(lent:Bool)(r:St):Iq ({row:=true,sz,els,lent}::r)=Iq r:=(rfl)
theorem Yh8(sz:Nat)(els:List D)(lent:Bool)(r:St):Iq ({row:=false,sz,els,lent}::r)=els.flatMap hk++Iq r:=(rfl)
theorem wT(n:Nat)(σ:List Nat)(st:St):K9 n σ st []=[]:=(rfl)
theorem z7(n:Nat)(σ:List Nat)(st:St)(k:Nat)(r:List Nat):K9 n σ st (k::r)=EL n σ (st.getD k default)::K9 n σ st r:=(rfl)
theorem Yd7(n:Nat)(σ:List Nat):IP n σ []=[]:=(rfl)
theorem xw(n:Nat)(σ:List Nat)(o:Obj)(r:St):IP n σ (o::r)=EL n σ o::IP n σ r:=(rfl)
theorem Yc0(lo hi:Nat)(E:List Nat):EJ lo hi [] E=E:=(rfl)
theorem ya(lo hi k:Nat)(r E:List Nat):EJ lo hi (k::r) E=EJ lo hi r (if lo≤k∧k<hi∧E.contains k=false then E++[k]else E):=(rfl)
theorem Yl4(n:Nat)(σ:List Nat)(key:Nat):Eu n σ key=if key<n then some key else Oj σ n key:=(rfl)
theorem Yem(k k':Nat)(r:List Nat)(b:Nat):Oj (k::r) b k'=if k'=k then some b else Oj r (b+1) k':=(rfl)
theorem Yd8(n:Nat)(σ:List Nat)(sz:Nat)(els:List D)(lent:Bool):EL n σ {row:=true,sz,els,lent}={row:=true,sz,els,lent}:=(rfl)
theorem Yd9(n:Nat)(σ:List Nat)(sz:Nat)(els:List D)(lent:Bool):EL n σ {row:=false,sz,els,lent}={row:=false,sz,els:=els.map (Ed n σ),lent}:=(rfl)
theorem Yee(n:Nat)(σ:List Nat)(k:IntKind)(m:Int):Ek n σ (.int k m)=.int k m:=(rfl)
theorem xu(n:Nat)(σ:List Nat)(b:Bool):Ek n σ (.bool b)=.bool b:=(rfl)
theorem Yec(n:Nat)(σ:List Nat)(sz:Nat)(els:List D)(t:Bool):Ek n σ (.slc sz els t)=.slc sz els t:=(rfl)
theorem Yeb(n:Nat)(σ:List Nat)(s:List UInt8):Ek n σ (.str s)=.str s:=(rfl)
theorem Yed(n:Nat)(σ:List Nat)(key tot off len:Nat):Ek n σ (.row key tot off len)=Ix (fun k=>.row k tot off len) (Eu n σ key):=(rfl)
theorem Yod(k:IntKind)(m:Int):Dm (.int k m)=[]:=(rfl)
theorem Ygl(b:Bool):Dm (.bool b)=[]:=(rfl)
theorem Yob(sz:Nat)(els:List D)(t:Bool):Dm (.slc sz els t)=[]:=(rfl)
theorem Yoa(s:List UInt8):Dm (.str s)=[]:=(rfl)
theorem Yoc(key tot off len:Nat):Dm (.row key tot off len)=[key]:=(rfl)
theorem Yuo(key off m sz:Nat)(ag:Bool):hk (.bsl key off m sz ag)=[key]:=(rfl)
theorem Yn1(key tot i off:Nat):hk (.rptr key tot i off)=[key]:=(rfl)
theorem Yn5(key:Nat):hk (.mapv key)=[key]:=(rfl)
theorem Yn4:hk .nilf=[]:=(rfl)
theorem Yn2:hk .nilp=[]:=(rfl)
theorem Yn3:hk .nilm=[]:=(rfl)
theorem Yn7(l:List (Int×Nat)):hk (.gmap l)=[]:=(rfl)
theorem Yd5(n:Nat)(σ:List Nat)(l:List (Int×Nat)):Ed n σ (.gmap l)=.gmap l:=(rfl)
theorem Yd1(n:Nat)(σ:List Nat):Ed n σ .nilm=.nilm:=(rfl)
theorem Yd4(n:Nat)(σ:List Nat)(key:Nat):Ed n σ (.mapv key)=Ix .mapv (Eu n σ key):=(rfl)
theorem Yd2(n:Nat)(σ:List Nat):Ed n σ .nilf=.nilf:=(rfl)
theorem Yd0(n:Nat)(σ:List Nat):Ed n σ .nilp=.nilp:=(rfl)
def QT(keep:List Nat)(n:Nat)[Inv:InvC][Q:QC](e:Ex)(fr:Frame)(st:St):Prop:=match e with
 |.next=>Inv.run (restrict keep n ⟨fr,st⟩)
 |e=>Q.run e fr st
def Ye(s:PS)[Inv:InvC]:Prop:=Inv.run s
theorem zG(keep:List Nat)(n:Nat)(E:PS→Prop)(Q:QC)(fr:Frame)(st:St):@QT keep n ⟨E⟩ Q .next fr st=@Ye (restrict keep n ⟨fr,st⟩) ⟨E⟩:=(rfl)
theorem zF(keep:List Nat)(n:Nat)(E:InvC)(Q:Ex→Frame→St→Prop)(I:Nat)(fr:Frame)(st:St):@QT keep n E ⟨Q⟩ (.exit I) fr st=Q (.exit I) fr st:=(rfl)
theorem wq(keep:List Nat)(n:Nat)(E:InvC)(Q:Ex→Frame→St→Prop)(fr:Frame)(st:St):@QT keep n E ⟨Q⟩ .ret fr st=Q .ret fr st:=(rfl)
theorem yL9(keep:List Nat)(n:Nat)(E:InvC)(Q:Ex→Frame→St→Prop)(t:Nat)(d:D)(fr:Frame)(st:St):@QT keep n E ⟨Q⟩ (.panic t d) fr st=Q (.panic t d) fr st:=(rfl)
theorem Gy(E:ι→List (Nat×D))(I:ι→St)(P:ι→Prop)(μ:ι→Nat)(J:ι)
  (N:restrict keep st.length ⟨fr,st⟩=⟨GC (E J),I J⟩) (O:P J)
  (M:∀ i,P i→@wW G T c (GC (E i)) (I i) ⟨@QT keep st.length ⟨fun s=>∃ j,(P j∧μ j<μ i)∧s=⟨GC (E j),I j⟩⟩ ⟨Q⟩⟩):@wW G T (.loop keep c) fr st ⟨Q⟩:=by
 refine Zz (Ywc E I P μ J N O fun i hi=>Kk c _ _ _ _ (Ir (M i hi)) fun e U st' h=>?_)
 cases e with
 |next=>
  obtain⟨j,⟨V,Y⟩,h3⟩:=h;grind
 |exit id=>exact h
 |ret=>exact h
 |panic t d=>exact h
theorem Fb{E:ι→List (Nat×D)}{I:ι→St}{P m:ι→Prop}{s:PS}(j:ι)(J:P j)(M:m j)(N:s=⟨GC (E j),I j⟩):@Ye s ⟨fun s=>∃ j,(P j∧m j)∧s=⟨GC (E j),I j⟩⟩:=⟨j,⟨J,M⟩,N⟩
def S9(keep:List Nat)[Inv:InvC][Q:QC](e:Ex)(fr:Frame)(st:St):Prop:=match e with
 |.next=>Inv.run (keepAll keep ⟨fr,st⟩)
 |e=>Q.run e fr st
theorem yMa(keep:List Nat)(E:PS→Prop)(Q:QC)(fr:Frame)(st:St):@S9 keep ⟨E⟩ Q .next fr st=@Ye (keepAll keep ⟨fr,st⟩) ⟨E⟩:=(rfl)
theorem yMb(keep:List Nat)(E:InvC)(Q:Ex→Frame→St→Prop)(I:Nat)(fr:Frame)(st:St):@S9 keep E ⟨Q⟩ (.exit I) fr st=Q (.exit I) fr st:=(rfl)
theorem zD(keep:List Nat)(E:InvC)(Q:Ex→Frame→St→Prop)(fr:Frame)(st:St):@S9 keep E ⟨Q⟩ .ret fr st=Q .ret fr st:=(rfl)
theorem yIf(keep:List Nat)(E:InvC)(Q:Ex→Frame→St→Prop)(t:Nat)(d:D)(fr:Frame)(st:St):@S9 keep E ⟨Q⟩ (.panic t d) fr st=Q (.panic t d) fr st:=(rfl)
def Zs(fr:Frame):List Nat→List (Nat×D)
 |[]=>[]
 |k::l=>(k,fr k)::Zs fr l
theorem wa(fr:Frame):Zs fr []=[]:=(rfl)
theorem zx(fr:Frame)(k:Nat)(l:List Nat):Zs fr (k::l)=(k,fr k)::Zs fr l:=(rfl)
theorem fv(T:Tbl)(l:Nat)(y:List D→St→Option (D×St)):(gR T l y).p=T.p:=(rfl)
theorem fy(T:Tbl)(l:Nat)(y:List D→St→Option (D×St)):(gR T l y).i=T.i:=(rfl)
theorem fw(T:Tbl)(l:Nat)(y:List D→St→Option (D×St)):(gR T l y).m=T.m:=(rfl)
theorem tH(T:Tbl)(f:Nat)(E:List D)(h:f<5000000):Kc T (.clo f E)=(T.i f).map fun sp=>(sp,[],E):=by
 simp only[Kc,if_pos h]
theorem N5(T:Tbl)(f f':Nat)(E:List D)(h:f=f'+5000000)(I:f'<5000000):Kc T (.clo f E)=(T.i f').map fun sp=>(sp,E,[]):=by
 subst h;simp only[Kc,if_neg (show ¬ f'+5000000<5000000 by omega),if_pos (show f'+5000000<10000000 by omega),Cj]
theorem Ti(f:Nat)(E ds:List D)(h:f<5000000):ND (.clo f E) ds=some (f,ds++E):=by
 simp only[ND,if_pos h]
theorem vZ(k:IntKind)(n:Int):KB (.int k n)=true:=(rfl)
theorem z4(k:IntKind)(n:Int):KB (.agg [.int k n])=true:=(rfl)
attribute [push_cast] yQy Ywb VC xD yn yKj yKk yQs Ye7 wI zL zK zN zM yRc Ydz xz yRe xx yRf yLg vZ z4
attribute [irreducible] S9
attribute [push_cast] yMa yMb zD wa zx fv fy fw tH N5 Ti Ykv
attribute [irreducible] QT Ye
attribute [push_cast] zG zF wq yL9 yIf
attribute [push_cast] Yuo Yn1 Yn5 Yn4 Yn2 Yn3 Yn7 Yd5 Yd1 Yd4 Yd2 Yd0 Yea Ygk
attribute [push_cast] yEq yLi yHp yHq yHo vO zT vN zS Yh7 Yh6 Yh8 wT z7 Yd7 xw Yc0 ya Yl4 Yem Yd8 Yd9 Yee xu Yec Yeb Yed Yod Ygl Yob Yoa Yoc List.getD_cons_zero List.getD_cons_succ List.contains_nil List.contains_cons false_and and_false and_true true_and and_self Int.toNat_natCast Int.cast_ofNat_Int Int.toNat_zero Int.toNat_one
noncomputable def Dc{α:Type}(enc:α→List D)(pre:α→Prop)(f:α→D):List D→Option D:=
 fun ds=>@dite _ (∃ a,enc a=ds∧pre a) (Classical.propDecidable _) (fun h=>some (f h.choose)) (fun _=>none)
theorem eG{enc:α→List D}{pre:α→Prop}{f:α→D}(h:Dc enc pre f ds=some d):∃ a,enc a=ds∧pre a∧f a=d:=by
 unfold Dc at h
 split at h
 ·grind
 ·cases h
theorem DW{enc:α→List D}{pre:α→Prop}{f:α→D}(E:∀ a b,enc a=enc b→a=b)(a:α)(I:pre a):Dc enc pre f (enc a)=some (f a):=by
 have J:∃ b,enc b=enc a∧pre b:=⟨a,rfl,I⟩;unfold Dc;grind
def DY{α:Type}:List (Nat×α)→Nat→Option α
 |[],_=>none
 |(k,a)::r,n=>if n=k then some a else DY r n
def tb(l:List (Nat×(List D→Option D)))(li:List (Nat×(List D→St→Option (D×St))))(lm:List (Nat×(List D→Option ((Nat→D)×(Nat→List Obj)))):=[]):Tbl:={p:=DY l,i:=DY li,m:=DY lm}
theorem fF(l:List (Nat×(List D→Option D)))(li:List (Nat×(List D→St→Option (D×St))))(E:List (Nat×(List D→Option ((Nat→D)×(Nat→List Obj)))))(n:Nat):(tb l li E).p n=DY l n:=(rfl)
theorem TP(l:List (Nat×(List D→Option D)))(li:List (Nat×(List D→St→Option (D×St))))(E:List (Nat×(List D→Option ((Nat→D)×(Nat→List Obj)))))(n:Nat):(tb l li E).i n=DY li n:=(rfl)
theorem fG(l:List (Nat×(List D→Option D)))(li:List (Nat×(List D→St→Option (D×St))))(E:List (Nat×(List D→Option ((Nat→D)×(Nat→List Obj)))))(n:Nat):(tb l li E).m n=DY E n:=(rfl)
theorem Yfk(n:Nat):DY ([]:List (Nat×α)) n=none:=(rfl)
theorem og(k:Nat)(a:α)(r:List (Nat×α))(n:Nat):DY ((k,a)::r) n=if n=k then some a else DY r n:=(rfl)
theorem JO{α:Type}:∀ {l:List (Nat×α)} {n:Nat} {a:α},DY l n=some a→(n,a)∈l
 |[],_,_,h=>by cases h
 |(k,b)::r,n,a,h=>by
  simp only[DY]at h
  split at h
  ·grind
  ·exact Ar _ (JO h)
variable {li:List (Nat×(List D→St→Option (D×St)))}{l:List (Nat×(List D→Option D))}{P:Program}
theorem DA(h:∀ x∈l,Contract P G x.1 x.2)(hi:∀ x∈li,IContract P G x.1 x.2)(I:l.all (fun x=>decide (x.1<50000000))=true:=by rfl):TblOK P G (tb l li):=
 ⟨fun _ _ E=>.inl ⟨of_decide_eq_true (Aj.1 I _ (JO E)),h _ (JO E)⟩,fun _ _ E=>hi _ (JO E),fun _ _ E=>(by cases E),fun _ _ E=>(by cases E),fun _ _ E=>(by cases E),fun _ _ E=>(by cases E)⟩
def fE(l:List (Nat×(List D→Option D)))(li:List (Nat×(List D→St→Option (D×St))))(lr:List (Nat×((List D→St→Option (D×St))→List D→St→Option (D×St)))):Tbl:={p:=DY l,i:=DY li,m:=fun _=>none,r:=DY lr}
theorem TG(l:List (Nat×(List D→Option D)))(li:List (Nat×(List D→St→Option (D×St))))(E:List (Nat×((List D→St→Option (D×St))→List D→St→Option (D×St))))(n:Nat):(fE l li E).p n=DY l n:=(rfl)
theorem TH(l:List (Nat×(List D→Option D)))(li:List (Nat×(List D→St→Option (D×St))))(E:List (Nat×((List D→St→Option (D×St))→List D→St→Option (D×St))))(n:Nat):(fE l li E).i n=DY li n:=(rfl)
theorem TF(l:List (Nat×(List D→Option D)))(li:List (Nat×(List D→St→Option (D×St))))(E:List (Nat×((List D→St→Option (D×St))→List D→St→Option (D×St))))(n:Nat):(fE l li E).r n=DY E n:=(rfl)
def Lr(l:List (Nat×(List D→Option D)))(li:List (Nat×(List D→St→Option (D×St))))(lx:List (Nat×(List D→St→Option (Nat×D×St)))):Tbl:={p:=DY l,i:=DY li,m:=fun _=>none,x:=DY lx}
theorem TD(l:List (Nat×(List D→Option D)))(li:List (Nat×(List D→St→Option (D×St))))(E:List (Nat×(List D→St→Option (Nat×D×St))))(n:Nat):(Lr l li E).p n=DY l n:=(rfl)
theorem TE(l:List (Nat×(List D→Option D)))(li:List (Nat×(List D→St→Option (D×St))))(E:List (Nat×(List D→St→Option (Nat×D×St))))(n:Nat):(Lr l li E).i n=DY li n:=(rfl)
theorem TC(l:List (Nat×(List D→Option D)))(li:List (Nat×(List D→St→Option (D×St))))(E:List (Nat×(List D→St→Option (Nat×D×St))))(n:Nat):(Lr l li E).x n=DY E n:=(rfl)
theorem MN{I:List (Nat×(List D→St→Option (Nat×D×St)))}(h:∀ x∈l,Contract P G x.1 x.2)(hi:∀ x∈li,IContract P G x.1 x.2)
  (M:∀ x∈I,O8 P G x.1 x.2) (J:l.all (fun x=>decide (x.1<50000000))=true:=by rfl):TblOK P G (Lr l li I):=
 ⟨fun _ _ E=>.inl ⟨of_decide_eq_true (Aj.1 J _ (JO E)),h _ (JO E)⟩,fun _ _ E=>hi _ (JO E),fun _ _ E=>(by cases E),fun _ _ E=>(by cases E),fun _ _ E=>M _ (JO E),fun _ _ E=>(by cases E)⟩
def Px(l:List (Nat×(List D→Option D)))(li:List (Nat×(List D→St→Option (D×St))))(lq:List (Nat×(List D→List (Option (Bool×Nat×List D))→Option D))):Tbl:={p:=DY l,i:=DY li,m:=fun _=>none,q:=DY lq}
theorem TJ(l:List (Nat×(List D→Option D)))(li:List (Nat×(List D→St→Option (D×St))))(E:List (Nat×(List D→List (Option (Bool×Nat×List D))→Option D)))(n:Nat):(Px l li E).p n=DY l n:=(rfl)
theorem TK(l:List (Nat×(List D→Option D)))(li:List (Nat×(List D→St→Option (D×St))))(E:List (Nat×(List D→List (Option (Bool×Nat×List D))→Option D)))(n:Nat):(Px l li E).i n=DY li n:=(rfl)
theorem TI(l:List (Nat×(List D→Option D)))(li:List (Nat×(List D→St→Option (D×St))))(E:List (Nat×(List D→List (Option (Bool×Nat×List D))→Option D)))(n:Nat):(Px l li E).q n=DY E n:=(rfl)
theorem ck{I:List (Nat×(List D→List (Option (Bool×Nat×List D))→Option D))}(h:∀ x∈l,Contract P G x.1 x.2)(hi:∀ x∈li,IContract P G x.1 x.2)
  (M:∀ x∈I,IContract P G x.1 (fun ds st=>(H5 x.2 ds st).map (·,st))) (J:l.all (fun x=>decide (x.1<50000000))=true:=by rfl):TblOK P G (Px l li I):=
 ⟨fun _ _ E=>.inl ⟨of_decide_eq_true (Aj.1 J _ (JO E)),h _ (JO E)⟩,fun _ _ E=>hi _ (JO E),fun _ _ E=>(by cases E),fun _ _ E=>(by cases E),fun _ _ E=>(by cases E),fun _ _ E=>M _ (JO E)⟩
theorem all_nil{p:α→Prop}:∀ x∈([]:List α),p x:=fun _ h=>by cases h
theorem all_cons{p:α→Prop}{a:α}{l:List α}(h:p a)(hl:∀ x∈l,p x):∀ x∈a::l,p x:=by
 grind
theorem D8{il:List Nat}{f:Nat}{hints:List (List Nat)}(E:Dq P il f hints=some F)(I:TblOK P G T){enc:α→List D}{pre:α→Prop}{r:α→D}
  (h:∀ a,pre a→@wW G T F.code (C3 (enc a)) [] ⟨Df F.res (r a)⟩) (J:T.y=fun _ _ _=>none:=by rfl):Contract P G f (Dc enc pre r):=by
 refine mf I J E fun ds d M=>?_;obtain⟨a,rfl,N,rfl⟩:=eG M;exact nq (Ir (h a N))
theorem dY{a b:List Dig}:a.map CY=b.map CY↔a=b:=⟨NQ fun _ _=>mD,fun h=>by rw[h]⟩
theorem Mk{a b:Dig}:CY a=CY b↔a=b:=⟨mD,fun h=>by rw[h]⟩
theorem NU{a b:Dig}:CW a=CW b↔a=b:=⟨Ll,fun h=>by rw[h]⟩
theorem nY{a:List UInt8}:a.map Da=b.map Da↔a=b:=⟨O6,fun h=>by rw[h]⟩
theorem Yh3{a b:UInt8}:Da a=Da b↔a=b:=⟨nX,fun h=>by rw[h]⟩
theorem Kj(sz:Nat)(els:List D):nz (nz sz els) els=nz sz els:=by cases els <;> rfl
theorem Ysy(sz:Nat):nz sz []=0:=(rfl)
theorem Ymk(sz:Nat)(a:D)(l:List D):nz sz (a::l)=sz:=(rfl)
theorem gC(sz:Nat)(els:List D):nz sz els=sz∨els=[]:=by cases els <;> simp[nz]
theorem Lh[Inhabited α](st:St)(sz:Nat)(f:α→D)(l:List α)(t:Bool)(k:IntKind)(i:Int)(E:0≤i)(I:i<(l.length:Int)) :
  FY st sz (.slc (nz sz (l.map f)) (l.map f) t) (.int k i)=some (.eptr (f (l.getD i.toNat default)) 0):=by
 have:nz sz (l.map f)=sz:=by
  rcases gC sz (l.map f)with h | h
  ·exact h
  ·have:l.length=0:=by simpa using congrArg List.length h
   omega
 rw[this];exact Ygj st sz f l t k i E I
attribute [push_cast] Kj Ysy Ymk fF TP fG TG TH TF TD TE TC TJ TK TI Yfk og List.map_nil
theorem mI(h:n≤64):min n.toNat 64=n.toNat:=by omega
variable {x:Int}{k k':IntKind}
theorem rS(hk:k=.i64∨k=.u64)(I:0≤n)(E:n≤64):Dd .shr (.int k x) (.int k' n)=some (.int k (x / 2 ^ n.toNat)):=by
 have hb:k.bits=64:=by rcases hk with rfl | rfl <;> rfl
 simp only[Dd,Le,show ¬ n<0 by omega,if_false,Ag,hb,mI E];grind
theorem Mx(E:0≤n)(I:n≤64):Dd .shr (.int .u64 x) (.int k' n)=some (.int .u64 (x / 2 ^ n.toNat)):=rS (.inr rfl) E I
theorem gJ(E:0≤n)(I:n≤64):Dd .shr (.int .i64 x) (.int k' n)=some (.int .i64 (x / 2 ^ n.toNat)):=rS (.inl rfl) E I
theorem T7(M:0≤n)(E:n≤64)(I:-9223372036854775808≤x*2 ^ n.toNat)(J:x*2 ^ n.toNat<9223372036854775808):Dd .shl (.int .i64 x) (.int k' n)=some (.int .i64 (x*2 ^ n.toNat)):=by
 simp only[Dd,Le,show ¬ n<0 by omega,if_false,Ag,show IntKind.bits .i64=64 from rfl,mI E,N1 I J]
theorem Ylt(E:0≤n)(I:n≤62):Dd .shl (.int .i64 1) (.int k' n)=some (.int .i64 (2 ^ n.toNat)):=by
 have J:(2:Int) ^ n.toNat≤2 ^ 62:=by
  have M:(2:Nat) ^ n.toNat≤2 ^ 62:=Nat.pow_le_pow_right (by decide) (by omega);grind
 have N:(0:Int)≤2 ^ n.toNat:=Int.pow_nonneg (by decide);have:=T7 (x:=1) (k':=k') E (by omega) (by omega) (by rw[Int.one_mul]; omega);grind
theorem Uc{b:Int}(hb:0<b)(E:0≤a)(J:a<9223372036854775808):Dd .quo (.int .i64 a) (.int .i64 b)=some (.int .i64 (a / b)):=by
 have I:a.tdiv b=a / b:=BM E;have M:a / b≤a:=Ce b E;have N:0≤a / b:=Ci E (by omega);simp only[Dd,if_true,JI,show ¬ b=0 by omega,if_false,Ag,I,N1 (show -9223372036854775808≤a / b by omega) (show a / b<9223372036854775808 by omega)]
theorem rQ{b:Int}(hb:0<b)(E:0≤a):Dd .rem (.int .i64 a) (.int .i64 b)=some (.int .i64 (a % b)):=by
 have I:a.tmod b=a % b:=Int.tmod_eq_emod_of_nonneg E;simp only[Dd,if_true,JI,show ¬ b=0 by omega,if_false,Ag,I]
theorem toNat_ofInt(E:0≤a)(I:a<9223372036854775808):(CF 64 a).toNat=a.toNat:=by
 grind
theorem Yqe(E:0≤a)(I:a<9223372036854775808):Dd .and (.int .i64 a) (.int .i64 1)=some (.int .i64 (a % 2)):=by
 have h:(CF (IntKind.bits .i64) a &&& CF (IntKind.bits .i64) 1).toNat=(a % 2).toNat:=by
  show(CF 64 a &&& CF 64 1).toNat=_
  rw[Ct,toNat_ofInt E I,show(CF 64 1).toNat=2 ^ 1 - 1 from rfl,BE];omega
 simp only[Dd,if_true,Kh,Ag,h];rw[N1 (by omega) (by omega)]
 congr 2
 omega
theorem YY(st:St)(E:0≤a)(I:a<9223372036854775808):E7 st (.int .u64) (.int .i64 a)=some (.int .u64 a):=by
 obtain⟨n,rfl⟩:=Bc E;simp only[E7,R4]
 congr 2
 omega
theorem tI(st:St)(I:0≤a)(E:a<9223372036854775808):E7 st (.int .i64) (.int k a)=some (.int .i64 a):=by
 simp only[E7,N1 (show -9223372036854775808≤a by omega) E]
theorem Mj(st:St)(E:0≤a):E7 st (.int .u8) (.int k a)=some (Da (UInt8.ofNat a.toNat)):=by
 obtain⟨n,rfl⟩:=Bc E;rfl
theorem NP(st:St)(b:UInt8):E7 st (.int .i64) (Da b)=some (.int .i64 (b.toNat:Int)):=by
 have:=b.toNat_lt;simp only[Da];exact tI st (by omega) (by omega)
theorem Ynz(s:List UInt8)(k:IntKind)(i:Int)(E:0≤i)(J:i<(s.length:Int)):Jp (.str s) (.int k i)=some (Da (s.getD i.toNat default)):=by
 have I:i.toNat<s.length:=by omega
 simp only[Jp,O0 k i E,getElem?_getD s i.toNat I]
theorem Ygi(s:List UInt8)(b:UInt8)(h:b.toNat<s.length):Jp (.str s) (Da b)=some (Da (s.getD b.toNat default)):=by
 have:=Ynz s .u8 (b.toNat:Int) (by omega) (by omega);simpa[Da]using this
theorem yRl{s:List UInt8}{h:Int}(E:0≤h)(I:h≤(s.length:Int)):Gh st 0 (.str s) none (some (.int k h)) none=some (.str (s.take h.toNat)):=by
 simp[Gh,FO,O0 k h E];omega
theorem Ybn(st:St)(b:UInt8):DN st (Da b)=some (Da b):=(rfl)
theorem zm(b:UInt8):keys (Da b)=[]:=(rfl)
theorem Yh4(b:UInt8):hk (Da b)=[]:=(rfl)
theorem Ybm(n:Nat)(σ:List Nat)(b:UInt8):Ed n σ (Da b)=Da b:=(rfl)
theorem yNe(b:UInt8):(Da b).cells=[Da b]:=(rfl)
theorem yJ6(b:UInt8):(Da b).isCell=true:=(rfl)
theorem yNd(b:UInt8):(Da b).noRef=true:=(rfl)
theorem Ybo(b:UInt8):Dv (Da b)=some [Da b]:=(rfl)
theorem yFb(b:UInt8):E0 1 [Da b]=some (.slc 1 [Da b] true):=(rfl)
theorem yQ(st:St)(s:List UInt8):E7 st .bytes (.str s)=some (.slc 1 (s.map Da) false):=(rfl)
theorem wQ(a:Nat)(l:List D)(t:Bool):E0 1 [.slc a l t]=some (.slc 1 [.slc a l t] true):=(rfl)
theorem wR(a b:Nat)(l m:List D)(t u:Bool):E0 1 [.slc a l t,.slc b m u]=some (.slc 1 [.slc a l t,.slc b m u] true):=(rfl)
theorem wS(a b c:Nat)(l m n:List D)(t u v:Bool):E0 1 [.slc a l t,.slc b m u,.slc c n v]=some (.slc 1 [.slc a l t,.slc b m u,.slc c n v] true):=(rfl)
theorem wP:E0 1 []=some (.slc 1 [] true):=(rfl)
theorem zB:E0 32 []=some (.slc 32 [] true):=(rfl)
theorem JP(k:IntKind)(n:Int)(d:Dig):Dv (.agg (.int k n::CW d))=some (.int k n::CW d):=by
 simp[Dv,D.cells,IC,D.isCell]
theorem yJn(k:IntKind)(n:Int)(d:Dig):(D.agg (.int k n::CW d)).noRef=true:=by
 have:=pg d;simp only[CY,D.noRef]at this;simp[D.noRef,D.noRef1,this]
theorem yMh(k:IntKind)(n:Int)(d:Dig):keys (.agg (.int k n::CW d))=[]:=QJ (by simp[Iv,El,Sq])
theorem yMs(k k':IntKind)(n m:Int)(z d:Dig):DD (.int k n::CW z) [(0,1,.int k' m),(1,32,CY d)]=some (.int k' m::CW d):=by
 have I:E8 (.int k n::CW z) 0 [.int k' m]=.int k' m::CW z:=rfl
 have J:E8 (.int k' m::CW z) 1 (CW d)=.int k' m::CW d:=by
  rw[show(1:Nat)=0+1 from rfl,yKv,pW]
 have E:(CW d).length=32:=DH d;have M:(CW z).length=32:=DH z;simp only[DD,Sr,IC,E];have N:(D.int k' m).cells=[.int k' m]:=rfl;have O:(([D.int k' m].length == 1) && decide (0+1≤(D.int k n::CW z).length) && [D.int k' m].all D.isCell)=true:=by simp[D.isCell]
 grind
attribute [push_cast] JP yJn yMh yMs
theorem mi(st:St)(k:IntKind)(n:Int):Du st (.int k n)=some (.int k n):=(rfl)
theorem wk(st:St)(b:Bool):Du st (.bool b)=some (.bool b):=(rfl)
theorem Ygg(st:St)(s:List UInt8):Du st (.str s)=some (.str s):=(rfl)
theorem dL(st:St)(sz:Nat)(els:List D)(t:Bool):Du st (.slc sz els t)=some (.slc (nz sz els) els false):=(rfl)
attribute [push_cast] mi wk Ygg dL Nat.zero_le
attribute [push_cast] wP zB yQ wQ wR wS
theorem oj(f:α→D)(E:∀ a,El (f a)=true)(l:List α):(l.map f).all El=true:=by
 grind
theorem aF(l:List UInt8):(l.map Da).all El=true:=oj Da (fun _=>rfl) l
theorem aS(l:List UInt32):(l.map wD).all El=true:=oj wD (fun _=>rfl) l
theorem zZ(st:St)(l:List UInt32):DM st (l.map wD)=some (l.map wD):=QK st (aS l)
theorem zX(st:St)(l:List UInt8):DM st (l.map Da)=some (l.map Da):=QK st (aF l)
theorem yRg(n:Nat)(σ:List Nat)(l:List UInt32):(l.map wD).map (Ed n σ)=l.map wD:=N6 n σ (aS l)
theorem yRh(n:Nat)(σ:List Nat)(l:List UInt8):(l.map Da).map (Ed n σ)=l.map Da:=N6 n σ (aF l)
theorem vQ(l:List UInt32):(l.map wD).flatMap hk=[]:=OZ (aS l)
theorem vP(l:List UInt8):(l.map Da).flatMap hk=[]:=OZ (aF l)
attribute [push_cast] yRg yRh vQ vP
theorem yL2(l:List UInt32):(D.agg (l.map wD)).noRef=true:=by
 simp only[D.noRef,Aj,AV];rintro x ⟨a,_,rfl⟩;rfl
theorem Ybv(l:List UInt32):Dv (.agg (l.map wD))=some (l.map wD):=by
 simp only[Dv,D.cells,Wq wD (fun _=>rfl),if_true]
theorem sR{a b:UInt32}(h:wD a=wD b):a=b:=by
 simp only[wD,D.int.injEq,true_and]at h;exact UInt32.toNat_inj.1 (by omega)
theorem Ych{a b:UInt32}:wD a=wD b↔a=b:=⟨sR,fun h=>by rw[h]⟩
theorem yu{a b:List UInt32}:a.map wD=b.map wD↔a=b:=⟨NQ fun _ _=>sR,fun h=>by rw[h]⟩
theorem Yrn(st:St)(b:UInt32):DN st (wD b)=some (wD b):=(rfl)
theorem Ykx(b:UInt32):keys (wD b)=[]:=(rfl)
theorem Ycw(b:UInt32):(wD b).noRef=true:=(rfl)
theorem Tx(b:UInt32):hk (wD b)=[]:=(rfl)
theorem Yrm(n:Nat)(σ:List Nat)(b:UInt32):Ed n σ (wD b)=wD b:=(rfl)
def zW(n:Nat):List UInt32:=CD n 0
theorem Yj2(n:Nat):D.int .u32 0::(zW n).map wD=(zW (n+1)).map wD:=(rfl)
theorem Yj3:[D.int .u32 0,.int .u32 0,.int .u32 0,.int .u32 0,.int .u32 0,.int .u32 0,.int .u32 0,.int .u32 0]=(zW 8).map wD:=(rfl)
theorem Na(f:α→D)(I:∀ a,(f a).isCell=true)(E:List α)(i:Nat)(v:α)(r:List (Nat×Nat×D))(h:i<E.length):DD (E.map f) ((i,1,f v)::r)=DD ((E.set i v).map f) r:=by
 have J:i+1≤E.length:=h
 have M:E8 (E.map f) i [f v]=(E.set i v).map f:=by
  rw[List.map_set,E8,B4];simp[h]
 simp[DD,Pk (I v),I v,J,M]
theorem M3(cs:List D):DD cs []=some cs:=(rfl)
theorem UX(a b c d e f g h:UInt32):DD ((zW 8).map wD) [(0,1,wD a),(1,1,wD b),(2,1,wD c),(3,1,wD d),(4,1,wD e),(5,1,wD f),(6,1,wD g),(7,1,wD h)]=some ([a,b,c,d,e,f,g,h].map wD):=by
 have hf:∀ a,(wD a).isCell=true:=fun _=>rfl;rw[Na wD hf _ _ _ _ (by simp[zW]),Na wD hf _ _ _ _ (by simp[zW]),Na wD hf _ _ _ _ (by simp[zW]),Na wD hf _ _ _ _ (by simp[zW]),Na wD hf _ _ _ _ (by simp[zW]),Na wD hf _ _ _ _ (by simp[zW]),Na wD hf _ _ _ _ (by simp[zW]),Na wD hf _ _ _ _ (by simp[zW]),M3];rfl
theorem Ysh(x:UInt32)(k:IntKind)(z:Int)(E:0≤z)(h:z<32):Dd .shl (wD x) (.int k z)=some (wD (x <<< UInt32.ofNat z.toNat)):=by
 obtain⟨n,rfl⟩:=Bc E;exact rR x k n (by omega)
theorem s9(x:UInt32)(k:IntKind)(z:Int)(E:0≤z)(h:z<32):Dd .shr (wD x) (.int k z)=some (wD (x >>> UInt32.ofNat z.toNat)):=by
 obtain⟨n,rfl⟩:=Bc E;exact rT x k n (by omega)
theorem Ysf(x:UInt64)(k:IntKind)(z:Int)(E:0≤z)(h:z<64):Dd .shr (qD x) (.int k z)=some (qD (x >>> CU z.toNat)):=by
 obtain⟨n,rfl⟩:=Bc E;exact T6 x k n (by omega)
def Kw(s:List UInt8):D:=.slc (nz 1 (s.map Da)) (s.map Da) false
theorem Ypx{a:List UInt8}(h:Kw a=Kw b):a=b:=by
 simp only[Kw,D.slc.injEq]at h;exact O6 h.2.1
theorem Ypw{a b:List (List UInt8)}:a.map Kw=b.map Kw↔a=b:=⟨NQ fun _ _=>Ypx,fun h=>by rw[h]⟩
theorem w8(st:St)(s:List UInt8):EV st 1 false (.eptr (Kw s) 0)=some (.slc (nz 1 (s.map Da)) (s.map Da) false):=eN st _ rfl
theorem TX(sz:Nat)(E I J M N O U V:D)(a b c d e f g h:UInt32):DQ (some ⟨false,sz,[E,I,J,M,N,O,U,V],false⟩) 8 0 (.agg [wD a,wD b,wD c,wD d,wD e,wD f,wD g,wD h])=some ⟨false,sz,[wD a,wD b,wD c,wD d,wD e,wD f,wD g,wD h],false⟩:=Lj sz _ _ 8 rfl rfl rfl
attribute [push_cast] TX zZ zX yL2 Ybv Yrn Ykx Ycw Tx Yrm Yj2 Yj3 UX M3 w8
attribute [push_cast] Ybn zm Yh4 Ybm yNe yJ6 yNd Ybo yFb
set_option linter.unusedSimpArgs false
def E5(n:Nat)(els:List D):List Nat:=if els.isEmpty then []else [n]
theorem Qg(sz key:Nat)(els:List D)(h:els≠[]):DV sz key els=.row key els.length 0 els.length:=by
 cases els with
 |nil=>exact absurd rfl h
 |cons a l=>rfl
theorem OH(sz:Nat)(els:List D)(h:els≠[]):Dp sz els=[{row:=true,sz,els,lent:=false}]:=by
 cases els with
 |nil=>exact absurd rfl h
 |cons a l=>rfl
theorem Yun(sz n:Nat)(els:List D):hk (DV sz n els)=E5 n els:=by cases els <;> rfl
theorem Yl1(sz n:Nat)(els:List D):Ed n (E5 n els) (DV sz n els)=DV sz n els:=by
 cases els with
 |nil=>rfl
 |cons a l=>simp[E5,DV,Ed,Ek,F2,Eu,Oj,Ix]
theorem na(n hi sz:Nat)(els:List D)(r:List Nat)(h:hi=(Dp sz els).length+n):EJ n hi (E5 n els++r) []=EJ n hi r (E5 n els):=by
 cases els with
 |nil=>rfl
 |cons a l=>
  have:n<hi:=by rw[h]; simp[Dp]
  simp[E5,EJ,this]
theorem lH(sz:Nat)(els:List D)(r:List Nat):EJ 1 ((Dp sz els).length+1) (E5 1 els++r) []=EJ 1 ((Dp sz els).length+1) r (E5 1 els):=na 1 _ sz els r (by simp)
theorem Yk0(sz:Nat)(els:List D):EJ 1 ((Dp sz els).length+1) (E5 1 els) []=E5 1 els:=by
 have:=lH sz els [];rwa [Ad]at this
theorem lI(sz:Nat)(els:List D)(r:List Nat):EJ 2 ((Dp sz els).length+1+1) (E5 2 els++r) []=EJ 2 ((Dp sz els).length+1+1) r (E5 2 els):=na 2 _ sz els r (by simp)
theorem Ykz(sz:Nat)(els:List D):EJ 2 ((Dp sz els).length+1+1) (E5 2 els) []=E5 2 els:=by
 have:=lI sz els [];rwa [Ad]at this
theorem mS(l:St)(sz:Nat)(els:List D):K9 l.length (E5 l.length els) (l++Dp sz els) (E5 l.length els)=Dp sz els:=by
 cases els with
 |nil=>rfl
 |cons a r=>simp[E5,Dp,K9,EL]
theorem wU(a:Obj)(sz:Nat)(els:List D):K9 1 (E5 1 els) (a::Dp sz els) (E5 1 els)=Dp sz els:=mS [a] sz els
theorem wV(a b:Obj)(sz:Nat)(els:List D):K9 2 (E5 2 els) (a::b::Dp sz els) (E5 2 els)=Dp sz els:=mS [a,b] sz els
theorem xE(l:St)(sz sz0 E bytes:Nat)(els xs:List D)(t:Bool)(I:E=sz∨xs=[])(hs0:sz≠0)(hb:(els.length+xs.length)*bytes≤140737488355328)(hl:els.length+xs.length≤4294967296) :
  D7 (l++Dp sz els) sz bytes (DV sz0 l.length els) (.slc E xs t)=some (DV sz0 l.length (els++xs),l++Dp sz (els++xs)):=
 Yeu l sz sz0 bytes els xs _ E rfl I hs0 hb hl
section
variable {α:Type} (f:α→D) (a b c d:Obj) (sz sz0 bytes:Nat) (A B:List α) (t:Bool) (hs0:sz≠0) (hb:(A.length+B.length)*bytes≤140737488355328) (hl:A.length+B.length≤4294967296)
include hs0 hb hl
theorem ZO(l:St)(E:Nat)(I:E=sz∨B.map f=[]):D7 (l++Dp sz (A.map f)) sz bytes (DV sz0 l.length (A.map f)) (.slc E (B.map f) t)=some (DV sz0 l.length ((A++B).map f),l++Dp sz ((A++B).map f)):=by
 rw[xE l sz sz0 E bytes (A.map f) (B.map f) t I hs0 (by simpa using hb) (by simpa using hl),Bv]
theorem Ymd:D7 (a::Dp sz (A.map f)) sz bytes (DV sz0 1 (A.map f)) (.slc (nz sz (B.map f)) (B.map f) t)=some (DV sz0 1 ((A++B).map f),a::Dp sz ((A++B).map f)):=ZO f sz sz0 bytes A B t hs0 hb hl [a] _ (gC _ _)
end
section
variable {α:Type} (f:α→D) (a b c d:Obj) (sz sz0 bytes:Nat) (A:List α) (x:α) (t:Bool) (hs0:sz≠0) (hb:(A.length+1)*bytes≤140737488355328) (hl:A.length+1≤4294967296)
include hs0 hb hl
theorem mP(l:St):D7 (l++Dp sz (A.map f)) sz bytes (DV sz0 l.length (A.map f)) (.slc sz [f x] t)=some (DV sz0 l.length ((A++[x]).map f),l++Dp sz ((A++[x]).map f)):=
 ZO f sz sz0 bytes A [x] t hs0 hb hl l sz (.inl rfl)
theorem Ymc:D7 (a::Dp sz (A.map f)) sz bytes (DV sz0 1 (A.map f)) (.slc sz [f x] t)=some (DV sz0 1 ((A++[x]).map f),a::Dp sz ((A++[x]).map f)):=mP f sz sz0 bytes A x t hs0 hb hl [a]
theorem lk:D7 (a::b::Dp sz (A.map f)) sz bytes (DV sz0 2 (A.map f)) (.slc sz [f x] t)=some (DV sz0 2 ((A++[x]).map f),a::b::Dp sz ((A++[x]).map f)):=mP f sz sz0 bytes A x t hs0 hb hl [a,b]
end
theorem pH(f:α→D)(st:St)(sz sz0 bytes:Nat)(B:List α)(t:Bool)(hs0:sz≠0)(hb:B.length*bytes≤140737488355328)(hl:B.length≤4294967296) :
  D7 st sz bytes (.slc sz0 [] true) (.slc (nz sz (B.map f)) (B.map f) t)=some (DV sz0 st.length (B.map f),st++Dp sz (B.map f)):=by
 have:=ZO f sz sz0 bytes [] B t hs0 (by simpa using hb) (by simpa using hl) st _ (gC _ _);simpa[Dp,DV]using this
theorem kW(f:α→D)(sz:Nat)(A:List α)(h:Nat):nz (nz sz (A.map f)) ((A.take h).map f)=nz sz ((A.take h).map f):=by
 cases A with
 |nil=>simp[nz]
 |cons a r=>rfl
theorem kU(f:α→D)(sz:Nat)(A:List α)(l:Nat):nz (nz sz (A.map f)) ((A.drop l).map f)=nz sz ((A.drop l).map f):=by
 cases A with
 |nil=>simp[nz]
 |cons a r=>rfl
theorem oK(st:St)(sz bytes E I:Nat)(els:List D)(t:Bool)(hs0:sz≠0):D7 st sz bytes (.slc E els true) (.slc I [] t)=some (.slc E els true,st):=mO st sz bytes E els _ I rfl hs0
attribute [push_cast] kW kU
theorem Ynw(l:St)(sz sz0:Nat)(els:List D):DN (l++Dp sz els) (DV sz0 l.length els)=some (.slc (nz sz els) els false):=by
 cases els with
 |nil=>rfl
 |cons a r=>simp[DV,Dp,DN,Du,Hb]
theorem sy(a b:Obj)(sz sz0:Nat)(els:List D):DN (a::b::Dp sz els) (DV sz0 2 els)=some (.slc (nz sz els) els false):=Ynw [a,b] sz sz0 els
theorem Yfq(l:St)(sz sz0:Nat)(els:List D):EH (l++Dp sz els) false (DV sz0 l.length els)=some (.int .i64 (els.length:Int)):=by
 cases els with
 |nil=>rfl
 |cons a r=>simp[DV,Dp,EH,IZ,EK,Ez]
theorem Ymz(a:Obj)(sz sz0:Nat)(els:List D):EH (a::Dp sz els) false (DV sz0 1 els)=some (.int .i64 (els.length:Int)):=Yfq [a] sz sz0 els
theorem Ytg(n m:Nat):n≤m+n:=Nat.le_add_left n m
theorem Ye9(key:Nat):D.slc 0 [] true=DV 0 key []:=(rfl)
def Oy(o:Option Obj)(sz bytes tot:Nat)(xs:Option (Nat×List D)):Option Obj:=match o,xs with
 |some o,some (szx,xs)=>if !(szx == sz || xs.isEmpty) || sz == 0 then none
  else if o.row && o.sz == sz && o.els.length == tot && decide ((tot+xs.length)*bytes≤140737488355328) && decide (tot+xs.length≤4294967296)then some {o with els:=o.els++xs} else none
 |_,_=>none
theorem ZX(st:St)(sz bytes key tot:Nat)(x:D):D7 st sz bytes (.row key tot 0 tot) x=(Oy st[key]? sz bytes tot (Gt st x)).map fun o=>(.row key o.els.length 0 o.els.length,st.set key o):=by
 simp only[D7,Oy];grind
theorem cq(f:α→D)(sz bytes:Nat)(A B:List α)(lent:Bool)(hs0:sz≠0)(hb:(A.length+B.length)*bytes≤140737488355328)(hl:A.length+B.length≤4294967296)(E:Nat)(I:E=sz∨B.map f=[]) :
  Oy (some ⟨true,sz,A.map f,lent⟩) sz bytes A.length (some (E,B.map f))=some ⟨true,sz,(A++B).map f,lent⟩:=by
 have e:(!(E == sz || (B.map f).isEmpty) || sz == 0)=false:=by
  grind
 simp only[Oy,e,Al,if_false];grind
theorem Yqb(f:α→D)(sz bytes:Nat)(A:List α)(x:α)(lent t:Bool)(st:St)(hs0:sz≠0)(hb:(A.length+1)*bytes≤140737488355328)(hl:A.length+1≤4294967296) :
  Oy (some ⟨true,sz,A.map f,lent⟩) sz bytes A.length (Gt st (.slc sz [f x] t))=some ⟨true,sz,(A++[x]).map f,lent⟩:=cq f sz bytes A [x] lent hs0 hb hl _ (.inl rfl)
def Zd(o:Option Obj)(tot off len:Nat):Option (Nat×List D):=o.bind fun o=>if o.row && o.els.length == tot && decide (off+len≤tot)then some (o.sz,(o.els.drop off).take len)else none
theorem xT(st:St)(key tot off len:Nat):Hb st key tot off len=Zd st[key]? tot off len:=by
 unfold Hb Zd; cases st[key]? <;> rfl
theorem Yeh(f:α→D)(sz:Nat)(A:List α)(lent:Bool)(off len:Nat)(h:off+len≤A.length):Zd (some ⟨true,sz,A.map f,lent⟩) A.length off len=some (sz,((A.drop off).take len).map f):=by
 simp[Zd,h,Cg,B0]
def PK(o:Option Obj)(tot:Nat):Bool:=match o with
 |some o=>o.row && o.els.length == tot
 |none=>false
theorem Ymx(st:St)(key tot:Nat):Ez st key tot=PK st[key]? tot:=(rfl)
theorem Ymy(f:α→D)(sz:Nat)(A:List α)(lent:Bool):PK (some ⟨true,sz,A.map f,lent⟩) A.length=true:=by simp[PK]
def Ov(o:Option Obj)(sz key tot off len:Nat)(j:Int):Option D:=if 0≤j then o.bind fun o=>if o.row && o.sz == sz && o.els.length == tot && decide (j.toNat<len)then some (.rptr key tot (off+j.toNat) 0)else none else none
theorem mh(st:St)(sz key tot off len:Nat)(k:IntKind)(j:Int):FY st sz (.row key tot off len) (.int k j)=Ov st[key]? sz key tot off len j:=by
 simp only[FY,Ov,Fk];grind
theorem kL(f:α→D)(sz:Nat)(A:List α)(lent:Bool)(key off len:Nat)(j:Int)(E:0≤j)(I:j<(len:Int)):Ov (some ⟨true,sz,A.map f,lent⟩) sz key A.length off len j=some (.rptr key A.length (off+j.toNat) 0):=by
 have:j.toNat<len:=by omega
 simp[Ov,E,this]
def Uw(o:Option Obj)(n:Nat)(ag:Bool)(tot i off:Nat):Option D:=if !ag && n != 1 then none else o.bind fun o=>if o.row && o.els.length == tot then(o.els[i]?).bind fun el=>if off+n≤el.cells.length then some (.mk ag ((el.cells.drop off).take n))else none else none
theorem iF(st:St)(n:Nat)(ag:Bool)(key tot i off:Nat):EV st n ag (.rptr key tot i off)=Uw st[key]? n ag tot i off:=yRo st n ag key tot i off
theorem Yfv[Inhabited α](f:α→D)(E:∀ a,(f a).isCell=true)(sz:Nat)(A:List α)(lent:Bool)(i:Nat)(h:i<A.length):Uw (some ⟨true,sz,A.map f,lent⟩) 1 false A.length i 0=some (f (A.getD i default)):=by
 have:(f A[i]).cells=[f A[i]]:=Pk (E _);simp[Uw,h,this,D.mk,Ao]
def Ot(o:Option Obj)(sz:Nat)(x:D)(key tot off len l h:Nat):Option D:=o.bind fun o=>if o.row && o.sz == sz && o.els.length == tot && sz != 0 then(if l≤h∧h≤len then(if l=0∧h=len then some x else if l=h then some (.slc sz [] false)else some (.row key tot (off+l) (h - l)))else none)else none
theorem yRm(st:St)(sz key tot off len:Nat)(lo hi:Option D):Gh st sz (.row key tot off len) lo hi none=(FO lo 0).bind fun l=>(FO hi len).bind fun h=>Ot st[key]? sz (.row key tot off len) key tot off len l h:=by
 simp only[Gh,Ot]
 cases st[key]? with
 |none=>cases FO lo 0 <;> cases FO hi len <;> rfl
 |some o=>
  simp only[Bl]
  split
  ·cases FO lo 0 <;> cases FO hi len <;> rfl
  ·simp_all
theorem lB(f:α→D)(sz:Nat)(A:List α)(lent:Bool)(x:D)(key off len l h:Nat)(E:sz≠0)(I:l≤h)(J:h≤len):Ot (some ⟨true,sz,A.map f,lent⟩) sz x key A.length off len l h=(if l=0∧h=len then some x else if l=h then some (.slc sz [] false)else some (.row key A.length (off+l) (h - l))):=by
 simp[Ot,E,I,J]
theorem Yib(d:Nat):FO none d=some d:=(rfl)
theorem Yp2(k:IntKind)(n:Int)(d:Nat)(h:0≤n):FO (some (.int k n)) d=some n.toNat:=by simp[FO,Fk,h]
theorem zO(sz bytes:Nat)(E:D)(k k':IntKind)(c:Int)(I:0≤c)(U:c≤4294967296)(J:c.toNat*bytes≤140737488355328)(M:0<sz)(N:E.cells.length=sz)(O:E.cells.all D.pure1=true) :
  OE sz bytes E (.int k 0) (.int k' c)=some (0,⟨true,sz,[],false⟩):=by
 have:c.toNat≤4294967296:=by omega
 simp[OE,O0 k' c I,zP,this,J,M,N,O]
theorem Yfc(k k' E:IntKind)(n c:Int)(I:0≤c)(J:c≤4294967296):OE 1 1 (.int E n) (.int k 0) (.int k' c)=some (0,⟨true,1,([]:List UInt8).map Da,false⟩):=
 zO 1 1 _ k k' c I J (by omega) (by decide) rfl rfl
theorem Vs(f:α→D)(sz bytes E:Nat)(B:List α)(lent:Bool)(I:E=sz∨B.map f=[])(hs0:sz≠0)(hb:B.length*bytes≤140737488355328)(hl:B.length≤4294967296) :
  Oy (some ⟨true,sz,[],lent⟩) sz bytes 0 (some (E,B.map f))=some ⟨true,sz,B.map f,lent⟩:=cq f sz bytes [] B lent hs0 (by simpa using hb) (by simpa using hl) E I
theorem Yv6(B:List UInt8)(lent:Bool)(hl:B.length≤4294967296):Oy (some ⟨true,1,[],lent⟩) 1 1 0 (some (1,B.map Da))=some ⟨true,1,B.map Da,lent⟩:=Vs Da 1 1 1 B lent (.inl rfl) (by decide) (by omega) hl
theorem gv(A B:List UInt8)(lent:Bool)(hl:A.length+B.length≤4294967296):Oy (some ⟨true,1,A.map Da,lent⟩) 1 1 A.length (some (1,B.map Da))=some ⟨true,1,(A++B).map Da,lent⟩:=cq Da 1 1 A B lent (by decide) (by omega) hl 1 (.inl rfl)
def Vb(o:Option Obj):Option (Nat×List D):=o.bind fun o=>if !o.row && decide (32≤o.els.length) && (IE 1 false o.els 32).all purA then some (1,IE 1 false o.els 32)else none
theorem qt(st:St)(key:Nat):Gt st (.bsl key 0 32 1 false)=Vb st[key]?:=by
 simp only[Gt,Km,Vb];grind
theorem Yoz(sz:Nat)(d:Dig)(lent:Bool):Vb (some ⟨false,sz,CW d,lent⟩)=some (1,d.bs.map Da):=by
 have E:IE 1 false (CW d) 32=CW d:=by
  have:=qh (CW d);rwa [DH]at this
 have I:(CW d).all purA=true:=Kt (fun _=>rfl) d;simp only[Vb,Bl,DH,E,I];rfl
attribute [push_cast] qt Yoz Yv6 gv
attribute [push_cast] List.drop_zero List.take_length
attribute [push_cast] ZX Yqb xT Yeh Yfp Ymx Ymy mh kL iF yRm Yib Yp2
attribute [push_cast] Yun Yl1 lH Yk0 lI Ykz wU wV Ymd Ymc lk sy Ymz Ytg
end Go.Proofs.YtijnglngaogdjaaGreatDoor.PI
