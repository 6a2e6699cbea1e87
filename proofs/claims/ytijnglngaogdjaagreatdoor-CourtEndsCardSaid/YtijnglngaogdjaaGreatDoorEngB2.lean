/-
  Slices that are made by appending, from nothing: laid out for rewriting.
  Conditions: none; these are lemmas.
-/
import Derived.Test.YtijnglngaogdjaaGreatDoorEngR
import Derived.ChangeArms
import Derived.Lib.LaidTab
import Derived.ChangeSame
open BitVec renaming ofInt→CJ
open List renaming range→CL,replicate→CH
open UInt64 renaming ofNat→CX
set_option linter.unusedVariables false
set_option linter.unusedSimpArgs false
namespace Go.Proofs.YtijnglngaogdjaaGreatDoor.PI
open Go Go.RowKit
inductive Ty where
 |bool
 |int (k:IntKind)
 |str
 |slc (e:Ty)
 |agg (fs:List Ty)
 /-- a slice whose elements' type is told of in another way -/
 |opq (Q:D→Prop)
 deriving Inhabited
mutual
def Ty.size:Ty→Nat
 |.agg fs=>Ty.sizes fs
 |_=>1
def Ty.sizes:List Ty→Nat
 |[]=>0
 |f::r=>f.size+Ty.sizes r
end
inductive Has:Ty→D→Prop
 |bool (b:Bool):Has .bool (.bool b)
 |int (k:IntKind) (n:Int):(Lit.int k n).wf=true→Has (.int k) (.int k n)
 |str (s:List UInt8):s.length≤maxLen→Has .str (.str s)
 |slc (e:Ty) (els:List D):(∀ (i:Nat) x,els[i]?=some x→Has e x)→els.length≤maxLen→Has (.slc e) (.slc (nz e.size els) els false)
 |opq (Q:D→Prop) (sz:Nat) (els:List D):Q (.slc (nz sz els) els false)→Has (.opq Q) (.slc (nz sz els) els false)
 |agg (fs:List Ty) (xs:List D):fs.length=xs.length→(∀ (i:Nat) f x,fs[i]?=some f→xs[i]?=some x→Has f x)→Has (.agg fs) (.agg (xs.flatMap D.cells))
def YR(P:Program):Nat→List Field→List Ty→Bool
 |_,[],[]=>true
 |o,f::fs,t::ts=>f.offset == o && P.cellsOf f.type == t.size && YR P (o+t.size) fs ts
 |_,_,_=>false
def Rc(tf:TypeId→Option Ty):List Field→Option (List Ty)
 |[]=>some []
 |f::fs=>match tf f.type,Rc tf fs with
  |some t,some ts=>some (t::ts)
  |_,_=>none
inductive TyD (P:Program):TypeId→D→Prop
 |bool (t:TypeId) (b:Bool):P.underlying t=some .bool→TyD P t (.bool b)
 |int (t:TypeId) (k:IntKind) (n:Int):P.underlying t=some (.int k)→(Lit.int k n).wf=true→TyD P t (.int k n)
 |str (t:TypeId) (s:List UInt8):P.underlying t=some .string→s.length≤maxLen→TyD P t (.str s)
 |slc (t e:TypeId) (els:List D):P.underlying t=some (.slice e)→(∀ x∈els,TyD P e x)→els.length≤maxLen→TyD P t (.slc (nz (P.cellsOf e) els) els false)
 |agg (t:TypeId) (fs:Array Field) (xs:List D):P.underlying t=some (.struct fs)→fs.toList.length=xs.length→(∀ (i:Nat) f x,fs.toList[i]?=some f→xs[i]?=some x→TyD P f.type x)→TyD P t (.agg (xs.flatMap D.cells))
 |arr (t:TypeId) (m:Nat) (e:TypeId) (xs:List D):P.underlying t=some (.array m e)→xs.length=m→(∀ x∈xs,TyD P e x)→TyD P t (.agg (xs.flatMap D.cells))
def S8(P:Program):Nat→Nat→List Field→Bool
 |o,n,[]=>o == n
 |o,n,f::fs=>f.offset == o && S8 P (o+P.cellsOf f.type) n fs
def Qx(P:Program)(S:List TypeId)(t:TypeId):Bool:=match P.underlying t with
 |some .bool | some (.int _) | some .string=>P.cellsOf t == 1
 |some (.slice e)=>S.contains e && decide (0<P.cellsOf e) && P.cellsOf t == 1
 |some (.struct fs)=>fs.toList.all (fun f=>S.contains f.type) && S8 P 0 (P.cellsOf t) fs.toList
 |some (.array m e)=>S.contains e && P.cellsOf t == m*P.cellsOf e
 |_=>false
def Ke(P:Program)(S:List TypeId):Bool:=S.all (Qx P S)
def Yw6(P:Program)(t:TypeId):List TypeId:=match P.underlying t with
 |some (.slice e) | some (.array _ e)=>[e]
 |some (.struct fs)=>fs.toList.map (·.type)
 |_=>[]
def P6(P:Program):Nat→List TypeId→List TypeId
 |0,S=>S
 |n+1,S=>P6 P n ((S++S.flatMap (Yw6 P)).eraseDups)
def FT(P:Program):Nat→TypeId→Option Ty
 |0,_=>none
 |n+1,t=>match P.underlying t with
  |some .bool=>some .bool
  |some (.int k)=>some (.int k)
  |some .string=>some .str
  |some (.slice e)=>match FT P n e with
   |some x=>if P.cellsOf e == x.size && decide (0<x.size)then some (.slc x)else none
   |none=>if Ke P (P6 P 6 [t]) && (P6 P 6 [t]).contains t then some (.opq (TyD P t))else none
  |some (.struct fs)=>match Rc (FT P n) fs.toList with
   |some ts=>if YR P 0 fs.toList ts && P.cellsOf t == Ty.sizes ts then some (.agg ts)else none
   |none=>none
  |some (.array m e)=>match FT P n e with
   |some x=>if P.cellsOf e == x.size && P.cellsOf t == m*x.size then some (.agg (CH m x))else none
   |none=>none
  |_=>none
def VT(w:World):Nat→Nat→Prop:=fun b o=>(w.cell? ⟨b,o,none⟩).isSome=true
def JP(w:World):Ghost:={β:=id,γ:=id,Im:=VT w}
variable {cs:List Value}{a:Addr}
section
variable {H:Type} {enc:TypeId×Value→H} {P:Program} {w:World}
def RepL(w:World)(xs:List D)(cs:List Value):Prop:=xs.length=cs.length∧(∀ (j:Nat) y v,xs[j]?=some y→cs[j]?=some v→RepV w (JP w) [] y v)∧∀ y∈xs,y.pure1=true
theorem RepL.nil:RepL w [] []:=⟨rfl,fun j y v h=>by simp at h,fun y h=>by cases h⟩
theorem RepL.append{xs ys:List D}{ds:List Value}(h:RepL w xs cs)(I:RepL w ys ds):RepL w (xs++ys) (cs++ds):=by
 refine⟨by simp[h.1,I.1],fun j y v E hv=>?_,fun y E=>?_⟩
 ·rcases A6 j xs.length with hj | hj
  ·rw[Au hj]at E;rw[Au (by rw[← h.1]; exact hj)]at hv;exact h.2.1 j y v E hv
  ·rw[AI hj]at E;rw[AI (by rw[← h.1]; exact hj),← h.1]at hv;exact I.2.1 _ y v E hv
 ·rcases AK.1 E with E | E
  ·exact h.2.2 y E
  ·exact I.2.2 y E
theorem RepL.one{x:D}{v:Value}(h:RepV w (JP w) [] x v)(E:x.pure1=true):RepL w x.cells [v]:=by
 rw[Xt E];refine⟨rfl,fun j y u I hu=>?_,fun y I=>?_⟩
 ·grind
 ·grind
theorem tp{s:ByteArray}:RepV w (JP w) [] (.str s.data.toList) (.string s):=dO s _ rfl
mutual
def wt:D→Nat
 |.slc _ els _=>GU els+1
 |.agg l=>GU l
 |.str s=>s.length+1
 |.int _ _=>1
 |.bool _=>1
 |_=>0
def GU:List D→Nat
 |[]=>0
 |d::l=>wt d+GU l
end
mutual
def blk{H:Type}:DataW H→Nat
 |.lit (.string s)=>s.length+1
 |.lit _=>1
 |.nil=>1
 |.slice e _=>FZ e+1
 |.agg p=>FZ p
 |_=>0
def FZ{H:Type}:List (DataW H)→Nat
 |[]=>0
 |d::l=>blk d+FZ l
end
theorem SN:∀ (a b:List D),GU (a++b)=GU a+GU b
 |[],b=>by simp[GU]
 |x::a,b=>by rw[Ae,GU,GU,SN a b]; omega
theorem WS(d:D):GU d.cells=wt d:=by
 cases d <;> simp[D.cells,GU,wt]
theorem cJ:∀ (a:List D) (b:List (DataW H)),a.length=b.length→(∀ (i:Nat) x y,a[i]?=some x→b[i]?=some y→wt x≤blk y)→GU a≤FZ b
 |[],b,_,_=>by simp[GU]
 |x::a,[],h,_=>by simp at h
 |x::a,y::b,h,hle=>by
  have J:=hle 0 x y rfl rfl;have M:=cJ a b (by simpa using h) (fun i x y E I=>hle (i+1) x y (by simpa using E) (by simpa using I));simp only[GU,FZ];omega
def gS(enc:TypeId×Value→H)(P:Program)(w:World)(sp:Nat→Bool)(t:TypeId)(ty:Ty):Prop:=
 ∀ (fuel:Nat) (cs:List Value) (x:DataW H×List MemPlace),DataW.trod enc P w 0 sp true fuel t cs=some x→∃ d,Has ty d∧RepL w d.cells cs∧cs.length=ty.size∧((∃ fs,ty=.agg fs)∨d.pure1=true)∧wt d≤blk x.1
theorem jo{sp:Nat→Bool}{O:TypeId→Option Ty}(J:∀ t ty,O t=some ty→gS enc P w sp t ty)(fuel:Nat)(cs:List Value):∀ (fs:List Field) (E:List Ty) (o:Nat) (ys:List (DataW H×List MemPlace)),
  Rc O fs=some E→YR P o fs E=true→fs.mapM (fun f=>DataW.trod enc P w 0 sp true fuel f.type ((cs.drop f.offset).take (P.cellsOf f.type)))=some ys→
  ∃ xs:List D,E.length=xs.length∧(∀ (i:Nat) f x,E[i]?=some f→xs[i]?=some x→Has f x)∧RepL w (xs.flatMap D.cells) ((cs.drop o).take (Ty.sizes E))∧(o≤cs.length→o+Ty.sizes E≤cs.length)∧GU (xs.flatMap D.cells)≤FZ (ys.map (·.1))
 |[],E,o,ys,I,M,N=>by
  simp[Rc]at I; subst I;exact⟨[],rfl,fun i f x h=>by simp at h,by simpa[Ty.sizes]using RepL.nil,fun h=>by simpa[Ty.sizes]using h,by simp[GU]⟩
 |f::fs,E,o,ys,I,M,N=>by
  unfold Rc at I
  split at I
  case h_2=>cases I
  rename_i t U ht V;simp only[C4]at I; subst I;simp only[YR,Af,beq_iff_eq]at M;obtain⟨⟨e1,e2⟩,e3⟩:=M;simp only[Bs,Bm,Ay,BD,C4]at N;obtain⟨y,Y,aa,ab,rfl⟩:=N;rw[e1,e2]at Y;obtain⟨d,d1,d2,d3,_,d5⟩:=J _ _ ht fuel _ _ Y;obtain⟨xs,x1,x2,x3,x4,x5⟩:=jo J fuel cs fs U (o+t.size) aa V e3 ab
  have hlen:o+t.size≤cs.length∨t.size=0:=by
   grind
  refine⟨d::xs,by simp[x1],?_,?_,?_,?_⟩
  ·grind
  ·have:=d2.append x3;simp only[At,Ty.sizes];rw[Cu,Bq];exact this
  ·intro ho;simp only[Ty.sizes];omega
  ·simp only[At,SN,WS,Ax,FZ];omega
theorem rh{sp:Nat→Bool}{e:TypeId}{x:Ty}(E:gS enc P w sp e x)(hc:P.cellsOf e=x.size)(fuel:Nat)(cs:List Value):∀ (n k:Nat) (ys:List (DataW H×List MemPlace)),
  (List.range' k n).mapM (fun i=>DataW.trod enc P w 0 sp true fuel e ((cs.drop (i*P.cellsOf e)).take (P.cellsOf e)))=some ys→
  ∃ xs:List D,xs.length=n∧(∀ (i:Nat) y,xs[i]?=some y→Has x y)∧RepL w (xs.flatMap D.cells) ((cs.drop (k*x.size)).take (n*x.size))∧GU (xs.flatMap D.cells)≤FZ (ys.map (·.1))
 |0,k,ys,h=>⟨[],rfl,fun i y h=>by simp at h,by simpa using RepL.nil,by simp[GU]⟩
 |n+1,k,ys,h=>by
  simp only[BR,Bs,Bm,Ay,BD,C4]at h;obtain⟨y,I,J,M,rfl⟩:=h;rw[hc]at I;obtain⟨d,d1,d2,d3,_,d5⟩:=E fuel _ _ I;obtain⟨xs,N,U,O,V⟩:=rh E hc fuel cs n (k+1) J M;refine⟨d::xs,by simp[N],?_,?_,?_⟩
  ·grind
  ·have:=d2.append O;simp only[At];rw[A0,Bu,Nat.add_comm (n*x.size),Cu,Bq];grind
  ·simp only[At,SN,WS,Ax,FZ];omega
theorem Ty.sizes_replicate(x:Ty):∀ m,Ty.sizes (CH m x)=m*x.size
 |0=>by simp[Ty.sizes]
 |m+1=>by rw[BU,Ty.sizes,Ty.sizes_replicate x m,A0,Bu,Nat.add_comm]
theorem cells?_get{base:Nat}{n:Nat}(h:w.cells? base a n=some cs):cs.length=n∧∀ (j:Nat) v,cs[j]?=some v→w.cell? (a.add j)=some v:=by
 unfold World.cells? at h
 split at h
 ·have hl:cs.length=n:=by simpa using Lib.mapM_length h
  refine⟨hl,fun j v hv=>?_⟩;have hj:j<n:=by rw[← hl]; exact(Ac.1 hv).1
  obtain⟨b,hb,hf⟩:=Lib.mapM_at h j j (by simp[hj]);grind
 ·cases h
def iH(enc:TypeId×Value→H)(P:Program)(w:World)(sp:Nat→Bool)(fuel:Nat)(t:TypeId):Prop:=
 ∀ (cs:List Value) (x:DataW H×List MemPlace),DataW.trod enc P w 0 sp true fuel t cs=some x→∃ d,TyD P t d∧RepL w d.cells cs∧cs.length=P.cellsOf t∧((∃ l,d=.agg l)∨d.pure1=true)∧wt d≤blk x.1
theorem jx{sp:Nat→Bool}{fuel:Nat}(cs:List Value)(n:Nat):∀ (fs:List Field) (o:Nat) (ys:List (DataW H×List MemPlace)),(∀ f∈fs,iH enc P w sp fuel f.type)→S8 P o n fs=true→
  fs.mapM (fun f=>DataW.trod enc P w 0 sp true fuel f.type ((cs.drop f.offset).take (P.cellsOf f.type)))=some ys→
  ∃ xs:List D,fs.length=xs.length∧(∀ (i:Nat) f x,fs[i]?=some f→xs[i]?=some x→TyD P f.type x)∧RepL w (xs.flatMap D.cells) ((cs.drop o).take (n - o))∧o≤n∧GU (xs.flatMap D.cells)≤FZ (ys.map (·.1))
 |[],o,ys,_,E,J=>by
  simp only[S8,beq_iff_eq]at E;subst E;exact⟨[],rfl,fun i f x h=>by simp at h,by simpa using RepL.nil,AE _,by simp[GU]⟩
 |f::fs,o,ys,I,E,J=>by
  simp only[S8,Af,beq_iff_eq]at E;obtain⟨U,V⟩:=E;simp only[Bs,Bm,Ay,BD,C4]at J;obtain⟨y,M,N,O,rfl⟩:=J;rw[U]at M;obtain⟨d,d1,d2,d3,_,d5⟩:=I f (by simp) _ _ M;obtain⟨xs,Y,x2,x3,x4,x5⟩:=jx cs n fs (o+P.cellsOf f.type) N (fun g hg=>I g (by simp[hg])) V O;refine⟨d::xs,by simp[Y],?_,?_,by omega,?_⟩
  ·grind
  ·have:=d2.append x3;simp only[At];rw[show n - o=P.cellsOf f.type+(n - (o+P.cellsOf f.type)) by omega,Cu,Bq];exact this
  ·simp only[At,SN,WS,Ax,FZ];omega
theorem je{sp:Nat→Bool}{fuel:Nat}{e:TypeId}(E:iH enc P w sp fuel e)(cs:List Value):∀ (n k:Nat) (ys:List (DataW H×List MemPlace)),
  (List.range' k n).mapM (fun i=>DataW.trod enc P w 0 sp true fuel e ((cs.drop (i*P.cellsOf e)).take (P.cellsOf e)))=some ys→
  ∃ xs:List D,xs.length=n∧(∀ y∈xs,TyD P e y)∧RepL w (xs.flatMap D.cells) ((cs.drop (k*P.cellsOf e)).take (n*P.cellsOf e))∧GU (xs.flatMap D.cells)≤FZ (ys.map (·.1))
 |0,k,ys,h=>⟨[],rfl,(fun y h=>by cases h),by simpa using RepL.nil,by simp[GU]⟩
 |n+1,k,ys,h=>by
  simp only[BR,Bs,Bm,Ay,BD,C4]at h;obtain⟨y,M,I,J,rfl⟩:=h;obtain⟨d,d1,d2,d3,_,d5⟩:=E _ _ M;obtain⟨xs,N,U,O,V⟩:=je E cs n (k+1) I J;refine⟨d::xs,by simp[N],?_,?_,?_⟩
  ·grind
  ·have:=d2.append O;simp only[At];rw[A0,Bu,Nat.add_comm (n*P.cellsOf e),Cu,Bq];grind
  ·simp only[At,SN,WS,Ax,FZ];omega
theorem yL2{Q:D→Prop}{sz:Nat}{len cap:Nat}{Y:Nat→Nat}(J:0<sz)(aa:len≤cap)
  (E:∀ i,i<len→∃ d,Q d∧d.cells.length=sz∧(∀ (j:Nat) y,d.cells[j]?=some y→y.pure1=true∧∃ v,w.cell? ((a.add (i*sz)).add j)=some v∧RepV w (JP w) [] y v)∧wt d≤Y i) :
  ∃ els:List D,els.length=len∧(∀ x∈els,Q x)∧RepL w (D.slc (nz sz els) els false).cells [.slice (some a) len cap]∧∀ (i:Nat) x,els[i]?=some x→wt x≤Y i:=by
 let f:Nat→D:=fun i=>if hi:i<len then(E i hi).choose else .junk
 have hf:∀ i (hi:i<len),f i=(E i hi).choose:=fun i hi=>by simp[f,hi]
 have O:∀ (i:Nat) x,((CL len).map f)[i]?=some x→∃ hi:i<len,x=(E i hi).choose:=by
  intro i x M;simp only[AJ,Dw]at M;obtain⟨i',I,rfl⟩:=M;rw[Ac]at I;obtain⟨U,h3⟩:=I;simp at U h3;grind
 refine⟨(CL len).map f,by simp,fun x M=>?_,?_,fun i x M=>?_⟩
 ·grind
 ·refine RepL.one (RepV.nz (t:=false) ?_) rfl;rcases B3 len with V | V
  ·subst V;exact .slcE _ false (some a) cap (fun h=>by cases h)
  ·have N:a.spot=none:=by
    obtain⟨d1,d2,d3,_⟩:=(E 0 V).choose_spec;obtain⟨_,v,I,_⟩:=d3 0 _ (An (by rw[d2]; exact J));rw[Ca]at I;have U:(a.add 0).add 0=a:=by simp[Addr.add]
    rw[U]at I;unfold World.cell? at I
    split at I
    ·split at I
     ·cases I
     ·rename_i hs; simpa using hs
    ·cases I
   obtain⟨b,off,spot⟩:=a;simp only at N;subst N;have hl:len=((CL len).map f).length:=by simp
   conv=>rhs; rw[hl]
   refine RepV.slc_mk J ?_ (by simpa using aa) (fun h=>by cases h) ?_
   ·grind
   ·intro i j d hd;obtain⟨e',he,hj⟩:=HC hd;obtain⟨ab,rfl⟩:=O i e' he;obtain⟨hp,v,hv,hr⟩:=(E i ab).choose_spec.2.2.1 j d hj;rw[Kq,Kq]at hv;refine⟨hp,?_,v,hv,hr⟩
    show(w.cell? ⟨b,off+i*sz+j,none⟩).isSome=true
    rw[hv]; rfl
 ·grind
theorem pM{sp:Nat→Bool}{S:List TypeId}(hS:Ke P S=true):∀ (fuel:Nat) (t:TypeId),t∈S→iH enc P w sp fuel t
 |0,t,_=>by intro cs x E; simp[DataW.trod]at E
 |fuel+1,t,U=>by
  have V:=fun t U=>pM (sp:=sp) hS fuel t U;have hc:Qx P S t=true:=Aj.1 hS t U;unfold Qx at hc;intro cs x E
  split at hc
  ·rename_i hu;simp only[beq_iff_eq]at hc;unfold DataW.trod at E;rw[hu]at E
   split at E <;> simp_all
   exact⟨_,.bool t _ hu,RepL.one (.bool _) rfl,.inr rfl,by rw[← E]; simp[wt,blk]⟩
  ·rename_i k hu;simp only[beq_iff_eq]at hc;unfold DataW.trod at E;rw[hu]at E
   split at E <;> simp_all
   rename_i k' m;obtain⟨⟨rfl,hw⟩,I⟩:=E;exact⟨_,.int t _ _ hu hw,RepL.one (.int _ _) rfl,.inr rfl,by rw[← I]; simp[wt,blk]⟩
  ·rename_i hu;simp only[beq_iff_eq]at hc;unfold DataW.trod at E;rw[hu]at E
   split at E <;> simp_all
   rename_i s;exact⟨_,.str t s.data.toList hu (by simpa using E.1),RepL.one tp rfl,.inr rfl,by rw[← E.2]; simp[wt,blk]⟩
  ·rename_i e hu;simp only[Af,A9,decide_eq_true_eq,beq_iff_eq]at hc;obtain⟨⟨J,Y⟩,N⟩:=hc;rcases DataW.trod_slice hu E with⟨rfl,I⟩ | ⟨a,len,cap,elems,rest,m,hm,rfl,I,_,a1,a9,hlen,a2,_,_⟩
   ·refine⟨.slc (nz (P.cellsOf e) []) [] false,.slc t e [] hu (fun x h=>by cases h) (Bd _),RepL.one (.slcE _ false none 0 (fun h=>by cases h)) rfl,N.symm,.inr rfl,by rw[I]; simp[wt,GU,blk]⟩
   ·obtain rfl:m=fuel:=by omega
    have aa:∀ i,i<len→∃ d,TyD P e d∧d.cells.length=P.cellsOf e∧(∀ (j:Nat) y,d.cells[j]?=some y→y.pure1=true∧∃ v,w.cell? ((a.add (i*P.cellsOf e)).add j)=some v∧RepV w (JP w) [] y v)∧wt d≤((elems[i]?).map fun y=>blk y.1).getD 0:=by
     intro i hi;have h1:=a2 i hi;rw[An (by omega)]at h1 ⊢;simp only[Ay]at h1;obtain⟨cs',h2,h3⟩:=h1;obtain⟨d,d1,d2,d3,_,d5⟩:=V e J cs' _ h3;obtain⟨h4,h5⟩:=cells?_get h2;refine⟨d,d1,by rw[d2.1,h4],fun j y hy=>⟨d2.2.2 y (Aq hy),?_⟩,by simpa using d5⟩;have hj:j<cs'.length:=by rw[← d2.1]; exact(Ac.1 hy).1
     exact⟨cs'[j],h5 j _ (An hj),d2.2.1 j y _ hy (An hj)⟩
    obtain⟨els,e1,e2,e3,e4⟩:=yL2 Y a1 aa;refine⟨_,.slc t e els hu e2 (by omega),e3,N.symm,.inr rfl,?_⟩;rw[I];simp only[wt,blk];refine Nat.succ_le_succ (cJ _ _ (by simp; omega) ?_);grind
  ·rename_i fs hu;simp only[Af,Aj,A9]at hc;obtain⟨J,ad⟩:=hc;unfold DataW.trod at E;rw[hu]at E;simp only at E
   split at E
   case isFalse=>cases E
   rename_i hl;simp only[Dw]at E;obtain⟨ys,M,rfl⟩:=E;obtain⟨xs,x1,x2,O,x4,x5⟩:=jx cs (P.cellsOf t) fs.toList 0 ys (fun f hf=>V f.type (J f hf)) ad M;refine⟨.agg (xs.flatMap D.cells),.agg t fs xs hu x1 x2,?_,hl,.inl ⟨_,rfl⟩,by simpa only[wt,blk]using x5⟩;rw[Bt,Nat.sub_zero,AS (by omega)]at O;exact O
  ·rename_i m e hu;simp only[Af,A9,beq_iff_eq]at hc;obtain⟨J,ba⟩:=hc;unfold DataW.trod at E;rw[hu]at E;simp only at E
   split at E
   case isFalse=>cases E
   rename_i hl;simp only[Dw]at E;obtain⟨ys,M,rfl⟩:=E;rw[Bi]at M;obtain⟨xs,x1,x2,O,x5⟩:=je (V e J) cs m 0 ys M;refine⟨.agg (xs.flatMap D.cells),.arr t m e xs hu x1 x2,?_,hl,.inl ⟨_,rfl⟩,by simpa only[wt,blk]using x5⟩;rw[Ca,Bt,AS (by omega)]at O;exact O
  ·cases hc
theorem nt{sp:Nat→Bool}:∀ (n:Nat) (t:TypeId) (ty:Ty),FT P n t=some ty→gS enc P w sp t ty
 |0,_,_,h=>by simp[FT]at h
 |n+1,t,ty,h=>by
  have ih:=nt (sp:=sp) n;intro fuel cs x E;unfold FT at h
  cases fuel with
  |zero=>simp[DataW.trod]at E
  |succ fuel=>
  split at h
  ·rename_i hu;simp only[C4]at h; subst h;unfold DataW.trod at E;rw[hu]at E
   split at E <;> simp_all
   exact⟨_,.bool _,RepL.one (.bool _) rfl,rfl,rfl,by rw[← E]; simp[wt,blk]⟩
  ·rename_i k hu;simp only[C4]at h; subst h;unfold DataW.trod at E;rw[hu]at E
   split at E <;> simp_all
   rename_i k' m;obtain⟨⟨rfl,hw⟩,M⟩:=E;exact⟨_,.int _ _ hw,RepL.one (.int _ _) rfl,rfl,rfl,by rw[← M]; simp[wt,blk]⟩
  ·rename_i hu;simp only[C4]at h; subst h;unfold DataW.trod at E;rw[hu]at E
   split at E <;> simp_all
   rename_i s;exact⟨_,.str s.data.toList (by simpa using E.1),RepL.one tp rfl,rfl,rfl,by rw[← E.2]; simp[wt,blk]⟩
  ·rename_i e hu
   split at h
   case h_2=>
    split at h
    case isFalse=>cases h
    rename_i N;simp only[Af,A9]at N;simp only[C4]at h; subst h;obtain⟨d,d1,d2,d3,d4,d5⟩:=pM N.1 (fuel+1) t N.2 cs x E
    have ab:P.cellsOf t=1:=by
     have:=Aj.1 N.1 t N.2;unfold Qx at this;grind
    rw[ab]at d3
    have:∃ sz els,d=.slc (nz sz els) els false:=by
     cases d1 with
     |slc _ e' els I V h3=>exact⟨_,_,rfl⟩
     |agg _ fs xs I=>rw[hu]at I; cases I
     |arr _ m e' xs I=>rw[hu]at I; cases I
     |bool _ b I=>rw[hu]at I; cases I
     |int _ k n I=>rw[hu]at I; cases I
     |str _ s I=>rw[hu]at I; cases I
    obtain⟨sz,els,rfl⟩:=this;exact⟨_,.opq _ sz els d1,d2,d3,.inr rfl,d5⟩
   rename_i ex hex
   split at h
   case isFalse=>cases h
   rename_i hc;simp only[Af,beq_iff_eq,decide_eq_true_eq]at hc;simp only[C4]at h; subst h;rcases DataW.trod_slice hu E with⟨rfl,M⟩ | ⟨a,len,cap,elems,rest,m,_,rfl,M,_,a3,be,hlen,a4,_,_⟩
   ·exact⟨_,.slc ex [] (fun i x h=>by simp at h) (Bd _),RepL.one (.slcE _ false none 0 (fun h=>by cases h)) rfl,rfl,.inr rfl,by rw[M]; simp[wt,GU,blk]⟩
   ·have J:∀ i (hi:i<len),∃ d,Has ex d∧d.cells.length=ex.size∧(∀ (j:Nat) y,d.cells[j]?=some y→y.pure1=true∧∃ v,w.cell? ((a.add (i*ex.size)).add j)=some v∧RepV w (JP w) [] y v)∧wt d≤blk (elems[i]'(by omega)).1:=by
     intro i hi;have I:=a4 i hi;rw[hc.1,An (by omega)]at I;simp only[Ay]at I;obtain⟨cs',V,h3⟩:=I;obtain⟨d,d1,d2,d3,_,d5⟩:=ih e ex hex m cs' _ h3;obtain⟨h4,h5⟩:=cells?_get V;refine⟨d,d1,by rw[d2.1,h4],fun j y hy=>⟨d2.2.2 y (Aq hy),?_⟩,d5⟩;have hj:j<cs'.length:=by rw[← d2.1]; exact(Ac.1 hy).1
     exact⟨cs'[j],h5 j _ (An hj),d2.2.1 j y _ hy (An hj)⟩
    let f:Nat→D:=fun i=>if hi:i<len then(J i hi).choose else .junk
    have hf:∀ i (hi:i<len),f i=(J i hi).choose:=fun i hi=>by simp[f,hi]
    have ae:∀ (i:Nat) x,((CL len).map f)[i]?=some x→∃ hi:i<len,x=(J i hi).choose:=by
     grind
    refine⟨.slc (nz ex.size ((CL len).map f)) ((CL len).map f) false,.slc ex _ (fun i x E=>?_) (by simp; omega),?_,rfl,.inr rfl,?_⟩
    ·grind
    ·refine RepL.one (RepV.nz (t:=false) ?_) rfl;rcases B3 len with h0 | h0
     ·subst h0;exact .slcE _ false (some a) cap (fun h=>by cases h)
     ·have Y:a.spot=none:=by
       obtain⟨d1,d2,d3,_⟩:=(J 0 h0).choose_spec;obtain⟨_,v,I,_⟩:=d3 0 _ (An (by rw[d2]; exact hc.2));rw[Ca]at I;have V:(a.add 0).add 0=a:=by simp[Addr.add]
       rw[V]at I;unfold World.cell? at I
       split at I
       ·split at I
        ·cases I
        ·rename_i hs; simpa using hs
       ·cases I
      obtain⟨b,off,spot⟩:=a;simp only at Y;subst Y;have hl:len=((CL len).map f).length:=by simp
      conv=>rhs; rw[hl]
      refine RepV.slc_mk hc.2 ?_ (by simpa using a3) (fun h=>by cases h) ?_
      ·grind
      ·intro i j d hd;obtain⟨e',he,hj⟩:=HC hd;obtain⟨a5,rfl⟩:=ae i e' he;obtain⟨hp,v,hv,hr⟩:=(J i a5).choose_spec.2.2.1 j d hj;rw[Kq,Kq]at hv;refine⟨hp,?_,v,hv,hr⟩
       show(w.cell? ⟨b,off+i*ex.size+j,none⟩).isSome=true
       rw[hv]; rfl
    ·rw[M];simp only[wt,blk];refine Nat.succ_le_succ (cJ _ _ (by simp; omega) ?_);grind
  ·rename_i fs hu
   split at h
   case h_2=>cases h
   rename_i ts a6
   split at h
   case isFalse=>cases h
   rename_i hc;simp only[Af,beq_iff_eq]at hc;simp only[C4]at h; subst h;unfold DataW.trod at E;rw[hu]at E;simp only at E
   split at E
   case isFalse=>cases E
   rename_i hl;simp only[Dw]at E;obtain⟨ys,O,rfl⟩:=E;obtain⟨xs,x1,x2,U,x4,x5⟩:=jo ih fuel cs fs.toList ts 0 ys a6 hc.1 O;refine⟨.agg (xs.flatMap D.cells),.agg ts xs x1 x2,?_,by rw[hl,hc.2]; rfl,.inl ⟨ts,rfl⟩,by simpa only[wt,blk]using x5⟩;rw[Bt,AS (by omega)]at U;exact U
  ·rename_i m e hu
   split at h
   case h_2=>cases h
   rename_i ex hex
   split at h
   case isFalse=>cases h
   rename_i hc;simp only[Af,beq_iff_eq]at hc;simp only[C4]at h; subst h;unfold DataW.trod at E;rw[hu]at E;simp only at E
   split at E
   case isFalse=>cases E
   rename_i hl;simp only[Dw]at E;obtain⟨ys,O,rfl⟩:=E;rw[Bi]at O;obtain⟨xs,x1,x2,U,x5⟩:=rh (ih e ex hex) hc.1 fuel cs m 0 ys O;refine⟨.agg (xs.flatMap D.cells),.agg _ xs (by simp[x1]) ?_,?_,by rw[hl,hc.2]; exact(Ty.sizes_replicate ex m).symm,.inl ⟨_,rfl⟩,by simpa only[wt,blk]using x5⟩
   ·grind
   ·rw[Ca,Bt,AS (by omega)]at U;exact U
  ·cases h
end
end Go.Proofs.YtijnglngaogdjaaGreatDoor.PI
namespace Go.Proofs.YtijnglngaogdjaaGreatDoor.PI
open Go Go.RowKit Go.ChangeShapes
variable {v:Value}{a:Addr}{n:Nat}{before:List MemPlace}{args:Array Value}{s:ChangeSpec}{tys:List Ty}{sp:List D→Option D}{fn:Func}{G:Dc}
section
variable {H:Type} {enc:TypeId×Value→H} {P:Program} {W W':World}
theorem Mw{α β:Type}{f g:α→Option β}:∀ {l:List α} {r:List β},l.mapM f=some r→(∀ x y,x∈l→y∈r→f x=some y→g x=some y)→l.mapM g=some r
 |[],r,h,_=>by simpa using h
 |a::l,r,h,E=>by
  simp only[Bs,Bm,Ay,BD,C4]at h ⊢;obtain⟨b,hb,J,I,rfl⟩:=h;exact⟨b,E a b (by simp) (by simp) hb,J,Mw I (fun x y M N=>E x y (by simp[M]) (by simp[N])),rfl⟩
theorem cell?_below(hb:Below W.heap.size W W')(h:W.cell? a=some v):W'.cell? a=some v:=by
 have E:=World.block_lt_of_cell? W a h;rw[← h];simp only[World.cell?,hb.block a.block E]
theorem cells?_below(hb:Below W.heap.size W W'){b:Nat}{cs:List Value}(h:W.cells? b a n=some cs):W'.cells? b a n=some cs:=by
 unfold World.cells? at h ⊢
 split at h
 ·rename_i E;rw[if_pos E];exact Mw h fun x y _ _ I=>cell?_below hb I
 ·cases h
theorem pL(hb:Below W.heap.size W W'){S:List TypeId}(hS:Ke P S=true):∀ (fuel:Nat) (t:TypeId),t∈S→∀ (cs:List Value) (x:DataW H×List MemPlace),DataW.trod enc P W 0 (fun _=>true) true fuel t cs=some x→
  ∀ I:Nat→Bool,(∀ p∈x.2,I p.block=true)→DataW.trod enc P W' 0 I true fuel t cs=some x
 |0,t,_=>by intro cs x E; simp[DataW.trod]at E
 |fuel+1,t,ht=>by
  have ih:=pL hb hS fuel;intro cs x E I aa;have hc:Qx P S t=true:=Aj.1 hS t ht;unfold Qx at hc
  split at hc
  ·rename_i hu;unfold DataW.trod at E ⊢;grind
  ·rename_i k hu;unfold DataW.trod at E ⊢;grind
  ·rename_i hu;unfold DataW.trod at E ⊢;grind
  ·rename_i e hu;simp only[Af,A9,decide_eq_true_eq,beq_iff_eq]at hc;obtain⟨⟨M,af⟩,_⟩:=hc
   have N:∀ (b:Addr) (y:DataW H×List MemPlace),(∀ p∈y.2,I p.block=true)→(W.cells? 0 b (P.cellsOf e)).bind (DataW.trod enc P W 0 (fun _=>true) true fuel e)=some y→(W'.cells? 0 b (P.cellsOf e)).bind (DataW.trod enc P W' 0 I true fuel e)=some y:=by
    intro b y J O;simp only[Ay]at O ⊢;obtain⟨cs',V,h3⟩:=O;exact⟨cs',cells?_below hb V,ih e M cs' y h3 I J⟩
   unfold DataW.trod at E ⊢;rw[hu]at E ⊢
   split at E
   all_goals try (first | (rename_i heq _; cases heq; done) | (rename_i heq; cases heq; done))
   all_goals try (simp_all; done)
   rename_i e' a len cap heq;cases heq;simp only[if_true]at E ⊢
   split at E
   case isFalse=>cases E
   rename_i Y;rw[if_pos Y];simp only[Ay,Dw]at E ⊢;obtain⟨elems,O,rest,V,rfl⟩:=E;have hle:elems.length=len:=by simpa using Lib.mapM_length O
   have a1:rest.length=cap - len:=by simpa using Lib.mapM_length V
   have M:∀ y∈elems++rest,∀ p∈y.2,I p.block=true:=fun y J p hp=>aa p (by
    grind)
   refine⟨elems,Mw O (fun i y _ J hi=>N _ y (M y (by simp[J])) hi),rest,?_,rfl⟩;rcases B3 cap with h0 | h0
   ·grind
   ·have ab:I a.block=true:=aa (.cell a.block (a.off+0)) (by
     simp only[AK]
     left
     simp only[MemPlace.row,AV,AW];simp_all)
    rw[if_pos ab];exact Mw V (fun i y _ J hi=>N _ y (M y (by simp[J])) hi)
  ·rename_i fs hu;simp only[Af,Aj,A9]at hc;unfold DataW.trod at E ⊢;rw[hu]at E ⊢;simp only at E ⊢
   split at E
   case isFalse=>cases E
   rename_i hl;rw[if_pos hl];simp only[Dw]at E ⊢;obtain⟨ys,U,rfl⟩:=E;refine⟨ys,Mw U (fun f y hf J hi=>?_),rfl⟩;grind
  ·rename_i m e hu;simp only[Af,A9,beq_iff_eq]at hc;unfold DataW.trod at E ⊢;rw[hu]at E ⊢;simp only at E ⊢
   split at E
   case isFalse=>cases E
   rename_i hl;rw[if_pos hl];simp only[Dw]at E ⊢;obtain⟨ys,U,rfl⟩:=E;refine⟨ys,Mw U (fun i y _ J hi=>?_),rfl⟩;grind
  ·cases hc
theorem qC(hb:Below W.heap.size W W'):∀ (n:Nat) (t:TypeId) (ty:Ty),FT P n t=some ty→∀ (fuel:Nat) (cs:List Value) (x:DataW H×List MemPlace),DataW.trod enc P W 0 (fun _=>true) true fuel t cs=some x→
  ∀ I:Nat→Bool,(∀ p∈x.2,I p.block=true)→DataW.trod enc P W' 0 I true fuel t cs=some x
 |0,_,_,h=>by simp[FT]at h
 |n+1,t,ty,h=>by
  have ih:=qC hb n;intro fuel cs x E I N;unfold FT at h
  cases fuel with
  |zero=>simp[DataW.trod]at E
  |succ fuel=>
  split at h
  ·rename_i hu;unfold DataW.trod at E ⊢;grind
  ·rename_i k hu;unfold DataW.trod at E ⊢;grind
  ·rename_i hu;unfold DataW.trod at E ⊢;grind
  ·rename_i e hu
   split at h
   case h_2=>
    split at h
    case isFalse=>cases h
    rename_i O;simp only[Af,A9]at O;exact pL hb O.1 (fuel+1) t O.2 cs x E I N
   rename_i ex hex
   split at h
   case isFalse=>cases h
   rename_i hc;simp only[Af,beq_iff_eq,decide_eq_true_eq]at hc;have af:0<P.cellsOf e:=by rw[hc.1]; exact hc.2
   have U:∀ (b:Addr) (y:DataW H×List MemPlace),(∀ p∈y.2,I p.block=true)→(W.cells? 0 b (P.cellsOf e)).bind (DataW.trod enc P W 0 (fun _=>true) true fuel e)=some y→(W'.cells? 0 b (P.cellsOf e)).bind (DataW.trod enc P W' 0 I true fuel e)=some y:=by
    intro b y J V;simp only[Ay]at V ⊢;obtain⟨cs',Y,h3⟩:=V;exact⟨cs',cells?_below hb Y,ih e ex hex fuel cs' y h3 I J⟩
   unfold DataW.trod at E ⊢;rw[hu]at E ⊢
   split at E
   all_goals try (first | (rename_i heq _; cases heq; done) | (rename_i heq; cases heq; done))
   all_goals try (simp_all; done)
   rename_i e' a len cap heq;cases heq;simp only[if_true]at E ⊢
   split at E
   case isFalse=>cases E
   rename_i aa;rw[if_pos aa];simp only[Ay,Dw]at E ⊢;obtain⟨elems,V,rest,Y,rfl⟩:=E;have hle:elems.length=len:=by simpa using Lib.mapM_length V
   have a3:rest.length=cap - len:=by simpa using Lib.mapM_length Y
   have ab:∀ y∈elems++rest,∀ p∈y.2,I p.block=true:=fun y J p hp=>N p (by
    grind)
   refine⟨elems,Mw V (fun i y _ J hi=>U _ y (ab y (by simp[J])) hi),rest,?_,rfl⟩;rcases B3 cap with h0 | h0
   ·grind
   ·have ad:I a.block=true:=N (.cell a.block (a.off+0)) (by
     simp only[AK]
     left
     simp only[MemPlace.row,AV,AW];simp_all)
    rw[if_pos ad];exact Mw Y (fun i y _ J hi=>U _ y (ab y (by simp[J])) hi)
  ·rename_i fs hu
   split at h
   case h_2=>cases h
   rename_i ts ac;unfold DataW.trod at E ⊢;rw[hu]at E ⊢;simp only at E ⊢
   split at E
   case isFalse=>cases E
   rename_i hl;rw[if_pos hl];simp only[Dw]at E ⊢;obtain⟨ys,M,rfl⟩:=E
   have a2:∀ f∈fs.toList,∃ ty,FT P n f.type=some ty:=by
    clear M hl hu h;generalize fs.toList=l at ac
    induction l generalizing ts with
    |nil=>intro f hf; cases hf
    |cons f0 l a4=>
     unfold Rc at ac;grind
   refine⟨ys,Mw M (fun f y hf J hi=>?_),rfl⟩;grind
  ·rename_i m e hu
   split at h
   case h_2=>cases h
   rename_i ex hex;unfold DataW.trod at E ⊢;rw[hu]at E ⊢;simp only at E ⊢
   split at E
   case isFalse=>cases E
   rename_i hl;rw[if_pos hl];simp only[Dw]at E ⊢;obtain⟨ys,M,rfl⟩:=E;refine⟨ys,Mw M (fun i y _ J hi=>?_),rfl⟩;grind
  ·cases h
theorem jz(hb:Below W.heap.size W W'){n:Nat}:∀ (I:List TypeId) (tys:List Ty) (vs:List Value) (ds:List (DataW H)) (J:List MemPlace),I.mapM (FT P n)=some tys→DataW.TrodAll enc P W 0 (fun _=>true) true I vs ds J→
  ∀ E:Nat→Bool,(∀ p∈J,E p.block=true)→DataW.TrodAll enc P W' 0 E true I vs ds J
 |[],_,[],[],J,_,h=>fun _ _=>h
 |t::I,tys,v::vs,d::ds,J,U,h=>by
  intro E M;simp only[Bs,Bm,Ay,BD,C4]at U;obtain⟨ty,V,N,Y,rfl⟩:=U;obtain⟨p,q,⟨fuel,h3⟩,h4,rfl⟩:=h;exact⟨p,q,⟨fuel,qC hb n t ty V fuel _ _ h3 E (fun x O=>M x (by simp[O]))⟩,jz hb I N vs ds q Y h4 E (fun x O=>M x (by simp[O])),rfl⟩
 |[],_,_::_,_,_,_,h=>by cases h
 |[],_,[],_::_,_,_,h=>by cases h
 |_::_,_,[],_,_,_,h=>by cases h
 |_::_,_,_::_,[],_,_,h=>by cases h
theorem yB{sp:Nat→Bool}{t:TypeId}{ty:Ty}{d:DataW H}{Y:List MemPlace}(E:FT P n t=some ty)(hv:Value.okWide P W .any 0 t v)(h:DataW.Trod enc P W 0 sp true t v d Y) :
  ∃ x,Has ty x∧(RepV W (JP W) [] x v∧purA x=true)∧wt x≤blk d:=by
 obtain⟨fuel,h⟩:=h;obtain⟨x,J,M,h3,h4,h5⟩:=nt n t ty E fuel _ _ h;refine⟨x,J,?_,h5⟩
 have I:(∀ cs,v≠.agg cs)→x.pure1=true→RepV W (JP W) [] x v∧purA x=true:=by
  intro U O;have V:v.cells=#[v]:=by cases v <;> first | rfl | exact absurd rfl (U _)
  rw[Xt O,V]at M;refine⟨M.2.1 0 x v rfl rfl,?_⟩;cases x <;> first | exact O | (simp[D.pure1]at O; done)
 have N:∀ cs l,v=.agg cs→x=.agg l→RepV W (JP W) [] x v∧purA x=true:=by
  intro cs l e1 e2;subst e1; subst e2;refine⟨?_,?_⟩
  ·have:=RepV.agg (w:=W) (g:=JP W) (st:=[]) l cs.toList (by simpa[D.cells,Value.cells]using M.1) (fun i d u hd hu=>M.2.1 i d u hd (by simpa[Value.cells]using hu));omega
  ·simp only[purA,Aj];exact M.2.2
 unfold Value.okWide at hv
 cases n with
 |zero=>simp[FT]at E
 |succ n=>
 unfold FT at E
 split at E
 ·rename_i hu;simp only[C4]at E; subst E;cases J;exact I (fun cs e=>by subst e; simp[hu,Cell.okWide,Cell.ok]at hv) rfl
 ·rename_i k hu;simp only[C4]at E; subst E;cases J;exact I (fun cs e=>by subst e; simp[hu,Cell.okWide,Cell.ok]at hv) rfl
 ·rename_i hu;simp only[C4]at E; subst E;cases J;exact I (fun cs e=>by subst e; simp[hu,Cell.okWide,Cell.ok]at hv) rfl
 ·rename_i e hu
  split at E
  case h_2=>
   split at E
   case isFalse=>cases E
   simp only[C4]at E; subst E;cases J;exact I (fun cs e=>by subst e; simp[hu,Cell.okWide,Cell.ok]at hv) rfl
  split at E
  case isFalse=>cases E
  simp only[C4]at E; subst E;cases J;exact I (fun cs e=>by subst e; simp[hu,Cell.okWide,Cell.ok]at hv) rfl
 ·rename_i fs hu
  split at E
  case h_2=>cases E
  split at E
  case isFalse=>cases E
  simp only[C4]at E; subst E;simp only[hu]at hv;obtain⟨cs,rfl,_,_⟩:=hv
  cases J with
  |agg _ xs _ _=>exact N cs _ rfl rfl
 ·rename_i m e hu
  split at E
  case h_2=>cases E
  split at E
  case isFalse=>cases E
  simp only[C4]at E; subst E;simp only[hu]at hv;obtain⟨cs,rfl,_,_⟩:=hv
  cases J with
  |agg _ xs _ _=>exact N cs _ rfl rfl
 ·cases E
inductive HasAll:List Ty→List D→Prop
 |nil:HasAll [] []
 |cons {t:Ty} {ts:List Ty} {x:D} {xs:List D}:Has t x→HasAll ts xs→HasAll (t::ts) (x::xs)
theorem pf{sp:Nat→Bool}{n:Nat}:∀ (I:List TypeId) (tys:List Ty) (vs:List Value) (ds:List (DataW H)) (J:List MemPlace),I.mapM (FT P n)=some tys→(∀ (j:Nat) t v,I[j]?=some t→vs[j]?=some v→Value.okWide P W .any 0 t v)→DataW.TrodAll enc P W 0 sp true I vs ds J→
  ∃ xs,HasAll tys xs∧xs.length=vs.length∧(∀ (i:Nat) d v,xs[i]?=some d→vs[i]?=some v→RepV W (JP W) [] d v)∧(∀ d∈xs,purA d=true)∧GU xs≤FZ ds
 |[],tys,[],[],J,E,_,_=>by
  simp at E; subst E;exact⟨[],.nil,rfl,fun i d v h=>by simp at h,(fun d h=>by cases h),by simp[GU]⟩
 |t::I,tys,v::vs,d::ds,J,E,hv,h=>by
  simp only[Bs,Bm,Ay,BD,C4]at E;obtain⟨ty,O,M,U,rfl⟩:=E;obtain⟨p,q,V,Y,rfl⟩:=h;obtain⟨x,x1,⟨x2,x3⟩,x5⟩:=yB O (hv 0 t v rfl rfl) V;obtain⟨xs,y1,y2,y3,y4,y5⟩:=pf I M vs ds q U (fun j t v E N=>hv (j+1) t v (by simpa using E) (by simpa using N)) Y;refine⟨x::xs,.cons x1 y1,by simp[y2],?_,?_,?_⟩
  ·grind
  ·grind
  ·simp only[GU,FZ]; omega
 |[],_,_::_,_,_,_,_,h=>by cases h
 |[],_,[],_::_,_,_,_,h=>by cases h
 |_::_,_,[],_,_,_,_,h=>by cases h
 |_::_,_,_::_,[],_,_,_,h=>by cases h
theorem yGa{K N:Nat}(hC:Contract P G K sp)(M:fn.params.toList.mapM (FT P n)=some tys)(E:s.vars=[])
  (I:∃ tb,fn.resultTypes=#[tb]∧P.underlying tb=some .bool)
  (ac:∀ (H:Type) (ds:List (DataW H)),ds.length=fn.params.size→(s.fn H ds).results=[.lit (.bool true)]∧(s.fn H ds).args=ds∧(s.fn H ds).vars=[])
  (ad:∀ xs,HasAll tys xs→GU xs≤N→sp xs=some (.bool true))
   {ds U:List (DataW H)}  (hG:GlobOK G W (JP W)) (hN:FZ ds≤N)
  (V:∀ (j:Nat) t v,fn.params[j]?=some t→args[j]?=some v→Value.okWide P W .any 0 t v)
  (hW:DataW.Whole enc P fn.params.toList s.vars false W args.toList ds U before) :
  Calls P K args W fun e W'=>∃ v,e=.returned v∧s.post enc P fn false true false false W args v W':=by
 obtain⟨tb,I,af⟩:=I;have O:=hW;obtain⟨p,q,Y,hV,rfl,bc,bd⟩:=hW;rw[E]at hV
 have ah:U=[]∧q=[]:=by
  cases U with
  |nil=>exact⟨rfl,hV⟩
  |cons a l=>cases hV
 obtain⟨rfl,rfl⟩:=ah;obtain⟨xs,x1,x2,x3,x4,x5⟩:=pf fn.params.toList tys args.toList ds p M (fun j t v ht hv=>V j t v (by simpa using ht) (by simpa using hv)) Y
 have hlen:∀ (J:List TypeId) (vs:List Value) (ds:List (DataW H)) (ps:List MemPlace),DataW.TrodAll enc P W 0 (fun _=>true) true J vs ds ps→ds.length=J.length:=by
  intro J
  induction J with
  |nil=>intro vs ds ps h; cases vs <;> cases ds <;> first | rfl | cases h
  |cons t J ih=>
   intro vs ds ps h
   cases vs with
   |nil=>cases h
   |cons v vs=>
    cases ds with
    |nil=>cases h
    |cons d ds=>
     obtain⟨_,_,_,h4,_⟩:=h;grind
 have a0:ds.length=fn.params.size:=by simpa using hlen _ _ _ _ Y
 have hc:=hC W (JP W) xs args.toList (.bool true) (ad xs x1 (AT x5 hN)) hG (fun b o h=>h) x2 x3 x4;rw[BC]at hc;refine hc.mono ?_;rintro e W' ⟨v,g',rfl,h1,_,_,_,_,hb⟩;have hv:=KQ h1;subst hv;obtain⟨f1,f2,f3⟩:=ac H ds a0;refine⟨_,rfl,ds,[],p++[],[],p,[],O,?_,?_,?_,?_,fun h=>by cases h⟩
 ·rw[Ad,f1,I];exact⟨[],[],⟨1,by unfold DataW.trod; simp[af,Value.cells]⟩,rfl,rfl⟩
 ·rw[Ad,f2];refine jz hb _ tys _ _ _ M Y _ fun x hx=>?_;simpa using O.lt x (by simpa using hx)
 ·rw[Ad,f3,E];rfl
 ·refine⟨hb.os,hb.output,fun i hi=>?_⟩;rw[hb.block i hi];grind
theorem law_contract{K:Nat}(V:Contract P G K sp)(J:fn.params.toList.mapM (FT P n)=some tys)(E:s.vars=[])
  (M:∃ tb,fn.resultTypes=#[tb]∧P.underlying tb=some .bool)
  (O:∀ (H:Type) (ds:List (DataW H)),ds.length=fn.params.size→(s.fn H ds).results=[.lit (.bool true)]∧(s.fn H ds).args=ds∧(s.fn H ds).vars=[])
  (U:∀ xs,HasAll tys xs→sp xs=some (.bool true))
   {ds Y:List (DataW H)}  (hG:GlobOK G W (JP W))
  (I:∀ (j:Nat) t v,fn.params[j]?=some t→args[j]?=some v→Value.okWide P W .any 0 t v)
  (hW:DataW.Whole enc P fn.params.toList s.vars false W args.toList ds Y before) :
  Calls P K args W fun e W'=>∃ v,e=.returned v∧s.post enc P fn false true false false W args v W':=
 yGa (N:=FZ ds) V J E M O (fun xs h _=>U xs h) hG (AE _) I hW
def PR(g:Nat)(k:IntKind)(zs:List Int):Dc:=fun n=>if n=g then some (.agg (zs.map fun z=>.int k z))else none
theorem Ypm{I:String}{k:IntKind}{zs:List Int}{g:Nat}(h:Lib.TabIs P W I k zs)(N:P.globalNamed I=some g):GlobOK (PR g k zs) W (JP W):=by
 intro n d E;simp only[PR,As,C4]at E;obtain⟨rfl,rfl⟩:=E
 have hj:∀ (j:Nat) (d:D),(D.agg (zs.map fun z=>D.int k z)).cells[j]?=some d→d=.int k (zs.getD j 0)∧W.cell? ⟨n,j,none⟩=some (.int k (zs.getD j 0)):=by
  intro j d E;simp only[D.cells,AJ,Dw]at E;obtain⟨z,J,rfl⟩:=E;have M:j<zs.length:=(Ac.1 J).1;exact⟨by simp[Ao,J],h.cell N j M⟩
 refine .eptr _ 0 n 0 (fun j=>.int k (zs.getD j 0)) (fun j d E=>?_) (fun j d E=>?_) (fun j d E=>?_)
 ·rw[(hj j d E).1]; rfl
 ·have:=(hj j d E).2;rw[Am];exact⟨by show(W.cell? ⟨n,j,none⟩).isSome=true; rw[this]; rfl,this⟩
 ·rw[(hj j d E).1]; exact .int _ _
end
end Go.Proofs.YtijnglngaogdjaaGreatDoor.PI
namespace Go.Proofs.YtijnglngaogdjaaGreatDoor.PI
open Go
def wD(x:UInt32):D:=.int .u32 (x.toNat:Int)
def qD(x:UInt64):D:=.int .u64 (x.toNat:Int)
theorem Yt0{n:Nat}(m:Nat):CJ n (m:Int)=BitVec.ofNat n m:=BitVec.ofInt_natCast ..
theorem QE(n:Nat):IntKind.wrap .u32 (n:Int)=((n % 2 ^ 32:Nat):Int):=by
 rfl
theorem R8(n:Nat):IntKind.wrap .u64 (n:Int)=((n % 2 ^ 64:Nat):Int):=by
 rfl
theorem ZD(n:Nat):IntKind.wrap .u8 (n:Int)=((n % 2 ^ 8:Nat):Int):=by
 rfl
theorem gU(x y:UInt32):Df .add (wD x) (wD y)=some (wD (x+y)):=by
 rfl
theorem VN(x:UInt32):CJ 32 (x.toNat:Int)=x.toBitVec:=by
 simp_all
theorem ZT(x:UInt32):x.toNat % 2 ^ 32=x.toNat:=A4 x.toNat_lt
theorem VR(x y:UInt32):Df .and (wD x) (wD y)=some (wD (x &&& y)):=by
 have h:(CJ (IntKind.bits .u32) (x.toNat:Int) &&& CJ (IntKind.bits .u32) (y.toNat:Int)).toNat=(x &&& y).toNat:=by
  show(CJ 32 (x.toNat:Int) &&& CJ 32 (y.toNat:Int)).toNat=_
  simp_all
 simp only[Df,wD,if_true,Kk,Ag,h,QE,ZT]
theorem UB(x y:UInt32):Df .or (wD x) (wD y)=some (wD (x ||| y)):=by
 have h:(CJ (IntKind.bits .u32) (x.toNat:Int) ||| CJ (IntKind.bits .u32) (y.toNat:Int)).toNat=(x ||| y).toNat:=by
  show(CJ 32 (x.toNat:Int) ||| CJ 32 (y.toNat:Int)).toNat=_
  simp_all
 simp only[Df,wD,if_true,Kk,Ag,h,QE,ZT]
theorem sF(x y:UInt32):Df .xor (wD x) (wD y)=some (wD (x ^^^ y)):=by
 have h:(CJ (IntKind.bits .u32) (x.toNat:Int) ^^^ CJ (IntKind.bits .u32) (y.toNat:Int)).toNat=(x ^^^ y).toNat:=by
  show(CJ 32 (x.toNat:Int) ^^^ CJ 32 (y.toNat:Int)).toNat=_
  simp_all
 simp only[Df,wD,if_true,Kk,Ag,h,QE,ZT]
theorem UG(x:UInt32):L7 .xor (wD x)=some (wD (~~~x)):=by
 have E:(IntKind.max .u32)=((4294967295:UInt32).toNat:Int):=by decide
 have h:(CJ (IntKind.bits .u32) ((4294967295:UInt32).toNat:Int) ^^^ CJ (IntKind.bits .u32) (x.toNat:Int)).toNat=(~~~x).toNat:=by
  show(CJ 32 ((4294967295:UInt32).toNat:Int) ^^^ CJ 32 (x.toNat:Int)).toNat=_
  rw[VN,VN,show(4294967295:UInt32).toBitVec=BitVec.allOnes 32 from rfl,BitVec.allOnes_xor];rfl
 simp only[L7,wD,Kk,Ag,show IntKind.signed .u32=false from rfl,Al,if_false,E,h,QE,ZT]
theorem Yp9(st:St)(b:UInt8):E7 st (.int .u32) (Dd b)=some (wD b.toUInt32):=by
 simp only[E7,Dd,wD,QE,UInt8.toNat_toUInt32];simp_all
theorem Yp7(st:St)(x:UInt32):E7 st (.int .u8) (wD x)=some (Dd x.toUInt8):=by
 rfl
theorem Yp8(st:St)(x:UInt64):E7 st (.int .u8) (qD x)=some (Dd x.toUInt8):=by
 rfl
theorem so(x:UInt32)(k:IntKind)(n:Nat)(h:n<32):Df .shl (wD x) (.int k (n:Int))=some (wD (x <<< (UInt32.ofNat n))):=by
 have e:(x <<< (UInt32.ofNat n)).toNat=x.toNat*2 ^ n % 2 ^ 32:=by
  rw[UInt32.toNat_shiftLeft,Nat.shiftLeft_eq,UInt32.toNat_ofNat',A4 (show n<2 ^ 32 by omega),A4 h]
 have E:((x.toNat:Int)*2 ^ n)=((x.toNat*2 ^ n:Nat):Int):=by push_cast; rfl
 simp only[Df,wD,Ll,show ¬ ((n:Int)<0) by omega,if_false,Ag,Bh,show IntKind.bits .u32=32 from rfl,B4 (Co h),E,QE,e]
theorem su(x:UInt32)(k:IntKind)(n:Nat)(h:n<32):Df .shr (wD x) (.int k (n:Int))=some (wD (x >>> (UInt32.ofNat n))):=by
 have e:(x >>> (UInt32.ofNat n)).toNat=x.toNat / 2 ^ n:=by
  rw[UInt32.toNat_shiftRight,Nat.shiftRight_eq_div_pow,UInt32.toNat_ofNat',A4 (show n<2 ^ 32 by omega),A4 h]
 have E:(x.toNat:Int).fdiv (2 ^ n)=((x.toNat / 2 ^ n:Nat):Int):=by
  grind
 simp only[Df,wD,Ll,show ¬ ((n:Int)<0) by omega,if_false,Ag,Bh,show IntKind.bits .u32=32 from rfl,B4 (Co h),E,e]
theorem ru(x:UInt64)(k:IntKind)(n:Nat)(h:n<64):Df .shl (qD x) (.int k (n:Int))=some (qD (x <<< (CX n))):=by
 have e:(x <<< (CX n)).toNat=x.toNat*2 ^ n % 2 ^ 64:=by
  rw[UInt64.toNat_shiftLeft,Nat.shiftLeft_eq,UInt64.toNat_ofNat',A4 (show n<2 ^ 64 by omega),A4 h]
 have E:((x.toNat:Int)*2 ^ n)=((x.toNat*2 ^ n:Nat):Int):=by push_cast; rfl
 simp only[Df,qD,Ll,show ¬ ((n:Int)<0) by omega,if_false,Ag,Bh,show IntKind.bits .u64=64 from rfl,B4 (Co h),E,R8,e]
theorem Ut(x:UInt64)(k:IntKind)(n:Nat)(h:n<64):Df .shr (qD x) (.int k (n:Int))=some (qD (x >>> (CX n))):=by
 have e:(x >>> (CX n)).toNat=x.toNat / 2 ^ n:=by
  rw[UInt64.toNat_shiftRight,Nat.shiftRight_eq_div_pow,UInt64.toNat_ofNat',A4 (show n<2 ^ 64 by omega),A4 h]
 have E:(x.toNat:Int).fdiv (2 ^ n)=((x.toNat / 2 ^ n:Nat):Int):=by
  grind
 simp only[Df,qD,Ll,show ¬ ((n:Int)<0) by omega,if_false,Ag,Bh,show IntKind.bits .u64=64 from rfl,B4 (Co h),E,e]
variable {n:Int}
theorem N4(E:-9223372036854775808≤n)(I:n<9223372036854775808):IntKind.wrap .i64 n=n:=by
 show(if(true && decide (n % (2 ^ 64:Int) ≥ (2 ^ (64 - 1):Int)))=true then n % (2 ^ 64:Int) - (2 ^ 64:Int)else n % (2 ^ 64:Int))=n
 grind
variable {a:Int}
theorem DI{b:Int}(E:-9223372036854775808≤a+b)(I:a+b<9223372036854775808):Df .add (.int .i64 a) (.int .i64 b)=some (.int .i64 (a+b)):=by
 simp only[Df,if_true,JQ,Ag,N4 E I]
theorem Fc{b:Int}(E:-9223372036854775808≤a - b)(I:a - b<9223372036854775808):Df .sub (.int .i64 a) (.int .i64 b)=some (.int .i64 (a - b)):=by
 simp only[Df,if_true,JQ,Ag,N4 E I]
theorem MD{b:Int}(E:-9223372036854775808≤a*b)(I:a*b<9223372036854775808):Df .mul (.int .i64 a) (.int .i64 b)=some (.int .i64 (a*b)):=by
 simp only[Df,if_true,JQ,Ag,N4 E I]
class Cont (α:Type):Type where
 mk::
 run:α→Prop
class Cont2 (α β:Type):Type where
 mk::
 run:α→β→Prop
class QC:Type where
 mk::
 run:Ex→Frame→St→Prop
class InvC:Type where
 mk::
 run:PS→Prop
class Br:Type where
 mk::
 run:Prop
def on{α:Type}(o:Option α)[k:Cont α]:Prop:=match o with
 |some a=>k.run a
 |none=>False
variable {α:Type}
theorem lG(a:α)(K:α→Prop):@on α (some a) ⟨K⟩=K a:=(rfl)
theorem Ynm(k:Cont α):@on α none k=False:=(rfl)
def Ry(d:D)[k:Cont Bool]:Prop:=match d with
 |.bool b=>k.run b
 |_=>False
theorem Yf7(b:Bool)(K:Bool→Prop):@Ry (.bool b) ⟨K⟩=K b:=(rfl)
def G3(b:Bool)[x:Br][y:Br]:Prop:=if b=true then x.run else y.run
theorem Yhg(x:Prop)(y:Br):@G3 true ⟨x⟩ y=x:=(rfl)
theorem wB(x:Br)(y:Prop):@G3 false x ⟨y⟩=y:=(rfl)
theorem Yo1(b:Bool)(x y:Br):@G3 (!b) x y=@G3 b y x:=by cases b <;> rfl
variable {y:Prop}
theorem E4{p:Prop}[Decidable p]{x:Prop}(E:p→x)(I:¬ p→y):@G3 (decide p) ⟨x⟩ ⟨y⟩:=by
 by_cases h:p
 ·rw[show decide p=true by simpa using h]; exact E h
 ·rw[show decide p=false by simpa using h]; exact I h
def ev(d:D)[k:Cont D]:Prop:=k.run d
theorem Vx(d:D)(K:D→Prop):@ev d ⟨K⟩=K d:=(rfl)
def OE(d:D)(st:St)[k:Cont2 D St]:Prop:=k.run d st
theorem Ywb(d:D)(st:St)(K:D→St→Prop):@OE d st ⟨K⟩=K d st:=(rfl)
def EU(T:Tbl)(op:POp)(ρ:PA→D)(st:St)(K:D→St→Prop):Prop:=@on _ (op.exec T ρ st) ⟨fun p=>K p.1 p.2⟩
def kG(fr:Frame)(g:Option (Nat×Bool))(x y:Prop):Prop:=match g with
 |none=>x
 |some (s,want)=>match fr s with
  |.bool b=>@G3 (b == want) ⟨x⟩ ⟨y⟩
  |.tup []=>y
  |_=>False
def FW(G:Dc)(T:Tbl):List PI→Frame→St→(Frame→St→Prop)→Prop
 |[],fr,st,K=>K fr st
 |i::l,fr,st,K=>kG fr i.guard (EU T i.op (Dh G fr) st fun d st'=>FW G T l (fr.put i.dst d) st' K) (FW G T l (fr.put i.dst (.tup [])) st K)
theorem SE{G:Dc}{T:Tbl}:∀ (l:List PI) (fr:Frame) (st:St) (K:Frame→St→Prop),FW G T l fr st K→∃ E st',EH G T l ⟨fr,st⟩=some ⟨E,st'⟩∧K E st'
 |[],fr,st,K,h=>⟨fr,st,rfl,h⟩
 |i::l,fr,st,K,h=>by
  have yes:EU T i.op (Dh G fr) st (fun d st'=>FW G T l (fr.put i.dst d) st' K)→i.wanted fr=some true→∃ E st',EH G T (i::l) ⟨fr,st⟩=some ⟨E,st'⟩∧K E st':=by
   intro h hw;unfold EU on at h
   split at h
   ·rename_i p O;obtain⟨E,st',M,N⟩:=SE l _ _ K h;exact⟨E,st',by simp only[EH,PI.exec,hw,O,M],N⟩
   ·exact h.elim
  have no:FW G T l (fr.put i.dst (.tup [])) st K→i.wanted fr=some false→∃ E st',EH G T (i::l) ⟨fr,st⟩=some ⟨E,st'⟩∧K E st':=by
   intro h hw;obtain⟨E,st',M,N⟩:=SE l _ _ K h;exact⟨E,st',by simp only[EH,PI.exec,hw,M],N⟩
  rw[FW]at h;unfold kG at h
  split at h
  ·rename_i I;exact yes h (by simp[PI.wanted,I])
  ·rename_i s want I
   split at h
   ·rename_i b hb;have hw:i.wanted fr=some (b == want):=by simp[PI.wanted,I,hb]
    cases J:(b == want)with
    |true=>rw[J]at h hw; exact yes h hw
    |false=>rw[J]at h hw; exact no h hw
   ·rename_i hb;exact no h (by simp[PI.wanted,I,hb])
   ·exact h.elim
def IB(T:Tbl)(op:POp)(ρ:PA→D)(st:St)(K:D→St→Prop)(X:Nat→D→St→Prop):Prop:=match op.exec T ρ st with
 |some p=>K p.1 p.2
 |none=>match op.execX T ρ st with
  |some r=>X r.1 r.2.1 r.2.2
  |none=>False
def Lf(G:Dc)(T:Tbl):List PI→Frame→St→(Frame→St→Prop)→(Nat→D→Frame→St→Prop)→Prop
 |[],fr,st,K,_=>K fr st
 |i::l,fr,st,K,X=>kG fr i.guard (IB T i.op (Dh G fr) st (fun d st'=>Lf G T l (fr.put i.dst d) st' K X) (fun t d st'=>X t d fr st')) (Lf G T l (fr.put i.dst (.tup [])) st K X)
theorem bj{G:Dc}{T:Tbl}:∀ (l:List PI) (fr:Frame) (st:St) (K:Frame→St→Prop) (X:Nat→D→Frame→St→Prop),Lf G T l fr st K X→
  (∃ E st',EH G T l ⟨fr,st⟩=some ⟨E,st'⟩∧K E st')∨∃ t d E st',EH G T l ⟨fr,st⟩=none∧Jj G T l ⟨fr,st⟩=some (t,d,⟨E,st'⟩)∧X t d E st'
 |[],fr,st,K,X,h=>.inl ⟨fr,st,rfl,h⟩
 |i::l,fr,st,K,X,h=>by
  have yes:IB T i.op (Dh G fr) st (fun d st'=>Lf G T l (fr.put i.dst d) st' K X) (fun t d st'=>X t d fr st')→i.wanted fr=some true→
    (∃ E st',EH G T (i::l) ⟨fr,st⟩=some ⟨E,st'⟩∧K E st')∨∃ t d E st',EH G T (i::l) ⟨fr,st⟩=none∧Jj G T (i::l) ⟨fr,st⟩=some (t,d,⟨E,st'⟩)∧X t d E st':=by
   intro h hw;unfold IB at h
   split at h
   ·rename_i p O;rcases bj l _ _ K X h with⟨E,st',I,J⟩ | ⟨t,d,E,st',I,J,U⟩
    ·exact .inl ⟨E,st',by simp only[EH,PI.exec,hw,O,I],J⟩
    ·exact .inr ⟨t,d,E,st',by simp only[EH,PI.exec,hw,O,I],by simp only[Jj,PI.exec,hw,O,J],U⟩
   ·rename_i hn
    split at h
    ·rename_i r V;exact .inr ⟨r.1,r.2.1,fr,r.2.2,by simp only[EH,PI.exec,hw,hn],by simp only[Jj,PI.exec,PI.execX,hw,hn,V,Ag],h⟩
    ·exact h.elim
  have no:Lf G T l (fr.put i.dst (.tup [])) st K X→i.wanted fr=some false→
    (∃ E st',EH G T (i::l) ⟨fr,st⟩=some ⟨E,st'⟩∧K E st')∨∃ t d E st',EH G T (i::l) ⟨fr,st⟩=none∧Jj G T (i::l) ⟨fr,st⟩=some (t,d,⟨E,st'⟩)∧X t d E st':=by
   intro h hw;rcases bj l _ _ K X h with⟨E,st',I,J⟩ | ⟨t,d,E,st',I,J,U⟩
   ·exact .inl ⟨E,st',by simp only[EH,PI.exec,hw,I],J⟩
   ·exact .inr ⟨t,d,E,st',by simp only[EH,PI.exec,hw,I],by simp only[Jj,PI.exec,hw,J],U⟩
  rw[Lf]at h;unfold kG at h
  split at h
  ·rename_i M;exact yes h (by simp[PI.wanted,M])
  ·rename_i s want M
   split at h
   ·rename_i b hb;have hw:i.wanted fr=some (b == want):=by simp[PI.wanted,M,hb]
    cases N:(b == want)with
    |true=>rw[N]at h hw; exact yes h hw
    |false=>rw[N]at h hw; exact no h hw
   ·rename_i hb;exact no h (by simp[PI.wanted,M,hb])
   ·exact h.elim
variable {X:Nat→D→St→Prop}{st:St}{T:Tbl}
theorem wk{op:POp}{ρ:PA→D}{K E:D→St→Prop}{I:Nat→D→St→Prop}(h:IB T op ρ st K X)(hk:∀ d st,K d st→E d st)(J:∀ t d st,X t d st→I t d st):IB T op ρ st E I:=by
 unfold IB at h ⊢;grind
variable {fr:Frame}
theorem Yor{g:Option (Nat×Bool)}{x E I:Prop}(h:kG fr g x y)(J:x→E)(M:y→I):kG fr g E I:=by
 unfold kG at h ⊢
 revert h
 split
 ·exact J
 ·split
  ·unfold G3;grind
  ·exact M
  ·exact id
theorem aU{G:Dc}{T:Tbl}:∀ (l:List PI) (fr:Frame) (st:St) (K E:Frame→St→Prop) (X I:Nat→D→Frame→St→Prop),Lf G T l fr st K X→(∀ fr st,K fr st→E fr st)→(∀ t d fr st,X t d fr st→I t d fr st)→Lf G T l fr st E I
 |[],_,_,_,_,_,_,h,hk,_=>hk _ _ h
 |i::l,fr,st,K,E,X,I,h,hk,J=>by
  rw[Lf]at h ⊢;exact Yor h (fun h=>wk h (fun _ _ h=>aU l _ _ _ _ _ _ h hk J) fun _ _ _ h=>J _ _ _ _ h) fun h=>aU l _ _ _ _ _ _ h hk J
class XC:Type where
 mk::
 run:Nat→D→Frame→St→Prop
class XC0:Type where
 mk::
 run:Nat→D→St→Prop
def Ox(G:Dc)(T:Tbl)(l:List PI)(fr:Frame)(st:St)[K:Cont2 Frame St][X:XC]:Prop:=Lf G T l fr st K.run X.run
def I4(T:Tbl)(op:POp)(ρ:PA→D)(st:St)[K:Cont2 D St][X:XC0]:Prop:=IB T op ρ st K.run X.run
theorem yD(G:Dc)(T:Tbl)(fr:Frame)(st:St)(K:Frame→St→Prop)(X:XC):@Ox G T [] fr st ⟨K⟩ X=K fr st:=(rfl)
def Rx(o:Option (D×St))(p:Option (Nat×D×St))[K:Cont2 D St][X:XC0]:Prop:=match o with
 |some r=>K.run r.1 r.2
 |none=>match p with
  |some r=>X.run r.1 r.2.1 r.2.2
  |none=>False
theorem Yf6(d:D)(st:St)(p:Option (Nat×D×St))(K:D→St→Prop)(X:XC0):@Rx (some (d,st)) p ⟨K⟩ X=K d st:=(rfl)
theorem xI(t:Nat)(d:D)(st:St)(K:Cont2 D St)(X:Nat→D→St→Prop):@Rx none (some (t,d,st)) K ⟨X⟩=X t d st:=(rfl)
def S2(o:Option (List D→St→Option (D×St)))(ds:List D)(st:St):Option (D×St):=match o with
 |some sp=>sp ds st
 |none=>none
theorem yS6(sp:List D→St→Option (D×St))(ds:List D)(st:St):S2 (some sp) ds st=sp ds st:=(rfl)
theorem yS7(ds:List D)(st:St):S2 none ds st=none:=(rfl)
def S3(o:Option (List D→St→Option (Nat×D×St)))(ds:List D)(st:St):Option (Nat×D×St):=match o with
 |some sp=>sp ds st
 |none=>none
theorem yS4(sp:List D→St→Option (Nat×D×St))(ds:List D)(st:St):S3 (some sp) ds st=sp ds st:=(rfl)
theorem yS5(ds:List D)(st:St):S3 none ds st=none:=(rfl)
theorem yRn(T:Tbl)(f:Nat)(args:List PA)(ρ:PA→D)(st:St)(K:Cont2 D St)(X:XC0):@I4 T (.icall f args) ρ st K X=@Rx (S2 (T.i f) (args.map ρ) st) (S3 (T.x f) (args.map ρ) st) K X:=by
 rfl
def NL(d:D)(ds:List D):Option (Nat×List D):=match d with
 |.clo f caps=>if f<5000000 then some (f,ds++caps)else if f<10000000 then some (f - 5000000,caps++ds)else none
 |_=>none
theorem W9(T:Tbl)(x:PA)(args:List PA)(ρ:PA→D)(st:St)(K:Cont2 D St)(X:XC0)(f:Nat)(ds:List D)(h:NL (ρ x) (args.map ρ)=some (f,ds)):@I4 T (.callv x args) ρ st K X=@Rx (S2 (T.i f) ds st) (S3 (T.x f) ds st) K X:=by
 simp only[I4,IB,POp.exec,Rx,S2,S3,POp.execX,POp.callee];unfold NL at h;grind
def POp.tame:POp→Bool
 |.icall _ _ | .callv _ _=>false
 |_=>true
theorem yC(T:Tbl)(op:POp)(ρ:PA→D)(st:St)(K:Cont2 D St)(X:XC0)(h:op.tame=true):@I4 T op ρ st K X=EU T op ρ st K.run:=by
 have:op.execX T ρ st=none:=by
  cases op <;> first | rfl | (simp[POp.tame]at h; done)
 simp only[I4,IB,EU,on,this];grind
def kF(fs:List (Option Foot))(b:Bool)(cs:List Nat)(f:Option Foot)(K:List (Option Foot)→Prop):Prop:=@G3 (MI fs f cs) ⟨K (fs++[if b then f else none])⟩ ⟨False⟩
variable {f:Option Foot}{cs:List Nat}{fs:List (Option Foot)}
theorem cW{b:Bool}{K:List (Option Foot)→Prop}(h:kF fs b cs f K):MI fs f cs=true∧K (fs++[if b then f else none]):=by
 unfold kF G3 at h;grind
theorem kZ{b:Bool}{K E:List (Option Foot)→Prop}(h:kF fs b cs f K)(hk:∀ fs,K fs→E fs):kF fs b cs f E:=by
 obtain⟨I,J⟩:=cW h;unfold kF G3;grind
def FF(G:Dc)(T:Tbl):List (PI×Bool×List Nat)→List (Option Foot)→Frame→St→(Frame→St→Prop)→Prop
 |[],_,fr,st,K=>K fr st
 |i::l,fs,fr,st,K=>kG fr i.1.guard (kF fs i.2.1 i.2.2 (i.1.op.foot (Dh G fr) st) fun fs'=>EU T i.1.op (Dh G fr) st fun d st'=>FF G T l fs' (fr.put i.1.dst d) st' K)
   (kF fs i.2.1 i.2.2 (some NV) fun fs'=>FF G T l fs' (fr.put i.1.dst (.tup [])) st K)
theorem SD{G:Dc}{T:Tbl}:∀ (l:List (PI×Bool×List Nat)) (fs:List (Option Foot)) (fr:Frame) (st:St) (K:Frame→St→Prop),FF G T l fs fr st K→∃ E st',GP G T l fs ⟨fr,st⟩=some ⟨E,st'⟩∧K E st'
 |[],_,fr,st,K,h=>⟨fr,st,rfl,h⟩
 |(i,b,cs)::l,fs,fr,st,K,h=>by
  have yes:kF fs b cs (i.op.foot (Dh G fr) st) (fun J=>EU T i.op (Dh G fr) st fun d st'=>FF G T l J (fr.put i.dst d) st' K)→i.wanted fr=some true→∃ E st',GP G T ((i,b,cs)::l) fs ⟨fr,st⟩=some ⟨E,st'⟩∧K E st':=by
   intro h hw;obtain⟨N,h⟩:=cW h;unfold EU on at h
   split at h
   ·rename_i p Y;obtain⟨E,st',O,U⟩:=SD l _ _ _ K h;have hf:i.foot G ⟨fr,st⟩=i.op.foot (Dh G fr) st:=by simp[PI.foot,hw]
    have V:i.exec G T ⟨fr,st⟩=some ⟨fr.put i.dst p.1,p.2⟩:=by simp only[PI.exec,hw,Y]
    exact⟨E,st',by simp only[GP,hf,N,if_true,V,O],U⟩
   ·exact h.elim
  have no:kF fs b cs (some NV) (fun J=>FF G T l J (fr.put i.dst (.tup [])) st K)→i.wanted fr=some false→∃ E st',GP G T ((i,b,cs)::l) fs ⟨fr,st⟩=some ⟨E,st'⟩∧K E st':=by
   intro h hw;obtain⟨N,h⟩:=cW h;obtain⟨E,st',O,U⟩:=SD l _ _ _ K h;have hf:i.foot G ⟨fr,st⟩=some NV:=by simp[PI.foot,hw]
   have V:i.exec G T ⟨fr,st⟩=some ⟨fr.put i.dst (.tup []),st⟩:=by simp only[PI.exec,hw]
   exact⟨E,st',by simp only[GP,hf,N,if_true,V,O],U⟩
  rw[FF]at h;unfold kG at h
  split at h
  ·rename_i I;exact yes h (by simp only at I; simp[PI.wanted,I])
  ·rename_i s want I;simp only at I
   split at h
   ·rename_i b hb;have hw:i.wanted fr=some (b == want):=by simp[PI.wanted,I,hb]
    cases M:(b == want)with
    |true=>rw[M]at h hw; exact yes h hw
    |false=>rw[M]at h hw; exact no h hw
   ·rename_i hb;exact no h (by simp[PI.wanted,I,hb])
   ·exact h.elim
theorem Sv{G:Dc}{T:Tbl}:∀ (l:List (PI×Bool×List Nat)) (fs:List (Option Foot)) (fr:Frame) (st:St) (K I:Frame→St→Prop),FF G T l fs fr st K→(∀ fr st,K fr st→I fr st)→FF G T l fs fr st I
 |[],_,_,_,_,_,h,hk=>hk _ _ h
 |i::l,fs,fr,st,K,I,h,hk=>by
  have J:kF fs i.2.1 i.2.2 (i.1.op.foot (Dh G fr) st) (fun E=>EU T i.1.op (Dh G fr) st fun d st'=>FF G T l E (fr.put i.1.dst d) st' K)→kF fs i.2.1 i.2.2 (i.1.op.foot (Dh G fr) st) (fun E=>EU T i.1.op (Dh G fr) st fun d st'=>FF G T l E (fr.put i.1.dst d) st' I):=by
   refine fun h=>kZ h fun E=>?_;unfold EU on
   split
   ·exact fun h=>Sv l _ _ _ _ _ h hk
   ·exact id
  have M:kF fs i.2.1 i.2.2 (some NV) (fun E=>FF G T l E (fr.put i.1.dst (.tup [])) st K)→kF fs i.2.1 i.2.2 (some NV) (fun E=>FF G T l E (fr.put i.1.dst (.tup [])) st I):=fun h=>kZ h fun E h=>Sv l _ _ _ _ _ h hk;rw[FF]at h ⊢;unfold kG at h ⊢
  revert h
  split
  ·exact J
  ·split
   ·unfold G3;grind
   ·exact M
   ·exact id
class FsC:Type where
 mk::
 run:List (Option Foot)→Prop
def wF(fs:List (Option Foot))(b:Bool)(cs:List Nat)(f:Option Foot)[K:FsC]:Prop:=kF fs b cs f K.run
theorem EE(fs:List (Option Foot))(f:Option Foot)(K:List (Option Foot)→Prop):@wF fs false [] f ⟨K⟩=K (fs++[none]):=(rfl)
def ZG(l:List (Option Foot))[K:FsC]:Prop:=K.run l
theorem Yv0(l:List (Option Foot))(K:List (Option Foot)→Prop):@ZG l ⟨K⟩=K l:=(rfl)
theorem Yly(fs:List (Option Foot))(f:Foot)(K:FsC):@wF fs true [] (some f) K=@ZG (fs++[some f]) K:=(rfl)
theorem TT(fs:List (Option Foot))(b:Bool)(j:Nat)(cs:List Nat)(f:Foot)(K:FsC):@wF fs b (j::cs) (some f) K=@G3 (MI fs (some f) (j::cs)) ⟨@ZG (fs++[if b then some f else none]) K⟩ ⟨False⟩:=(rfl)
def S9(a b:PS)[k:Cont PS]:Prop:=a=b∧k.run a
theorem yR2(a:PS)(K:PS→Prop):@S9 a a ⟨K⟩=K a:=by simp[S9]
def W2(keep:List Nat)(n:Nat)(fr1:Frame)(st1:St)(fr2:Frame)(st2:St)(K:PS→Prop):Prop:=
 @G3 (st1.length == n+2 && st2.length == n+2) ⟨@S9 (restrictAt keep n [n,n+1] ⟨fr1,st1⟩) (restrictAt keep n [n+1,n] ⟨fr2,st2⟩) ⟨K⟩⟩ ⟨False⟩
variable {st1 st2:St}{fr1 fr2:Frame}{keep:List Nat}
theorem Yro{n:Nat}{K:PS→Prop}(h:W2 keep n fr1 st1 fr2 st2 K):ZW keep n ⟨fr1,st1⟩ ⟨fr2,st2⟩=some (restrictAt keep n [n,n+1] ⟨fr1,st1⟩)∧K (restrictAt keep n [n,n+1] ⟨fr1,st1⟩):=by
 unfold W2 G3 at h
 split at h
 ·rename_i hl;simp only[Af,beq_iff_eq]at hl;obtain⟨I,E⟩:=h;refine⟨?_,E⟩;unfold ZW;grind
 ·exact h.elim
theorem Yrp{n:Nat}{K E:PS→Prop}(h:W2 keep n fr1 st1 fr2 st2 K)(hk:∀ s,K s→E s):W2 keep n fr1 st1 fr2 st2 E:=by
 unfold W2 G3 at h ⊢
 split at h
 ·rename_i hl;rw[if_pos hl];exact⟨h.1,hk _ h.2⟩
 ·exact h.elim
def Ix(G:Dc)(T:Tbl)(l:List (PI×Bool×List Nat))(fs:List (Option Foot))(fr:Frame)(st:St)[K:Cont2 Frame St]:Prop:=FF G T l fs fr st K.run
def Hh(G:Dc)(T:Tbl)(l:List PI)(fr:Frame)(st:St)[K:Cont2 Frame St]:Prop:=FW G T l fr st K.run
def DY(T:Tbl)(op:POp)(ρ:PA→D)(st:St)[K:Cont2 D St]:Prop:=EU T op ρ st K.run
def kV(d:D)(want:Bool)[x:Br][y:Br]:Prop:=match d with
 |.bool b=>@G3 (b == want) x y
 |.tup []=>y.run
 |_=>False
theorem Ydv(G:Dc)(T:Tbl)(fr:Frame)(st:St)(K:Frame→St→Prop):@Hh G T [] fr st ⟨K⟩=K fr st:=(rfl)
theorem yRl(G:Dc)(T:Tbl)(dst:Option Nat)(op:POp)(l:List PI)(fr:Frame)(st:St)(K:Cont2 Frame St) :
  @Hh G T ({dst,op,guard:=none}::l) fr st K=@DY T op (Dh G fr) st ⟨fun d st'=>@Hh G T l (fr.put dst d) st' K⟩:=(rfl)
theorem yRm(G:Dc)(T:Tbl)(dst:Option Nat)(op:POp)(s:Nat)(E:Bool)(l:List PI)(fr:Frame)(st:St)(K:Cont2 Frame St) :
  @Hh G T ({dst,op,guard:=some (s,E)}::l) fr st K=@kV (fr s) E ⟨@DY T op (Dh G fr) st ⟨fun d st'=>@Hh G T l (fr.put dst d) st' K⟩⟩ ⟨@Hh G T l (fr.put dst (.tup [])) st K⟩:=(rfl)
theorem yLf(G:Dc)(T:Tbl)(dst:Option Nat)(op:POp)(l:List PI)(fr:Frame)(st:St)(K:Cont2 Frame St)(X:XC) :
  @Ox G T ({dst,op,guard:=none}::l) fr st K X=@I4 T op (Dh G fr) st ⟨fun d st'=>@Ox G T l (fr.put dst d) st' K X⟩ ⟨fun t d st'=>X.run t d fr st'⟩:=(rfl)
theorem yLg(G:Dc)(T:Tbl)(dst:Option Nat)(op:POp)(s:Nat)(E:Bool)(l:List PI)(fr:Frame)(st:St)(K:Cont2 Frame St)(X:XC) :
  @Ox G T ({dst,op,guard:=some (s,E)}::l) fr st K X=@kV (fr s) E ⟨@I4 T op (Dh G fr) st ⟨fun d st'=>@Ox G T l (fr.put dst d) st' K X⟩ ⟨fun t d st'=>X.run t d fr st'⟩⟩ ⟨@Ox G T l (fr.put dst (.tup [])) st K X⟩:=(rfl)
theorem Ylx(T:Tbl)(op:POp)(ρ:PA→D)(st:St)(K:D→St→Prop)(X:XC0)(h:op.tame=true):@I4 T op ρ st ⟨K⟩ X=@DY T op ρ st ⟨K⟩:=yC T op ρ st ⟨K⟩ X h
theorem Ydx(G:Dc)(T:Tbl)(fs:List (Option Foot))(fr:Frame)(st:St)(K:Frame→St→Prop):@Ix G T [] fs fr st ⟨K⟩=K fr st:=(rfl)
theorem yRo(G:Dc)(T:Tbl)(dst:Option Nat)(op:POp)(b:Bool)(cs:List Nat)(l:List (PI×Bool×List Nat))(fs:List (Option Foot))(fr:Frame)(st:St)(K:Cont2 Frame St) :
  @Ix G T (({dst,op,guard:=none},b,cs)::l) fs fr st K=@wF fs b cs (op.foot (Dh G fr) st) ⟨fun E=>@DY T op (Dh G fr) st ⟨fun d st'=>@Ix G T l E (fr.put dst d) st' K⟩⟩:=(rfl)
theorem yRp(G:Dc)(T:Tbl)(dst:Option Nat)(op:POp)(s:Nat)(E:Bool)(b:Bool)(cs:List Nat)(l:List (PI×Bool×List Nat))(fs:List (Option Foot))(fr:Frame)(st:St)(K:Cont2 Frame St) :
  @Ix G T (({dst,op,guard:=some (s,E)},b,cs)::l) fs fr st K=@kV (fr s) E ⟨@wF fs b cs (op.foot (Dh G fr) st) ⟨fun I=>@DY T op (Dh G fr) st ⟨fun d st'=>@Ix G T l I (fr.put dst d) st' K⟩⟩⟩ ⟨@wF fs b cs (some NV) ⟨fun I=>@Ix G T l I (fr.put dst (.tup [])) st K⟩⟩:=(rfl)
theorem Yoq(b:Bool)(x y:Br):@kV (.bool b) true x y=@G3 b x y:=by cases b <;> rfl
theorem Yg6(b:Bool)(x y:Br):@kV (.bool b) false x y=@G3 b y x:=by cases b <;> rfl
theorem Yva(E:Bool)(x:Br)(y:Prop):@kV (.tup []) E x ⟨y⟩=y:=(rfl)
section
variable (T:Tbl) (ρ:PA→D) (st:St) (K:D→St→Prop)
theorem Ir{β:Type}(o:Option α)(f:α→β)(K:β→Prop):@on β (o.map f) ⟨K⟩=@on α o ⟨fun a=>K (f a)⟩:=by cases o <;> rfl
theorem U2(x:PA):@DY T (.mov x) ρ st ⟨K⟩=@ev (ρ x) ⟨fun d=>K d st⟩:=(rfl)
def S7(c x y:D):Option D:=match c with
 |.bool b=>some (if b then x else y)
 |_=>none
theorem ySs(x y:D):S7 (.bool true) x y=some x:=(rfl)
theorem yMt(x y:D):S7 (.bool false) x y=some y:=(rfl)
theorem ySt(b c e:Bool):S7 (.bool b) (.bool c) (.bool e)=some (.bool (if b then c else e)):=by cases b <;> rfl
theorem Yuz(c x y:PA):@DY T (.pick c x y) ρ st ⟨K⟩=@on _ (S7 (ρ c) (ρ x) (ρ y)) ⟨fun d=>K d st⟩:=by
 simp only[DY,EU,POp.exec,S7];cases ρ c <;> rfl
def Dy(d:D):Option (List D):=if d.cells.all D.isCell then some d.cells else none
theorem U9(x:PA):@DY T (.box x) ρ st ⟨K⟩=@on _ (Dy (ρ x)) ⟨fun cs=>@OE (.ptr st.length 0) (st++[{row:=false,sz:=1,els:=cs,lent:=false}]) ⟨K⟩⟩:=by
 simp only[DY,EU,POp.exec,Dy]
 split <;> rfl
theorem Va(E:List D)(parts:List (Nat×Nat×PA)):@DY T (.bld E parts) ρ st ⟨K⟩=@on _ (DG E (parts.map fun p=>(p.1,p.2.1,ρ p.2.2))) ⟨fun cs=>K (.agg cs) st⟩:=by
 simp only[DY,EU,POp.exec,Ir]
def E2(sz:Nat)(els:List D):Option D:=if(els.all fun e=>e.cells.length == sz) && decide (0<sz) && decide (els.length*sz≤16777216)then some (.slc sz els true)else none
theorem Yu9(sz:Nat)(parts:List PA):@DY T (.bslc sz parts) ρ st ⟨K⟩=@on _ (D1 st (parts.map ρ)) ⟨fun els=>@on _ (E2 sz els) ⟨fun d=>@OE d (lend ((parts.map ρ).flatMap keys) st) ⟨K⟩⟩⟩:=by
 simp only[DY,EU,POp.exec]
 cases D1 st (parts.map ρ)with
 |none=>rfl
 |some els=>
  simp only[on]
  by_cases h:((els.all fun e=>e.cells.length == sz) && decide (0<sz) && decide (els.length*sz≤16777216))=true
  ·simp only[E2,h,if_true]; rfl
  ·simp only[E2,h,Al,if_false]
theorem Yu1(n:Nat)(ag:Bool)(p:PA):@DY T (.load n ag p) ρ st ⟨K⟩=@on _ (EO st n ag (ρ p)) ⟨fun d=>K d st⟩:=by
 simp only[DY,EU,POp.exec,Ir]
theorem Yuy(n:Nat)(p x:PA):@DY T (.stor n p x) ρ st ⟨K⟩=@on _ (Lh st n (ρ p) (ρ x)) ⟨fun st'=>K (.tup []) st'⟩:=by
 simp only[DY,EU,POp.exec,Ir]
def hU(st:St)(d:D):Option D:=match d with
 |.ptr _ _ | .eptr _ _=>some d
 |.rptr key tot _ _=>if live st key tot then some d else none
 |_=>none
theorem Yu0(x:PA):@DY T (.nilc x) ρ st ⟨K⟩=@on _ (hU st (ρ x)) ⟨fun d=>K d st⟩:=by
 simp only[DY,EU,POp.exec,hU]
 cases ρ x with
 |rptr key tot i off=>
  simp only
  split <;> rfl
 |_=>rfl
theorem Vb(op:BinOp)(x y:PA):@DY T (.bin op x y) ρ st ⟨K⟩=@on _ (Df op (ρ x) (ρ y)) ⟨fun d=>K d st⟩:=by
 simp only[DY,EU,POp.exec,Ir]
theorem Vc(E:Bool)(x y:PA):@DY T (.beq E x y) ρ st ⟨K⟩=@on _ (L8 E (ρ x) (ρ y)) ⟨fun d=>K d st⟩:=by
 simp only[DY,EU,POp.exec,Ir]
theorem Ve(ks:List Nat)(E:Bool)(x y:PA):@DY T (.aeq ks E x y) ρ st ⟨K⟩=@on _ (FE ks E (ρ x) (ρ y)) ⟨fun d=>K d st⟩:=by
 simp only[DY,EU,POp.exec,Ir]
theorem gF(op:UnOp)(x:PA):@DY T (.un op x) ρ st ⟨K⟩=@on _ (L7 op (ρ x)) ⟨fun d=>K d st⟩:=by
 simp only[DY,EU,POp.exec,Ir]
theorem Yu7(c:PConv)(x:PA):@DY T (.conv c x) ρ st ⟨K⟩=@on _ (E7 st c (ρ x)) ⟨fun d=>K d st⟩:=by
 simp only[DY,EU,POp.exec,Ir]
def OJ(sz bytes:Nat)(zero ln cp:D):Option (Nat×Obj):=match Fm ln,Fm cp with
 |some l,some c=>if l≤c∧c≤4294967296∧c*bytes≤140737488355328∧0<sz∧zero.cells.length=sz∧zero.cells.all D.pure1=true then
   some (l,{row:=true,sz,els:=CH l zero,lent:=false})else none
 |_,_=>none
theorem Yoj(sz bytes:Nat)(E:D)(I J:PA):@DY T (.mkslc sz bytes E I J) ρ st ⟨K⟩=@on _ (OJ sz bytes E (ρ I) (ρ J)) ⟨fun r=>@OE (.row st.length r.1 0 r.1) (st++[r.2]) ⟨K⟩⟩:=by
 simp only[DY,EU,POp.exec,OJ]
 cases Fm (ρ I)with
 |none=>rfl
 |some l=>
  cases Fm (ρ J)with
  |none=>rfl
  |some c=>
   simp only
   split <;> rfl
theorem Yoh(sz:Nat)(x:PA)(lo hi E:Option PA):@DY T (.slice sz x lo hi E) ρ st ⟨K⟩=@on _ (Gp st sz (ρ x) (lo.map ρ) (hi.map ρ) (E.map ρ)) ⟨fun d=>K d st⟩:=by
 simp only[DY,EU,POp.exec,Ir]
theorem Yg4(n sz:Nat)(ag:Bool)(x:PA)(lo hi:Option PA):@DY T (.sliceA n sz ag x lo hi) ρ st ⟨K⟩=@on _ (NX n sz ag (ρ x) (lo.map ρ) (hi.map ρ)) ⟨fun d=>K d st⟩:=by
 simp only[DY,EU,POp.exec,Ir]
theorem U6(off:Nat)(p:PA):@DY T (.fld off p) ρ st ⟨K⟩=@on _ (ET st off (ρ p)) ⟨fun d=>K d st⟩:=by
 simp only[DY,EU,POp.exec,Ir]
theorem Yu6(off n:Nat)(ag:Bool)(x:PA):@DY T (.fldv off n ag x) ρ st ⟨K⟩=@on _ (LC off n ag (ρ x)) ⟨fun d=>K d st⟩:=by
 simp only[DY,EU,POp.exec,Ir]
theorem Yu4(sz:Nat)(x i:PA):@DY T (.idxS sz x i) ρ st ⟨K⟩=@on _ (F2 st sz (ρ x) (ρ i)) ⟨fun d=>K d st⟩:=by
 simp only[DY,EU,POp.exec,Ir]
theorem Yu5(n sz:Nat)(p i:PA):@DY T (.idxA n sz p i) ρ st ⟨K⟩=@on _ (IG st n sz (ρ p) (ρ i)) ⟨fun d=>K d st⟩:=by
 simp only[DY,EU,POp.exec,Ir]
theorem U5(x i:PA):@DY T (.idx x i) ρ st ⟨K⟩=@on _ (JA (ρ x) (ρ i)) ⟨fun d=>K d st⟩:=by
 simp only[DY,EU,POp.exec,Ir]
theorem Yu3(E sz:Nat)(ag:Bool)(x i:PA):@DY T (.idxV E sz ag x i) ρ st ⟨K⟩=@on _ (Ou E sz ag (ρ x) (ρ i)) ⟨fun d=>K d st⟩:=by
 simp only[DY,EU,POp.exec,Ir]
def Ec(st:St)(str:Bool)(d:D):Option D:=if HG d == str then(Ev st d).map fun(n:Nat)=>D.int .i64 (n:Int)else none
theorem U4(E:Bool)(x:PA):@DY T (.len E x) ρ st ⟨K⟩=@on _ (Ec st E (ρ x)) ⟨fun d=>K d st⟩:=by
 simp only[DY,EU,POp.exec,Ec]
 split
 ·simp only[Ir]
 ·rfl
theorem Yu2(n:Nat):@DY T (.lenA n) ρ st ⟨K⟩=@ev (.int .i64 (n:Int)) ⟨fun d=>K d st⟩:=(rfl)
theorem Vd(sz bytes:Nat)(s x:PA):@DY T (.app sz bytes s x) ρ st ⟨K⟩=@on _ (Ea st sz bytes (ρ s) (ρ x)) ⟨fun r=>K r.1 r.2⟩:=(rfl)
def cu(sz:Nat):Option Obj:=if 1<sz∧sz≠1000003 then some {row:=false,sz,els:=[],lent:=false} else none
theorem Yok(sz:Nat):@DY T (.mkmap sz) ρ st ⟨K⟩=@on _ (cu sz) ⟨fun o=>@OE (.mapv st.length) (st++[o]) ⟨K⟩⟩:=by
 simp only[DY,EU,POp.exec,cu]
 split <;> rfl
theorem Yon(sz:Nat)(ks:List Nat)(m k v:PA):@DY T (.mapup sz ks m k v) ρ st ⟨K⟩=@on _ (Rj st sz ks (ρ m) (ρ k) (ρ v)) ⟨fun st'=>K (.tup []) st'⟩:=by
 simp only[DY,EU,POp.exec,Ir]
theorem Yg5(sz:Nat)(ks:List Nat)(ok:Bool)(E:D)(m k:PA):@DY T (.mapget sz ks ok E m k) ρ st ⟨K⟩=@on _ (IM st sz ks ok E (ρ m) (ρ k)) ⟨fun d=>K d st⟩:=by
 simp only[DY,EU,POp.exec,Ir]
theorem U8(sz:Nat)(d s:PA):@DY T (.cpy sz d s) ρ st ⟨K⟩=@on _ (JB st sz (ρ d) (ρ s)) ⟨fun r=>K r.1 r.2⟩:=(rfl)
def RA(isMax:Bool)(x y:D):Option D:=match x,y with
 |.int k a,.int _ b=>some (.int k (if isMax then(if b > a then b else a)else(if b<a then b else a)))
 |_,_=>none
theorem gG(E:Bool)(x y:PA):@DY T (.mm E x y) ρ st ⟨K⟩=@on _ (RA E (ρ x) (ρ y)) ⟨fun d=>K d st⟩:=by
 simp only[DY,EU,POp.exec,RA]
 cases ρ x with
 |int k a=>cases ρ y <;> rfl
 |_=>rfl
def ND(isMax:Bool)(x y z:D):Option D:=match x,y,z with
 |.int k a,.int _ b,.int _ c=>some (.int k (Mb isMax (Mb isMax a b) c))
 |_,_,_=>none
theorem U3(E:Bool)(x y z:PA):@DY T (.mm3 E x y z) ρ st ⟨K⟩=@on _ (ND E (ρ x) (ρ y) (ρ z)) ⟨fun d=>K d st⟩:=by
 simp only[DY,EU,POp.exec,ND]
 cases ρ x with
 |int k a=>cases ρ y <;> first | rfl | (cases ρ z <;> rfl)
 |_=>rfl
theorem Yoi(f:Nat)(args:List PA):@DY T (.rcall f args) ρ st ⟨K⟩=@on _ (T.q f) ⟨fun sp=>@on _ (Ie sp (args.map ρ) st) ⟨fun d=>K d st⟩⟩:=by
 simp only[DY,EU,POp.exec]
 cases T.q f with
 |none=>rfl
 |some sp=>simp only[lG,Ir]
theorem Yoo(f:Nat)(args:List PA):@DY T (.icall f args) ρ st ⟨K⟩=@on _ (T.i f) ⟨fun sp=>@on _ (sp (args.map ρ) st) ⟨fun r=>K r.1 r.2⟩⟩:=by
 simp only[DY,EU,POp.exec];cases T.i f <;> rfl
def Kf(T:Tbl)(d:D):Option ((List D→St→Option (D×St))×List D×List D):=match d with
 |.clo f caps=>if f<5000000 then(T.i f).map fun sp=>(sp,[],caps)else if f<10000000 then(T.i (f - 5000000)).map fun sp=>(sp,caps,[])else if caps.isEmpty then some (T.y (f - 10000000),[],[])else none
 |_=>none
theorem Yom(f:Nat)(args:List PA):@DY T (.mcall f args) ρ st ⟨K⟩=@on _ (T.m f) ⟨fun sp=>@on _ (sp (args.map ρ)) ⟨fun r=>@OE (r.1 st.length) (st++r.2 st.length) ⟨K⟩⟩⟩:=by
 simp only[DY,EU,POp.exec]
 cases T.m f with
 |none=>rfl
 |some sp=>
  simp only[on];cases sp (args.map ρ) <;> rfl
theorem Yop(x:PA)(args:List PA):@DY T (.callv x args) ρ st ⟨K⟩=@on _ (Kf T (ρ x)) ⟨fun p=>@on _ (p.1 (p.2.1++(args.map ρ++p.2.2)) st) ⟨fun r=>K r.1 r.2⟩⟩:=by
 simp only[DY,EU,POp.exec,Kf]
 cases ρ x with
 |clo f E=>
  simp only
  by_cases I:f<5000000
  ·simp only[if_pos I];cases T.i f <;> rfl
  ·by_cases h:f<10000000
   ·simp only[if_neg I,if_pos h]
    cases T.i (f - 5000000)with
    |none=>rfl
    |some sp=>simp only[Ag,on,Ad]
   ·simp only[if_neg I,if_neg h]
    cases E with
    |nil=>simp only[List.isEmpty_nil,if_true,on,Ad,Ai]
    |cons a l=>rfl
 |_=>rfl
theorem Yol(f:Nat)(E:List PA):@DY T (.mkclo f E) ρ st ⟨K⟩=@ev (.clo f (E.map ρ)) ⟨fun d=>K d st⟩:=(rfl)
theorem Yu8(f:Nat)(args:List PA):@DY T (.call f args) ρ st ⟨K⟩=@on _ (T.p f) ⟨fun sp=>@on _ (D1 st (args.map ρ)) ⟨fun vs=>@on _ (sp vs) ⟨fun r=>@OE r (if r.noRef then st else lend ((args.map ρ).flatMap keys) st) ⟨K⟩⟩⟩⟩:=by
 simp only[DY,EU,POp.exec]
 cases T.p f with
 |none=>rfl
 |some sp=>
  cases D1 st (args.map ρ)with
  |none=>rfl
  |some vs=>
   simp only[on];cases sp vs <;> rfl
def Md(d:D)(i:Nat):Option D:=match d with
 |.tup vs=>vs[i]?
 |_=>none
theorem U7(x:PA)(i:Nat):@DY T (.ext x i) ρ st ⟨K⟩=@on _ (Md (ρ x) i) ⟨fun d=>K d st⟩:=by
 simp only[DY,EU,POp.exec,Md]
 cases ρ x with
 |tup vs=>simp only[Ir]
 |_=>rfl
theorem Ywa(a:D)(l:List D):Md (.tup (a::l)) 0=some a:=(rfl)
theorem Yv9(a b:D)(l:List D):Md (.tup (a::b::l)) 1=some b:=(rfl)
theorem Yv8(a b c:D)(l:List D):Md (.tup (a::b::c::l)) 2=some c:=(rfl)
end
theorem Yfi(fr:Frame)(s:Nat)(d:D):fr.put (some s) d=fr.set s d:=(rfl)
theorem Yfj(fr:Frame)(d:D):fr.put none d=fr:=(rfl)
theorem Uw(G:Dc)(fr:Frame)(n:Nat):Dh G fr (.s n)=fr n:=(rfl)
theorem Ux(G:Dc)(fr:Frame)(d:D):Dh G fr (.c d)=d:=(rfl)
theorem Jh(G:Dc)(fr:Frame)(n:Nat)(d:D)(h:G n=some d):Dh G fr (.g n)=.eptr d 0:=by simp[Dh,h]
theorem Yxe(a:D)(l:List D):C5 (a::l) 0=a:=(rfl)
theorem Yxd(a b:D)(l:List D):C5 (a::b::l) 1=b:=(rfl)
theorem Yxc(a b c:D)(l:List D):C5 (a::b::c::l) 2=c:=(rfl)
theorem Yxb(a b c d:D)(l:List D):C5 (a::b::c::d::l) 3=d:=(rfl)
theorem Yxa(a b c d e:D)(l:List D):C5 (a::b::c::d::e::l) 4=e:=(rfl)
theorem Yw9(a b c d e f:D)(l:List D):C5 (a::b::c::d::e::f::l) 5=f:=(rfl)
theorem Yw8(a b c d e f g:D)(l:List D):C5 (a::b::c::d::e::f::g::l) 6=g:=(rfl)
theorem Yw7(a b c d e f g h:D)(l:List D):C5 (a::b::c::d::e::f::g::h::l) 7=h:=(rfl)
def LX(B:Frame→St→(Ex→Frame→St→Prop)→Prop)(cut:PS→PS):Nat→PS→(Ex→Frame→St→Prop)→Prop
 |0,_,_=>False
 |n+1,s,Q=>B (cut s).fr (cut s).st fun e fr st=>match e with
  |.next=>LX B cut n ⟨fr,st⟩ Q
  |e=>Q e fr st
def W(G:Dc)(T:Tbl):PC→Frame→St→(Ex→Frame→St→Prop)→Prop
 |.skip,fr,st,Q=>Q .next fr st
 |.ops l,fr,st,Q=>FW G T l fr st (Q .next)
 |.any l,fr,st,Q=>FF G T l [] fr st (Q .next)
 |.any2 keep l1 l2,fr,st,Q=>FF G T l1 [] fr st fun fr1 st1=>FF G T l2 [] fr st fun fr2 st2=>W2 keep st.length fr1 st1 fr2 st2 fun s=>Q .next s.fr s.st
 |.seq a b,fr,st,Q=>W G T a fr st fun e fr' st'=>match e with
  |.next=>W G T b fr' st' Q
  |e=>Q e fr' st'
 |.cond c a b,fr,st,Q=>@Ry (Dh G fr c) ⟨fun v=>@G3 v ⟨W G T a fr st Q⟩ ⟨W G T b fr st Q⟩⟩
 |.block id c,fr,st,Q=>W G T c fr st fun e fr' st'=>match e with
  |.exit id'=>if id'=id then Q .next fr' st' else Q (.exit id') fr' st'
  |e=>Q e fr' st'
 |.loop keep c,fr,st,Q=>∃ n,LX (W G T c) (restrict keep st.length) n ⟨fr,st⟩ Q
 |.loopA keep c,fr,st,Q=>∃ n,LX (W G T c) (keepAll keep) n ⟨fr,st⟩ Q
 |.opsX l,fr,st,Q=>Lf G T l fr st (Q .next) (fun t d=>Q (.panic t d))
 |.pan l d1 t x,fr,st,Q=>FW G T l fr st fun fr' st'=>@G3 (KE (Dh G fr' x)) ⟨Q (.panic t (Dh G fr' x)) (fr'.set d1 .junk) st'⟩ ⟨False⟩
 |.alt a b,fr,st,Q=>W G T a fr st Q∨(a.exec G T 0 ⟨fr,st⟩=none∧(∀ m,a.exec G T m ⟨fr,st⟩=none)∧W G T b fr st Q)
 |.range x ps a b,fr,st,Q=>∃ (n:Nat) (st':St) (e:Ex),(∀ m,n≤m→eW T (Dh G fr x) (Y6 (a.exec G T m) (b.exec G T m) fr ps st.length) (st++[recO 0])=some st')∧iz st' st.length=some e∧Q e fr (st'.set st.length (recO 2))
 |.exit id,fr,st,Q=>Q (.exit id) fr st
 |.ret,fr,st,Q=>Q .ret fr st
 |.fail,_,_,_=>False
theorem KM{G:Dc}{T:Tbl}:∀ (c:PC) (fr:Frame) (st:St) (Q:Ex→Frame→St→Prop),W G T c fr st Q→
  ∃ (n:Nat) (e:Ex) (E:Frame) (st':St),(∀ m,n≤m→c.exec G T m ⟨fr,st⟩=some (e,⟨E,st'⟩))∧Q e E st'
 |.skip,fr,st,Q,h=>⟨0,.next,fr,st,fun _ _=>rfl,h⟩
 |.ops l,fr,st,Q,h=>by
  obtain⟨E,st',J,I⟩:=SE l fr st _ h;exact⟨0,.next,E,st',fun m _=>by simp only[PC.exec,J],I⟩
 |.any l,fr,st,Q,h=>by
  obtain⟨E,st',J,I⟩:=SD l [] fr st _ h;exact⟨0,.next,E,st',fun m _=>by simp only[PC.exec,J],I⟩
 |.any2 keep l1 l2,fr,st,Q,h=>by
  obtain⟨fr1,st1,J,I⟩:=SD l1 [] fr st _ h;obtain⟨fr2,st2,O,Y⟩:=SD l2 [] fr st _ I;obtain⟨h5,h6⟩:=Yro Y;exact⟨0,.next,_,_,fun m _=>by simp only[PC.exec,J,O,h5,Ag],h6⟩
 |.seq a b,fr,st,Q,h=>by
  obtain⟨n,e,E,st',J,I⟩:=KM a fr st _ h
  cases e with
  |next=>
   obtain⟨n',e',U,V,O,Y⟩:=KM b E st' _ I;exact⟨n+n',e',U,V,fun m hm=>by simp only[PC.exec,J m (by omega),O m (by omega)],Y⟩
  |exit id=>exact⟨n,.exit id,E,st',fun m hm=>by simp only[PC.exec,J m hm],I⟩
  |ret=>exact⟨n,.ret,E,st',fun m hm=>by simp only[PC.exec,J m hm],I⟩
  |panic t d=>exact⟨n,.panic t d,E,st',fun m hm=>by simp only[PC.exec,J m hm],I⟩
 |.cond c a b,fr,st,Q,h=>by
  simp only[W,Ry]at h
  split at h
  ·rename_i v hv
   cases v with
   |true=>
    obtain⟨n,e,E,st',J,I⟩:=KM a fr st _ h;exact⟨n,e,E,st',fun m hm=>by simp only[PC.exec,hv,J m hm],I⟩
   |false=>
    obtain⟨n,e,E,st',J,I⟩:=KM b fr st _ h;exact⟨n,e,E,st',fun m hm=>by simp only[PC.exec,hv,J m hm],I⟩
  ·exact h.elim
 |.block id c,fr,st,Q,h=>by
  obtain⟨n,e,E,st',J,I⟩:=KM c fr st _ h
  cases e with
  |next=>exact⟨n,.next,E,st',fun m hm=>by simp only[PC.exec,J m hm],I⟩
  |ret=>exact⟨n,.ret,E,st',fun m hm=>by simp only[PC.exec,J m hm],I⟩
  |panic t d=>exact⟨n,.panic t d,E,st',fun m hm=>by simp only[PC.exec,J m hm],I⟩
  |exit ae=>
   simp only at I
   split at I
   ·rename_i hi;exact⟨n,.next,E,st',fun m hm=>by simp only[PC.exec,J m hm,hi,if_true],I⟩
   ·rename_i hi;exact⟨n,.exit ae,E,st',fun m hm=>by simp only[PC.exec,J m hm,hi,if_false],I⟩
 |.loop keep c,fr,st,Q,h=>by
  obtain⟨k,h⟩:=h
  have key:∀ (k:Nat) (s:PS),LX (W G T c) (restrict keep st.length) k s Q→∃ (n:Nat) (e:Ex) (E:Frame) (st':St),(∀ m q,n≤m→k≤q→Jt (c.exec G T m) (restrict keep st.length) q s=some (e,⟨E,st'⟩))∧Q e E st':=by
   intro k
   induction k with
   |zero=>intro s h; exact h.elim
   |succ k ih=>
    intro s h;obtain⟨n,e,E,st',J,I⟩:=KM c _ _ _ h;have N:∀ m,n≤m→c.exec G T m (restrict keep st.length s)=some (e,⟨E,st'⟩):=J
    cases e with
    |next=>
     obtain⟨n',e',U,V,O,Y⟩:=ih _ I;refine⟨n+n',e',U,V,fun m q hm hq=>?_,Y⟩;obtain⟨q,rfl⟩:∃ M,q=M+1:=⟨q - 1,by omega⟩;simp only[Jt,N m (by omega)];grind
    |exit id=>
     refine⟨n,.exit id,E,st',fun m q hm hq=>?_,I⟩;obtain⟨q,rfl⟩:∃ M,q=M+1:=⟨q - 1,by omega⟩;simp only[Jt,N m hm]
    |ret=>
     refine⟨n,.ret,E,st',fun m q hm hq=>?_,I⟩;obtain⟨q,rfl⟩:∃ M,q=M+1:=⟨q - 1,by omega⟩;simp only[Jt,N m hm]
    |panic t d=>
     refine⟨n,.panic t d,E,st',fun m q hm hq=>?_,I⟩;obtain⟨q,rfl⟩:∃ M,q=M+1:=⟨q - 1,by omega⟩;simp only[Jt,N m hm]
  obtain⟨n,e,E,st',J,I⟩:=key k _ h;exact⟨n+k,e,E,st',fun m hm=>by simp only[PC.exec]; exact J m m (by omega) (by omega),I⟩
 |.loopA keep c,fr,st,Q,h=>by
  obtain⟨k,h⟩:=h
  have key:∀ (k:Nat) (s:PS),LX (W G T c) (keepAll keep) k s Q→∃ (n:Nat) (e:Ex) (E:Frame) (st':St),(∀ m q,n≤m→k≤q→Jt (c.exec G T m) (keepAll keep) q s=some (e,⟨E,st'⟩))∧Q e E st':=by
   intro k
   induction k with
   |zero=>intro s h; exact h.elim
   |succ k ih=>
    intro s h;obtain⟨n,e,E,st',J,I⟩:=KM c _ _ _ h;have N:∀ m,n≤m→c.exec G T m (keepAll keep s)=some (e,⟨E,st'⟩):=J
    cases e with
    |next=>
     obtain⟨n',e',U,V,O,Y⟩:=ih _ I;refine⟨n+n',e',U,V,fun m q hm hq=>?_,Y⟩;obtain⟨q,rfl⟩:∃ M,q=M+1:=⟨q - 1,by omega⟩;simp only[Jt,N m (by omega)];grind
    |exit id=>
     refine⟨n,.exit id,E,st',fun m q hm hq=>?_,I⟩;obtain⟨q,rfl⟩:∃ M,q=M+1:=⟨q - 1,by omega⟩;simp only[Jt,N m hm]
    |ret=>
     refine⟨n,.ret,E,st',fun m q hm hq=>?_,I⟩;obtain⟨q,rfl⟩:∃ M,q=M+1:=⟨q - 1,by omega⟩;simp only[Jt,N m hm]
    |panic t d=>
     refine⟨n,.panic t d,E,st',fun m q hm hq=>?_,I⟩;obtain⟨q,rfl⟩:∃ M,q=M+1:=⟨q - 1,by omega⟩;simp only[Jt,N m hm]
  obtain⟨n,e,E,st',J,I⟩:=key k _ h;exact⟨n+k,e,E,st',fun m hm=>by simp only[PC.exec]; exact J m m (by omega) (by omega),I⟩
 |.range x ps a b,fr,st,Q,h=>by
  obtain⟨n,st',e,J,O,I⟩:=h;exact⟨n,e,fr,_,fun m hm=>by simp only[PC.exec,J m hm,Bl,O,Ag],I⟩
 |.opsX l,fr,st,Q,h=>by
  rcases bj l fr st _ _ h with⟨E,st',J,I⟩ | ⟨t,d,E,st',J,I,O⟩
  ·exact⟨0,.next,E,st',fun m _=>by simp only[PC.exec,J],I⟩
  ·exact⟨0,.panic t d,E,st',fun m _=>by simp only[PC.exec,J,I,Ag],O⟩
 |.pan l d1 t x,fr,st,Q,h=>by
  obtain⟨E,st',J,I⟩:=SE l fr st _ h;unfold G3 at I
  split at I
  ·rename_i hi;exact⟨0,.panic t (Dh G E x),E.set d1 .junk,st',fun m _=>by simp only[PC.exec,J,hi,if_true],I⟩
  ·grind
 |.alt a b,fr,st,Q,h=>by
  rcases h with h | ⟨_,J,h⟩
  ·obtain⟨n,e,E,st',J,I⟩:=KM a fr st _ h;exact⟨n,e,E,st',fun m hm=>by simp only[PC.exec,J m hm],I⟩
  ·obtain⟨n,e,E,st',I,O⟩:=KM b fr st _ h;exact⟨n,e,E,st',fun m hm=>by simp only[PC.exec,J m,I m hm],O⟩
 |.exit id,fr,st,Q,h=>⟨0,.exit id,fr,st,fun _ _=>rfl,h⟩
 |.ret,fr,st,Q,h=>⟨0,.ret,fr,st,fun _ _=>rfl,h⟩
 |.fail,_,_,_,h=>h.elim
theorem WB{G:Dc}{T:Tbl}:∀ (l:List PI) (fr:Frame) (st:St) (K E:Frame→St→Prop),FW G T l fr st K→(∀ fr st,K fr st→E fr st)→FW G T l fr st E
 |[],_,_,_,_,h,hk=>hk _ _ h
 |i::l,fr,st,K,E,h,hk=>by
  have I:EU T i.op (Dh G fr) st (fun d st'=>FW G T l (fr.put i.dst d) st' K)→EU T i.op (Dh G fr) st (fun d st'=>FW G T l (fr.put i.dst d) st' E):=by
   unfold EU on
   split
   ·exact fun h=>WB l _ _ _ _ h hk
   ·exact id
  have J:FW G T l (fr.put i.dst (.tup [])) st K→FW G T l (fr.put i.dst (.tup [])) st E:=fun h=>WB l _ _ _ _ h hk;rw[FW]at h ⊢;unfold kG at h ⊢
  split
  ·simp_all
  ·simp_all
   split
   ·simp_all;rename_i b hb;rename_i want _ _
    revert h
    unfold G3;grind
   ·simp_all
   ·simp_all
theorem Kn{G:Dc}{T:Tbl}:∀ (c:PC) (fr:Frame) (st:St) (Q I:Ex→Frame→St→Prop),W G T c fr st Q→(∀ e fr st,Q e fr st→I e fr st)→W G T c fr st I
 |.skip,fr,st,Q,I,h,E=>E _ _ _ h
 |.ops l,fr,st,Q,I,h,E=>WB l fr st _ _ h fun fr st h=>E _ _ _ h
 |.any l,fr,st,Q,I,h,E=>Sv l [] fr st _ _ h fun fr st h=>E _ _ _ h
 |.any2 keep l1 M,fr,st,Q,I,h,E=>Sv l1 [] fr st _ _ h fun fr1 st1 h=>Sv M [] fr st _ _ h fun fr2 st2 h=>Yrp h fun s h=>E _ _ _ h
 |.seq a b,fr,st,Q,I,h,E=>by
  refine Kn a fr st _ _ h fun e J st' h=>?_
  cases e with
  |next=>exact Kn b _ _ _ _ h E
  |exit id=>exact E _ _ _ h
  |ret=>exact E _ _ _ h
  |panic t d=>exact E _ _ _ h
 |.cond c a b,fr,st,Q,I,h,E=>by
  simp only[W,Ry]at h ⊢
  split
  ·rename_i v hv;rw[hv]at h;simp only at h
   cases v with
   |true=>exact Kn a _ _ _ _ h E
   |false=>exact Kn b _ _ _ _ h E
  ·grind
 |.block id c,fr,st,Q,I,h,E=>by
  refine Kn c fr st _ _ h fun e J st' h=>?_;grind
 |.loop keep c,fr,st,Q,I,h,E=>by
  obtain⟨k,h⟩:=h;refine⟨k,?_⟩
  have key:∀ (k:Nat) (s:PS),LX (W G T c) (restrict keep st.length) k s Q→LX (W G T c) (restrict keep st.length) k s I:=by
   intro k
   induction k with
   |zero=>intro s h; exact h
   |succ k N=>
    intro s h;refine Kn c _ _ _ _ h fun e J st' h=>?_;grind
  grind
 |.loopA keep c,fr,st,Q,I,h,E=>by
  obtain⟨k,h⟩:=h;refine⟨k,?_⟩
  have key:∀ (k:Nat) (s:PS),LX (W G T c) (keepAll keep) k s Q→LX (W G T c) (keepAll keep) k s I:=by
   intro k
   induction k with
   |zero=>intro s h; exact h
   |succ k N=>
    intro s h;refine Kn c _ _ _ _ h fun e J st' h=>?_;grind
  grind
 |.range x Y a b,fr,st,Q,I,h,E=>by
  obtain⟨n,st',e,O,U,V⟩:=h;exact⟨n,st',e,O,U,E _ _ _ V⟩
 |.opsX l,fr,st,Q,I,h,E=>aU l fr st _ _ _ _ h (fun _ _ h=>E _ _ _ h) fun _ _ _ _ h=>E _ _ _ h
 |.pan l d1 t x,fr,st,Q,I,h,E=>WB l fr st _ _ h fun J st' h=>by
  unfold G3 at h ⊢;grind
 |.alt a b,fr,st,Q,I,h,E=>h.imp (fun h=>Kn a _ _ _ _ h E) fun h=>⟨h.1,h.2.1,Kn b _ _ _ _ h.2.2 E⟩
 |.exit id,fr,st,Q,I,h,E=>E _ _ _ h
 |.ret,fr,st,Q,I,h,E=>E _ _ _ h
 |.fail,_,_,_,_,h,_=>h.elim
variable {Q:Ex→Frame→St→Prop}{c:PC}{ι:Type}{G:Dc}
theorem Yxk(J:ι→List (Nat×D))(M:ι→St)(P:ι→Prop)(μ:ι→Nat)(E:ι)
  (U:restrict keep st.length ⟨fr,st⟩=⟨GH (J E),M E⟩) (V:P E)
  (N:∀ i,P i→W G T c (GH (J i)) (M i) fun e I st'=>match e with
   |.next=>∃ j,P j∧μ j<μ i∧restrict keep st.length ⟨I,st'⟩=⟨GH (J j),M j⟩
   |e=>Q e I st'):W G T (.loop keep c) fr st Q:=by
 have key:∀ (n:Nat) (i:ι) (s:PS),μ i<n→P i→restrict keep st.length s=⟨GH (J i),M i⟩→LX (W G T c) (restrict keep st.length) n s Q:=by
  intro n
  induction n with
  |zero=>intro i s h _ _; exact absurd h (Nat.not_lt_zero _)
  |succ n ih=>
   intro i s hi O Y;simp only[LX,Y];refine Kn c _ _ _ _ (N i O) fun e I st' h=>?_;grind
 exact⟨μ E+1,key _ E _ (Cw _) V U⟩
def wW(G:Dc)(T:Tbl)(c:PC)(fr:Frame)(st:St)[Q:QC]:Prop:=W G T c fr st Q.run
theorem IE(h:@wW G T c fr st ⟨Q⟩):W G T c fr st Q:=h
theorem Z3(h:W G T c fr st Q):@wW G T c fr st ⟨Q⟩:=h
theorem Yxi(G:Dc)(T:Tbl)(fr:Frame)(st:St)(Q:Ex→Frame→St→Prop):@wW G T .skip fr st ⟨Q⟩=Q .next fr st:=(rfl)
theorem V0(G:Dc)(T:Tbl)(l:List PI)(fr:Frame)(st:St)(Q:Ex→Frame→St→Prop):@wW G T (.ops l) fr st ⟨Q⟩=@Hh G T l fr st ⟨Q .next⟩:=(rfl)
theorem V1(G:Dc)(T:Tbl)(l:List (PI×Bool×List Nat))(fr:Frame)(st:St)(Q:Ex→Frame→St→Prop):@wW G T (.any l) fr st ⟨Q⟩=@Ix G T l [] fr st ⟨Q .next⟩:=(rfl)
theorem Yxn(G:Dc)(T:Tbl)(keep:List Nat)(l1 E:List (PI×Bool×List Nat))(fr:Frame)(st:St)(Q:Ex→Frame→St→Prop):@wW G T (.any2 keep l1 E) fr st ⟨Q⟩=
  @Ix G T l1 [] fr st ⟨fun fr1 st1=>@Ix G T E [] fr st ⟨fun fr2 st2=>@G3 (st1.length == st.length+2 && st2.length == st.length+2) ⟨@S9 (restrictAt keep st.length [st.length,st.length+1] ⟨fr1,st1⟩) (restrictAt keep st.length [st.length+1,st.length] ⟨fr2,st2⟩) ⟨fun s=>Q .next s.fr s.st⟩⟩ ⟨False⟩⟩⟩:=(rfl)
def Rb(G:Dc)(T:Tbl)(b:PC)[Q:QC](e:Ex)(fr:Frame)(st:St):Prop:=match e with
 |.next=>W G T b fr st Q.run
 |e=>Q.run e fr st
theorem VX(G:Dc)(T:Tbl)(a b:PC)(fr:Frame)(st:St)(Q:QC):@wW G T (.seq a b) fr st Q=@wW G T a fr st ⟨@Rb G T b Q⟩:=(rfl)
theorem yw(G:Dc)(T:Tbl)(b:PC)(Q:QC)(fr:Frame)(st:St):@Rb G T b Q .next fr st=@wW G T b fr st Q:=(rfl)
theorem yv(G:Dc)(T:Tbl)(b:PC)(Q:Ex→Frame→St→Prop)(E:Nat)(fr:Frame)(st:St):@Rb G T b ⟨Q⟩ (.exit E) fr st=Q (.exit E) fr st:=(rfl)
theorem Yd8(G:Dc)(T:Tbl)(b:PC)(Q:Ex→Frame→St→Prop)(fr:Frame)(st:St):@Rb G T b ⟨Q⟩ .ret fr st=Q .ret fr st:=(rfl)
theorem yRt(G:Dc)(T:Tbl)(b:PC)(Q:Ex→Frame→St→Prop)(t:Nat)(d:D)(fr:Frame)(st:St):@Rb G T b ⟨Q⟩ (.panic t d) fr st=Q (.panic t d) fr st:=(rfl)
theorem Yxj(G:Dc)(T:Tbl)(l:List PI)(fr:Frame)(st:St)(Q:Ex→Frame→St→Prop):@wW G T (.opsX l) fr st ⟨Q⟩=@Ox G T l fr st ⟨Q .next⟩ ⟨fun t d=>Q (.panic t d)⟩:=(rfl)
theorem VZ(G:Dc)(T:Tbl)(l:List PI)(d1 t:Nat)(x:PA)(fr:Frame)(st:St)(Q:Ex→Frame→St→Prop):@wW G T (.pan l d1 t x) fr st ⟨Q⟩=@Hh G T l fr st ⟨fun E st'=>@G3 (KE (Dh G E x)) ⟨Q (.panic t (Dh G E x)) (E.set d1 .junk) st'⟩ ⟨False⟩⟩:=(rfl)
theorem Yxm(G:Dc)(T:Tbl)(c:PA)(a b:PC)(fr:Frame)(st:St)(Q:QC):@wW G T (.cond c a b) fr st Q=@Ry (Dh G fr c) ⟨fun v=>@G3 v ⟨@wW G T a fr st Q⟩ ⟨@wW G T b fr st Q⟩⟩:=(rfl)
def K3(id:Nat)[Q:QC](e:Ex)(fr:Frame)(st:St):Prop:=match e with
 |.exit id'=>if id'=id then Q.run .next fr st else Q.run (.exit id') fr st
 |e=>Q.run e fr st
theorem Yrn(G:Dc)(T:Tbl)(E:Nat)(c:PC)(fr:Frame)(st:St)(Q:QC):@wW G T (.block E c) fr st Q=@wW G T c fr st ⟨@K3 E Q⟩:=(rfl)
theorem Yf0(E:Nat)(Q:Ex→Frame→St→Prop)(fr:Frame)(st:St):@K3 E ⟨Q⟩ .next fr st=Q .next fr st:=(rfl)
theorem Ynj(E:Nat)(Q:Ex→Frame→St→Prop)(fr:Frame)(st:St):@K3 E ⟨Q⟩ .ret fr st=Q .ret fr st:=(rfl)
theorem xO(E:Nat)(Q:Ex→Frame→St→Prop)(t:Nat)(d:D)(fr:Frame)(st:St):@K3 E ⟨Q⟩ (.panic t d) fr st=Q (.panic t d) fr st:=(rfl)
theorem Ytx(I E:Nat)(Q:Ex→Frame→St→Prop)(fr:Frame)(st:St):@K3 I ⟨Q⟩ (.exit E) fr st=if E=I then Q .next fr st else Q (.exit E) fr st:=(rfl)
theorem Yxl(G:Dc)(T:Tbl)(E:Nat)(fr:Frame)(st:St)(Q:Ex→Frame→St→Prop):@wW G T (.exit E) fr st ⟨Q⟩=Q (.exit E) fr st:=(rfl)
theorem VY(G:Dc)(T:Tbl)(fr:Frame)(st:St)(Q:Ex→Frame→St→Prop):@wW G T .ret fr st ⟨Q⟩=Q .ret fr st:=(rfl)
def Dg(res:List PRes)(r:D)(e:Ex)(fr:Frame)(st:St):Prop:=match e with
 |.exit _ | .panic _ _=>False
 |_=>(Fj ⟨fr,st⟩ res).map DD=some r
theorem Yex(res:List PRes)(r:D)(fr:Frame)(st:St):Dg res r .ret fr st=((Fj ⟨fr,st⟩ res).map DD=some r):=(rfl)
theorem yq(res:List PRes)(r:D)(fr:Frame)(st:St):Dg res r .next fr st=((Fj ⟨fr,st⟩ res).map DD=some r):=(rfl)
def Gt(res:List PRes)[R:Cont2 D St](e:Ex)(fr:Frame)(st:St):Prop:=match e with
 |.exit _ | .panic _ _=>False
 |_=>@on _ (DL ⟨fr,st⟩ res) ⟨fun l=>R.run (DD l) st⟩
theorem nF(res:List PRes)(R:D→St→Prop)(fr:Frame)(st:St):@Gt res ⟨R⟩ .ret fr st=@on _ (DL ⟨fr,st⟩ res) ⟨fun l=>R (DD l) st⟩:=(rfl)
theorem oR(res:List PRes)(R:D→St→Prop)(fr:Frame)(st:St):@Gt res ⟨R⟩ .next fr st=@on _ (DL ⟨fr,st⟩ res) ⟨fun l=>R (DD l) st⟩:=(rfl)
variable {ds:List D}{F:PF}
theorem nJ{r:D}(h:W G T F.code (C5 ds) [] (Dg F.res r)):∃ fuel,F.run G T fuel ds=some r:=by
 obtain⟨n,e,J,st',I,E⟩:=KM _ _ _ _ h;refine⟨n,?_⟩;unfold PF.run;rw[I n (AE _)]
 cases e with
 |next=>exact E
 |ret=>exact E
 |exit id=>exact E.elim
 |panic t d=>exact E.elim
theorem al{R:D→St→Prop}(h:W G T F.code (C5 ds) st (@Gt F.res ⟨R⟩)):∃ fuel r st',(∀ m,fuel≤m→F.runI G T m ds st=some (r,st'))∧R r st':=by
 obtain⟨n,e,I,st',J,E⟩:=KM _ _ _ _ h
 have key:∀ (E:@on _ (DL ⟨I,st'⟩ F.res) ⟨fun l=>R (DD l) st'⟩) (he:e=.next∨e=.ret),∃ fuel r st',(∀ m,fuel≤m→F.runI G T m ds st=some (r,st'))∧R r st':=by
  intro E he;unfold on at E
  split at E
  ·rename_i l hl;refine⟨n,DD l,st',fun m hm=>?_,E⟩;unfold PF.runI;grind
  ·grind
 cases e with
 |next=>exact key E (.inl rfl)
 |ret=>exact key E (.inr rfl)
 |exit id=>exact E.elim
 |panic t d=>exact E.elim
def L5[X:XC0](e:Ex)(_:Frame)(st:St):Prop:=match e with
 |.panic t d=>X.run t d st
 |_=>False
theorem yR4(X:Nat→D→St→Prop)(t:Nat)(d:D)(fr:Frame)(st:St):@L5 ⟨X⟩ (.panic t d) fr st=X t d st:=(rfl)
theorem xR(h:W G T F.code (C5 ds) st (@L5 ⟨X⟩)):∃ fuel t d st',(∀ m,fuel≤m→F.runX G T m ds st=some (t,d,st'))∧X t d st':=by
 obtain⟨n,e,J,st',I,E⟩:=KM _ _ _ _ h
 cases e with
 |panic t d=>exact⟨n,t,d,st',fun m hm=>by unfold PF.runX; rw[I m hm],E⟩
 |_=>exact E.elim
def Nz(h:Nat→D→List D→St→Option St)(das:List D)(res:List PRes)[R:Cont2 D St](e:Ex)(fr:Frame)(st:St):Prop:=match e with
 |.exit _=>False
 |.panic t d=>@on _ (h t d das st) ⟨fun st3=>@on _ (DL ⟨fr,st3⟩ res) ⟨fun l=>R.run (DD l) st3⟩⟩
 |_=>@on _ (DL ⟨fr,st⟩ res) ⟨fun l=>R.run (DD l) st⟩
theorem Yez(h:Nat→D→List D→St→Option St)(E:List D)(res:List PRes)(R:D→St→Prop)(fr:Frame)(st:St):@Nz h E res ⟨R⟩ .ret fr st=@on _ (DL ⟨fr,st⟩ res) ⟨fun l=>R (DD l) st⟩:=(rfl)
theorem yn(h:Nat→D→List D→St→Option St)(E:List D)(res:List PRes)(R:D→St→Prop)(fr:Frame)(st:St):@Nz h E res ⟨R⟩ .next fr st=@on _ (DL ⟨fr,st⟩ res) ⟨fun l=>R (DD l) st⟩:=(rfl)
theorem yR6(h:Nat→D→List D→St→Option St)(E:List D)(res:List PRes)(R:D→St→Prop)(t:Nat)(d:D)(fr:Frame)(st:St) :
  @Nz h E res ⟨R⟩ (.panic t d) fr st=@on _ (h t d E st) ⟨fun I=>@on _ (DL ⟨fr,I⟩ res) ⟨fun l=>R (DD l) I⟩⟩:=(rfl)
def Py(h:Nat→D→List D→St→Option St)(das:List D)(res:List PRes)(r:D)(e:Ex)(fr:Frame)(st:St):Prop:=match e with
 |.exit _=>False
 |.panic t d=>@on _ (h t d das st) ⟨fun st3=>(Fj ⟨fr,st3⟩ res).map DD=some r⟩
 |_=>(Fj ⟨fr,st⟩ res).map DD=some r
theorem ym(h:Nat→D→List D→St→Option St)(E:List D)(res:List PRes)(r:D)(fr:Frame)(st:St):Py h E res r .ret fr st=((Fj ⟨fr,st⟩ res).map DD=some r):=(rfl)
theorem yR7(h:Nat→D→List D→St→Option St)(E:List D)(res:List PRes)(r:D)(fr:Frame)(st:St):Py h E res r .next fr st=((Fj ⟨fr,st⟩ res).map DD=some r):=(rfl)
theorem yMc(h:Nat→D→List D→St→Option St)(E:List D)(res:List PRes)(r:D)(t:Nat)(d:D)(fr:Frame)(st:St):Py h E res r (.panic t d) fr st=@on _ (h t d E st) ⟨fun I=>(Fj ⟨fr,I⟩ res).map DD=some r⟩:=(rfl)
def PO(G:Dc)(T:Tbl)(F:PFD)(H:H6)(ds:List D)(st:St)(K:(Nat→D→List D→St→Option St)→List D→Ex→Frame→St→Prop):Prop:=
 @Hh G T F.pre (C5 ds) st ⟨fun fr1 st1=>@on _ (MP (Dh G fr1 F.hf) (F.ha.map (Dh G fr1))) ⟨fun p=>@on _ (H p.1) ⟨fun h=>@wW G T F.code fr1 st1 ⟨K h p.2⟩⟩⟩⟩
theorem xQ{F:PFD}{H:H6}{K:(Nat→D→List D→St→Option St)→List D→Ex→Frame→St→Prop}(h:PO G T F H ds st K) :
  ∃ n s1 f M J e I st',EH G T F.pre ⟨C5 ds,st⟩=some s1∧MP (Dh G s1.fr F.hf) (F.ha.map (Dh G s1.fr))=some (f,M)∧H f=some J∧(∀ m,n≤m→F.code.exec G T m s1=some (e,⟨I,st'⟩))∧K J M e I st':=by
 obtain⟨fr1,st1,N,E⟩:=SE _ _ _ _ h;simp only at E;unfold on at E
 split at E
 case h_2=>exact E.elim
 rename_i p O;simp only at E
 split at E
 case h_2=>exact E.elim
 rename_i J U;obtain⟨n,e,I,st',V,Y⟩:=KM _ _ _ _ (show W G T F.code fr1 st1 (K J p.2)from E);exact⟨n,⟨fr1,st1⟩,p.1,p.2,J,e,I,st',N,O,U,V,Y⟩
theorem Yqb(fs:List (Option Foot))(g:Option Foot):MI fs g []=true:=(rfl)
theorem Yig(fs:List (Option Foot))(g:Option Foot)(j:Nat)(r:List Nat):MI fs g (j::r)=(gL fs[j]? g && MI fs g r):=(rfl)
theorem Ywh(f g:Foot):gL (some (some f)) (some g)=f.ok g:=(rfl)
theorem UE(r w I w':List Nat)(m E:Option Nat):Foot.ok ⟨r,w,m⟩ ⟨I,w',E⟩=(Hq w' r && Hq w' w && Hq w I && Kj m I && Kj m w' && Kj E r && Kj E w && (m.isNone || E.isNone)):=(rfl)
theorem Yjf(b:List Nat):Hq [] b=true:=(rfl)
theorem Yc3(k:Nat)(a b:List Nat):Hq (k::a) b=(!b.contains k && Hq a b):=by simp[Hq]
theorem zt(a:List Nat):Kj none a=true:=(rfl)
theorem zu(n:Nat):Kj (some n) []=true:=(rfl)
theorem yOf(n k:Nat)(a:List Nat):Kj (some n) (k::a)=(decide (k<n) && Kj (some n) a):=(rfl)
theorem Ya3:NV=⟨[],[],none⟩:=(rfl)
theorem xL:GM (none:Option α)=[]:=(rfl)
theorem xM(x:α):GM (some x)=[x]:=(rfl)
section
variable (ρ:PA→D) (st:St)
theorem Yah(n:Nat)(p x:PA):POp.foot ρ st (.stor n p x)=some ⟨hk (ρ x),hk (ρ p),none⟩:=(rfl)
theorem Yhx(x:PA):POp.foot ρ st (.box x)=some ⟨[],[],some st.length⟩:=(rfl)
theorem z4(a b:Nat)(z:D)(l c:PA):POp.foot ρ st (.mkslc a b z l c)=some ⟨[],[],some st.length⟩:=(rfl)
theorem zZ(f:Nat)(l:List PA):POp.foot ρ st (.mcall f l)=some ⟨[],[],some st.length⟩:=(rfl)
def P8(st:St)(s x:D):Option Foot:=match s with
 |.row key _ _ _=>some ⟨hk x,[key],none⟩
 |_=>some ⟨hk x,[],FG x st.length⟩
theorem Yjn(key tot off len:Nat)(x:D):P8 st (.row key tot off len) x=some ⟨hk x,[key],none⟩:=(rfl)
theorem Yjm(sz:Nat)(els:List D)(t:Bool)(x:D):P8 st (.slc sz els t) x=some ⟨hk x,[],FG x st.length⟩:=(rfl)
theorem Yjk(sz:Nat)(t:Bool)(n:Nat):FG (.slc sz [] t) n=none:=(rfl)
theorem Yc8(sz:Nat)(a:D)(l:List D)(t:Bool)(n:Nat):FG (.slc sz (a::l) t) n=some n:=(rfl)
theorem Yjj(key tot off len n:Nat):FG (.row key tot off len) n=some n:=(rfl)
theorem Yjl(key off m sz:Nat)(ag:Bool)(n:Nat):FG (.bsl key off m sz ag) n=some n:=(rfl)
theorem Yji(s:List UInt8)(n:Nat):FG (.str s) n=some n:=(rfl)
theorem Yhy(a b:Nat)(s x:PA):POp.foot ρ st (.app a b s x)=P8 st (ρ s) (ρ x):=(rfl)
theorem Yak(n:Nat)(ag:Bool)(x:PA):POp.foot ρ st (.load n ag x)=some ⟨hk (ρ x),[],none⟩:=by simp[POp.foot,POp.args]
theorem Yai(x:PA):POp.foot ρ st (.nilc x)=some ⟨K1 (ρ x),[],none⟩:=(rfl)
theorem Ymv(key off:Nat):K1 (.ptr key off)=[]:=(rfl)
theorem Yew(E:D)(off:Nat):K1 (.eptr E off)=[]:=(rfl)
theorem Yev(key tot i off:Nat):K1 (.rptr key tot i off)=[key]:=(rfl)
theorem Yhw(n:Nat)(x:PA):POp.foot ρ st (.fld n x)=some ⟨K1 (ρ x),[],none⟩:=(rfl)
theorem Yal(n m:Nat)(x i:PA):POp.foot ρ st (.idxA n m x i)=some ⟨K1 (ρ x),[],none⟩:=(rfl)
theorem z6(n:Nat)(x:PA)(a b c:Option PA):POp.foot ρ st (.slice n x a b c)=some ⟨((x::(GM a++GM b++GM c)).map ρ).flatMap hk,[],none⟩:=(rfl)
theorem Yam(f:Nat)(l:List PA):POp.foot ρ st (.call f l)=some ⟨(l.map ρ).flatMap hk,[],none⟩:=(rfl)
theorem Yan(n:Nat)(l:List PA):POp.foot ρ st (.bslc n l)=some ⟨(l.map ρ).flatMap hk,[],none⟩:=(rfl)
end
attribute [irreducible] kF FF wF Ix ZG S9 on Ry G3 ev OE EU kG kV FW W Rb K3 Dg Gt wW Hh DY IB Lf Ox I4 Rx L5 Nz Py
def Em:D→Bool
 |.int _ _ | .bool _ | .str _ | .clo _ [] | .nilf | .nilp=>true
 |.slc sz els t=>!t && nz sz els == sz
 |_=>false
def IH:D→Bool
 |.agg l=>l.all Em
 |d=>Em d
variable {d:D}
theorem aP(st:St)(h:Em d=true):Dx st d=some d:=by
 cases d with
 |clo f l=>cases l <;> simp_all [Em,Dx,D.pure1]
 |slc sz els t=>simp_all [Em,Dx]
 |_=>simp_all [Em,Dx,D.pure1]
theorem QY(st:St):∀ {l:List D},l.all Em=true→DR st l=some l
 |[],_=>rfl
 |d::l,h=>by
  simp only[A3,Af]at h;simp only[DR,aP st h.1,QY st h.2]
theorem Pb(st:St)(h:IH d=true):DP st d=some d:=by
 cases d with
 |agg l=>simp only[DP,QY st h,Ag]
 |tup l=>simp[IH,Em]at h
 |_=>exact aP st (by simpa only[IH]using h)
theorem aQ(h:Em d=true):EY d=[]:=by
 cases d <;> simp_all [Em,EY]
theorem Pg(h:IH d=true):keys d=[]:=by
 cases d with
 |agg l=>
  simp only[keys,B5];simp only[IH,Aj]at h;exact fun d E=>aQ (h d E)
 |_=>exact aQ (by simpa only[IH]using h)
theorem po(h:Em d=true):Dq d=[]:=by
 cases d with
 |clo f l=>cases l <;> simp_all [Em,Dq]
 |_=>simp_all [Em,Dq,FX]
theorem Sa(h:IH d=true):hk d=[]:=by
 cases d with
 |agg l=>
  simp only[hk,B5];simp only[IH,Aj]at h;exact fun d E=>po (h d E)
 |_=>exact po (by simpa only[IH]using h)
theorem qt(n:Nat)(σ:List Nat)(h:Em d=true):Ep n σ d=d:=by
 cases d with
 |clo f l=>cases l <;> simp_all [Em,Ep]
 |_=>simp_all [Em,Ep,Gb]
theorem Pc(n:Nat)(σ:List Nat)(h:IH d=true):Ef n σ d=d:=by
 cases d with
 |agg l=>
  simp only[Ef,D.agg.injEq];simp only[IH,Aj]at h
  have:∀ l:List D,(∀ d∈l,Em d=true)→l.map (Ep n σ)=l:=by
   intro l
   induction l with
   |nil=>intro _; rfl
   |cons a l E=>intro h; simp only[Ax,qt n σ (h a (by simp)),E fun d I=>h d (by simp[I])]
  grind
 |tup l=>simp[IH,Em]at h
 |_=>exact qt n σ (by simpa only[IH]using h)
structure Dig where
 bs:List UInt8
 len:bs.length=32
 deriving DecidableEq
def Dp:Dig:=⟨CH 32 0,by simp⟩
instance:Inhabited Dig:=⟨Dp⟩
theorem Dig.ext'{a b:Dig}(h:a.bs=b.bs):a=b:=by
 cases a; cases b; simp_all
def CZ(d:Dig):List D:=d.bs.map Dd
def C3(d:Dig):D:=.agg (CZ d)
theorem DK(d:Dig):(CZ d).length=32:=by simp[CZ,d.len]
theorem od{a b:UInt8}(h:Dd a=Dd b):a=b:=by
 simp only[Dd,D.int.injEq,true_and]at h;exact UInt8.toNat_inj.1 (by omega)
theorem N0{α β:Type}{f:α→β}(I:∀ a b,f a=f b→a=b):∀ {l E:List α},l.map f=E.map f→l=E
 |[],[],_=>rfl
 |[],_::_,h=>by cases h
 |_::_,[],h=>by cases h
 |a::l,b::E,h=>by
  simp only[Ax,Aa]at h;rw[I _ _ h.1,N0 I h.2]
variable {b:List UInt8}
theorem O4{a:List UInt8}(h:a.map Dd=b.map Dd):a=b:=N0 (fun _ _=>od) h
theorem ml{a b:Dig}(h:C3 a=C3 b):a=b:=by
 simp only[C3,CZ,D.agg.injEq]at h;exact Dig.ext' (O4 h)
theorem Lt{a b:Dig}(h:CZ a=CZ b):a=b:=Dig.ext' (O4 h)
theorem Kw{p:D→Bool}(E:∀ b,p (Dd b)=true)(d:Dig):(CZ d).all p=true:=by
 simp only[CZ,Aj,AV];grind
theorem IQ(d:Dig):(CZ d).all D.isCell=true:=Kw (fun _=>rfl) d
theorem Sz(d:Dig):(CZ d).all Em=true:=Kw (fun _=>rfl) d
theorem Pn(d:Dig):IH (C3 d)=true:=Sz d
theorem SA(d:Dig):(C3 d).cells=CZ d:=(rfl)
theorem pP(d:Dig):(C3 d).noRef=true:=Kw (fun _=>rfl) d
theorem cq(d:Dig):D.mk true (CZ d)=C3 d:=(rfl)
theorem Ynt(x:D)(l:List D):D.mk true (x::l)=.agg (x::l):=(rfl)
theorem Yua(x:D)(l:List D):D.mk false (x::l)=x:=(rfl)
theorem Yrh(d:Dig):D.agg (CZ d)=C3 d:=(rfl)
theorem Ydg:[D.int .u8 0,.int .u8 0,.int .u8 0,.int .u8 0,.int .u8 0,.int .u8 0,.int .u8 0,.int .u8 0,.int .u8 0,.int .u8 0,.int .u8 0,.int .u8 0,.int .u8 0,.int .u8 0,.int .u8 0,.int .u8 0,.int .u8 0,.int .u8 0,.int .u8 0,.int .u8 0,.int .u8 0,.int .u8 0,.int .u8 0,.int .u8 0,.int .u8 0,.int .u8 0,.int .u8 0,.int .u8 0,.int .u8 0,.int .u8 0,.int .u8 0,.int .u8 0]=CZ Dp:=(rfl)
theorem Wm(d:Dig):(CZ d).take 32=CZ d:=AS (by rw[DK]; exact AE _)
theorem XO(h:Em d=true):IH d=true:=by
 cases d with
 |agg l=>simp[Em]at h
 |_=>exact h
theorem Mz(n:Nat)(σ:List Nat):∀ {l:List D},l.all Em=true→l.map (Ef n σ)=l
 |[],_=>rfl
 |d::l,h=>by
  simp only[A3,Af]at h;simp only[Ax,Pc n σ (XO h.1),Mz n σ h.2]
theorem Nk:∀ {l:List D},l.all Em=true→l.flatMap hk=[]
 |[],_=>rfl
 |d::l,h=>by
  simp only[A3,Af]at h;simp only[At,Sa (XO h.1),Nk h.2,Ad]
theorem Yfa(n:Nat)(σ:List Nat)(d:Dig):(CZ d).map (Ef n σ)=CZ d:=Mz n σ (Sz d)
theorem Yhj(d:Dig):(CZ d).flatMap hk=[]:=Nk (Sz d)
theorem Yoy(st:St)(d:Dig):DP st (C3 d)=some (C3 d):=Pb st (Pn d)
theorem nh(d:Dig):keys (C3 d)=[]:=Pg (Pn d)
theorem Yvo(d:Dig):hk (C3 d)=[]:=Sa (Pn d)
theorem nD(n:Nat)(σ:List Nat)(d:Dig):Ef n σ (C3 d)=C3 d:=Pc n σ (Pn d)
theorem Yq2(d:Dig):Dy (C3 d)=some (CZ d):=by
 simp only[Dy,SA,IQ,if_true]
theorem jt:∀ (n:Nat) (a b:List UInt8),a.length=n→b.length=n→EC (CH n 0) (a.map Dd) (b.map Dd)=some (decide (a=b))
 |0,[],[],_,_=>rfl
 |0,_::_,_,h,_=>by cases h
 |0,[],_::_,_,h=>by cases h
 |n+1,[],_,h,_=>by cases h
 |n+1,_::_,[],_,h=>by cases h
 |n+1,a::l,b::I,h,E=>by
  simp only[Ak,Nat.add_right_cancel_iff]at h E;simp only[BU,Ax,EC,jt n l I h E];simp only[Ig,Dd,if_true]
  congr 1
  by_cases e:a=b
  ·grind
  ·have:¬ ((a.toNat:Int)=(b.toNat:Int)):=fun h=>e (UInt8.toNat_inj.1 (by omega));grind
theorem pS(a b:Dig):EC (CH 32 0) (CZ a) (CZ b)=some (decide (a=b)):=by
 rw[CZ,CZ,jt 32 a.bs b.bs a.len b.len]
 congr 1
 by_cases e:a=b
 ·grind
 ·have E:¬ a.bs=b.bs:=fun h=>e (Dig.ext' h);simp[e,E]
theorem Yrj(E:Bool)(a b:Dig):FE [0,0,0,0,0,0,0,0,0,0,0,0,0,0,0,0,0,0,0,0,0,0,0,0,0,0,0,0,0,0,0,0] E (C3 a) (C3 b)=some (.bool (decide (a=b) != E)):=by
 show(EC (CH 32 0) (CZ a) (CZ b)).map _=_
 rw[pS]; rfl
theorem getElem?_getD[Inhabited α](l:List α)(i:Nat)(h:i<l.length):l[i]?=some (l.getD i default):=by
 grind
theorem yt[Inhabited α](l:List α)(i:Nat)(h:i<l.length):l.take (i+1)=l.take i++[l.getD i default]:=by
 simp_all
theorem oy[Inhabited α](l:List α)(i:Nat)(h:i<l.length):l.drop i=l.getD i default::l.drop (i+1):=by
 simp_all
theorem qw(l xs:List D)(h:l.length=xs.length):E8 l 0 xs=xs:=by
 simp[E8,h]
theorem qy(a b:Dig):E8 (CZ a) 0 (CZ b)=CZ b:=qw _ _ (by rw[DK,DK])
theorem yLr(x:D)(l ys:List D)(n:Nat):E8 (x::l) (n+1) ys=x::E8 l n ys:=by
 simp[E8,Nat.add_right_comm]
def Dr(o:Option Obj)(n:Nat)(ag:Bool)(off:Nat):Option D:=if !ag && n != 1 then none else o.bind fun o=>if !o.row && decide (off+n≤o.els.length)then some (.mk ag ((o.els.drop off).take n))else none
def DZ(o:Option Obj)(n:Nat)(off:Nat)(x:D):Option Obj:=o.bind fun o=>if !o.row && !o.lent && decide (off+n≤o.els.length) && x.cells.length == n && x.cells.all D.isCell then some {o with els:=E8 o.els off x.cells} else none
theorem xA(st:St)(n:Nat)(ag:Bool)(key off:Nat):EO st n ag (.ptr key off)=Dr st[key]? n ag off:=by
 simp only[EO,Dr];grind
theorem xC(st:St)(n:Nat)(key off:Nat)(x:D):Lh st n (.ptr key off) x=(DZ st[key]? n off x).map fun o=>st.set key o:=by
 simp only[Lh,DZ];grind
section
variable {α:Type} (sz:Nat) (lent:Bool)
theorem Qu(x:D)(l:List D):Dr (some ⟨false,sz,x::l,lent⟩) 1 false 0=some x:=by
 rfl
theorem nj(x:D)(l:List D)(n:Nat)(ag:Bool)(off:Nat):Dr (some ⟨false,sz,x::l,lent⟩) n ag (off+1)=Dr (some ⟨false,sz,l,lent⟩) n ag off:=by
 simp only[Dr,Bl,List.drop_succ_cons,Ak];grind
theorem Yn9(d:Dig):Dr (some ⟨false,sz,CZ d,lent⟩) 32 true 0=some (C3 d):=by
 simp[Dr,DK,Wm,cq]
theorem Od(x:D)(d:Dig):Dr (some ⟨false,sz,x::CZ d,lent⟩) 33 true 0=some (.agg (x::CZ d)):=by
 simp[Dr,DK,Wm,D.mk]
theorem lh{α:Type}[Inhabited α](f:α→D)(E:List α)(i:Nat)(h:i<E.length):Dr (some ⟨false,sz,E.map f,lent⟩) 1 false i=some (f (E.getD i default)):=by
 have I:i+1≤E.length:=h
 have:(E.map f).drop i=f (E.getD i default)::(E.map f).drop (i+1):=by
  rw[← Cj,oy E i h,Ax,Cj]
 simp[Dr,this,D.mk,I]
theorem KJ(cs:List D)(n:Nat)(h:cs.length=n):Dr (some ⟨false,sz,cs,lent⟩) n true 0=some (.agg cs):=by
 subst h; simp[Dr,D.mk]
theorem zQ{α:Type}(f:α→D)(E:List α)(n:Nat)(h:E.length=n):Dr (some ⟨false,sz,E.map f,lent⟩) n true 0=some (.agg (E.map f)):=
 KJ sz lent _ n (by simpa using h)
theorem Ymj(x v:D)(l:List D)(hv:v.isCell=true):DZ (some ⟨false,sz,x::l,false⟩) 1 0 v=some ⟨false,sz,v::l,false⟩:=by
 simp[DZ,Pq hv,hv,E8]
theorem Ymk(x:D)(k:IntKind)(n:Int)(l:List D):DZ (some ⟨false,sz,x::l,false⟩) 1 0 (.int k n)=some ⟨false,sz,.int k n::l,false⟩:=Ymj sz _ _ _ rfl
theorem Yml(d e:Dig):DZ (some ⟨false,sz,CZ d,false⟩) 32 0 (C3 e)=some ⟨false,sz,CZ e,false⟩:=by
 simp[DZ,DK,SA,IQ,qy]
theorem Lp(cs ds:List D)(n:Nat)(h:cs.length=n)(E:ds.length=n)(hc:ds.all D.isCell=true):DZ (some ⟨false,sz,cs,false⟩) n 0 (.agg ds)=some ⟨false,sz,ds,false⟩:=by
 subst h;simp[DZ,D.cells,E,hc,qw _ _ E.symm]
theorem qz(x:D)(k:IntKind)(m:Int)(d e:Dig):DZ (some ⟨false,sz,x::CZ d,false⟩) 33 0 (.agg (.int k m::CZ e))=some ⟨false,sz,.int k m::CZ e,false⟩:=
 Lp sz _ _ 33 (by simp[DK]) (by simp[DK]) (by simp[IQ,D.isCell])
theorem lW(f:α→D)(I:∀ a,(f a).isCell=true)(E:List α)(i:Nat)(v:α)(h:i<E.length):DZ (some ⟨false,sz,E.map f,false⟩) 1 i (f v)=some ⟨false,sz,(E.set i v).map f,false⟩:=by
 have J:i+1≤E.length:=h
 have M:E8 (E.map f) i [f v]=(E.set i v).map f:=by
  rw[List.map_set,E8,B6];simp[h]
 simp[DZ,Pq (I v),I v,J,M]
theorem Yeg(E:List UInt8)(i:Nat)(v:UInt8)(h:i<E.length):DZ (some ⟨false,sz,E.map Dd,false⟩) 1 i (Dd v)=some ⟨false,sz,(E.set i v).map Dd,false⟩:=lW sz Dd (fun _=>rfl) E i v h
theorem Yef(E:List UInt32)(i:Nat)(v:UInt32)(h:i<E.length):DZ (some ⟨false,sz,E.map wD,false⟩) 1 i (wD v)=some ⟨false,sz,(E.set i v).map wD,false⟩:=lW sz wD (fun _=>rfl) E i v h
theorem WE{α:Type}(f:α→D)(I:∀ a,(f a).isCell=true)(E:List α):(E.map f).all D.isCell=true:=by
 grind
theorem Yeh(E vs:List UInt32)(n:Nat)(h:E.length=n)(I:vs.length=n):DZ (some ⟨false,sz,E.map wD,false⟩) n 0 (.agg (vs.map wD))=some ⟨false,sz,vs.map wD,false⟩:=
 Lp sz _ _ n (by simpa using h) (by simpa using I) (WE wD (fun _=>rfl) vs)
theorem Yei(E vs:List UInt8)(n:Nat)(h:E.length=n)(I:vs.length=n):DZ (some ⟨false,sz,E.map Dd,false⟩) n 0 (.agg (vs.map Dd))=some ⟨false,sz,vs.map Dd,false⟩:=
 Lp sz _ _ n (by simpa using h) (by simpa using I) (WE Dd (fun _=>rfl) vs)
end
theorem ySg(st:St)(n:Nat)(ag:Bool)(key tot i off:Nat):EO st n ag (.rptr key tot i off)=if !ag && n != 1 then none else(st[key]?).bind fun o=>if o.row && o.els.length == tot then(o.els[i]?).bind fun el=>if off+n≤el.cells.length then some (.mk ag ((el.cells.drop off).take n))else none else none:=by
 simp only[EO];grind
theorem ySl(st:St)(d:Dig):EO st 32 true (.eptr (C3 d) 0)=some (C3 d):=by
 simp[EO,SA,DK,Wm,cq]
theorem O8(k:IntKind)(n:Int)(h:0≤n):Fm (.int k n)=some n.toNat:=by simp[Fm,h]
theorem yS2(k:IntKind):Fm (.int k 0)=some 0:=(rfl)
theorem N5(st:St)(n key off:Nat)(k:IntKind)(i:Int)(E:0≤i)(J:i<(n:Int)):IG st n 1 (.ptr key off) (.int k i)=some (.ptr key (off+i.toNat)):=by
 have I:i.toNat<n:=by omega
 simp[IG,O8 k i E,I,ET]
theorem wA(st:St)(n off:Nat)(E:D)(k:IntKind)(i:Int)(I:0≤i)(M:i<(n:Int)):IG st n 1 (.eptr E off) (.int k i)=some (.eptr E (off+i.toNat)):=by
 have J:i.toNat<n:=by omega
 simp[IG,O8 k i I,J,ET]
theorem ySj[Inhabited α](st:St)(f:α→D)(E:List α)(i:Nat)(h:i<E.length):EO st 1 false (.eptr (.agg (E.map f)) i)=some (f (E.getD i default)):=by
 have:=lh 1 false f E i h;simpa[EO,Dr,D.cells]using this
theorem eS(st:St)(x:D)(h:x.isCell=true):EO st 1 false (.eptr x 0)=some x:=by
 simp[EO,Pq h,D.mk]
theorem bo(st:St)(b:UInt8):EO st 1 false (.eptr (Dd b) 0)=some (Dd b):=eS st _ rfl
theorem ySk(st:St)(k:IntKind)(n:Int):EO st 1 false (.eptr (.int k n) 0)=some (.int k n):=eS st _ rfl
theorem Yhi[Inhabited α](st:St)(sz:Nat)(f:α→D)(l:List α)(t:Bool)(k:IntKind)(i:Int)(E:0≤i)(J:i<(l.length:Int)) :
  F2 st sz (.slc sz (l.map f) t) (.int k i)=some (.eptr (f (l.getD i.toNat default)) 0):=by
 have I:i.toNat<l.length:=by omega
 simp only[F2,O8 k i E,AJ,getElem?_getD l i.toNat I,Ag,beq_self_eq_true,if_true]
theorem Ygn(st:St)(sz:Nat)(els:List D)(t:Bool):Ec st false (.slc sz els t)=some (.int .i64 (els.length:Int)):=(rfl)
theorem Ygm(st:St)(s:List UInt8):Ec st true (.str s)=some (.int .i64 (s.length:Int)):=(rfl)
theorem Ygo(st:St)(key tot off len:Nat):Ec st false (.row key tot off len)=if live st key tot then some (.int .i64 (len:Int))else none:=by
 simp only[Ec,HG,Ev,beq_self_eq_true,if_true];grind
theorem Yfs(st:St)(sz bytes key tot:Nat)(x:D)(o:Obj)(xs:List D)(E:Nat)(I:st[key]?=some o)(J:o.row=true)(M:o.sz=sz)(N:o.els.length=tot)
  (O:Gy st x=some (E,xs)) (U:E=sz∨xs=[]) (V:sz≠0) (hb:(tot+xs.length)*bytes≤140737488355328) (hl:tot+xs.length≤4294967296) :
  Ea st sz bytes (.row key tot 0 tot) x=some (.row key (tot+xs.length) 0 (tot+xs.length),st.set key {o with els:=o.els++xs}):=by
 have e:(!(E == sz || xs.isEmpty) || sz == 0)=false:=by
  grind
 simp only[Ea,O,e,I,J,M,N,hb,hl,beq_self_eq_true,Az,decide_true,if_true,Al,if_false]
theorem mX(st:St)(sz bytes E:Nat)(els:List D)(x:D)(xs:List D)(I:Nat)(J:Gy st x=some (I,xs))(V:I=sz∨xs=[])(O:E=sz∨els=[])(Y:sz≠0)(U:xs≠[])
  (hb:(els.length+xs.length)*bytes≤140737488355328) (hl:els.length+xs.length≤4294967296) :
  Ea st sz bytes (.slc E els true) x=some (.row st.length (els.length+xs.length) 0 (els.length+xs.length),st++[{row:=true,sz,els:=els++xs,lent:=false}]):=by
 have M:xs.isEmpty=false:=by cases xs <;> simp_all
 have e:(!(I == sz || false) || sz == 0)=false:=by
  grind
 have N:(E == sz || els.isEmpty)=true:=by
  grind
 simp only[Ea,J,e,M,N,hb,hl,Az,decide_true,if_true,Al,if_false]
theorem mY(st:St)(sz bytes E:Nat)(els:List D)(x:D)(I:Nat)(J:Gy st x=some (I,[]))(M:sz≠0) :
  Ea st sz bytes (.slc E els true) x=some (.slc E els true,st):=by
 simp[Ea,J,M]
theorem q9:∀ (l:List D),IT 1 false l l.length=l
 |[]=>rfl
 |a::l=>by simp[IT,D.mk,q9 l]
def DW(sz key:Nat)(els:List D):D:=if els.isEmpty then .slc sz [] true else .row key els.length 0 els.length
def Ds(sz:Nat)(els:List D):St:=if els.isEmpty then []else [{row:=true,sz,els,lent:=false}]
theorem me(sz key:Nat):DW sz key []=.slc sz [] true:=(rfl)
theorem Yft(st:St)(sz sz0 bytes:Nat)(els xs:List D)(x:D)(E:Nat)(I:Gy (st++Ds sz els) x=some (E,xs))(J:E=sz∨xs=[])(hs0:sz≠0)
  (hb:(els.length+xs.length)*bytes≤140737488355328) (hl:els.length+xs.length≤4294967296) :
  Ea (st++Ds sz els) sz bytes (DW sz0 st.length els) x=some (DW sz0 st.length (els++xs),st++Ds sz (els++xs)):=by
 cases els with
 |nil=>
  cases xs with
  |nil=>
   rw[me,mY _ _ _ _ _ _ E I hs0];rfl
  |cons a l=>
   rw[me,mX _ _ _ _ _ _ (a::l) E I J (.inr rfl) hs0 (by simp) (by simpa using hb) (by simpa using hl)];simp[DW,Ds]
 |cons e r=>
  have M:(st++Ds sz (e::r))[st.length]?=some {row:=true,sz,els:=e::r,lent:=false}:=by simp[Ds]
  have:=Yfs (st++Ds sz (e::r)) sz bytes st.length (e::r).length x _ xs E M rfl rfl rfl I J hs0 hb hl;simp only[DW,List.isEmpty_cons,Al,if_false,Ae]at this ⊢;rw[this];simp[Ds,Nat.add_right_comm]
theorem Ytm(fr:Frame)(s t:Nat)(d:D):(fr.set s d) t=if t=s then d else fr t:=(rfl)
theorem Yub(s t:Nat)(d:D)(r:List (Nat×D)):GH ((s,d)::r) t=if t=s then d else GH r t:=(rfl)
attribute [push_cast] Yxn yR2 V1 Ydx yRo yRp EE Yly TT Yv0 Yom Yqb Yig Ywh UE Yjf Yc3 zt zu yOf Ya3 xL xM Yah Yhx z4 zZ Yjn Yjm Yjk Yc8 Yjj Yjl Yji Yhy Yak Yai Yhw Yal z6 Yam Yan Ymv Yew Yev Option.isNone_none Option.isNone_some
attribute [push_cast] lG Ynm Yf7 Yhg wB Ydv yRl yRm Yoq Yg6 Yva Yok Yon Yg5 U8 U2 Yuz U9 Va Yu9 Yu1 Yuy Yu0 Vb Vc Ve gF Yu7 Yoj Yoh Yg4 U6 Yu6 Yu4 Yu5 U5 Yu3 U4 Yu2 Vd gG U3 Yoi Yoo Yop Yol Yu8 U7 Yfi Yfj Ytm Uw Ux Yub Yxe Yxd Yxc Yxb Yxa Yw9 Yw8 Yw7 Yxi V0 VX yw yv Yd8 Yxm Yrn Yf0 Ynj Ytx Yxl VY Yex yq nF oR Ydg
attribute [push_cast] Yo1 Vx Ywb ySs yMt ySt Ywa Yv9 Yv8 Yoy nh Yvo nD DK IQ SA pP cq Yrh Ynt Yua Wm Yq2 Yrj ySl xA xC Qu nj Yn9 Od lh zQ Ymk Yml qz Yeg Yef Yeh Yei bo ySk ySj Ygn Ygm
theorem kT(st:St)(k:IntKind)(n:Int):DP st (.int k n)=some (.int k n):=(rfl)
theorem Yhd(st:St)(b:Bool):DP st (.bool b)=some (.bool b):=(rfl)
theorem You(st:St)(s:List UInt8):DP st (.str s)=some (.str s):=(rfl)
theorem Yov(st:St)(sz:Nat)(els:List D)(t:Bool):DP st (.slc sz els t)=some (.slc (nz sz els) els false):=(rfl)
theorem Yow(st:St)(key tot off len:Nat):DP st (.row key tot off len)=(Hg st key tot off len).map fun p=>.slc (nz p.1 p.2) p.2 false:=(rfl)
theorem kS(st:St)(l:List D):DP st (.agg l)=(DR st l).map .agg:=(rfl)
theorem Yhe(st:St):DR st []=some []:=(rfl)
theorem oi(st:St)(d:D)(l:List D):DR st (d::l)=(Dx st d).bind fun x=>(DR st l).map (x::·):=by
 simp only[DR]
 cases Dx st d with
 |none=>rfl
 |some x=>cases DR st l <;> rfl
theorem Yg9(st:St):D1 st []=some []:=(rfl)
theorem wh(st:St)(d:D)(l:List D):D1 st (d::l)=(DP st d).bind fun x=>(D1 st l).map (x::·):=by
 simp only[D1]
 cases DP st d with
 |none=>rfl
 |some x=>cases D1 st l <;> rfl
theorem mH(st:St)(d:Dig):DR st (CZ d)=some (CZ d):=QY st (Sz d)
theorem Yhq(s:PS):Fj s []=some []:=(rfl)
theorem Yab(s:PS)(r:PRes)(l:List PRes):Fj s (r::l)=(r.get s).bind fun x=>(Fj s l).map (x::·):=by
 simp only[Fj]
 cases r.get s with
 |none=>rfl
 |some x=>cases Fj s l <;> rfl
theorem Ypo(fr:Frame)(st:St)(t:Nat):PRes.get ⟨fr,st⟩ (.tmp t)=DP st (fr t):=(rfl)
theorem Yht(fr:Frame)(st:St)(t n:Nat)(ag:Bool):PRes.get ⟨fr,st⟩ (.cell t n ag)=(EO st n ag (fr t)).bind fun d=>DP st d:=by
 simp only[PRes.get];grind
theorem eX(s:PS):DL s []=some []:=(rfl)
theorem eY(fr:Frame)(st:St)(t:Nat)(l:List PRes):DL ⟨fr,st⟩ (.tmp t::l)=(DL ⟨fr,st⟩ l).map (fr t::·):=(rfl)
theorem Yfw(d:D):DD [d]=d:=(rfl)
theorem Yfv(a b:D)(l:List D):DD (a::b::l)=.tup (a::b::l):=(rfl)
theorem Yfx:DD []=.tup []:=(rfl)
theorem wU(k:IntKind)(n:Int):(D.int k n).noRef=true:=(rfl)
theorem yS0(b:Bool):(D.bool b).noRef=true:=(rfl)
theorem wV(sz:Nat)(els:List D)(t:Bool):(D.slc sz els t).noRef=false:=(rfl)
theorem ni(k:IntKind)(n:Int):keys (.int k n)=[]:=(rfl)
theorem wq(b:Bool):keys (.bool b)=[]:=(rfl)
theorem Ygw(s:List UInt8):keys (.str s)=[]:=(rfl)
theorem Ygx(sz:Nat)(els:List D)(t:Bool):keys (.slc sz els t)=[]:=(rfl)
theorem Ygy(key tot off len:Nat):keys (.row key tot off len)=[key]:=(rfl)
theorem Yvn(k:IntKind)(n:Int):hk (.int k n)=[]:=(rfl)
theorem Ypc(b:Bool):hk (.bool b)=[]:=(rfl)
theorem Yvh(s:List UInt8):hk (.str s)=[]:=(rfl)
theorem Yvi(sz:Nat)(els:List D)(t:Bool):hk (.slc sz els t)=[]:=(rfl)
theorem Yvj(key tot off len:Nat):hk (.row key tot off len)=[key]:=(rfl)
theorem Yvk(key off:Nat):hk (.ptr key off)=[key]:=(rfl)
theorem Yvg(l:List D):hk (.tup l)=[]:=(rfl)
theorem Yo9:hk .junk=[]:=(rfl)
theorem Ym0(n:Nat)(σ:List Nat)(k:IntKind)(m:Int):Ef n σ (.int k m)=.int k m:=(rfl)
theorem Ye6(n:Nat)(σ:List Nat)(b:Bool):Ef n σ (.bool b)=.bool b:=(rfl)
theorem Ymw(n:Nat)(σ:List Nat)(s:List UInt8):Ef n σ (.str s)=.str s:=(rfl)
theorem Ymx(n:Nat)(σ:List Nat)(sz:Nat)(els:List D)(t:Bool):Ef n σ (.slc sz els t)=.slc sz els t:=(rfl)
theorem Ymy(n:Nat)(σ:List Nat)(key tot off len:Nat):Ef n σ (.row key tot off len)=IL (fun k=>.row k tot off len) (EA n σ key):=(rfl)
theorem Ymz(n:Nat)(σ:List Nat)(key off:Nat):Ef n σ (.ptr key off)=IL (fun k=>.ptr k off) (EA n σ key):=(rfl)
theorem yMv(f:Nat→D)(k:Nat):IL f (some k)=f k:=(rfl)
theorem Yjb(k:IntKind)(n:Int):Dy (.int k n)=some [.int k n]:=(rfl)
theorem Ycx(b:Bool):Dy (.bool b)=some [.bool b]:=(rfl)
theorem Yja(sz:Nat)(els:List D)(t:Bool):Dy (.slc sz els t)=some [.slc sz els t]:=(rfl)
theorem Ybl(k:IntKind)(n:Int):(D.int k n).cells=[.int k n]:=(rfl)
theorem yY(b:Bool):(D.bool b).cells=[.bool b]:=(rfl)
theorem Ybi(sz:Nat)(els:List D)(t:Bool):(D.slc sz els t).cells=[.slc sz els t]:=(rfl)
theorem Ybj(key tot off len:Nat):(D.row key tot off len).cells=[.row key tot off len]:=(rfl)
theorem Ybm(l:List D):(D.agg l).cells=l:=(rfl)
theorem qE(k:IntKind)(n:Int):(D.int k n).isCell=true:=(rfl)
theorem yNk(b:Bool):(D.bool b).isCell=true:=(rfl)
theorem zN(sz:Nat)(els:List D)(t:Bool):(D.slc sz els t).isCell=true:=(rfl)
theorem zM(key tot off len:Nat):(D.row key tot off len).isCell=true:=(rfl)
theorem Yss(b:Bool):L7 .not (.bool b)=some (.bool !b):=(rfl)
theorem Yq6(k:IntKind)(a b:Int):Df .lss (.int k a) (.int k b)=some (.bool (decide (a<b))):=by simp only[Df,if_true,I8,Ag]
theorem Yq7(k:IntKind)(a b:Int):Df .leq (.int k a) (.int k b)=some (.bool (decide (a≤b))):=by simp only[Df,if_true,I8,Ag]
theorem Yq8(k:IntKind)(a b:Int):Df .gtr (.int k a) (.int k b)=some (.bool (decide (b<a))):=by simp only[Df,if_true,I8,Ag,gt_iff_lt]
theorem Yq9(k:IntKind)(a b:Int):Df .geq (.int k a) (.int k b)=some (.bool (decide (b≤a))):=by simp only[Df,if_true,I8,Ag,ge_iff_le]
theorem tY(k:IntKind)(a b:Int):Df .eql (.int k a) (.int k b)=some (.bool (decide (a=b))):=by
 simp only[Df,if_true,I8,Ag];rfl
theorem Yq5(k:IntKind)(a b:Int):Df .neq (.int k a) (.int k b)=some (.bool (!decide (a=b))):=by
 simp only[Df,if_true,I8,Ag];rfl
theorem Yje(E a b:Bool):L8 E (.bool a) (.bool b)=some (.bool ((a == b) != E)):=(rfl)
theorem Yt9(k k':IntKind)(a b:Int):RA true (.int k a) (.int k' b)=some (.int k (max a b)):=by
 simp only[RA,if_true]
 congr 2
 omega
theorem Yt8(k k':IntKind)(a b:Int):RA false (.int k a) (.int k' b)=some (.int k (min a b)):=by
 simp only[RA,Al,if_false]
 congr 2
 omega
theorem Yns(k k' E:IntKind)(a b c:Int):ND true (.int k a) (.int k' b) (.int E c)=some (.int k (max (max a b) c)):=by
 simp only[ND,Mb,if_true]
 congr 2
 omega
theorem Yfo(st:St)(off key o:Nat):ET st off (.ptr key o)=some (.ptr key (o+off)):=(rfl)
theorem w9(st:St)(off:Nat)(E:D)(o:Nat):ET st off (.eptr E o)=some (.eptr E (o+off)):=(rfl)
theorem Ygl(st:St):lend [] st=st:=(rfl)
theorem wZ(k:Nat)(r:List Nat)(st:St):lend (k::r) st=lend r (st.modify k fun o=>{o with lent:=true}):=(rfl)
theorem yNi(b:Bool)(x:St):(if b=true then x else x)=x:=by cases b <;> rfl
theorem qh(n sz:Nat)(ag:Bool)(key off:Nat)(h:0<n):NX n sz ag (.ptr key off) none none=some (.bsl key off n sz ag):=by
 have:¬ 0=n:=by omega
 simp[NX,FY,this]
attribute [push_cast] kT Yhd You Yov Yow kS Yhe oi Yg9 wh mH Yhq Yab Ypo Yht eX eY Yfw Yfv Yfx wU yS0 wV ni wq Ygw Ygx Ygy Yvn Ypc Yvh Yvi Yvj Yvk Yvg Yo9 Ym0 Ye6 Ymw Ymx Ymy Ymz yMv Yjb Ycx Yja Ybl yY Ybi Ybj Ybm qE yNk zN zM Yss Yq6 Yq7 Yq8 Yq9 tY Yq5 Yje Yt9 Yt8 Yns Yfo w9 Ygl wZ yNi Option.map_some Option.map_none Option.bind_some Option.bind_none List.map_cons List.map_nil List.flatMap_cons List.flatMap_nil List.append_nil List.nil_append List.cons_append List.getElem?_cons_zero List.getElem?_cons_succ List.set_cons_zero List.set_cons_succ List.modify_zero_cons List.modify_succ_cons List.length_cons List.length_nil List.length_map List.take_zero List.take_succ_cons List.all_cons List.all_nil Nat.zero_add Nat.add_zero Bool.not_true Bool.not_false Bool.and_self Bool.true_and Bool.and_true Bool.false_and Bool.and_false Bool.or_false Bool.false_or Bool.true_or Bool.or_true Bool.not_not if_true if_false decide_true decide_false beq_self_eq_true Bool.false_eq_true Bool.true_eq_false ne_eq bne_self_eq_false Bool.bne_false Bool.bne_true Nat.lt_irrefl Nat.le_refl
def LZ(fr:Frame):List Nat→List Nat
 |[]=>[]
 |k::r=>hk (fr k)++LZ fr r
def Jf(fr:Frame)(n:Nat)(σ:List Nat):List Nat→List (Nat×D)
 |[]=>[]
 |k::r=>(k,Ef n σ (fr k))::Jf fr n σ r
def ID:St→List Nat
 |[]=>[]
 |o::r=>(if o.row then []else o.els.flatMap hk)++ID r
def Lg(n:Nat)(σ:List Nat)(st:St):List Nat→St
 |[]=>[]
 |k::r=>ES n σ (st.getD k default)::Lg n σ st r
def I5(n:Nat)(σ:List Nat):St→St
 |[]=>[]
 |o::r=>ES n σ o::I5 n σ r
def Sp(keep:List Nat)(n m:Nat)(l:List Nat)(fr:Frame)(st:St):PS:=restrictAt keep n (ER n m l []) ⟨fr,st⟩
theorem eu(fr:Frame):∀ keep:List Nat,LZ fr keep=keep.flatMap fun k=>hk (fr k)
 |[]=>rfl
 |k::r=>by rw[LZ,At,eu fr r]
theorem tL:∀ st:St,ID st=st.flatMap fun o=>if o.row then []else o.els.flatMap hk
 |[]=>rfl
 |k::r=>by rw[ID,At,tL r]
theorem RR(fr:Frame)(n:Nat)(σ:List Nat):∀ keep:List Nat,Jf fr n σ keep=keep.map fun k=>(k,Ef n σ (fr k))
 |[]=>rfl
 |k::r=>by rw[Jf,Ax,RR fr n σ r]
theorem eR(n:Nat)(σ:List Nat)(st:St):∀ l:List Nat,Lg n σ st l=l.map fun k=>ES n σ (st.getD k default)
 |[]=>rfl
 |k::r=>by rw[Lg,Ax,eR n σ st r]
theorem Zk(n:Nat)(σ:List Nat):∀ st:St,I5 n σ st=st.map (ES n σ)
 |[]=>rfl
 |k::r=>by rw[I5,Ax,Zk n σ r]
def ak(keep:List Nat)(n:Nat)(fr:Frame)(st:St):PS:=Sp keep n st.length (LZ fr keep++ID (st.take n)) fr st
theorem yMe(keep:List Nat)(n:Nat)(fr:Frame)(st:St):restrict keep n ⟨fr,st⟩=ak keep (if n≤st.length then n else st.length) fr st:=by
 simp only[restrict,ak,Sp,Tm,eu,tL]
theorem yIh(keep:List Nat)(n:Nat)(fr:Frame)(st:St):ak keep n fr st=Sp keep n st.length (LZ fr keep++ID (st.take n)) fr st:=(rfl)
def Sq(keep:List Nat)(n:Nat)(σ:List Nat)(fr:Frame)(st:St):PS:=⟨GH (Jf fr n σ keep),I5 n σ (st.take n)++Lg n σ st σ⟩
theorem yIi(keep:List Nat)(n m:Nat)(l:List Nat)(fr:Frame)(st:St):Sp keep n m l fr st=Sq keep n (ER n m l []) fr st:=by
 simp only[Sp,restrictAt,Sq,RR,picked,Zk,eR]
theorem yFg(keep:List Nat)(n:Nat)(σ:List Nat)(fr:Frame)(st:St):restrictAt keep n σ ⟨fr,st⟩=Sq keep n σ fr st:=by
 simp only[restrictAt,Sq,RR,picked,Zk,eR]
theorem yIg(keep:List Nat)(n:Nat)(σ:List Nat)(fr:Frame)(st:St):Sq keep n σ fr st=⟨GH (Jf fr n σ keep),I5 n σ (st.take n)++Lg n σ st σ⟩:=(rfl)
theorem wx(fr:Frame):LZ fr []=[]:=(rfl)
theorem zD(fr:Frame)(k:Nat)(r:List Nat):LZ fr (k::r)=hk (fr k)++LZ fr r:=(rfl)
theorem Yaa(fr:Frame)(n:Nat)(σ:List Nat):Jf fr n σ []=[]:=(rfl)
theorem zC(fr:Frame)(n:Nat)(σ:List Nat)(k:Nat)(r:List Nat):Jf fr n σ (k::r)=(k,Ef n σ (fr k))::Jf fr n σ r:=(rfl)
theorem Yi8:ID []=[]:=(rfl)
theorem Yi7(sz:Nat)(els:List D)(lent:Bool)(r:St):ID ({row:=true,sz,els,lent}::r)=ID r:=(rfl)
theorem Yi9(sz:Nat)(els:List D)(lent:Bool)(r:St):ID ({row:=false,sz,els,lent}::r)=els.flatMap hk++ID r:=(rfl)
theorem xg(n:Nat)(σ:List Nat)(st:St):Lg n σ st []=[]:=(rfl)
theorem ySr(n:Nat)(σ:List Nat)(st:St)(k:Nat)(r:List Nat):Lg n σ st (k::r)=ES n σ (st.getD k default)::Lg n σ st r:=(rfl)
theorem Ye7(n:Nat)(σ:List Nat):I5 n σ []=[]:=(rfl)
theorem yg(n:Nat)(σ:List Nat)(o:Obj)(r:St):I5 n σ (o::r)=ES n σ o::I5 n σ r:=(rfl)
theorem Yd0(lo hi:Nat)(E:List Nat):ER lo hi [] E=E:=(rfl)
theorem yy(lo hi k:Nat)(r E:List Nat):ER lo hi (k::r) E=ER lo hi r (if lo≤k∧k<hi∧E.contains k=false then E++[k]else E):=(rfl)
theorem Ym5(n:Nat)(σ:List Nat)(key:Nat):EA n σ key=if key<n then some key else Ov σ n key:=(rfl)
theorem Yfm(k k':Nat)(r:List Nat)(b:Nat):Ov (k::r) b k'=if k'=k then some b else Ov r (b+1) k':=(rfl)
theorem Ye8(n:Nat)(σ:List Nat)(sz:Nat)(els:List D)(lent:Bool):ES n σ {row:=true,sz,els,lent}={row:=true,sz,els,lent}:=(rfl)
theorem Ye9(n:Nat)(σ:List Nat)(sz:Nat)(els:List D)(lent:Bool):ES n σ {row:=false,sz,els,lent}={row:=false,sz,els:=els.map (Ef n σ),lent}:=(rfl)
theorem Yfe(n:Nat)(σ:List Nat)(k:IntKind)(m:Int):Ep n σ (.int k m)=.int k m:=(rfl)
theorem xH(n:Nat)(σ:List Nat)(b:Bool):Ep n σ (.bool b)=.bool b:=(rfl)
theorem Yfc(n:Nat)(σ:List Nat)(sz:Nat)(els:List D)(t:Bool):Ep n σ (.slc sz els t)=.slc sz els t:=(rfl)
theorem Yfb(n:Nat)(σ:List Nat)(s:List UInt8):Ep n σ (.str s)=.str s:=(rfl)
theorem Yfd(n:Nat)(σ:List Nat)(key tot off len:Nat):Ep n σ (.row key tot off len)=IL (fun k=>.row k tot off len) (EA n σ key):=(rfl)
theorem Ypg(k:IntKind)(m:Int):Dq (.int k m)=[]:=(rfl)
theorem Yhk(b:Bool):Dq (.bool b)=[]:=(rfl)
theorem Ype(sz:Nat)(els:List D)(t:Bool):Dq (.slc sz els t)=[]:=(rfl)
theorem Ypd(s:List UInt8):Dq (.str s)=[]:=(rfl)
theorem Ypf(key tot off len:Nat):Dq (.row key tot off len)=[key]:=(rfl)
theorem Yvr(key off m sz:Nat)(ag:Bool):hk (.bsl key off m sz ag)=[key]:=(rfl)
theorem Yo4(key tot i off:Nat):hk (.rptr key tot i off)=[key]:=(rfl)
theorem Yo8(key:Nat):hk (.mapv key)=[key]:=(rfl)
theorem Yo7:hk .nilf=[]:=(rfl)
theorem Yo5:hk .nilp=[]:=(rfl)
theorem Yo6:hk .nilm=[]:=(rfl)
theorem Ypa(l:List (Int×Nat)):hk (.gmap l)=[]:=(rfl)
theorem Ye5(n:Nat)(σ:List Nat)(l:List (Int×Nat)):Ef n σ (.gmap l)=.gmap l:=(rfl)
theorem Ye1(n:Nat)(σ:List Nat):Ef n σ .nilm=.nilm:=(rfl)
theorem Ye4(n:Nat)(σ:List Nat)(key:Nat):Ef n σ (.mapv key)=IL .mapv (EA n σ key):=(rfl)
theorem Ye2(n:Nat)(σ:List Nat):Ef n σ .nilf=.nilf:=(rfl)
theorem Ye0(n:Nat)(σ:List Nat):Ef n σ .nilp=.nilp:=(rfl)
def Q7(keep:List Nat)(n:Nat)[Inv:InvC][Q:QC](e:Ex)(fr:Frame)(st:St):Prop:=match e with
 |.next=>Inv.run (restrict keep n ⟨fr,st⟩)
 |e=>Q.run e fr st
def YD(s:PS)[Inv:InvC]:Prop:=Inv.run s
theorem zX(keep:List Nat)(n:Nat)(E:PS→Prop)(Q:QC)(fr:Frame)(st:St):@Q7 keep n ⟨E⟩ Q .next fr st=@YD (restrict keep n ⟨fr,st⟩) ⟨E⟩:=(rfl)
theorem zV(keep:List Nat)(n:Nat)(E:InvC)(Q:Ex→Frame→St→Prop)(I:Nat)(fr:Frame)(st:St):@Q7 keep n E ⟨Q⟩ (.exit I) fr st=Q (.exit I) fr st:=(rfl)
theorem wL(keep:List Nat)(n:Nat)(E:InvC)(Q:Ex→Frame→St→Prop)(fr:Frame)(st:St):@Q7 keep n E ⟨Q⟩ .ret fr st=Q .ret fr st:=(rfl)
theorem yM7(keep:List Nat)(n:Nat)(E:InvC)(Q:Ex→Frame→St→Prop)(t:Nat)(d:D)(fr:Frame)(st:St):@Q7 keep n E ⟨Q⟩ (.panic t d) fr st=Q (.panic t d) fr st:=(rfl)
theorem Gr(E:ι→List (Nat×D))(I:ι→St)(P:ι→Prop)(μ:ι→Nat)(J:ι)
  (N:restrict keep st.length ⟨fr,st⟩=⟨GH (E J),I J⟩) (O:P J)
  (M:∀ i,P i→@wW G T c (GH (E i)) (I i) ⟨@Q7 keep st.length ⟨fun s=>∃ j,(P j∧μ j<μ i)∧s=⟨GH (E j),I j⟩⟩ ⟨Q⟩⟩):@wW G T (.loop keep c) fr st ⟨Q⟩:=by
 refine Z3 (Yxk E I P μ J N O fun i hi=>Kn c _ _ _ _ (IE (M i hi)) fun e U st' h=>?_)
 cases e with
 |next=>
  obtain⟨j,⟨V,Y⟩,h3⟩:=h;grind
 |exit id=>exact h
 |ret=>exact h
 |panic t d=>exact h
theorem E0{E:ι→List (Nat×D)}{I:ι→St}{P m:ι→Prop}{s:PS}(j:ι)(J:P j)(M:m j)(N:s=⟨GH (E j),I j⟩):@YD s ⟨fun s=>∃ j,(P j∧m j)∧s=⟨GH (E j),I j⟩⟩:=⟨j,⟨J,M⟩,N⟩
def Tt(keep:List Nat)[Inv:InvC][Q:QC](e:Ex)(fr:Frame)(st:St):Prop:=match e with
 |.next=>Inv.run (keepAll keep ⟨fr,st⟩)
 |e=>Q.run e fr st
theorem yM8(keep:List Nat)(E:PS→Prop)(Q:QC)(fr:Frame)(st:St):@Tt keep ⟨E⟩ Q .next fr st=@YD (keepAll keep ⟨fr,st⟩) ⟨E⟩:=(rfl)
theorem yM9(keep:List Nat)(E:InvC)(Q:Ex→Frame→St→Prop)(I:Nat)(fr:Frame)(st:St):@Tt keep E ⟨Q⟩ (.exit I) fr st=Q (.exit I) fr st:=(rfl)
theorem zU(keep:List Nat)(E:InvC)(Q:Ex→Frame→St→Prop)(fr:Frame)(st:St):@Tt keep E ⟨Q⟩ .ret fr st=Q .ret fr st:=(rfl)
theorem yI6(keep:List Nat)(E:InvC)(Q:Ex→Frame→St→Prop)(t:Nat)(d:D)(fr:Frame)(st:St):@Tt keep E ⟨Q⟩ (.panic t d) fr st=Q (.panic t d) fr st:=(rfl)
def ZU(fr:Frame):List Nat→List (Nat×D)
 |[]=>[]
 |k::l=>(k,fr k)::ZU fr l
theorem wm(fr:Frame):ZU fr []=[]:=(rfl)
theorem zO(fr:Frame)(k:Nat)(l:List Nat):ZU fr (k::l)=(k,fr k)::ZU fr l:=(rfl)
theorem fX(T:Tbl)(l:Nat)(y:List D→St→Option (D×St)):(iF T l y).p=T.p:=(rfl)
theorem fZ(T:Tbl)(l:Nat)(y:List D→St→Option (D×St)):(iF T l y).i=T.i:=(rfl)
theorem fY(T:Tbl)(l:Nat)(y:List D→St→Option (D×St)):(iF T l y).m=T.m:=(rfl)
theorem ue(T:Tbl)(f:Nat)(E:List D)(h:f<5000000):Kf T (.clo f E)=(T.i f).map fun sp=>(sp,[],E):=by
 simp only[Kf,if_pos h]
theorem Oc(T:Tbl)(f f':Nat)(E:List D)(h:f=f'+5000000)(I:f'<5000000):Kf T (.clo f E)=(T.i f').map fun sp=>(sp,E,[]):=by
 subst h;simp only[Kf,if_neg (show ¬ f'+5000000<5000000 by omega),if_pos (show f'+5000000<10000000 by omega),Cm]
theorem TF(f:Nat)(E ds:List D)(h:f<5000000):NL (.clo f E) ds=some (f,ds++E):=by
 simp only[NL,if_pos h]
theorem wj(k:IntKind)(n:Int):KE (.int k n)=true:=(rfl)
theorem zL(k:IntKind)(n:Int):KE (.agg [.int k n])=true:=(rfl)
attribute [push_cast] yRt Yxj VZ xO yD yLf yLg yRn Yf6 xI yS6 yS7 yS4 yS5 yR4 Yez yn yR6 ym yR7 yMc wj zL
attribute [irreducible] Tt
attribute [push_cast] yM8 yM9 zU wm zO fX fZ fY ue Oc TF Ylx
attribute [irreducible] Q7 YD
attribute [push_cast] zX zV wL yM7 yI6
attribute [push_cast] Yvr Yo4 Yo8 Yo7 Yo5 Yo6 Ypa Ye5 Ye1 Ye4 Ye2 Ye0 Yfa Yhj
attribute [push_cast] yFg yMe yIh yIi yIg wx zD Yaa zC Yi8 Yi7 Yi9 xg ySr Ye7 yg Yd0 yy Ym5 Yfm Ye8 Ye9 Yfe xH Yfc Yfb Yfd Ypg Yhk Ype Ypd Ypf List.getD_cons_zero List.getD_cons_succ List.contains_nil List.contains_cons false_and and_false and_true true_and and_self Int.toNat_natCast Int.cast_ofNat_Int Int.toNat_zero Int.toNat_one
noncomputable def De{α:Type}(enc:α→List D)(pre:α→Prop)(f:α→D):List D→Option D:=
 fun ds=>@dite _ (∃ a,enc a=ds∧pre a) (Classical.propDecidable _) (fun h=>some (f h.choose)) (fun _=>none)
theorem fv{enc:α→List D}{pre:α→Prop}{f:α→D}(h:De enc pre f ds=some d):∃ a,enc a=ds∧pre a∧f a=d:=by
 unfold De at h
 split at h
 ·grind
 ·cases h
theorem DX{enc:α→List D}{pre:α→Prop}{f:α→D}(E:∀ a b,enc a=enc b→a=b)(a:α)(I:pre a):De enc pre f (enc a)=some (f a):=by
 have J:∃ b,enc b=enc a∧pre b:=⟨a,rfl,I⟩;unfold De;grind
def D0{α:Type}:List (Nat×α)→Nat→Option α
 |[],_=>none
 |(k,a)::r,n=>if n=k then some a else D0 r n
def tb(l:List (Nat×(List D→Option D)))(li:List (Nat×(List D→St→Option (D×St))))(lm:List (Nat×(List D→Option ((Nat→D)×(Nat→List Obj)))):=[]):Tbl:={p:=D0 l,i:=D0 li,m:=D0 lm}
theorem gi(l:List (Nat×(List D→Option D)))(li:List (Nat×(List D→St→Option (D×St))))(E:List (Nat×(List D→Option ((Nat→D)×(Nat→List Obj)))))(n:Nat):(tb l li E).p n=D0 l n:=(rfl)
theorem Ue(l:List (Nat×(List D→Option D)))(li:List (Nat×(List D→St→Option (D×St))))(E:List (Nat×(List D→Option ((Nat→D)×(Nat→List Obj)))))(n:Nat):(tb l li E).i n=D0 li n:=(rfl)
theorem gj(l:List (Nat×(List D→Option D)))(li:List (Nat×(List D→St→Option (D×St))))(E:List (Nat×(List D→Option ((Nat→D)×(Nat→List Obj)))))(n:Nat):(tb l li E).m n=D0 E n:=(rfl)
theorem Ygj(n:Nat):D0 ([]:List (Nat×α)) n=none:=(rfl)
theorem oV(k:Nat)(a:α)(r:List (Nat×α))(n:Nat):D0 ((k,a)::r) n=if n=k then some a else D0 r n:=(rfl)
theorem JV{α:Type}:∀ {l:List (Nat×α)} {n:Nat} {a:α},D0 l n=some a→(n,a)∈l
 |[],_,_,h=>by cases h
 |(k,b)::r,n,a,h=>by
  simp only[D0]at h
  split at h
  ·grind
  ·exact Ar _ (JV h)
variable {li:List (Nat×(List D→St→Option (D×St)))}{l:List (Nat×(List D→Option D))}{P:Program}
theorem DC(h:∀ x∈l,Contract P G x.1 x.2)(hi:∀ x∈li,IContract P G x.1 x.2)(I:l.all (fun x=>decide (x.1<50000000))=true:=by rfl):TblOK P G (tb l li):=
 ⟨fun _ _ E=>.inl ⟨of_decide_eq_true (Aj.1 I _ (JV E)),h _ (JV E)⟩,fun _ _ E=>hi _ (JV E),fun _ _ E=>(by cases E),fun _ _ E=>(by cases E),fun _ _ E=>(by cases E),fun _ _ E=>(by cases E)⟩
def gh(l:List (Nat×(List D→Option D)))(li:List (Nat×(List D→St→Option (D×St))))(lr:List (Nat×((List D→St→Option (D×St))→List D→St→Option (D×St)))):Tbl:={p:=D0 l,i:=D0 li,m:=fun _=>none,r:=D0 lr}
theorem T5(l:List (Nat×(List D→Option D)))(li:List (Nat×(List D→St→Option (D×St))))(E:List (Nat×((List D→St→Option (D×St))→List D→St→Option (D×St))))(n:Nat):(gh l li E).p n=D0 l n:=(rfl)
theorem T6(l:List (Nat×(List D→Option D)))(li:List (Nat×(List D→St→Option (D×St))))(E:List (Nat×((List D→St→Option (D×St))→List D→St→Option (D×St))))(n:Nat):(gh l li E).i n=D0 li n:=(rfl)
theorem T4(l:List (Nat×(List D→Option D)))(li:List (Nat×(List D→St→Option (D×St))))(E:List (Nat×((List D→St→Option (D×St))→List D→St→Option (D×St))))(n:Nat):(gh l li E).r n=D0 E n:=(rfl)
def Lz(l:List (Nat×(List D→Option D)))(li:List (Nat×(List D→St→Option (D×St))))(lx:List (Nat×(List D→St→Option (Nat×D×St)))):Tbl:={p:=D0 l,i:=D0 li,m:=fun _=>none,x:=D0 lx}
theorem T2(l:List (Nat×(List D→Option D)))(li:List (Nat×(List D→St→Option (D×St))))(E:List (Nat×(List D→St→Option (Nat×D×St))))(n:Nat):(Lz l li E).p n=D0 l n:=(rfl)
theorem T3(l:List (Nat×(List D→Option D)))(li:List (Nat×(List D→St→Option (D×St))))(E:List (Nat×(List D→St→Option (Nat×D×St))))(n:Nat):(Lz l li E).i n=D0 li n:=(rfl)
theorem T0(l:List (Nat×(List D→Option D)))(li:List (Nat×(List D→St→Option (D×St))))(E:List (Nat×(List D→St→Option (Nat×D×St))))(n:Nat):(Lz l li E).x n=D0 E n:=(rfl)
theorem MS{I:List (Nat×(List D→St→Option (Nat×D×St)))}(h:∀ x∈l,Contract P G x.1 x.2)(hi:∀ x∈li,IContract P G x.1 x.2)
  (M:∀ x∈I,Pk P G x.1 x.2) (J:l.all (fun x=>decide (x.1<50000000))=true:=by rfl):TblOK P G (Lz l li I):=
 ⟨fun _ _ E=>.inl ⟨of_decide_eq_true (Aj.1 J _ (JV E)),h _ (JV E)⟩,fun _ _ E=>hi _ (JV E),fun _ _ E=>(by cases E),fun _ _ E=>(by cases E),fun _ _ E=>M _ (JV E),fun _ _ E=>(by cases E)⟩
def PQ(l:List (Nat×(List D→Option D)))(li:List (Nat×(List D→St→Option (D×St))))(lq:List (Nat×(List D→List (Option (Bool×Nat×List D))→Option D))):Tbl:={p:=D0 l,i:=D0 li,m:=fun _=>none,q:=D0 lq}
theorem T8(l:List (Nat×(List D→Option D)))(li:List (Nat×(List D→St→Option (D×St))))(E:List (Nat×(List D→List (Option (Bool×Nat×List D))→Option D)))(n:Nat):(PQ l li E).p n=D0 l n:=(rfl)
theorem T9(l:List (Nat×(List D→Option D)))(li:List (Nat×(List D→St→Option (D×St))))(E:List (Nat×(List D→List (Option (Bool×Nat×List D))→Option D)))(n:Nat):(PQ l li E).i n=D0 li n:=(rfl)
theorem T7(l:List (Nat×(List D→Option D)))(li:List (Nat×(List D→St→Option (D×St))))(E:List (Nat×(List D→List (Option (Bool×Nat×List D))→Option D)))(n:Nat):(PQ l li E).q n=D0 E n:=(rfl)
theorem cI{I:List (Nat×(List D→List (Option (Bool×Nat×List D))→Option D))}(h:∀ x∈l,Contract P G x.1 x.2)(hi:∀ x∈li,IContract P G x.1 x.2)
  (M:∀ x∈I,IContract P G x.1 (fun ds st=>(Ie x.2 ds st).map (·,st))) (J:l.all (fun x=>decide (x.1<50000000))=true:=by rfl):TblOK P G (PQ l li I):=
 ⟨fun _ _ E=>.inl ⟨of_decide_eq_true (Aj.1 J _ (JV E)),h _ (JV E)⟩,fun _ _ E=>hi _ (JV E),fun _ _ E=>(by cases E),fun _ _ E=>(by cases E),fun _ _ E=>(by cases E),fun _ _ E=>M _ (JV E)⟩
theorem all_nil{p:α→Prop}:∀ x∈([]:List α),p x:=fun _ h=>by cases h
theorem all_cons{p:α→Prop}{a:α}{l:List α}(h:p a)(hl:∀ x∈l,p x):∀ x∈a::l,p x:=by
 grind
theorem Eb{il:List Nat}{f:Nat}{hints:List (List Nat)}(E:Dt P il f hints=some F)(I:TblOK P G T){enc:α→List D}{pre:α→Prop}{r:α→D}
  (h:∀ a,pre a→@wW G T F.code (C5 (enc a)) [] ⟨Dg F.res (r a)⟩) (J:T.y=fun _ _ _=>none:=by rfl):Contract P G f (De enc pre r):=by
 refine mD I J E fun ds d M=>?_;obtain⟨a,rfl,N,rfl⟩:=fv M;exact nJ (IE (h a N))
theorem dY{a b:List Dig}:a.map C3=b.map C3↔a=b:=⟨N0 fun _ _=>ml,fun h=>by rw[h]⟩
theorem Mt{a b:Dig}:C3 a=C3 b↔a=b:=⟨ml,fun h=>by rw[h]⟩
theorem N1{a b:Dig}:CZ a=CZ b↔a=b:=⟨Lt,fun h=>by rw[h]⟩
theorem nM{a:List UInt8}:a.map Dd=b.map Dd↔a=b:=⟨O4,fun h=>by rw[h]⟩
theorem Yi4{a b:UInt8}:Dd a=Dd b↔a=b:=⟨od,fun h=>by rw[h]⟩
theorem Km(sz:Nat)(els:List D):nz (nz sz els) els=nz sz els:=by cases els <;> rfl
theorem Yt1(sz:Nat):nz sz []=0:=(rfl)
theorem Yno(sz:Nat)(a:D)(l:List D):nz sz (a::l)=sz:=(rfl)
theorem hX(sz:Nat)(els:List D):nz sz els=sz∨els=[]:=by cases els <;> simp[nz]
theorem KP[Inhabited α](st:St)(sz:Nat)(f:α→D)(l:List α)(t:Bool)(k:IntKind)(i:Int)(E:0≤i)(I:i<(l.length:Int)) :
  F2 st sz (.slc (nz sz (l.map f)) (l.map f) t) (.int k i)=some (.eptr (f (l.getD i.toNat default)) 0):=by
 have:nz sz (l.map f)=sz:=by
  rcases hX sz (l.map f)with h | h
  ·exact h
  ·have:l.length=0:=by simpa using congrArg List.length h
   omega
 rw[this];exact Yhi st sz f l t k i E I
attribute [push_cast] Km Yt1 Yno gi Ue gj T5 T6 T4 T2 T3 T0 T8 T9 T7 Ygj oV List.map_nil
theorem mT(h:n≤64):min n.toNat 64=n.toNat:=by omega
variable {x:Int}{k k':IntKind}
theorem ss(hk:k=.i64∨k=.u64)(I:0≤n)(E:n≤64):Df .shr (.int k x) (.int k' n)=some (.int k (x / 2 ^ n.toNat)):=by
 have hb:k.bits=64:=by rcases hk with rfl | rfl <;> rfl
 simp only[Df,Ll,show ¬ n<0 by omega,if_false,Ag,hb,mT E];grind
theorem ME(E:0≤n)(I:n≤64):Df .shr (.int .u64 x) (.int k' n)=some (.int .u64 (x / 2 ^ n.toNat)):=ss (.inr rfl) E I
theorem iv(E:0≤n)(I:n≤64):Df .shr (.int .i64 x) (.int k' n)=some (.int .i64 (x / 2 ^ n.toNat)):=ss (.inl rfl) E I
theorem Uu(M:0≤n)(E:n≤64)(I:-9223372036854775808≤x*2 ^ n.toNat)(J:x*2 ^ n.toNat<9223372036854775808):Df .shl (.int .i64 x) (.int k' n)=some (.int .i64 (x*2 ^ n.toNat)):=by
 simp only[Df,Ll,show ¬ n<0 by omega,if_false,Ag,show IntKind.bits .i64=64 from rfl,mT E,N4 I J]
theorem Ymu(E:0≤n)(I:n≤62):Df .shl (.int .i64 1) (.int k' n)=some (.int .i64 (2 ^ n.toNat)):=by
 have J:(2:Int) ^ n.toNat≤2 ^ 62:=by
  have M:(2:Nat) ^ n.toNat≤2 ^ 62:=Nat.pow_le_pow_right (by decide) (by omega);grind
 have N:(0:Int)≤2 ^ n.toNat:=Int.pow_nonneg (by decide);have:=Uu (x:=1) (k':=k') E (by omega) (by omega) (by rw[Int.one_mul]; omega);grind
theorem Uz{b:Int}(hb:0<b)(E:0≤a)(J:a<9223372036854775808):Df .quo (.int .i64 a) (.int .i64 b)=some (.int .i64 (a / b)):=by
 have I:a.tdiv b=a / b:=BN E;have M:a / b≤a:=Cg b E;have N:0≤a / b:=Cl E (by omega);simp only[Df,if_true,JQ,show ¬ b=0 by omega,if_false,Ag,I,N4 (show -9223372036854775808≤a / b by omega) (show a / b<9223372036854775808 by omega)]
theorem sn{b:Int}(hb:0<b)(E:0≤a):Df .rem (.int .i64 a) (.int .i64 b)=some (.int .i64 (a % b)):=by
 have I:a.tmod b=a % b:=Int.tmod_eq_emod_of_nonneg E;simp only[Df,if_true,JQ,show ¬ b=0 by omega,if_false,Ag,I]
theorem toNat_ofInt(E:0≤a)(I:a<9223372036854775808):(CJ 64 a).toNat=a.toNat:=by
 grind
theorem Yrg(E:0≤a)(I:a<9223372036854775808):Df .and (.int .i64 a) (.int .i64 1)=some (.int .i64 (a % 2)):=by
 have h:(CJ (IntKind.bits .i64) a &&& CJ (IntKind.bits .i64) 1).toNat=(a % 2).toNat:=by
  show(CJ 64 a &&& CJ 64 1).toNat=_
  rw[Cx,toNat_ofInt E I,show(CJ 64 1).toNat=2 ^ 1 - 1 from rfl,BE];omega
 simp only[Df,if_true,Kk,Ag,h];rw[N4 (by omega) (by omega)]
 congr 2
 omega
theorem Y8(st:St)(E:0≤a)(I:a<9223372036854775808):E7 st (.int .u64) (.int .i64 a)=some (.int .u64 a):=by
 obtain⟨n,rfl⟩:=Bc E;simp only[E7,R8]
 congr 2
 omega
theorem uo(st:St)(I:0≤a)(E:a<9223372036854775808):E7 st (.int .i64) (.int k a)=some (.int .i64 a):=by
 simp only[E7,N4 (show -9223372036854775808≤a by omega) E]
theorem Ms(st:St)(E:0≤a):E7 st (.int .u8) (.int k a)=some (Dd (UInt8.ofNat a.toNat)):=by
 obtain⟨n,rfl⟩:=Bc E;rfl
theorem NW(st:St)(b:UInt8):E7 st (.int .i64) (Dd b)=some (.int .i64 (b.toNat:Int)):=by
 have:=b.toNat_lt;simp only[Dd];exact uo st (by omega) (by omega)
theorem Yo2(s:List UInt8)(k:IntKind)(i:Int)(E:0≤i)(J:i<(s.length:Int)):JA (.str s) (.int k i)=some (Dd (s.getD i.toNat default)):=by
 have I:i.toNat<s.length:=by omega
 simp only[JA,O8 k i E,getElem?_getD s i.toNat I]
theorem Yhh(s:List UInt8)(b:UInt8)(h:b.toNat<s.length):JA (.str s) (Dd b)=some (Dd (s.getD b.toNat default)):=by
 have:=Yo2 s .u8 (b.toNat:Int) (by omega) (by omega);simpa[Dd]using this
theorem ySd{s:List UInt8}{h:Int}(E:0≤h)(I:h≤(s.length:Int)):Gp st 0 (.str s) none (some (.int k h)) none=some (.str (s.take h.toNat)):=by
 simp[Gp,FY,O8 k h E];omega
theorem Ycl(st:St)(b:UInt8):DP st (Dd b)=some (Dd b):=(rfl)
theorem zz(b:UInt8):keys (Dd b)=[]:=(rfl)
theorem Yi5(b:UInt8):hk (Dd b)=[]:=(rfl)
theorem Yck(n:Nat)(σ:List Nat)(b:UInt8):Ef n σ (Dd b)=Dd b:=(rfl)
theorem yOb(b:UInt8):(Dd b).cells=[Dd b]:=(rfl)
theorem yK1(b:UInt8):(Dd b).isCell=true:=(rfl)
theorem yOa(b:UInt8):(Dd b).noRef=true:=(rfl)
theorem Ycm(b:UInt8):Dy (Dd b)=some [Dd b]:=(rfl)
theorem yF1(b:UInt8):E2 1 [Dd b]=some (.slc 1 [Dd b] true):=(rfl)
theorem zb(st:St)(s:List UInt8):E7 st .bytes (.str s)=some (.slc 1 (s.map Dd) false):=(rfl)
theorem wI(a:Nat)(l:List D)(t:Bool):E2 1 [.slc a l t]=some (.slc 1 [.slc a l t] true):=(rfl)
theorem wJ(a b:Nat)(l m:List D)(t u:Bool):E2 1 [.slc a l t,.slc b m u]=some (.slc 1 [.slc a l t,.slc b m u] true):=(rfl)
theorem wK(a b c:Nat)(l m n:List D)(t u v:Bool):E2 1 [.slc a l t,.slc b m u,.slc c n v]=some (.slc 1 [.slc a l t,.slc b m u,.slc c n v] true):=(rfl)
theorem wH:E2 1 []=some (.slc 1 [] true):=(rfl)
theorem zS:E2 32 []=some (.slc 32 [] true):=(rfl)
theorem IP(k:IntKind)(n:Int)(d:Dig):Dy (.agg (.int k n::CZ d))=some (.int k n::CZ d):=by
 simp[Dy,D.cells,IQ,D.isCell]
theorem yKi(k:IntKind)(n:Int)(d:Dig):(D.agg (.int k n::CZ d)).noRef=true:=by
 have:=pP d;simp only[C3,D.noRef]at this;simp[D.noRef,D.noRef1,this]
theorem yNe(k:IntKind)(n:Int)(d:Dig):keys (.agg (.int k n::CZ d))=[]:=Pg (by simp[IH,Em,Sz])
theorem yNp(k k':IntKind)(n m:Int)(z d:Dig):DG (.int k n::CZ z) [(0,1,.int k' m),(1,32,C3 d)]=some (.int k' m::CZ d):=by
 have I:E8 (.int k n::CZ z) 0 [.int k' m]=.int k' m::CZ z:=rfl
 have J:E8 (.int k' m::CZ z) 1 (CZ d)=.int k' m::CZ d:=by
  rw[show(1:Nat)=0+1 from rfl,yLr,qy]
 have E:(CZ d).length=32:=DK d;have M:(CZ z).length=32:=DK z;simp only[DG,SA,IQ,E];have N:(D.int k' m).cells=[.int k' m]:=rfl;have O:(([D.int k' m].length == 1) && decide (0+1≤(D.int k n::CZ z).length) && [D.int k' m].all D.isCell)=true:=by simp[D.isCell]
 grind
attribute [push_cast] IP yKi yNe yNp
theorem mF(st:St)(k:IntKind)(n:Int):Dx st (.int k n)=some (.int k n):=(rfl)
theorem wC(st:St)(b:Bool):Dx st (.bool b)=some (.bool b):=(rfl)
theorem Yhf(st:St)(s:List UInt8):Dx st (.str s)=some (.str s):=(rfl)
theorem ew(st:St)(sz:Nat)(els:List D)(t:Bool):Dx st (.slc sz els t)=some (.slc (nz sz els) els false):=(rfl)
attribute [push_cast] mF wC Yhf ew Nat.zero_le
attribute [push_cast] wH zS zb wI wJ wK
theorem oY(f:α→D)(E:∀ a,Em (f a)=true)(l:List α):(l.map f).all Em=true:=by
 grind
theorem bw(l:List UInt8):(l.map Dd).all Em=true:=oY Dd (fun _=>rfl) l
theorem bF(l:List UInt32):(l.map wD).all Em=true:=oY wD (fun _=>rfl) l
theorem zK(st:St)(l:List UInt32):DR st (l.map wD)=some (l.map wD):=QY st (bF l)
theorem zH(st:St)(l:List UInt8):DR st (l.map Dd)=some (l.map Dd):=QY st (bw l)
theorem yR8(n:Nat)(σ:List Nat)(l:List UInt32):(l.map wD).map (Ef n σ)=l.map wD:=Mz n σ (bF l)
theorem yR9(n:Nat)(σ:List Nat)(l:List UInt8):(l.map Dd).map (Ef n σ)=l.map Dd:=Mz n σ (bw l)
theorem wz(l:List UInt32):(l.map wD).flatMap hk=[]:=Nk (bF l)
theorem wy(l:List UInt8):(l.map Dd).flatMap hk=[]:=Nk (bw l)
attribute [push_cast] yR8 yR9 wz wy
theorem yM0(l:List UInt32):(D.agg (l.map wD)).noRef=true:=by
 simp only[D.noRef,Aj,AV];rintro x ⟨a,_,rfl⟩;rfl
theorem Yct(l:List UInt32):Dy (.agg (l.map wD))=some (l.map wD):=by
 simp only[Dy,D.cells,WE wD (fun _=>rfl),if_true]
theorem tr{a b:UInt32}(h:wD a=wD b):a=b:=by
 simp only[wD,D.int.injEq,true_and]at h;exact UInt32.toNat_inj.1 (by omega)
theorem Ydh{a b:UInt32}:wD a=wD b↔a=b:=⟨tr,fun h=>by rw[h]⟩
theorem yI{a b:List UInt32}:a.map wD=b.map wD↔a=b:=⟨N0 fun _ _=>tr,fun h=>by rw[h]⟩
theorem Ysp(st:St)(b:UInt32):DP st (wD b)=some (wD b):=(rfl)
theorem Ylz(b:UInt32):keys (wD b)=[]:=(rfl)
theorem Ydw(b:UInt32):(wD b).noRef=true:=(rfl)
theorem TU(b:UInt32):hk (wD b)=[]:=(rfl)
theorem Yso(n:Nat)(σ:List Nat)(b:UInt32):Ef n σ (wD b)=wD b:=(rfl)
def zW(n:Nat):List UInt32:=CH n 0
theorem Yk4(n:Nat):D.int .u32 0::(zW n).map wD=(zW (n+1)).map wD:=(rfl)
theorem Yk5:[D.int .u32 0,.int .u32 0,.int .u32 0,.int .u32 0,.int .u32 0,.int .u32 0,.int .u32 0,.int .u32 0]=(zW 8).map wD:=(rfl)
theorem Nj(f:α→D)(I:∀ a,(f a).isCell=true)(E:List α)(i:Nat)(v:α)(r:List (Nat×Nat×D))(h:i<E.length):DG (E.map f) ((i,1,f v)::r)=DG ((E.set i v).map f) r:=by
 have J:i+1≤E.length:=h
 have M:E8 (E.map f) i [f v]=(E.set i v).map f:=by
  rw[List.map_set,E8,B6];simp[h]
 simp[DG,Pq (I v),I v,J,M]
theorem M9(cs:List D):DG cs []=some cs:=(rfl)
theorem Vk(a b c d e f g h:UInt32):DG ((zW 8).map wD) [(0,1,wD a),(1,1,wD b),(2,1,wD c),(3,1,wD d),(4,1,wD e),(5,1,wD f),(6,1,wD g),(7,1,wD h)]=some ([a,b,c,d,e,f,g,h].map wD):=by
 have hf:∀ a,(wD a).isCell=true:=fun _=>rfl;rw[Nj wD hf _ _ _ _ (by simp[zW]),Nj wD hf _ _ _ _ (by simp[zW]),Nj wD hf _ _ _ _ (by simp[zW]),Nj wD hf _ _ _ _ (by simp[zW]),Nj wD hf _ _ _ _ (by simp[zW]),Nj wD hf _ _ _ _ (by simp[zW]),Nj wD hf _ _ _ _ (by simp[zW]),Nj wD hf _ _ _ _ (by simp[zW]),M9];rfl
theorem Ytk(x:UInt32)(k:IntKind)(z:Int)(E:0≤z)(h:z<32):Df .shl (wD x) (.int k z)=some (wD (x <<< UInt32.ofNat z.toNat)):=by
 obtain⟨n,rfl⟩:=Bc E;exact so x k n (by omega)
theorem tD(x:UInt32)(k:IntKind)(z:Int)(E:0≤z)(h:z<32):Df .shr (wD x) (.int k z)=some (wD (x >>> UInt32.ofNat z.toNat)):=by
 obtain⟨n,rfl⟩:=Bc E;exact su x k n (by omega)
theorem Yti(x:UInt64)(k:IntKind)(z:Int)(E:0≤z)(h:z<64):Df .shr (qD x) (.int k z)=some (qD (x >>> CX z.toNat)):=by
 obtain⟨n,rfl⟩:=Bc E;exact Ut x k n (by omega)
def KA(s:List UInt8):D:=.slc (nz 1 (s.map Dd)) (s.map Dd) false
theorem Yqz{a:List UInt8}(h:KA a=KA b):a=b:=by
 simp only[KA,D.slc.injEq]at h;exact O4 h.2.1
theorem Yqy{a b:List (List UInt8)}:a.map KA=b.map KA↔a=b:=⟨N0 fun _ _=>Yqz,fun h=>by rw[h]⟩
theorem xz(st:St)(s:List UInt8):EO st 1 false (.eptr (KA s) 0)=some (.slc (nz 1 (s.map Dd)) (s.map Dd) false):=eS st _ rfl
theorem Ul(sz:Nat)(E I J M N O U V:D)(a b c d e f g h:UInt32):DZ (some ⟨false,sz,[E,I,J,M,N,O,U,V],false⟩) 8 0 (.agg [wD a,wD b,wD c,wD d,wD e,wD f,wD g,wD h])=some ⟨false,sz,[wD a,wD b,wD c,wD d,wD e,wD f,wD g,wD h],false⟩:=Lp sz _ _ 8 rfl rfl rfl
attribute [push_cast] Ul zK zH yM0 Yct Ysp Ylz Ydw TU Yso Yk4 Yk5 Vk M9 xz
attribute [push_cast] Ycl zz Yi5 Yck yOb yK1 yOa Ycm yF1
set_option linter.unusedSimpArgs false
def E6(n:Nat)(els:List D):List Nat:=if els.isEmpty then []else [n]
theorem Qk(sz key:Nat)(els:List D)(h:els≠[]):DW sz key els=.row key els.length 0 els.length:=by
 cases els with
 |nil=>exact absurd rfl h
 |cons a l=>rfl
theorem OU(sz:Nat)(els:List D)(h:els≠[]):Ds sz els=[{row:=true,sz,els,lent:=false}]:=by
 cases els with
 |nil=>exact absurd rfl h
 |cons a l=>rfl
theorem Yvq(sz n:Nat)(els:List D):hk (DW sz n els)=E6 n els:=by cases els <;> rfl
theorem Ym2(sz n:Nat)(els:List D):Ef n (E6 n els) (DW sz n els)=DW sz n els:=by
 cases els with
 |nil=>rfl
 |cons a l=>simp[E6,DW,Ef,Ep,Gb,EA,Ov,IL]
theorem nv(n hi sz:Nat)(els:List D)(r:List Nat)(h:hi=(Ds sz els).length+n):ER n hi (E6 n els++r) []=ER n hi r (E6 n els):=by
 cases els with
 |nil=>rfl
 |cons a l=>
  have:n<hi:=by rw[h]; simp[Ds]
  simp[E6,ER,this]
theorem lS(sz:Nat)(els:List D)(r:List Nat):ER 1 ((Ds sz els).length+1) (E6 1 els++r) []=ER 1 ((Ds sz els).length+1) r (E6 1 els):=nv 1 _ sz els r (by simp)
theorem Yl2(sz:Nat)(els:List D):ER 1 ((Ds sz els).length+1) (E6 1 els) []=E6 1 els:=by
 have:=lS sz els [];rwa [Ad]at this
theorem lT(sz:Nat)(els:List D)(r:List Nat):ER 2 ((Ds sz els).length+1+1) (E6 2 els++r) []=ER 2 ((Ds sz els).length+1+1) r (E6 2 els):=nv 2 _ sz els r (by simp)
theorem Yl1(sz:Nat)(els:List D):ER 2 ((Ds sz els).length+1+1) (E6 2 els) []=E6 2 els:=by
 have:=lT sz els [];rwa [Ad]at this
theorem m5(l:St)(sz:Nat)(els:List D):Lg l.length (E6 l.length els) (l++Ds sz els) (E6 l.length els)=Ds sz els:=by
 cases els with
 |nil=>rfl
 |cons a r=>simp[E6,Ds,Lg,ES]
theorem xm(a:Obj)(sz:Nat)(els:List D):Lg 1 (E6 1 els) (a::Ds sz els) (E6 1 els)=Ds sz els:=m5 [a] sz els
theorem xn(a b:Obj)(sz:Nat)(els:List D):Lg 2 (E6 2 els) (a::b::Ds sz els) (E6 2 els)=Ds sz els:=m5 [a,b] sz els
theorem w8(l:St)(sz sz0 E bytes:Nat)(els xs:List D)(t:Bool)(I:E=sz∨xs=[])(hs0:sz≠0)(hb:(els.length+xs.length)*bytes≤140737488355328)(hl:els.length+xs.length≤4294967296) :
  Ea (l++Ds sz els) sz bytes (DW sz0 l.length els) (.slc E xs t)=some (DW sz0 l.length (els++xs),l++Ds sz (els++xs)):=
 Yft l sz sz0 bytes els xs _ E rfl I hs0 hb hl
section
variable {α:Type} (f:α→D) (a b c d:Obj) (sz sz0 bytes:Nat) (A B:List α) (t:Bool) (hs0:sz≠0) (hb:(A.length+B.length)*bytes≤140737488355328) (hl:A.length+B.length≤4294967296)
include hs0 hb hl
theorem Z8(l:St)(E:Nat)(I:E=sz∨B.map f=[]):Ea (l++Ds sz (A.map f)) sz bytes (DW sz0 l.length (A.map f)) (.slc E (B.map f) t)=some (DW sz0 l.length ((A++B).map f),l++Ds sz ((A++B).map f)):=by
 rw[w8 l sz sz0 E bytes (A.map f) (B.map f) t I hs0 (by simpa using hb) (by simpa using hl),Bv]
theorem Yng:Ea (a::Ds sz (A.map f)) sz bytes (DW sz0 1 (A.map f)) (.slc (nz sz (B.map f)) (B.map f) t)=some (DW sz0 1 ((A++B).map f),a::Ds sz ((A++B).map f)):=Z8 f sz sz0 bytes A B t hs0 hb hl [a] _ (hX _ _)
end
section
variable {α:Type} (f:α→D) (a b c d:Obj) (sz sz0 bytes:Nat) (A:List α) (x:α) (t:Bool) (hs0:sz≠0) (hb:(A.length+1)*bytes≤140737488355328) (hl:A.length+1≤4294967296)
include hs0 hb hl
theorem mZ(l:St):Ea (l++Ds sz (A.map f)) sz bytes (DW sz0 l.length (A.map f)) (.slc sz [f x] t)=some (DW sz0 l.length ((A++[x]).map f),l++Ds sz ((A++[x]).map f)):=
 Z8 f sz sz0 bytes A [x] t hs0 hb hl l sz (.inl rfl)
theorem Ynf:Ea (a::Ds sz (A.map f)) sz bytes (DW sz0 1 (A.map f)) (.slc sz [f x] t)=some (DW sz0 1 ((A++[x]).map f),a::Ds sz ((A++[x]).map f)):=mZ f sz sz0 bytes A x t hs0 hb hl [a]
theorem lB:Ea (a::b::Ds sz (A.map f)) sz bytes (DW sz0 2 (A.map f)) (.slc sz [f x] t)=some (DW sz0 2 ((A++[x]).map f),a::b::Ds sz ((A++[x]).map f)):=mZ f sz sz0 bytes A x t hs0 hb hl [a,b]
end
theorem qJ(f:α→D)(st:St)(sz sz0 bytes:Nat)(B:List α)(t:Bool)(hs0:sz≠0)(hb:B.length*bytes≤140737488355328)(hl:B.length≤4294967296) :
  Ea st sz bytes (.slc sz0 [] true) (.slc (nz sz (B.map f)) (B.map f) t)=some (DW sz0 st.length (B.map f),st++Ds sz (B.map f)):=by
 have:=Z8 f sz sz0 bytes [] B t hs0 (by simpa using hb) (by simpa using hl) st _ (hX _ _);simpa[Ds,DW]using this
theorem lz(f:α→D)(sz:Nat)(A:List α)(h:Nat):nz (nz sz (A.map f)) ((A.take h).map f)=nz sz ((A.take h).map f):=by
 cases A with
 |nil=>simp[nz]
 |cons a r=>rfl
theorem lu(f:α→D)(sz:Nat)(A:List α)(l:Nat):nz (nz sz (A.map f)) ((A.drop l).map f)=nz sz ((A.drop l).map f):=by
 cases A with
 |nil=>simp[nz]
 |cons a r=>rfl
theorem oK(st:St)(sz bytes E I:Nat)(els:List D)(t:Bool)(hs0:sz≠0):Ea st sz bytes (.slc E els true) (.slc I [] t)=some (.slc E els true,st):=mY st sz bytes E els _ I rfl hs0
attribute [push_cast] lz lu
theorem Yoz(l:St)(sz sz0:Nat)(els:List D):DP (l++Ds sz els) (DW sz0 l.length els)=some (.slc (nz sz els) els false):=by
 cases els with
 |nil=>rfl
 |cons a r=>simp[DW,Ds,DP,Dx,Hg]
theorem sR(a b:Obj)(sz sz0:Nat)(els:List D):DP (a::b::Ds sz els) (DW sz0 2 els)=some (.slc (nz sz els) els false):=Yoz [a,b] sz sz0 els
theorem Ygp(l:St)(sz sz0:Nat)(els:List D):Ec (l++Ds sz els) false (DW sz0 l.length els)=some (.int .i64 (els.length:Int)):=by
 cases els with
 |nil=>rfl
 |cons a r=>simp[DW,Ds,Ec,HG,Ev,live]
theorem Yn2(a:Obj)(sz sz0:Nat)(els:List D):Ec (a::Ds sz els) false (DW sz0 1 els)=some (.int .i64 (els.length:Int)):=Ygp [a] sz sz0 els
theorem Yuj(n m:Nat):n≤m+n:=Nat.le_add_left n m
theorem Yf8(key:Nat):D.slc 0 [] true=DW 0 key []:=(rfl)
def OF(o:Option Obj)(sz bytes tot:Nat)(xs:Option (Nat×List D)):Option Obj:=match o,xs with
 |some o,some (szx,xs)=>if !(szx == sz || xs.isEmpty) || sz == 0 then none
  else if o.row && o.sz == sz && o.els.length == tot && decide ((tot+xs.length)*bytes≤140737488355328) && decide (tot+xs.length≤4294967296)then some {o with els:=o.els++xs} else none
 |_,_=>none
theorem Z9(st:St)(sz bytes key tot:Nat)(x:D):Ea st sz bytes (.row key tot 0 tot) x=(OF st[key]? sz bytes tot (Gy st x)).map fun o=>(.row key o.els.length 0 o.els.length,st.set key o):=by
 simp only[Ea,OF];grind
theorem cP(f:α→D)(sz bytes:Nat)(A B:List α)(lent:Bool)(hs0:sz≠0)(hb:(A.length+B.length)*bytes≤140737488355328)(hl:A.length+B.length≤4294967296)(E:Nat)(I:E=sz∨B.map f=[]) :
  OF (some ⟨true,sz,A.map f,lent⟩) sz bytes A.length (some (E,B.map f))=some ⟨true,sz,(A++B).map f,lent⟩:=by
 have e:(!(E == sz || (B.map f).isEmpty) || sz == 0)=false:=by
  grind
 simp only[OF,e,Al,if_false];grind
theorem Yrd(f:α→D)(sz bytes:Nat)(A:List α)(x:α)(lent t:Bool)(st:St)(hs0:sz≠0)(hb:(A.length+1)*bytes≤140737488355328)(hl:A.length+1≤4294967296) :
  OF (some ⟨true,sz,A.map f,lent⟩) sz bytes A.length (Gy st (.slc sz [f x] t))=some ⟨true,sz,(A++[x]).map f,lent⟩:=cP f sz bytes A [x] lent hs0 hb hl _ (.inl rfl)
def ZF(o:Option Obj)(tot off len:Nat):Option (Nat×List D):=o.bind fun o=>if o.row && o.els.length == tot && decide (off+len≤tot)then some (o.sz,(o.els.drop off).take len)else none
theorem xP(st:St)(key tot off len:Nat):Hg st key tot off len=ZF st[key]? tot off len:=by
 unfold Hg ZF; cases st[key]? <;> rfl
theorem Yfh(f:α→D)(sz:Nat)(A:List α)(lent:Bool)(off len:Nat)(h:off+len≤A.length):ZF (some ⟨true,sz,A.map f,lent⟩) A.length off len=some (sz,((A.drop off).take len).map f):=by
 simp[ZF,h,Cj,B2]
def PZ(o:Option Obj)(tot:Nat):Bool:=match o with
 |some o=>o.row && o.els.length == tot
 |none=>false
theorem Yn0(st:St)(key tot:Nat):live st key tot=PZ st[key]? tot:=(rfl)
theorem Yn1(f:α→D)(sz:Nat)(A:List α)(lent:Bool):PZ (some ⟨true,sz,A.map f,lent⟩) A.length=true:=by simp[PZ]
def OC(o:Option Obj)(sz key tot off len:Nat)(j:Int):Option D:=if 0≤j then o.bind fun o=>if o.row && o.sz == sz && o.els.length == tot && decide (j.toNat<len)then some (.rptr key tot (off+j.toNat) 0)else none else none
theorem mE(st:St)(sz key tot off len:Nat)(k:IntKind)(j:Int):F2 st sz (.row key tot off len) (.int k j)=OC st[key]? sz key tot off len j:=by
 simp only[F2,OC,Fm];grind
theorem kY(f:α→D)(sz:Nat)(A:List α)(lent:Bool)(key off len:Nat)(j:Int)(E:0≤j)(I:j<(len:Int)):OC (some ⟨true,sz,A.map f,lent⟩) sz key A.length off len j=some (.rptr key A.length (off+j.toNat) 0):=by
 have:j.toNat<len:=by omega
 simp[OC,E,this]
def UT(o:Option Obj)(n:Nat)(ag:Bool)(tot i off:Nat):Option D:=if !ag && n != 1 then none else o.bind fun o=>if o.row && o.els.length == tot then(o.els[i]?).bind fun el=>if off+n≤el.cells.length then some (.mk ag ((el.cells.drop off).take n))else none else none
theorem iU(st:St)(n:Nat)(ag:Bool)(key tot i off:Nat):EO st n ag (.rptr key tot i off)=UT st[key]? n ag tot i off:=ySg st n ag key tot i off
theorem Ygu[Inhabited α](f:α→D)(E:∀ a,(f a).isCell=true)(sz:Nat)(A:List α)(lent:Bool)(i:Nat)(h:i<A.length):UT (some ⟨true,sz,A.map f,lent⟩) 1 false A.length i 0=some (f (A.getD i default)):=by
 have:(f A[i]).cells=[f A[i]]:=Pq (E _);simp[UT,h,this,D.mk,Ao]
def OB(o:Option Obj)(sz:Nat)(x:D)(key tot off len l h:Nat):Option D:=o.bind fun o=>if o.row && o.sz == sz && o.els.length == tot && sz != 0 then(if l≤h∧h≤len then(if l=0∧h=len then some x else if l=h then some (.slc sz [] false)else some (.row key tot (off+l) (h - l)))else none)else none
theorem ySe(st:St)(sz key tot off len:Nat)(lo hi:Option D):Gp st sz (.row key tot off len) lo hi none=(FY lo 0).bind fun l=>(FY hi len).bind fun h=>OB st[key]? sz (.row key tot off len) key tot off len l h:=by
 simp only[Gp,OB]
 cases st[key]? with
 |none=>cases FY lo 0 <;> cases FY hi len <;> rfl
 |some o=>
  simp only[Bl]
  split
  ·cases FY lo 0 <;> cases FY hi len <;> rfl
  ·simp_all
theorem lL(f:α→D)(sz:Nat)(A:List α)(lent:Bool)(x:D)(key off len l h:Nat)(E:sz≠0)(I:l≤h)(J:h≤len):OB (some ⟨true,sz,A.map f,lent⟩) sz x key A.length off len l h=(if l=0∧h=len then some x else if l=h then some (.slc sz [] false)else some (.row key A.length (off+l) (h - l))):=by
 simp[OB,E,I,J]
theorem Yjc(d:Nat):FY none d=some d:=(rfl)
theorem Yq4(k:IntKind)(n:Int)(d:Nat)(h:0≤n):FY (some (.int k n)) d=some n.toNat:=by simp[FY,Fm,h]
theorem yS3(sz bytes:Nat)(E:D)(k k':IntKind)(c:Int)(I:0≤c)(U:c≤4294967296)(J:c.toNat*bytes≤140737488355328)(M:0<sz)(N:E.cells.length=sz)(O:E.cells.all D.pure1=true) :
  OJ sz bytes E (.int k 0) (.int k' c)=some (0,⟨true,sz,[],false⟩):=by
 have:c.toNat≤4294967296:=by omega
 simp[OJ,O8 k' c I,yS2,this,J,M,N,O]
theorem Ygb(k k' E:IntKind)(n c:Int)(I:0≤c)(J:c≤4294967296):OJ 1 1 (.int E n) (.int k 0) (.int k' c)=some (0,⟨true,1,([]:List UInt8).map Dd,false⟩):=
 yS3 1 1 _ k k' c I J (by omega) (by decide) rfl rfl
theorem VP(f:α→D)(sz bytes E:Nat)(B:List α)(lent:Bool)(I:E=sz∨B.map f=[])(hs0:sz≠0)(hb:B.length*bytes≤140737488355328)(hl:B.length≤4294967296) :
  OF (some ⟨true,sz,[],lent⟩) sz bytes 0 (some (E,B.map f))=some ⟨true,sz,B.map f,lent⟩:=cP f sz bytes [] B lent hs0 (by simpa using hb) (by simpa using hl) E I
theorem Yxf(B:List UInt8)(lent:Bool)(hl:B.length≤4294967296):OF (some ⟨true,1,[],lent⟩) 1 1 0 (some (1,B.map Dd))=some ⟨true,1,B.map Dd,lent⟩:=VP Dd 1 1 1 B lent (.inl rfl) (by decide) (by omega) hl
theorem gW(A B:List UInt8)(lent:Bool)(hl:A.length+B.length≤4294967296):OF (some ⟨true,1,A.map Dd,lent⟩) 1 1 A.length (some (1,B.map Dd))=some ⟨true,1,(A++B).map Dd,lent⟩:=cP Dd 1 1 A B lent (by decide) (by omega) hl 1 (.inl rfl)
def Vy(o:Option Obj):Option (Nat×List D):=o.bind fun o=>if !o.row && decide (32≤o.els.length) && (IT 1 false o.els 32).all purA then some (1,IT 1 false o.els 32)else none
theorem ri(st:St)(key:Nat):Gy st (.bsl key 0 32 1 false)=Vy st[key]?:=by
 simp only[Gy,Ko,Vy];grind
theorem Yp2(sz:Nat)(d:Dig)(lent:Bool):Vy (some ⟨false,sz,CZ d,lent⟩)=some (1,d.bs.map Dd):=by
 have E:IT 1 false (CZ d) 32=CZ d:=by
  have:=q9 (CZ d);rwa [DK]at this
 have I:(CZ d).all purA=true:=Kw (fun _=>rfl) d;simp only[Vy,Bl,DK,E,I];rfl
attribute [push_cast] ri Yp2 Yxf gW
attribute [push_cast] List.drop_zero List.take_length
attribute [push_cast] Z9 Yrd xP Yfh Ygo Yn0 Yn1 mE kY iU ySe Yjc Yq4
attribute [push_cast] Yvq Ym2 lS Yl2 lT Yl1 xm xn Yng Ynf lB sR Yn2 Yuj
end Go.Proofs.YtijnglngaogdjaaGreatDoor.PI
