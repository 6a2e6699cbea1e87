/-
  Integers: what the pure operations do within their bounds.
  Conditions: none; these are lemmas.
-/
import Derived.Test.YtijnglngaogdjaaGreatDoorEngR
import Derived.ChangeArms
import Derived.Lib.LaidTab
import Derived.ChangeSame
open BitVec renaming ofInt→CR
open List renaming range→CS,replicate→CQ
open UInt64 renaming ofNat→C7
set_option linter.unusedVariables false
set_option linter.unusedSimpArgs false
namespace Go.Proofs.YtijnglngaogdjaaGreatDoor.PI
open Go Go.RowKit
inductive Ty where
 |bool
 |int (k:IntKind)
 |str
 |slc (e:Ty)
 |agg (fs:List Ty)
 /-- a slice whose elements' type is told of in another way -/
 |opq (Q:D→Prop)
 deriving Inhabited
mutual
def Ty.size:Ty→Nat
 |.agg fs=>Ty.sizes fs
 |_=>1
def Ty.sizes:List Ty→Nat
 |[]=>0
 |f::r=>f.size+Ty.sizes r
end
inductive Has:Ty→D→Prop
 |bool (b:Bool):Has .bool (.bool b)
 |int (k:IntKind) (n:Int):(Lit.int k n).wf=true→Has (.int k) (.int k n)
 |str (s:List UInt8):s.length≤maxLen→Has .str (.str s)
 |slc (e:Ty) (els:List D):(∀ (i:Nat) x,els[i]?=some x→Has e x)→els.length≤maxLen→Has (.slc e) (.slc (nz e.size els) els false)
 |opq (Q:D→Prop) (sz:Nat) (els:List D):Q (.slc (nz sz els) els false)→Has (.opq Q) (.slc (nz sz els) els false)
 |agg (fs:List Ty) (xs:List D):fs.length=xs.length→(∀ (i:Nat) f x,fs[i]?=some f→xs[i]?=some x→Has f x)→Has (.agg fs) (.agg (xs.flatMap D.cells))
def aJ(P:Program):Nat→List Field→List Ty→Bool
 |_,[],[]=>true
 |o,f::fs,t::ts=>f.offset == o && P.cellsOf f.type == t.size && aJ P (o+t.size) fs ts
 |_,_,_=>false
def SU(tf:TypeId→Option Ty):List Field→Option (List Ty)
 |[]=>some []
 |f::fs=>match tf f.type,SU tf fs with
  |some t,some ts=>some (t::ts)
  |_,_=>none
inductive TyD (P:Program):TypeId→D→Prop
 |bool (t:TypeId) (b:Bool):P.underlying t=some .bool→TyD P t (.bool b)
 |int (t:TypeId) (k:IntKind) (n:Int):P.underlying t=some (.int k)→(Lit.int k n).wf=true→TyD P t (.int k n)
 |str (t:TypeId) (s:List UInt8):P.underlying t=some .string→s.length≤maxLen→TyD P t (.str s)
 |slc (t e:TypeId) (els:List D):P.underlying t=some (.slice e)→(∀ x∈els,TyD P e x)→els.length≤maxLen→TyD P t (.slc (nz (P.cellsOf e) els) els false)
 |agg (t:TypeId) (fs:Array Field) (xs:List D):P.underlying t=some (.struct fs)→fs.toList.length=xs.length→(∀ (i:Nat) f x,fs.toList[i]?=some f→xs[i]?=some x→TyD P f.type x)→TyD P t (.agg (xs.flatMap D.cells))
 |arr (t:TypeId) (m:Nat) (e:TypeId) (xs:List D):P.underlying t=some (.array m e)→xs.length=m→(∀ x∈xs,TyD P e x)→TyD P t (.agg (xs.flatMap D.cells))
def XL(P:Program):Nat→Nat→List Field→Bool
 |o,n,[]=>o == n
 |o,n,f::fs=>f.offset == o && XL P (o+P.cellsOf f.type) n fs
def R6(P:Program)(S:List TypeId)(t:TypeId):Bool:=match P.underlying t with
 |some .bool | some (.int _) | some .string=>P.cellsOf t == 1
 |some (.slice e)=>S.contains e && decide (0<P.cellsOf e) && P.cellsOf t == 1
 |some (.struct fs)=>fs.toList.all (fun f=>S.contains f.type) && XL P 0 (P.cellsOf t) fs.toList
 |some (.array m e)=>S.contains e && P.cellsOf t == m*P.cellsOf e
 |_=>false
def Lt(P:Program)(S:List TypeId):Bool:=S.all (R6 P S)
def YCp(P:Program)(t:TypeId):List TypeId:=match P.underlying t with
 |some (.slice e) | some (.array _ e)=>[e]
 |some (.struct fs)=>fs.toList.map (·.type)
 |_=>[]
def RB(P:Program):Nat→List TypeId→List TypeId
 |0,S=>S
 |n+1,S=>RB P n ((S++S.flatMap (YCp P)).eraseDups)
def Gn(P:Program):Nat→TypeId→Option Ty
 |0,_=>none
 |n+1,t=>match P.underlying t with
  |some .bool=>some .bool
  |some (.int k)=>some (.int k)
  |some .string=>some .str
  |some (.slice e)=>match Gn P n e with
   |some x=>if P.cellsOf e == x.size && decide (0<x.size)then some (.slc x)else none
   |none=>if Lt P (RB P 6 [t]) && (RB P 6 [t]).contains t then some (.opq (TyD P t))else none
  |some (.struct fs)=>match SU (Gn P n) fs.toList with
   |some ts=>if aJ P 0 fs.toList ts && P.cellsOf t == Ty.sizes ts then some (.agg ts)else none
   |none=>none
  |some (.array m e)=>match Gn P n e with
   |some x=>if P.cellsOf e == x.size && P.cellsOf t == m*x.size then some (.agg (CQ m x))else none
   |none=>none
  |_=>none
def Xy(w:World):Nat→Nat→Prop:=fun b o=>(w.cell? ⟨b,o,none⟩).isSome=true
def KW(w:World):Ghost:={β:=id,γ:=id,Im:=Xy w}
variable {cs:List Value}{a:Addr}
section
variable {H:Type} {enc:TypeId×Value→H} {P:Program} {w:World}
def RepL(w:World)(xs:List D)(cs:List Value):Prop:=xs.length=cs.length∧(∀ (j:Nat) y v,xs[j]?=some y→cs[j]?=some v→RepV w (KW w) [] y v)∧∀ y∈xs,y.pure1=true
theorem RepL.nil:RepL w [] []:=⟨rfl,fun j y v h=>by simp at h,fun y h=>by cases h⟩
theorem RepL.append{xs ys:List D}{ds:List Value}(h:RepL w xs cs)(I:RepL w ys ds):RepL w (xs++ys) (cs++ds):=by
 refine⟨by simp[h.1,I.1],fun j y v E hv=>?_,fun y E=>?_⟩
 ·rcases Ba j xs.length with hj | hj
  ·rw[Au hj]at E;rw[Au (by rw[← h.1]; exact hj)]at hv;exact h.2.1 j y v E hv
  ·rw[AK hj]at E;rw[AK (by rw[← h.1]; exact hj),← h.1]at hv;exact I.2.1 _ y v E hv
 ·rcases AP.1 E with E | E
  ·exact h.2.2 y E
  ·exact I.2.2 y E
theorem RepL.one{x:D}{v:Value}(h:RepV w (KW w) [] x v)(E:x.pure1=true):RepL w x.cells [v]:=by
 rw[YW E];refine⟨rfl,fun j y u I hu=>?_,fun y I=>?_⟩
 ·grind
 ·grind
theorem v9{s:ByteArray}:RepV w (KW w) [] (.str s.data.toList) (.string s):=gn s _ rfl
mutual
def wt:D→Nat
 |.slc _ els _=>Hq els+1
 |.agg l=>Hq l
 |.str s=>s.length+1
 |.int _ _=>1
 |.bool _=>1
 |_=>0
def Hq:List D→Nat
 |[]=>0
 |d::l=>wt d+Hq l
end
mutual
def blk{H:Type}:DataW H→Nat
 |.lit (.string s)=>s.length+1
 |.lit _=>1
 |.nil=>1
 |.slice e _=>Gt e+1
 |.agg p=>Gt p
 |_=>0
def Gt{H:Type}:List (DataW H)→Nat
 |[]=>0
 |d::l=>blk d+Gt l
end
theorem Uv:∀ (a b:List D),Hq (a++b)=Hq a+Hq b
 |[],b=>by simp[Hq]
 |x::a,b=>by rw[Ae,Hq,Hq,Uv a b]; omega
theorem Yn(d:D):Hq d.cells=wt d:=by
 cases d <;> simp[D.cells,Hq,wt]
theorem fA:∀ (a:List D) (b:List (DataW H)),a.length=b.length→(∀ (i:Nat) x y,a[i]?=some x→b[i]?=some y→wt x≤blk y)→Hq a≤Gt b
 |[],b,_,_=>by simp[Hq]
 |x::a,[],h,_=>by simp at h
 |x::a,y::b,h,hle=>by
  have J:=hle 0 x y rfl rfl;have M:=fA a b (by simpa using h) (fun i x y E I=>hle (i+1) x y (by simpa using E) (by simpa using I));simp only[Hq,Gt];omega
def ki(enc:TypeId×Value→H)(P:Program)(w:World)(sp:Nat→Bool)(t:TypeId)(ty:Ty):Prop:=
 ∀ (fuel:Nat) (cs:List Value) (x:DataW H×List MemPlace),DataW.trod enc P w 0 sp true fuel t cs=some x→∃ d,Has ty d∧RepL w d.cells cs∧cs.length=ty.size∧((∃ fs,ty=.agg fs)∨d.pure1=true)∧wt d≤blk x.1
theorem lQ{sp:Nat→Bool}{O:TypeId→Option Ty}(J:∀ t ty,O t=some ty→ki enc P w sp t ty)(fuel:Nat)(cs:List Value):∀ (fs:List Field) (E:List Ty) (o:Nat) (ys:List (DataW H×List MemPlace)),
  SU O fs=some E→aJ P o fs E=true→fs.mapM (fun f=>DataW.trod enc P w 0 sp true fuel f.type ((cs.drop f.offset).take (P.cellsOf f.type)))=some ys→
  ∃ xs:List D,E.length=xs.length∧(∀ (i:Nat) f x,E[i]?=some f→xs[i]?=some x→Has f x)∧RepL w (xs.flatMap D.cells) ((cs.drop o).take (Ty.sizes E))∧(o≤cs.length→o+Ty.sizes E≤cs.length)∧Hq (xs.flatMap D.cells)≤Gt (ys.map (·.1))
 |[],E,o,ys,I,M,N=>by
  simp[SU]at I; subst I;exact⟨[],rfl,fun i f x h=>by simp at h,by simpa[Ty.sizes]using RepL.nil,fun h=>by simpa[Ty.sizes]using h,by simp[Hq]⟩
 |f::fs,E,o,ys,I,M,N=>by
  unfold SU at I
  split at I
  case h_2=>cases I
  rename_i t U ht V;simp only[Db]at I; subst I;simp only[aJ,Af,beq_iff_eq]at M;obtain⟨⟨e1,e2⟩,e3⟩:=M;simp only[Bz,Bt,Ay,BH,Db]at N;obtain⟨y,Y,aa,ab,rfl⟩:=N;rw[e1,e2]at Y;obtain⟨d,d1,d2,d3,_,d5⟩:=J _ _ ht fuel _ _ Y;obtain⟨xs,x1,x2,x3,x4,x5⟩:=lQ J fuel cs fs U (o+t.size) aa V e3 ab
  have hlen:o+t.size≤cs.length∨t.size=0:=by
   grind
  refine⟨d::xs,by simp[x1],?_,?_,?_,?_⟩
  ·grind
  ·have:=d2.append x3;simp only[At,Ty.sizes];rw[CA,By];exact this
  ·intro ho;simp only[Ty.sizes];omega
  ·simp only[At,Uv,Yn,Aw,Gt];omega
theorem ue{sp:Nat→Bool}{e:TypeId}{x:Ty}(E:ki enc P w sp e x)(hc:P.cellsOf e=x.size)(fuel:Nat)(cs:List Value):∀ (n k:Nat) (ys:List (DataW H×List MemPlace)),
  (List.range' k n).mapM (fun i=>DataW.trod enc P w 0 sp true fuel e ((cs.drop (i*P.cellsOf e)).take (P.cellsOf e)))=some ys→
  ∃ xs:List D,xs.length=n∧(∀ (i:Nat) y,xs[i]?=some y→Has x y)∧RepL w (xs.flatMap D.cells) ((cs.drop (k*x.size)).take (n*x.size))∧Hq (xs.flatMap D.cells)≤Gt (ys.map (·.1))
 |0,k,ys,h=>⟨[],rfl,fun i y h=>by simp at h,by simpa using RepL.nil,by simp[Hq]⟩
 |n+1,k,ys,h=>by
  simp only[BY,Bz,Bt,Ay,BH,Db]at h;obtain⟨y,I,J,M,rfl⟩:=h;rw[hc]at I;obtain⟨d,d1,d2,d3,_,d5⟩:=E fuel _ _ I;obtain⟨xs,N,U,O,V⟩:=ue E hc fuel cs n (k+1) J M;refine⟨d::xs,by simp[N],?_,?_,?_⟩
  ·grind
  ·have:=d2.append O;simp only[At];rw[A3,BB,Nat.add_comm (n*x.size),CA,By];grind
  ·simp only[At,Uv,Yn,Aw,Gt];omega
theorem Ty.sizes_replicate(x:Ty):∀ m,Ty.sizes (CQ m x)=m*x.size
 |0=>by simp[Ty.sizes]
 |m+1=>by rw[B1,Ty.sizes,Ty.sizes_replicate x m,A3,BB,Nat.add_comm]
theorem cells?_get{base:Nat}{n:Nat}(h:w.cells? base a n=some cs):cs.length=n∧∀ (j:Nat) v,cs[j]?=some v→w.cell? (a.add j)=some v:=by
 unfold World.cells? at h
 split at h
 ·have hl:cs.length=n:=by simpa using Lib.mapM_length h
  refine⟨hl,fun j v hv=>?_⟩;have hj:j<n:=by rw[← hl]; exact(Ac.1 hv).1
  obtain⟨b,hb,hf⟩:=Lib.mapM_at h j j (by simp[hj]);grind
 ·cases h
def kR(enc:TypeId×Value→H)(P:Program)(w:World)(sp:Nat→Bool)(fuel:Nat)(t:TypeId):Prop:=
 ∀ (cs:List Value) (x:DataW H×List MemPlace),DataW.trod enc P w 0 sp true fuel t cs=some x→∃ d,TyD P t d∧RepL w d.cells cs∧cs.length=P.cellsOf t∧((∃ l,d=.agg l)∨d.pure1=true)∧wt d≤blk x.1
theorem mf{sp:Nat→Bool}{fuel:Nat}(cs:List Value)(n:Nat):∀ (fs:List Field) (o:Nat) (ys:List (DataW H×List MemPlace)),(∀ f∈fs,kR enc P w sp fuel f.type)→XL P o n fs=true→
  fs.mapM (fun f=>DataW.trod enc P w 0 sp true fuel f.type ((cs.drop f.offset).take (P.cellsOf f.type)))=some ys→
  ∃ xs:List D,fs.length=xs.length∧(∀ (i:Nat) f x,fs[i]?=some f→xs[i]?=some x→TyD P f.type x)∧RepL w (xs.flatMap D.cells) ((cs.drop o).take (n - o))∧o≤n∧Hq (xs.flatMap D.cells)≤Gt (ys.map (·.1))
 |[],o,ys,_,E,J=>by
  simp only[XL,beq_iff_eq]at E;subst E;exact⟨[],rfl,fun i f x h=>by simp at h,by simpa using RepL.nil,AD _,by simp[Hq]⟩
 |f::fs,o,ys,I,E,J=>by
  simp only[XL,Af,beq_iff_eq]at E;obtain⟨U,V⟩:=E;simp only[Bz,Bt,Ay,BH,Db]at J;obtain⟨y,M,N,O,rfl⟩:=J;rw[U]at M;obtain⟨d,d1,d2,d3,_,d5⟩:=I f (by simp) _ _ M;obtain⟨xs,Y,x2,x3,x4,x5⟩:=mf cs n fs (o+P.cellsOf f.type) N (fun g hg=>I g (by simp[hg])) V O;refine⟨d::xs,by simp[Y],?_,?_,by omega,?_⟩
  ·grind
  ·have:=d2.append x3;simp only[At];rw[show n - o=P.cellsOf f.type+(n - (o+P.cellsOf f.type)) by omega,CA,By];exact this
  ·simp only[At,Uv,Yn,Aw,Gt];omega
theorem lU{sp:Nat→Bool}{fuel:Nat}{e:TypeId}(E:kR enc P w sp fuel e)(cs:List Value):∀ (n k:Nat) (ys:List (DataW H×List MemPlace)),
  (List.range' k n).mapM (fun i=>DataW.trod enc P w 0 sp true fuel e ((cs.drop (i*P.cellsOf e)).take (P.cellsOf e)))=some ys→
  ∃ xs:List D,xs.length=n∧(∀ y∈xs,TyD P e y)∧RepL w (xs.flatMap D.cells) ((cs.drop (k*P.cellsOf e)).take (n*P.cellsOf e))∧Hq (xs.flatMap D.cells)≤Gt (ys.map (·.1))
 |0,k,ys,h=>⟨[],rfl,(fun y h=>by cases h),by simpa using RepL.nil,by simp[Hq]⟩
 |n+1,k,ys,h=>by
  simp only[BY,Bz,Bt,Ay,BH,Db]at h;obtain⟨y,M,I,J,rfl⟩:=h;obtain⟨d,d1,d2,d3,_,d5⟩:=E _ _ M;obtain⟨xs,N,U,O,V⟩:=lU E cs n (k+1) I J;refine⟨d::xs,by simp[N],?_,?_,?_⟩
  ·grind
  ·have:=d2.append O;simp only[At];rw[A3,BB,Nat.add_comm (n*P.cellsOf e),CA,By];grind
  ·simp only[At,Uv,Yn,Aw,Gt];omega
theorem yPb{Q:D→Prop}{sz:Nat}{len cap:Nat}{Y:Nat→Nat}(J:0<sz)(aa:len≤cap)
  (E:∀ i,i<len→∃ d,Q d∧d.cells.length=sz∧(∀ (j:Nat) y,d.cells[j]?=some y→y.pure1=true∧∃ v,w.cell? ((a.add (i*sz)).add j)=some v∧RepV w (KW w) [] y v)∧wt d≤Y i) :
  ∃ els:List D,els.length=len∧(∀ x∈els,Q x)∧RepL w (D.slc (nz sz els) els false).cells [.slice (some a) len cap]∧∀ (i:Nat) x,els[i]?=some x→wt x≤Y i:=by
 let f:Nat→D:=fun i=>if hi:i<len then(E i hi).choose else .junk
 have hf:∀ i (hi:i<len),f i=(E i hi).choose:=fun i hi=>by simp[f,hi]
 have O:∀ (i:Nat) x,((CS len).map f)[i]?=some x→∃ hi:i<len,x=(E i hi).choose:=by
  intro i x M;simp only[AJ,DG]at M;obtain⟨i',I,rfl⟩:=M;rw[Ac]at I;obtain⟨U,h3⟩:=I;simp at U h3;grind
 refine⟨(CS len).map f,by simp,fun x M=>?_,?_,fun i x M=>?_⟩
 ·grind
 ·refine RepL.one (RepV.nz (t:=false) ?_) rfl;rcases B7 len with V | V
  ·subst V;exact .slcE _ false (some a) cap (fun h=>by cases h)
  ·have N:a.spot=none:=by
    obtain⟨d1,d2,d3,_⟩:=(E 0 V).choose_spec;obtain⟨_,v,I,_⟩:=d3 0 _ (Am (by rw[d2]; exact J));rw[Cd]at I;have U:(a.add 0).add 0=a:=by simp[Addr.add]
    rw[U]at I;unfold World.cell? at I
    split at I
    ·split at I
     ·cases I
     ·rename_i hs; simpa using hs
    ·cases I
   obtain⟨b,off,spot⟩:=a;simp only at N;subst N;have hl:len=((CS len).map f).length:=by simp
   conv=>rhs; rw[hl]
   refine RepV.slc_mk J ?_ (by simpa using aa) (fun h=>by cases h) ?_
   ·grind
   ·intro i j d hd;obtain⟨e',he,hj⟩:=Iq hd;obtain⟨ab,rfl⟩:=O i e' he;obtain⟨hp,v,hv,hr⟩:=(E i ab).choose_spec.2.2.1 j d hj;rw[LB,LB]at hv;refine⟨hp,?_,v,hv,hr⟩
    show(w.cell? ⟨b,off+i*sz+j,none⟩).isSome=true
    rw[hv]; rfl
 ·grind
theorem sG{sp:Nat→Bool}{S:List TypeId}(hS:Lt P S=true):∀ (fuel:Nat) (t:TypeId),t∈S→kR enc P w sp fuel t
 |0,t,_=>by intro cs x E; simp[DataW.trod]at E
 |fuel+1,t,U=>by
  have V:=fun t U=>sG (sp:=sp) hS fuel t U;have hc:R6 P S t=true:=Ak.1 hS t U;unfold R6 at hc;intro cs x E
  split at hc
  ·rename_i hu;simp only[beq_iff_eq]at hc;unfold DataW.trod at E;rw[hu]at E
   split at E <;> simp_all
   exact⟨_,.bool t _ hu,RepL.one (.bool _) rfl,.inr rfl,by rw[← E]; simp[wt,blk]⟩
  ·rename_i k hu;simp only[beq_iff_eq]at hc;unfold DataW.trod at E;rw[hu]at E
   split at E <;> simp_all
   rename_i k' m;obtain⟨⟨rfl,hw⟩,I⟩:=E;exact⟨_,.int t _ _ hu hw,RepL.one (.int _ _) rfl,.inr rfl,by rw[← I]; simp[wt,blk]⟩
  ·rename_i hu;simp only[beq_iff_eq]at hc;unfold DataW.trod at E;rw[hu]at E
   split at E <;> simp_all
   rename_i s;exact⟨_,.str t s.data.toList hu (by simpa using E.1),RepL.one v9 rfl,.inr rfl,by rw[← E.2]; simp[wt,blk]⟩
  ·rename_i e hu;simp only[Af,Bc,decide_eq_true_eq,beq_iff_eq]at hc;obtain⟨⟨J,Y⟩,N⟩:=hc;rcases DataW.trod_slice hu E with⟨rfl,I⟩ | ⟨a,len,cap,elems,rest,m,hm,rfl,I,_,a1,a9,hlen,a2,_,_⟩
   ·refine⟨.slc (nz (P.cellsOf e) []) [] false,.slc t e [] hu (fun x h=>by cases h) (Bh _),RepL.one (.slcE _ false none 0 (fun h=>by cases h)) rfl,N.symm,.inr rfl,by rw[I]; simp[wt,Hq,blk]⟩
   ·obtain rfl:m=fuel:=by omega
    have aa:∀ i,i<len→∃ d,TyD P e d∧d.cells.length=P.cellsOf e∧(∀ (j:Nat) y,d.cells[j]?=some y→y.pure1=true∧∃ v,w.cell? ((a.add (i*P.cellsOf e)).add j)=some v∧RepV w (KW w) [] y v)∧wt d≤((elems[i]?).map fun y=>blk y.1).getD 0:=by
     intro i hi;have h1:=a2 i hi;rw[Am (by omega)]at h1 ⊢;simp only[Ay]at h1;obtain⟨cs',h2,h3⟩:=h1;obtain⟨d,d1,d2,d3,_,d5⟩:=V e J cs' _ h3;obtain⟨h4,h5⟩:=cells?_get h2;refine⟨d,d1,by rw[d2.1,h4],fun j y hy=>⟨d2.2.2 y (Ap hy),?_⟩,by simpa using d5⟩;have hj:j<cs'.length:=by rw[← d2.1]; exact(Ac.1 hy).1
     exact⟨cs'[j],h5 j _ (Am hj),d2.2.1 j y _ hy (Am hj)⟩
    obtain⟨els,e1,e2,e3,e4⟩:=yPb Y a1 aa;refine⟨_,.slc t e els hu e2 (by omega),e3,N.symm,.inr rfl,?_⟩;rw[I];simp only[wt,blk];refine Nat.succ_le_succ (fA _ _ (by simp; omega) ?_);grind
  ·rename_i fs hu;simp only[Af,Ak,Bc]at hc;obtain⟨J,ad⟩:=hc;unfold DataW.trod at E;rw[hu]at E;simp only at E
   split at E
   case isFalse=>cases E
   rename_i hl;simp only[DG]at E;obtain⟨ys,M,rfl⟩:=E;obtain⟨xs,x1,x2,O,x4,x5⟩:=mf cs (P.cellsOf t) fs.toList 0 ys (fun f hf=>V f.type (J f hf)) ad M;refine⟨.agg (xs.flatMap D.cells),.agg t fs xs hu x1 x2,?_,hl,.inl ⟨_,rfl⟩,by simpa only[wt,blk]using x5⟩;rw[BA,Nat.sub_zero,AI (by omega)]at O;exact O
  ·rename_i m e hu;simp only[Af,Bc,beq_iff_eq]at hc;obtain⟨J,ba⟩:=hc;unfold DataW.trod at E;rw[hu]at E;simp only at E
   split at E
   case isFalse=>cases E
   rename_i hl;simp only[DG]at E;obtain⟨ys,M,rfl⟩:=E;rw[Bn]at M;obtain⟨xs,x1,x2,O,x5⟩:=lU (V e J) cs m 0 ys M;refine⟨.agg (xs.flatMap D.cells),.arr t m e xs hu x1 x2,?_,hl,.inl ⟨_,rfl⟩,by simpa only[wt,blk]using x5⟩;rw[Cd,BA,AI (by omega)]at O;exact O
  ·cases hc
theorem pP{sp:Nat→Bool}:∀ (n:Nat) (t:TypeId) (ty:Ty),Gn P n t=some ty→ki enc P w sp t ty
 |0,_,_,h=>by simp[Gn]at h
 |n+1,t,ty,h=>by
  have ih:=pP (sp:=sp) n;intro fuel cs x E;unfold Gn at h
  cases fuel with
  |zero=>simp[DataW.trod]at E
  |succ fuel=>
  split at h
  ·rename_i hu;simp only[Db]at h; subst h;unfold DataW.trod at E;rw[hu]at E
   split at E <;> simp_all
   exact⟨_,.bool _,RepL.one (.bool _) rfl,rfl,rfl,by rw[← E]; simp[wt,blk]⟩
  ·rename_i k hu;simp only[Db]at h; subst h;unfold DataW.trod at E;rw[hu]at E
   split at E <;> simp_all
   rename_i k' m;obtain⟨⟨rfl,hw⟩,M⟩:=E;exact⟨_,.int _ _ hw,RepL.one (.int _ _) rfl,rfl,rfl,by rw[← M]; simp[wt,blk]⟩
  ·rename_i hu;simp only[Db]at h; subst h;unfold DataW.trod at E;rw[hu]at E
   split at E <;> simp_all
   rename_i s;exact⟨_,.str s.data.toList (by simpa using E.1),RepL.one v9 rfl,rfl,rfl,by rw[← E.2]; simp[wt,blk]⟩
  ·rename_i e hu
   split at h
   case h_2=>
    split at h
    case isFalse=>cases h
    rename_i N;simp only[Af,Bc]at N;simp only[Db]at h; subst h;obtain⟨d,d1,d2,d3,d4,d5⟩:=sG N.1 (fuel+1) t N.2 cs x E
    have ab:P.cellsOf t=1:=by
     have:=Ak.1 N.1 t N.2;unfold R6 at this;grind
    rw[ab]at d3
    have:∃ sz els,d=.slc (nz sz els) els false:=by
     cases d1 with
     |slc _ e' els I V h3=>exact⟨_,_,rfl⟩
     |agg _ fs xs I=>rw[hu]at I; cases I
     |arr _ m e' xs I=>rw[hu]at I; cases I
     |bool _ b I=>rw[hu]at I; cases I
     |int _ k n I=>rw[hu]at I; cases I
     |str _ s I=>rw[hu]at I; cases I
    obtain⟨sz,els,rfl⟩:=this;exact⟨_,.opq _ sz els d1,d2,d3,.inr rfl,d5⟩
   rename_i ex hex
   split at h
   case isFalse=>cases h
   rename_i hc;simp only[Af,beq_iff_eq,decide_eq_true_eq]at hc;simp only[Db]at h; subst h;rcases DataW.trod_slice hu E with⟨rfl,M⟩ | ⟨a,len,cap,elems,rest,m,_,rfl,M,_,a3,be,hlen,a4,_,_⟩
   ·exact⟨_,.slc ex [] (fun i x h=>by simp at h) (Bh _),RepL.one (.slcE _ false none 0 (fun h=>by cases h)) rfl,rfl,.inr rfl,by rw[M]; simp[wt,Hq,blk]⟩
   ·have J:∀ i (hi:i<len),∃ d,Has ex d∧d.cells.length=ex.size∧(∀ (j:Nat) y,d.cells[j]?=some y→y.pure1=true∧∃ v,w.cell? ((a.add (i*ex.size)).add j)=some v∧RepV w (KW w) [] y v)∧wt d≤blk (elems[i]'(by omega)).1:=by
     intro i hi;have I:=a4 i hi;rw[hc.1,Am (by omega)]at I;simp only[Ay]at I;obtain⟨cs',V,h3⟩:=I;obtain⟨d,d1,d2,d3,_,d5⟩:=ih e ex hex m cs' _ h3;obtain⟨h4,h5⟩:=cells?_get V;refine⟨d,d1,by rw[d2.1,h4],fun j y hy=>⟨d2.2.2 y (Ap hy),?_⟩,d5⟩;have hj:j<cs'.length:=by rw[← d2.1]; exact(Ac.1 hy).1
     exact⟨cs'[j],h5 j _ (Am hj),d2.2.1 j y _ hy (Am hj)⟩
    let f:Nat→D:=fun i=>if hi:i<len then(J i hi).choose else .junk
    have hf:∀ i (hi:i<len),f i=(J i hi).choose:=fun i hi=>by simp[f,hi]
    have ae:∀ (i:Nat) x,((CS len).map f)[i]?=some x→∃ hi:i<len,x=(J i hi).choose:=by
     grind
    refine⟨.slc (nz ex.size ((CS len).map f)) ((CS len).map f) false,.slc ex _ (fun i x E=>?_) (by simp; omega),?_,rfl,.inr rfl,?_⟩
    ·grind
    ·refine RepL.one (RepV.nz (t:=false) ?_) rfl;rcases B7 len with h0 | h0
     ·subst h0;exact .slcE _ false (some a) cap (fun h=>by cases h)
     ·have Y:a.spot=none:=by
       obtain⟨d1,d2,d3,_⟩:=(J 0 h0).choose_spec;obtain⟨_,v,I,_⟩:=d3 0 _ (Am (by rw[d2]; exact hc.2));rw[Cd]at I;have V:(a.add 0).add 0=a:=by simp[Addr.add]
       rw[V]at I;unfold World.cell? at I
       split at I
       ·split at I
        ·cases I
        ·rename_i hs; simpa using hs
       ·cases I
      obtain⟨b,off,spot⟩:=a;simp only at Y;subst Y;have hl:len=((CS len).map f).length:=by simp
      conv=>rhs; rw[hl]
      refine RepV.slc_mk hc.2 ?_ (by simpa using a3) (fun h=>by cases h) ?_
      ·grind
      ·intro i j d hd;obtain⟨e',he,hj⟩:=Iq hd;obtain⟨a5,rfl⟩:=ae i e' he;obtain⟨hp,v,hv,hr⟩:=(J i a5).choose_spec.2.2.1 j d hj;rw[LB,LB]at hv;refine⟨hp,?_,v,hv,hr⟩
       show(w.cell? ⟨b,off+i*ex.size+j,none⟩).isSome=true
       rw[hv]; rfl
    ·rw[M];simp only[wt,blk];refine Nat.succ_le_succ (fA _ _ (by simp; omega) ?_);grind
  ·rename_i fs hu
   split at h
   case h_2=>cases h
   rename_i ts a6
   split at h
   case isFalse=>cases h
   rename_i hc;simp only[Af,beq_iff_eq]at hc;simp only[Db]at h; subst h;unfold DataW.trod at E;rw[hu]at E;simp only at E
   split at E
   case isFalse=>cases E
   rename_i hl;simp only[DG]at E;obtain⟨ys,O,rfl⟩:=E;obtain⟨xs,x1,x2,U,x4,x5⟩:=lQ ih fuel cs fs.toList ts 0 ys a6 hc.1 O;refine⟨.agg (xs.flatMap D.cells),.agg ts xs x1 x2,?_,by rw[hl,hc.2]; rfl,.inl ⟨ts,rfl⟩,by simpa only[wt,blk]using x5⟩;rw[BA,AI (by omega)]at U;exact U
  ·rename_i m e hu
   split at h
   case h_2=>cases h
   rename_i ex hex
   split at h
   case isFalse=>cases h
   rename_i hc;simp only[Af,beq_iff_eq]at hc;simp only[Db]at h; subst h;unfold DataW.trod at E;rw[hu]at E;simp only at E
   split at E
   case isFalse=>cases E
   rename_i hl;simp only[DG]at E;obtain⟨ys,O,rfl⟩:=E;rw[Bn]at O;obtain⟨xs,x1,x2,U,x5⟩:=ue (ih e ex hex) hc.1 fuel cs m 0 ys O;refine⟨.agg (xs.flatMap D.cells),.agg _ xs (by simp[x1]) ?_,?_,by rw[hl,hc.2]; exact(Ty.sizes_replicate ex m).symm,.inl ⟨_,rfl⟩,by simpa only[wt,blk]using x5⟩
   ·grind
   ·rw[Cd,BA,AI (by omega)]at U;exact U
  ·cases h
end
end Go.Proofs.YtijnglngaogdjaaGreatDoor.PI
namespace Go.Proofs.YtijnglngaogdjaaGreatDoor.PI
open Go Go.RowKit Go.ChangeShapes
variable {v:Value}{a:Addr}{n:Nat}{before:List MemPlace}{args:Array Value}{s:ChangeSpec}{tys:List Ty}{sp:List D→Option D}{fn:Func}{G:Dj}
section
variable {H:Type} {enc:TypeId×Value→H} {P:Program} {W W':World}
theorem NR{α β:Type}{f g:α→Option β}:∀ {l:List α} {r:List β},l.mapM f=some r→(∀ x y,x∈l→y∈r→f x=some y→g x=some y)→l.mapM g=some r
 |[],r,h,_=>by simpa using h
 |a::l,r,h,E=>by
  simp only[Bz,Bt,Ay,BH,Db]at h ⊢;obtain⟨b,hb,J,I,rfl⟩:=h;exact⟨b,E a b (by simp) (by simp) hb,J,NR I (fun x y M N=>E x y (by simp[M]) (by simp[N])),rfl⟩
theorem cell?_below(hb:Below W.heap.size W W')(h:W.cell? a=some v):W'.cell? a=some v:=by
 have E:=World.block_lt_of_cell? W a h;rw[← h];simp only[World.cell?,hb.block a.block E]
theorem cells?_below(hb:Below W.heap.size W W'){b:Nat}{cs:List Value}(h:W.cells? b a n=some cs):W'.cells? b a n=some cs:=by
 unfold World.cells? at h ⊢
 split at h
 ·rename_i E;rw[if_pos E];exact NR h fun x y _ _ I=>cell?_below hb I
 ·cases h
theorem sF(hb:Below W.heap.size W W'){S:List TypeId}(hS:Lt P S=true):∀ (fuel:Nat) (t:TypeId),t∈S→∀ (cs:List Value) (x:DataW H×List MemPlace),DataW.trod enc P W 0 (fun _=>true) true fuel t cs=some x→
  ∀ I:Nat→Bool,(∀ p∈x.2,I p.block=true)→DataW.trod enc P W' 0 I true fuel t cs=some x
 |0,t,_=>by intro cs x E; simp[DataW.trod]at E
 |fuel+1,t,ht=>by
  have ih:=sF hb hS fuel;intro cs x E I aa;have hc:R6 P S t=true:=Ak.1 hS t ht;unfold R6 at hc
  split at hc
  ·rename_i hu;unfold DataW.trod at E ⊢;grind
  ·rename_i k hu;unfold DataW.trod at E ⊢;grind
  ·rename_i hu;unfold DataW.trod at E ⊢;grind
  ·rename_i e hu;simp only[Af,Bc,decide_eq_true_eq,beq_iff_eq]at hc;obtain⟨⟨M,af⟩,_⟩:=hc
   have N:∀ (b:Addr) (y:DataW H×List MemPlace),(∀ p∈y.2,I p.block=true)→(W.cells? 0 b (P.cellsOf e)).bind (DataW.trod enc P W 0 (fun _=>true) true fuel e)=some y→(W'.cells? 0 b (P.cellsOf e)).bind (DataW.trod enc P W' 0 I true fuel e)=some y:=by
    intro b y J O;simp only[Ay]at O ⊢;obtain⟨cs',V,h3⟩:=O;exact⟨cs',cells?_below hb V,ih e M cs' y h3 I J⟩
   unfold DataW.trod at E ⊢;rw[hu]at E ⊢
   split at E
   all_goals try (first | (rename_i heq _; cases heq; done) | (rename_i heq; cases heq; done))
   all_goals try (simp_all; done)
   rename_i e' a len cap heq;cases heq;simp only[if_true]at E ⊢
   split at E
   case isFalse=>cases E
   rename_i Y;rw[if_pos Y];simp only[Ay,DG]at E ⊢;obtain⟨elems,O,rest,V,rfl⟩:=E;have hle:elems.length=len:=by simpa using Lib.mapM_length O
   have a1:rest.length=cap - len:=by simpa using Lib.mapM_length V
   have M:∀ y∈elems++rest,∀ p∈y.2,I p.block=true:=fun y J p hp=>aa p (by
    grind)
   refine⟨elems,NR O (fun i y _ J hi=>N _ y (M y (by simp[J])) hi),rest,?_,rfl⟩;rcases B7 cap with h0 | h0
   ·grind
   ·have ab:I a.block=true:=aa (.cell a.block (a.off+0)) (by
     simp only[AP]
     left
     simp only[MemPlace.row,AW,AX];simp_all)
    rw[if_pos ab];exact NR V (fun i y _ J hi=>N _ y (M y (by simp[J])) hi)
  ·rename_i fs hu;simp only[Af,Ak,Bc]at hc;unfold DataW.trod at E ⊢;rw[hu]at E ⊢;simp only at E ⊢
   split at E
   case isFalse=>cases E
   rename_i hl;rw[if_pos hl];simp only[DG]at E ⊢;obtain⟨ys,U,rfl⟩:=E;refine⟨ys,NR U (fun f y hf J hi=>?_),rfl⟩;grind
  ·rename_i m e hu;simp only[Af,Bc,beq_iff_eq]at hc;unfold DataW.trod at E ⊢;rw[hu]at E ⊢;simp only at E ⊢
   split at E
   case isFalse=>cases E
   rename_i hl;rw[if_pos hl];simp only[DG]at E ⊢;obtain⟨ys,U,rfl⟩:=E;refine⟨ys,NR U (fun i y _ J hi=>?_),rfl⟩;grind
  ·cases hc
theorem tu(hb:Below W.heap.size W W'):∀ (n:Nat) (t:TypeId) (ty:Ty),Gn P n t=some ty→∀ (fuel:Nat) (cs:List Value) (x:DataW H×List MemPlace),DataW.trod enc P W 0 (fun _=>true) true fuel t cs=some x→
  ∀ I:Nat→Bool,(∀ p∈x.2,I p.block=true)→DataW.trod enc P W' 0 I true fuel t cs=some x
 |0,_,_,h=>by simp[Gn]at h
 |n+1,t,ty,h=>by
  have ih:=tu hb n;intro fuel cs x E I N;unfold Gn at h
  cases fuel with
  |zero=>simp[DataW.trod]at E
  |succ fuel=>
  split at h
  ·rename_i hu;unfold DataW.trod at E ⊢;grind
  ·rename_i k hu;unfold DataW.trod at E ⊢;grind
  ·rename_i hu;unfold DataW.trod at E ⊢;grind
  ·rename_i e hu
   split at h
   case h_2=>
    split at h
    case isFalse=>cases h
    rename_i O;simp only[Af,Bc]at O;exact sF hb O.1 (fuel+1) t O.2 cs x E I N
   rename_i ex hex
   split at h
   case isFalse=>cases h
   rename_i hc;simp only[Af,beq_iff_eq,decide_eq_true_eq]at hc;have af:0<P.cellsOf e:=by rw[hc.1]; exact hc.2
   have U:∀ (b:Addr) (y:DataW H×List MemPlace),(∀ p∈y.2,I p.block=true)→(W.cells? 0 b (P.cellsOf e)).bind (DataW.trod enc P W 0 (fun _=>true) true fuel e)=some y→(W'.cells? 0 b (P.cellsOf e)).bind (DataW.trod enc P W' 0 I true fuel e)=some y:=by
    intro b y J V;simp only[Ay]at V ⊢;obtain⟨cs',Y,h3⟩:=V;exact⟨cs',cells?_below hb Y,ih e ex hex fuel cs' y h3 I J⟩
   unfold DataW.trod at E ⊢;rw[hu]at E ⊢
   split at E
   all_goals try (first | (rename_i heq _; cases heq; done) | (rename_i heq; cases heq; done))
   all_goals try (simp_all; done)
   rename_i e' a len cap heq;cases heq;simp only[if_true]at E ⊢
   split at E
   case isFalse=>cases E
   rename_i aa;rw[if_pos aa];simp only[Ay,DG]at E ⊢;obtain⟨elems,V,rest,Y,rfl⟩:=E;have hle:elems.length=len:=by simpa using Lib.mapM_length V
   have a3:rest.length=cap - len:=by simpa using Lib.mapM_length Y
   have ab:∀ y∈elems++rest,∀ p∈y.2,I p.block=true:=fun y J p hp=>N p (by
    grind)
   refine⟨elems,NR V (fun i y _ J hi=>U _ y (ab y (by simp[J])) hi),rest,?_,rfl⟩;rcases B7 cap with h0 | h0
   ·grind
   ·have ad:I a.block=true:=N (.cell a.block (a.off+0)) (by
     simp only[AP]
     left
     simp only[MemPlace.row,AW,AX];simp_all)
    rw[if_pos ad];exact NR Y (fun i y _ J hi=>U _ y (ab y (by simp[J])) hi)
  ·rename_i fs hu
   split at h
   case h_2=>cases h
   rename_i ts ac;unfold DataW.trod at E ⊢;rw[hu]at E ⊢;simp only at E ⊢
   split at E
   case isFalse=>cases E
   rename_i hl;rw[if_pos hl];simp only[DG]at E ⊢;obtain⟨ys,M,rfl⟩:=E
   have a2:∀ f∈fs.toList,∃ ty,Gn P n f.type=some ty:=by
    clear M hl hu h;generalize fs.toList=l at ac
    induction l generalizing ts with
    |nil=>intro f hf; cases hf
    |cons f0 l a4=>
     unfold SU at ac;grind
   refine⟨ys,NR M (fun f y hf J hi=>?_),rfl⟩;grind
  ·rename_i m e hu
   split at h
   case h_2=>cases h
   rename_i ex hex;unfold DataW.trod at E ⊢;rw[hu]at E ⊢;simp only at E ⊢
   split at E
   case isFalse=>cases E
   rename_i hl;rw[if_pos hl];simp only[DG]at E ⊢;obtain⟨ys,M,rfl⟩:=E;refine⟨ys,NR M (fun i y _ J hi=>?_),rfl⟩;grind
  ·cases h
theorem mg(hb:Below W.heap.size W W'){n:Nat}:∀ (I:List TypeId) (tys:List Ty) (vs:List Value) (ds:List (DataW H)) (ps:List MemPlace),I.mapM (Gn P n)=some tys→DataW.TrodAll enc P W 0 (fun _=>true) true I vs ds ps→
  ∀ E:Nat→Bool,(∀ p∈ps,E p.block=true)→DataW.TrodAll enc P W' 0 E true I vs ds ps
 |[],_,[],[],ps,_,h=>fun _ _=>h
 |t::I,tys,v::vs,d::ds,ps,O,h=>by
  intro E J;simp only[Bz,Bt,Ay,BH,Db]at O;obtain⟨ty,U,M,V,rfl⟩:=O;obtain⟨p,q,⟨fuel,Y⟩,h4,rfl⟩:=h;exact⟨p,q,⟨fuel,tu hb n t ty U fuel _ _ Y E (fun x N=>J x (by simp[N]))⟩,mg hb I M vs ds q V h4 E (fun x N=>J x (by simp[N])),rfl⟩
 |[],_,_::_,_,_,_,h=>by cases h
 |[],_,[],_::_,_,_,h=>by cases h
 |_::_,_,[],_,_,_,h=>by cases h
 |_::_,_,_::_,[],_,_,h=>by cases h
theorem yZr{sp:Nat→Bool}{t:TypeId}{ty:Ty}{d:DataW H}{ps:List MemPlace}(E:Gn P n t=some ty)(hv:Value.okWide P W .any 0 t v)(h:DataW.Trod enc P W 0 sp true t v d ps) :
  ∃ x,Has ty x∧(RepV W (KW W) [] x v∧purA x=true)∧wt x≤blk d:=by
 obtain⟨fuel,h⟩:=h;obtain⟨x,J,M,h3,h4,Y⟩:=pP n t ty E fuel _ _ h;refine⟨x,J,?_,Y⟩
 have I:(∀ cs,v≠.agg cs)→x.pure1=true→RepV W (KW W) [] x v∧purA x=true:=by
  intro U O;have V:v.cells=#[v]:=by cases v <;> first | rfl | exact absurd rfl (U _)
  rw[YW O,V]at M;refine⟨M.2.1 0 x v rfl rfl,?_⟩;cases x <;> first | exact O | (simp[D.pure1]at O; done)
 have N:∀ cs l,v=.agg cs→x=.agg l→RepV W (KW W) [] x v∧purA x=true:=by
  intro cs l e1 e2;subst e1; subst e2;refine⟨?_,?_⟩
  ·have:=RepV.agg (w:=W) (g:=KW W) (st:=[]) l cs.toList (by simpa[D.cells,Value.cells]using M.1) (fun i d u hd hu=>M.2.1 i d u hd (by simpa[Value.cells]using hu));omega
  ·simp only[purA,Ak];exact M.2.2
 unfold Value.okWide at hv
 cases n with
 |zero=>simp[Gn]at E
 |succ n=>
 unfold Gn at E
 split at E
 ·rename_i hu;simp only[Db]at E; subst E;cases J;exact I (fun cs e=>by subst e; simp[hu,Cell.okWide,Cell.ok]at hv) rfl
 ·rename_i k hu;simp only[Db]at E; subst E;cases J;exact I (fun cs e=>by subst e; simp[hu,Cell.okWide,Cell.ok]at hv) rfl
 ·rename_i hu;simp only[Db]at E; subst E;cases J;exact I (fun cs e=>by subst e; simp[hu,Cell.okWide,Cell.ok]at hv) rfl
 ·rename_i e hu
  split at E
  case h_2=>
   split at E
   case isFalse=>cases E
   simp only[Db]at E; subst E;cases J;exact I (fun cs e=>by subst e; simp[hu,Cell.okWide,Cell.ok]at hv) rfl
  split at E
  case isFalse=>cases E
  simp only[Db]at E; subst E;cases J;exact I (fun cs e=>by subst e; simp[hu,Cell.okWide,Cell.ok]at hv) rfl
 ·rename_i fs hu
  split at E
  case h_2=>cases E
  split at E
  case isFalse=>cases E
  simp only[Db]at E; subst E;simp only[hu]at hv;obtain⟨cs,rfl,_,_⟩:=hv
  cases J with
  |agg _ xs _ _=>exact N cs _ rfl rfl
 ·rename_i m e hu
  split at E
  case h_2=>cases E
  split at E
  case isFalse=>cases E
  simp only[Db]at E; subst E;simp only[hu]at hv;obtain⟨cs,rfl,_,_⟩:=hv
  cases J with
  |agg _ xs _ _=>exact N cs _ rfl rfl
 ·cases E
inductive HasAll:List Ty→List D→Prop
 |nil:HasAll [] []
 |cons {t:Ty} {ts:List Ty} {x:D} {xs:List D}:Has t x→HasAll ts xs→HasAll (t::ts) (x::xs)
theorem rY{sp:Nat→Bool}{n:Nat}:∀ (I:List TypeId) (tys:List Ty) (vs:List Value) (ds:List (DataW H)) (ps:List MemPlace),I.mapM (Gn P n)=some tys→(∀ (j:Nat) t v,I[j]?=some t→vs[j]?=some v→Value.okWide P W .any 0 t v)→DataW.TrodAll enc P W 0 sp true I vs ds ps→
  ∃ xs,HasAll tys xs∧xs.length=vs.length∧(∀ (i:Nat) d v,xs[i]?=some d→vs[i]?=some v→RepV W (KW W) [] d v)∧(∀ d∈xs,purA d=true)∧Hq xs≤Gt ds
 |[],tys,[],[],ps,E,_,_=>by
  simp at E; subst E;exact⟨[],.nil,rfl,fun i d v h=>by simp at h,(fun d h=>by cases h),by simp[Hq]⟩
 |t::I,tys,v::vs,d::ds,ps,E,hv,h=>by
  simp only[Bz,Bt,Ay,BH,Db]at E;obtain⟨ty,N,J,O,rfl⟩:=E;obtain⟨p,q,U,V,rfl⟩:=h;obtain⟨x,Y,⟨x2,x3⟩,x5⟩:=yZr N (hv 0 t v rfl rfl) U;obtain⟨xs,y1,y2,y3,y4,y5⟩:=rY I J vs ds q O (fun j t v E M=>hv (j+1) t v (by simpa using E) (by simpa using M)) V;refine⟨x::xs,.cons Y y1,by simp[y2],?_,?_,?_⟩
  ·grind
  ·grind
  ·simp only[Hq,Gt]; omega
 |[],_,_::_,_,_,_,_,h=>by cases h
 |[],_,[],_::_,_,_,_,h=>by cases h
 |_::_,_,[],_,_,_,_,h=>by cases h
 |_::_,_,_::_,[],_,_,_,h=>by cases h
theorem yJf{K N:Nat}(hC:Contract P G K sp)(M:fn.params.toList.mapM (Gn P n)=some tys)(E:s.vars=[])
  (I:∃ tb,fn.resultTypes=#[tb]∧P.underlying tb=some .bool)
  (ab:∀ (H:Type) (ds:List (DataW H)),ds.length=fn.params.size→(s.fn H ds).results=[.lit (.bool true)]∧(s.fn H ds).args=ds∧(s.fn H ds).vars=[])
  (ac:∀ xs,HasAll tys xs→Hq xs≤N→sp xs=some (.bool true))
   {ds U:List (DataW H)}  (hG:GlobOK G W (KW W)) (hN:Gt ds≤N)
  (V:∀ (j:Nat) t v,fn.params[j]?=some t→args[j]?=some v→Value.okWide P W .any 0 t v)
  (hW:DataW.Whole enc P fn.params.toList s.vars false W args.toList ds U before) :
  Calls P K args W fun e W'=>∃ v,e=.returned v∧s.post enc P fn false true false false W args v W':=by
 obtain⟨tb,I,ae⟩:=I;have O:=hW;obtain⟨p,q,Y,hV,rfl,bb,bc⟩:=hW;rw[E]at hV
 have af:U=[]∧q=[]:=by
  cases U with
  |nil=>exact⟨rfl,hV⟩
  |cons a l=>cases hV
 obtain⟨rfl,rfl⟩:=af;obtain⟨xs,x1,x2,x3,x4,x5⟩:=rY fn.params.toList tys args.toList ds p M (fun j t v ht hv=>V j t v (by simpa using ht) (by simpa using hv)) Y
 have hlen:∀ (J:List TypeId) (vs:List Value) (ds:List (DataW H)) (ps:List MemPlace),DataW.TrodAll enc P W 0 (fun _=>true) true J vs ds ps→ds.length=J.length:=by
  intro J
  induction J with
  |nil=>intro vs ds ps h; cases vs <;> cases ds <;> first | rfl | cases h
  |cons t J ih=>
   intro vs ds ps h
   cases vs with
   |nil=>cases h
   |cons v vs=>
    cases ds with
    |nil=>cases h
    |cons d ds=>
     obtain⟨_,_,_,h4,_⟩:=h;grind
 have ah:ds.length=fn.params.size:=by simpa using hlen _ _ _ _ Y
 have hc:=hC W (KW W) xs args.toList (.bool true) (ac xs x1 (AT x5 hN)) hG (fun b o h=>h) x2 x3 x4;rw[BG]at hc;refine hc.mono ?_;rintro e W' ⟨v,g',rfl,h1,_,_,_,_,hb⟩;have hv:=L3 h1;subst hv;obtain⟨f1,f2,f3⟩:=ab H ds ah;refine⟨_,rfl,ds,[],p++[],[],p,[],O,?_,?_,?_,?_,fun h=>by cases h⟩
 ·rw[Ad,f1,I];exact⟨[],[],⟨1,by unfold DataW.trod; simp[ae,Value.cells]⟩,rfl,rfl⟩
 ·rw[Ad,f2];refine mg hb _ tys _ _ _ M Y _ fun x hx=>?_;simpa using O.lt x (by simpa using hx)
 ·rw[Ad,f3,E];rfl
 ·refine⟨hb.os,hb.output,fun i hi=>?_⟩;rw[hb.block i hi];grind
theorem law_contract{K:Nat}(V:Contract P G K sp)(J:fn.params.toList.mapM (Gn P n)=some tys)(E:s.vars=[])
  (M:∃ tb,fn.resultTypes=#[tb]∧P.underlying tb=some .bool)
  (O:∀ (H:Type) (ds:List (DataW H)),ds.length=fn.params.size→(s.fn H ds).results=[.lit (.bool true)]∧(s.fn H ds).args=ds∧(s.fn H ds).vars=[])
  (U:∀ xs,HasAll tys xs→sp xs=some (.bool true))
   {ds Y:List (DataW H)}  (hG:GlobOK G W (KW W))
  (I:∀ (j:Nat) t v,fn.params[j]?=some t→args[j]?=some v→Value.okWide P W .any 0 t v)
  (hW:DataW.Whole enc P fn.params.toList s.vars false W args.toList ds Y before) :
  Calls P K args W fun e W'=>∃ v,e=.returned v∧s.post enc P fn false true false false W args v W':=
 yJf (N:=Gt ds) V J E M O (fun xs h _=>U xs h) hG (AD _) I hW
def Rl(g:Nat)(k:IntKind)(zs:List Int):Dj:=fun n=>if n=g then some (.agg (zs.map fun z=>.int k z))else none
theorem Yu3{I:String}{k:IntKind}{zs:List Int}{g:Nat}(h:Lib.TabIs P W I k zs)(N:P.globalNamed I=some g):GlobOK (Rl g k zs) W (KW W):=by
 intro n d E;simp only[Rl,As,Db]at E;obtain⟨rfl,rfl⟩:=E
 have hj:∀ (j:Nat) (d:D),(D.agg (zs.map fun z=>D.int k z)).cells[j]?=some d→d=.int k (zs.getD j 0)∧W.cell? ⟨n,j,none⟩=some (.int k (zs.getD j 0)):=by
  intro j d E;simp only[D.cells,AJ,DG]at E;obtain⟨z,J,rfl⟩:=E;have M:j<zs.length:=(Ac.1 J).1;exact⟨by simp[Al,J],h.cell N j M⟩
 refine .eptr _ 0 n 0 (fun j=>.int k (zs.getD j 0)) (fun j d E=>?_) (fun j d E=>?_) (fun j d E=>?_)
 ·rw[(hj j d E).1]; rfl
 ·have:=(hj j d E).2;rw[An];exact⟨by show(W.cell? ⟨n,j,none⟩).isSome=true; rw[this]; rfl,this⟩
 ·rw[(hj j d E).1]; exact .int _ _
end
end Go.Proofs.YtijnglngaogdjaaGreatDoor.PI
namespace Go.Proofs.YtijnglngaogdjaaGreatDoor.PI
open Go
def wD(x:UInt32):D:=.int .u32 (x.toNat:Int)
def qD(x:UInt64):D:=.int .u64 (x.toNat:Int)
theorem Yzp{n:Nat}(m:Nat):CR n (m:Int)=BitVec.ofNat n m:=BitVec.ofInt_natCast ..
theorem Sb(n:Nat):IntKind.wrap .u32 (n:Int)=((n % 2 ^ 32:Nat):Int):=by
 rfl
theorem TU(n:Nat):IntKind.wrap .u64 (n:Int)=((n % 2 ^ 64:Nat):Int):=by
 rfl
theorem cY(n:Nat):IntKind.wrap .u8 (n:Int)=((n % 2 ^ 8:Nat):Int):=by
 rfl
theorem kr(x y:UInt32):Dp .add (wD x) (wD y)=some (wD (x+y)):=by
 rfl
theorem Xr(x:UInt32):CR 32 (x.toNat:Int)=x.toBitVec:=by
 simp_all
theorem dD(x:UInt32):x.toNat % 2 ^ 32=x.toNat:=A7 x.toNat_lt
theorem Xw(x y:UInt32):Dp .and (wD x) (wD y)=some (wD (x &&& y)):=by
 have h:(CR (IntKind.bits .u32) (x.toNat:Int) &&& CR (IntKind.bits .u32) (y.toNat:Int)).toNat=(x &&& y).toNat:=by
  show(CR 32 (x.toNat:Int) &&& CR 32 (y.toNat:Int)).toNat=_
  simp_all
 simp only[Dp,wD,if_true,K5,Ag,h,Sb,dD]
theorem Wb(x y:UInt32):Dp .or (wD x) (wD y)=some (wD (x ||| y)):=by
 have h:(CR (IntKind.bits .u32) (x.toNat:Int) ||| CR (IntKind.bits .u32) (y.toNat:Int)).toNat=(x ||| y).toNat:=by
  show(CR 32 (x.toNat:Int) ||| CR 32 (y.toNat:Int)).toNat=_
  simp_all
 simp only[Dp,wD,if_true,K5,Ag,h,Sb,dD]
theorem uV(x y:UInt32):Dp .xor (wD x) (wD y)=some (wD (x ^^^ y)):=by
 have h:(CR (IntKind.bits .u32) (x.toNat:Int) ^^^ CR (IntKind.bits .u32) (y.toNat:Int)).toNat=(x ^^^ y).toNat:=by
  show(CR 32 (x.toNat:Int) ^^^ CR 32 (y.toNat:Int)).toNat=_
  simp_all
 simp only[Dp,wD,if_true,K5,Ag,h,Sb,dD]
theorem Wg(x:UInt32):Ns .xor (wD x)=some (wD (~~~x)):=by
 have E:(IntKind.max .u32)=((4294967295:UInt32).toNat:Int):=by decide
 have h:(CR (IntKind.bits .u32) ((4294967295:UInt32).toNat:Int) ^^^ CR (IntKind.bits .u32) (x.toNat:Int)).toNat=(~~~x).toNat:=by
  show(CR 32 ((4294967295:UInt32).toNat:Int) ^^^ CR 32 (x.toNat:Int)).toNat=_
  rw[Xr,Xr,show(4294967295:UInt32).toBitVec=BitVec.allOnes 32 from rfl,BitVec.allOnes_xor];rfl
 simp only[Ns,wD,K5,Ag,show IntKind.signed .u32=false from rfl,Ao,if_false,E,h,Sb,dD]
theorem Yvu(st:St)(b:UInt8):FD st (.int .u32) (Dl b)=some (wD b.toUInt32):=by
 simp only[FD,Dl,wD,Sb,UInt8.toNat_toUInt32];simp_all
theorem Yvs(st:St)(x:UInt32):FD st (.int .u8) (wD x)=some (Dl x.toUInt8):=by
 rfl
theorem Yvt(st:St)(x:UInt64):FD st (.int .u8) (qD x)=some (Dl x.toUInt8):=by
 rfl
theorem uR(x:UInt32)(k:IntKind)(n:Nat)(h:n<32):Dp .shl (wD x) (.int k (n:Int))=some (wD (x <<< (UInt32.ofNat n))):=by
 have e:(x <<< (UInt32.ofNat n)).toNat=x.toNat*2 ^ n % 2 ^ 32:=by
  rw[UInt32.toNat_shiftLeft,Nat.shiftLeft_eq,UInt32.toNat_ofNat',A7 (show n<2 ^ 32 by omega),A7 h]
 have E:((x.toNat:Int)*2 ^ n)=((x.toNat*2 ^ n:Nat):Int):=by push_cast; rfl
 simp only[Dp,wD,Mz,show ¬ ((n:Int)<0) by omega,if_false,Ag,Be,show IntKind.bits .u32=32 from rfl,B8 (Cs h),E,Sb,e]
theorem uT(x:UInt32)(k:IntKind)(n:Nat)(h:n<32):Dp .shr (wD x) (.int k (n:Int))=some (wD (x >>> (UInt32.ofNat n))):=by
 have e:(x >>> (UInt32.ofNat n)).toNat=x.toNat / 2 ^ n:=by
  rw[UInt32.toNat_shiftRight,Nat.shiftRight_eq_div_pow,UInt32.toNat_ofNat',A7 (show n<2 ^ 32 by omega),A7 h]
 have E:(x.toNat:Int).fdiv (2 ^ n)=((x.toNat / 2 ^ n:Nat):Int):=by
  grind
 simp only[Dp,wD,Mz,show ¬ ((n:Int)<0) by omega,if_false,Ag,Be,show IntKind.bits .u32=32 from rfl,B8 (Cs h),E,e]
theorem uh(x:UInt64)(k:IntKind)(n:Nat)(h:n<64):Dp .shl (qD x) (.int k (n:Int))=some (qD (x <<< (C7 n))):=by
 have e:(x <<< (C7 n)).toNat=x.toNat*2 ^ n % 2 ^ 64:=by
  rw[UInt64.toNat_shiftLeft,Nat.shiftLeft_eq,UInt64.toNat_ofNat',A7 (show n<2 ^ 64 by omega),A7 h]
 have E:((x.toNat:Int)*2 ^ n)=((x.toNat*2 ^ n:Nat):Int):=by push_cast; rfl
 simp only[Dp,qD,Mz,show ¬ ((n:Int)<0) by omega,if_false,Ag,Be,show IntKind.bits .u64=64 from rfl,B8 (Cs h),E,TU,e]
theorem V5(x:UInt64)(k:IntKind)(n:Nat)(h:n<64):Dp .shr (qD x) (.int k (n:Int))=some (qD (x >>> (C7 n))):=by
 have e:(x >>> (C7 n)).toNat=x.toNat / 2 ^ n:=by
  rw[UInt64.toNat_shiftRight,Nat.shiftRight_eq_div_pow,UInt64.toNat_ofNat',A7 (show n<2 ^ 64 by omega),A7 h]
 have E:(x.toNat:Int).fdiv (2 ^ n)=((x.toNat / 2 ^ n:Nat):Int):=by
  grind
 simp only[Dp,qD,Mz,show ¬ ((n:Int)<0) by omega,if_false,Ag,Be,show IntKind.bits .u64=64 from rfl,B8 (Cs h),E,e]
variable {n:Int}
theorem OE(E:-9223372036854775808≤n)(I:n<9223372036854775808):IntKind.wrap .i64 n=n:=by
 show(if(true && decide (n % (2 ^ 64:Int) ≥ (2 ^ (64 - 1):Int)))=true then n % (2 ^ 64:Int) - (2 ^ 64:Int)else n % (2 ^ 64:Int))=n
 grind
variable {a:Int}
theorem DN{b:Int}(E:-9223372036854775808≤a+b)(I:a+b<9223372036854775808):Dp .add (.int .i64 a) (.int .i64 b)=some (.int .i64 (a+b)):=by
 simp only[Dp,if_true,KX,Ag,OE E I]
theorem E1{b:Int}(E:-9223372036854775808≤a - b)(I:a - b<9223372036854775808):Dp .sub (.int .i64 a) (.int .i64 b)=some (.int .i64 (a - b)):=by
 simp only[Dp,if_true,KX,Ag,OE E I]
theorem NX{b:Int}(E:-9223372036854775808≤a*b)(I:a*b<9223372036854775808):Dp .mul (.int .i64 a) (.int .i64 b)=some (.int .i64 (a*b)):=by
 simp only[Dp,if_true,KX,Ag,OE E I]
class Cont (α:Type):Type where
 mk::
 run:α→Prop
class Cont2 (α β:Type):Type where
 mk::
 run:α→β→Prop
class QC:Type where
 mk::
 run:Ex→Frame→St→Prop
class InvC:Type where
 mk::
 run:PS→Prop
class Br:Type where
 mk::
 run:Prop
def on{α:Type}(o:Option α)[k:Cont α]:Prop:=match o with
 |some a=>k.run a
 |none=>False
variable {α:Type}
theorem xI(a:α)(K:α→Prop):@on α (some a) ⟨K⟩=K a:=(rfl)
theorem Ysv(k:Cont α):@on α none k=False:=(rfl)
def Tq(d:D)[k:Cont Bool]:Prop:=match d with
 |.bool b=>k.run b
 |_=>False
theorem Ykz(b:Bool)(K:Bool→Prop):@Tq (.bool b) ⟨K⟩=K b:=(rfl)
def HF(b:Bool)[x:Br][y:Br]:Prop:=if b=true then x.run else y.run
theorem Ymd(x:Prop)(y:Br):@HF true ⟨x⟩ y=x:=(rfl)
theorem Yeg(x:Br)(y:Prop):@HF false x ⟨y⟩=y:=(rfl)
theorem Yuf(b:Bool)(x y:Br):@HF (!b) x y=@HF b y x:=by cases b <;> rfl
variable {y:Prop}
theorem EU{p:Prop}[Decidable p]{x:Prop}(E:p→x)(I:¬ p→y):@HF (decide p) ⟨x⟩ ⟨y⟩:=by
 by_cases h:p
 ·rw[show decide p=true by simpa using h]; exact E h
 ·rw[show decide p=false by simpa using h]; exact I h
def ev(d:D)[k:Cont D]:Prop:=k.run d
theorem Xa(d:D)(K:D→Prop):@ev d ⟨K⟩=K d:=(rfl)
def Qj(d:D)(st:St)[k:Cont2 D St]:Prop:=k.run d st
theorem YBt(d:D)(st:St)(K:D→St→Prop):@Qj d st ⟨K⟩=K d st:=(rfl)
def Fh(T:Tbl)(op:POp)(ρ:PA→D)(st:St)(K:D→St→Prop):Prop:=@on _ (op.exec T ρ st) ⟨fun p=>K p.1 p.2⟩
def kG(fr:Frame)(g:Option (Nat×Bool))(x y:Prop):Prop:=match g with
 |none=>x
 |some (s,want)=>match fr s with
  |.bool b=>@HF (b == want) ⟨x⟩ ⟨y⟩
  |.tup []=>y
  |_=>False
def Gq(G:Dj)(T:Tbl):List PI→Frame→St→(Frame→St→Prop)→Prop
 |[],fr,st,K=>K fr st
 |i::l,fr,st,K=>kG fr i.guard (Fh T i.op (Dq G fr) st fun d st'=>Gq G T l (fr.put i.dst d) st' K) (Gq G T l (fr.put i.dst (.tup [])) st K)
theorem Us{G:Dj}{T:Tbl}:∀ (l:List PI) (fr:Frame) (st:St) (K:Frame→St→Prop),Gq G T l fr st K→∃ E st',E6 G T l ⟨fr,st⟩=some ⟨E,st'⟩∧K E st'
 |[],fr,st,K,h=>⟨fr,st,rfl,h⟩
 |i::l,fr,st,K,h=>by
  have yes:Fh T i.op (Dq G fr) st (fun d st'=>Gq G T l (fr.put i.dst d) st' K)→i.wanted fr=some true→∃ E st',E6 G T (i::l) ⟨fr,st⟩=some ⟨E,st'⟩∧K E st':=by
   intro h hw;unfold Fh on at h
   split at h
   ·rename_i p O;obtain⟨E,st',M,N⟩:=Us l _ _ K h;exact⟨E,st',by simp only[E6,PI.exec,hw,O,M],N⟩
   ·exact h.elim
  have no:Gq G T l (fr.put i.dst (.tup [])) st K→i.wanted fr=some false→∃ E st',E6 G T (i::l) ⟨fr,st⟩=some ⟨E,st'⟩∧K E st':=by
   intro h hw;obtain⟨E,st',M,N⟩:=Us l _ _ K h;exact⟨E,st',by simp only[E6,PI.exec,hw,M],N⟩
  rw[Gq]at h;unfold kG at h
  split at h
  ·rename_i I;exact yes h (by simp[PI.wanted,I])
  ·rename_i s want I
   split at h
   ·rename_i b hb;have hw:i.wanted fr=some (b == want):=by simp[PI.wanted,I,hb]
    cases J:(b == want)with
    |true=>rw[J]at h hw; exact yes h hw
    |false=>rw[J]at h hw; exact no h hw
   ·rename_i hb;exact no h (by simp[PI.wanted,I,hb])
   ·exact h.elim
def Jl(T:Tbl)(op:POp)(ρ:PA→D)(st:St)(K:D→St→Prop)(X:Nat→D→St→Prop):Prop:=match op.exec T ρ st with
 |some p=>K p.1 p.2
 |none=>match op.execX T ρ st with
  |some r=>X r.1 r.2.1 r.2.2
  |none=>False
def Mq(G:Dj)(T:Tbl):List PI→Frame→St→(Frame→St→Prop)→(Nat→D→Frame→St→Prop)→Prop
 |[],fr,st,K,_=>K fr st
 |i::l,fr,st,K,X=>kG fr i.guard (Jl T i.op (Dq G fr) st (fun d st'=>Mq G T l (fr.put i.dst d) st' K X) (fun t d st'=>X t d fr st')) (Mq G T l (fr.put i.dst (.tup [])) st K X)
theorem eH{G:Dj}{T:Tbl}:∀ (l:List PI) (fr:Frame) (st:St) (K:Frame→St→Prop) (X:Nat→D→Frame→St→Prop),Mq G T l fr st K X→
  (∃ E st',E6 G T l ⟨fr,st⟩=some ⟨E,st'⟩∧K E st')∨∃ t d E st',E6 G T l ⟨fr,st⟩=none∧J7 G T l ⟨fr,st⟩=some (t,d,⟨E,st'⟩)∧X t d E st'
 |[],fr,st,K,X,h=>.inl ⟨fr,st,rfl,h⟩
 |i::l,fr,st,K,X,h=>by
  have yes:Jl T i.op (Dq G fr) st (fun d st'=>Mq G T l (fr.put i.dst d) st' K X) (fun t d st'=>X t d fr st')→i.wanted fr=some true→
    (∃ E st',E6 G T (i::l) ⟨fr,st⟩=some ⟨E,st'⟩∧K E st')∨∃ t d E st',E6 G T (i::l) ⟨fr,st⟩=none∧J7 G T (i::l) ⟨fr,st⟩=some (t,d,⟨E,st'⟩)∧X t d E st':=by
   intro h hw;unfold Jl at h
   split at h
   ·rename_i p O;rcases eH l _ _ K X h with⟨E,st',I,J⟩ | ⟨t,d,E,st',I,J,U⟩
    ·exact .inl ⟨E,st',by simp only[E6,PI.exec,hw,O,I],J⟩
    ·exact .inr ⟨t,d,E,st',by simp only[E6,PI.exec,hw,O,I],by simp only[J7,PI.exec,hw,O,J],U⟩
   ·rename_i hn
    split at h
    ·rename_i r V;exact .inr ⟨r.1,r.2.1,fr,r.2.2,by simp only[E6,PI.exec,hw,hn],by simp only[J7,PI.exec,PI.execX,hw,hn,V,Ag],h⟩
    ·exact h.elim
  have no:Mq G T l (fr.put i.dst (.tup [])) st K X→i.wanted fr=some false→
    (∃ E st',E6 G T (i::l) ⟨fr,st⟩=some ⟨E,st'⟩∧K E st')∨∃ t d E st',E6 G T (i::l) ⟨fr,st⟩=none∧J7 G T (i::l) ⟨fr,st⟩=some (t,d,⟨E,st'⟩)∧X t d E st':=by
   intro h hw;rcases eH l _ _ K X h with⟨E,st',I,J⟩ | ⟨t,d,E,st',I,J,U⟩
   ·exact .inl ⟨E,st',by simp only[E6,PI.exec,hw,I],J⟩
   ·exact .inr ⟨t,d,E,st',by simp only[E6,PI.exec,hw,I],by simp only[J7,PI.exec,hw,J],U⟩
  rw[Mq]at h;unfold kG at h
  split at h
  ·rename_i M;exact yes h (by simp[PI.wanted,M])
  ·rename_i s want M
   split at h
   ·rename_i b hb;have hw:i.wanted fr=some (b == want):=by simp[PI.wanted,M,hb]
    cases N:(b == want)with
    |true=>rw[N]at h hw; exact yes h hw
    |false=>rw[N]at h hw; exact no h hw
   ·rename_i hb;exact no h (by simp[PI.wanted,M,hb])
   ·exact h.elim
variable {X:Nat→D→St→Prop}{st:St}{T:Tbl}
theorem Ydy{op:POp}{ρ:PA→D}{K E:D→St→Prop}{I:Nat→D→St→Prop}(h:Jl T op ρ st K X)(hk:∀ d st,K d st→E d st)(J:∀ t d st,X t d st→I t d st):Jl T op ρ st E I:=by
 unfold Jl at h ⊢;grind
variable {fr:Frame}
theorem Yt5{g:Option (Nat×Bool)}{x E I:Prop}(h:kG fr g x y)(J:x→E)(M:y→I):kG fr g E I:=by
 unfold kG at h ⊢
 revert h
 split
 ·exact J
 ·split
  ·unfold HF;grind
  ·exact M
  ·exact id
theorem dU{G:Dj}{T:Tbl}:∀ (l:List PI) (fr:Frame) (st:St) (K E:Frame→St→Prop) (X I:Nat→D→Frame→St→Prop),Mq G T l fr st K X→(∀ fr st,K fr st→E fr st)→(∀ t d fr st,X t d fr st→I t d fr st)→Mq G T l fr st E I
 |[],_,_,_,_,_,_,h,hk,_=>hk _ _ h
 |i::l,fr,st,K,E,X,I,h,hk,J=>by
  rw[Mq]at h ⊢;exact Yt5 h (fun h=>Ydy h (fun _ _ h=>dU l _ _ _ _ _ _ h hk J) fun _ _ _ h=>J _ _ _ _ h) fun h=>dU l _ _ _ _ _ _ h hk J
class XC:Type where
 mk::
 run:Nat→D→Frame→St→Prop
class XC0:Type where
 mk::
 run:Nat→D→St→Prop
def Qc(G:Dj)(T:Tbl)(l:List PI)(fr:Frame)(st:St)[K:Cont2 Frame St][X:XC]:Prop:=Mq G T l fr st K.run X.run
def JN(T:Tbl)(op:POp)(ρ:PA→D)(st:St)[K:Cont2 D St][X:XC0]:Prop:=Jl T op ρ st K.run X.run
theorem yZp(G:Dj)(T:Tbl)(fr:Frame)(st:St)(K:Frame→St→Prop)(X:XC):@Qc G T [] fr st ⟨K⟩ X=K fr st:=(rfl)
def Tp(o:Option (D×St))(p:Option (Nat×D×St))[K:Cont2 D St][X:XC0]:Prop:=match o with
 |some r=>K.run r.1 r.2
 |none=>match p with
  |some r=>X.run r.1 r.2.1 r.2.2
  |none=>False
theorem Yky(d:D)(st:St)(p:Option (Nat×D×St))(K:D→St→Prop)(X:XC0):@Tp (some (d,st)) p ⟨K⟩ X=K d st:=(rfl)
theorem Ycp(t:Nat)(d:D)(st:St)(K:Cont2 D St)(X:Nat→D→St→Prop):@Tp none (some (t,d,st)) K ⟨X⟩=X t d st:=(rfl)
def XN(o:Option (List D→St→Option (D×St)))(ds:List D)(st:St):Option (D×St):=match o with
 |some sp=>sp ds st
 |none=>none
theorem yW2(sp:List D→St→Option (D×St))(ds:List D)(st:St):XN (some sp) ds st=sp ds st:=(rfl)
theorem yW3(ds:List D)(st:St):XN none ds st=none:=(rfl)
def XO(o:Option (List D→St→Option (Nat×D×St)))(ds:List D)(st:St):Option (Nat×D×St):=match o with
 |some sp=>sp ds st
 |none=>none
theorem yW0(sp:List D→St→Option (Nat×D×St))(ds:List D)(st:St):XO (some sp) ds st=sp ds st:=(rfl)
theorem yW1(ds:List D)(st:St):XO none ds st=none:=(rfl)
theorem yVg(T:Tbl)(f:Nat)(args:List PA)(ρ:PA→D)(st:St)(K:Cont2 D St)(X:XC0):@JN T (.icall f args) ρ st K X=@Tp (XN (T.i f) (args.map ρ) st) (XO (T.x f) (args.map ρ) st) K X:=by
 rfl
def Pf(d:D)(ds:List D):Option (Nat×List D):=match d with
 |.clo f caps=>if f<5000000 then some (f,ds++caps)else if f<10000000 then some (f - 5000000,caps++ds)else none
 |_=>none
theorem YD(T:Tbl)(x:PA)(args:List PA)(ρ:PA→D)(st:St)(K:Cont2 D St)(X:XC0)(f:Nat)(ds:List D)(h:Pf (ρ x) (args.map ρ)=some (f,ds)):@JN T (.callv x args) ρ st K X=@Tp (XN (T.i f) ds st) (XO (T.x f) ds st) K X:=by
 simp only[JN,Jl,POp.exec,Tp,XN,XO,POp.execX,POp.callee];unfold Pf at h;grind
def POp.tame:POp→Bool
 |.icall _ _ | .callv _ _=>false
 |_=>true
theorem yZq(T:Tbl)(op:POp)(ρ:PA→D)(st:St)(K:Cont2 D St)(X:XC0)(h:op.tame=true):@JN T op ρ st K X=Fh T op ρ st K.run:=by
 have:op.execX T ρ st=none:=by
  cases op <;> first | rfl | (simp[POp.tame]at h; done)
 simp only[JN,Jl,Fh,on,this];grind
def kF(fs:List (Option Foot))(b:Bool)(cs:List Nat)(f:Option Foot)(K:List (Option Foot)→Prop):Prop:=@HF (N3 fs f cs) ⟨K (fs++[if b then f else none])⟩ ⟨False⟩
variable {f:Option Foot}{cs:List Nat}{fs:List (Option Foot)}
theorem fM{b:Bool}{K:List (Option Foot)→Prop}(h:kF fs b cs f K):N3 fs f cs=true∧K (fs++[if b then f else none]):=by
 unfold kF HF at h;grind
theorem xw{b:Bool}{K E:List (Option Foot)→Prop}(h:kF fs b cs f K)(hk:∀ fs,K fs→E fs):kF fs b cs f E:=by
 obtain⟨I,J⟩:=fM h;unfold kF HF;grind
def Gd(G:Dj)(T:Tbl):List (PI×Bool×List Nat)→List (Option Foot)→Frame→St→(Frame→St→Prop)→Prop
 |[],_,fr,st,K=>K fr st
 |i::l,fs,fr,st,K=>kG fr i.1.guard (kF fs i.2.1 i.2.2 (i.1.op.foot (Dq G fr) st) fun fs'=>Fh T i.1.op (Dq G fr) st fun d st'=>Gd G T l fs' (fr.put i.1.dst d) st' K)
   (kF fs i.2.1 i.2.2 (some Pn) fun fs'=>Gd G T l fs' (fr.put i.1.dst (.tup [])) st K)
theorem Ur{G:Dj}{T:Tbl}:∀ (l:List (PI×Bool×List Nat)) (fs:List (Option Foot)) (fr:Frame) (st:St) (K:Frame→St→Prop),Gd G T l fs fr st K→∃ E st',Hn G T l fs ⟨fr,st⟩=some ⟨E,st'⟩∧K E st'
 |[],_,fr,st,K,h=>⟨fr,st,rfl,h⟩
 |(i,b,cs)::l,fs,fr,st,K,h=>by
  have yes:kF fs b cs (i.op.foot (Dq G fr) st) (fun J=>Fh T i.op (Dq G fr) st fun d st'=>Gd G T l J (fr.put i.dst d) st' K)→i.wanted fr=some true→∃ E st',Hn G T ((i,b,cs)::l) fs ⟨fr,st⟩=some ⟨E,st'⟩∧K E st':=by
   intro h hw;obtain⟨N,h⟩:=fM h;unfold Fh on at h
   split at h
   ·rename_i p Y;obtain⟨E,st',O,U⟩:=Ur l _ _ _ K h;have hf:i.foot G ⟨fr,st⟩=i.op.foot (Dq G fr) st:=by simp[PI.foot,hw]
    have V:i.exec G T ⟨fr,st⟩=some ⟨fr.put i.dst p.1,p.2⟩:=by simp only[PI.exec,hw,Y]
    exact⟨E,st',by simp only[Hn,hf,N,if_true,V,O],U⟩
   ·exact h.elim
  have no:kF fs b cs (some Pn) (fun J=>Gd G T l J (fr.put i.dst (.tup [])) st K)→i.wanted fr=some false→∃ E st',Hn G T ((i,b,cs)::l) fs ⟨fr,st⟩=some ⟨E,st'⟩∧K E st':=by
   intro h hw;obtain⟨N,h⟩:=fM h;obtain⟨E,st',O,U⟩:=Ur l _ _ _ K h;have hf:i.foot G ⟨fr,st⟩=some Pn:=by simp[PI.foot,hw]
   have V:i.exec G T ⟨fr,st⟩=some ⟨fr.put i.dst (.tup []),st⟩:=by simp only[PI.exec,hw]
   exact⟨E,st',by simp only[Hn,hf,N,if_true,V,O],U⟩
  rw[Gd]at h;unfold kG at h
  split at h
  ·rename_i I;exact yes h (by simp only at I; simp[PI.wanted,I])
  ·rename_i s want I;simp only at I
   split at h
   ·rename_i b hb;have hw:i.wanted fr=some (b == want):=by simp[PI.wanted,I,hb]
    cases M:(b == want)with
    |true=>rw[M]at h hw; exact yes h hw
    |false=>rw[M]at h hw; exact no h hw
   ·rename_i hb;exact no h (by simp[PI.wanted,I,hb])
   ·exact h.elim
theorem Ua{G:Dj}{T:Tbl}:∀ (l:List (PI×Bool×List Nat)) (fs:List (Option Foot)) (fr:Frame) (st:St) (K I:Frame→St→Prop),Gd G T l fs fr st K→(∀ fr st,K fr st→I fr st)→Gd G T l fs fr st I
 |[],_,_,_,_,_,h,hk=>hk _ _ h
 |i::l,fs,fr,st,K,I,h,hk=>by
  have J:kF fs i.2.1 i.2.2 (i.1.op.foot (Dq G fr) st) (fun E=>Fh T i.1.op (Dq G fr) st fun d st'=>Gd G T l E (fr.put i.1.dst d) st' K)→kF fs i.2.1 i.2.2 (i.1.op.foot (Dq G fr) st) (fun E=>Fh T i.1.op (Dq G fr) st fun d st'=>Gd G T l E (fr.put i.1.dst d) st' I):=by
   refine fun h=>xw h fun E=>?_;unfold Fh on
   split
   ·exact fun h=>Ua l _ _ _ _ _ h hk
   ·exact id
  have M:kF fs i.2.1 i.2.2 (some Pn) (fun E=>Gd G T l E (fr.put i.1.dst (.tup [])) st K)→kF fs i.2.1 i.2.2 (some Pn) (fun E=>Gd G T l E (fr.put i.1.dst (.tup [])) st I):=fun h=>xw h fun E h=>Ua l _ _ _ _ _ h hk;rw[Gd]at h ⊢;unfold kG at h ⊢
  revert h
  split
  ·exact J
  ·split
   ·unfold HF;grind
   ·exact M
   ·exact id
class FsC:Type where
 mk::
 run:List (Option Foot)→Prop
def wF(fs:List (Option Foot))(b:Bool)(cs:List Nat)(f:Option Foot)[K:FsC]:Prop:=kF fs b cs f K.run
theorem E3(fs:List (Option Foot))(f:Option Foot)(K:List (Option Foot)→Prop):@wF fs false [] f ⟨K⟩=K (fs++[none]):=(rfl)
def cZ(l:List (Option Foot))[K:FsC]:Prop:=K.run l
theorem YBi(l:List (Option Foot))(K:List (Option Foot)→Prop):@cZ l ⟨K⟩=K l:=(rfl)
theorem Yrb(fs:List (Option Foot))(f:Foot)(K:FsC):@wF fs true [] (some f) K=@cZ (fs++[some f]) K:=(rfl)
theorem Vx(fs:List (Option Foot))(b:Bool)(j:Nat)(cs:List Nat)(f:Foot)(K:FsC):@wF fs b (j::cs) (some f) K=@HF (N3 fs (some f) (j::cs)) ⟨@cZ (fs++[if b then some f else none]) K⟩ ⟨False⟩:=(rfl)
def XV(a b:PS)[k:Cont PS]:Prop:=a=b∧k.run a
theorem yVx(a:PS)(K:PS→Prop):@XV a a ⟨K⟩=K a:=by simp[XV]
def W2(keep:List Nat)(n:Nat)(fr1:Frame)(st1:St)(fr2:Frame)(st2:St)(K:PS→Prop):Prop:=
 @HF (st1.length == n+2 && st2.length == n+2) ⟨@XV (restrictAt keep n [n,n+1] ⟨fr1,st1⟩) (restrictAt keep n [n+1,n] ⟨fr2,st2⟩) ⟨K⟩⟩ ⟨False⟩
variable {st1 st2:St}{fr1 fr2:Frame}{keep:List Nat}
theorem Yw9{n:Nat}{K:PS→Prop}(h:W2 keep n fr1 st1 fr2 st2 K):dE keep n ⟨fr1,st1⟩ ⟨fr2,st2⟩=some (restrictAt keep n [n,n+1] ⟨fr1,st1⟩)∧K (restrictAt keep n [n,n+1] ⟨fr1,st1⟩):=by
 unfold W2 HF at h
 split at h
 ·rename_i hl;simp only[Af,beq_iff_eq]at hl;obtain⟨I,E⟩:=h;refine⟨?_,E⟩;unfold dE;grind
 ·exact h.elim
theorem Yxa{n:Nat}{K E:PS→Prop}(h:W2 keep n fr1 st1 fr2 st2 K)(hk:∀ s,K s→E s):W2 keep n fr1 st1 fr2 st2 E:=by
 unfold W2 HF at h ⊢
 split at h
 ·rename_i hl;rw[if_pos hl];exact⟨h.1,hk _ h.2⟩
 ·exact h.elim
def Jg(G:Dj)(T:Tbl)(l:List (PI×Bool×List Nat))(fs:List (Option Foot))(fr:Frame)(st:St)[K:Cont2 Frame St]:Prop:=Gd G T l fs fr st K.run
def HY(G:Dj)(T:Tbl)(l:List PI)(fr:Frame)(st:St)[K:Cont2 Frame St]:Prop:=Gq G T l fr st K.run
def Ei(T:Tbl)(op:POp)(ρ:PA→D)(st:St)[K:Cont2 D St]:Prop:=Fh T op ρ st K.run
def kV(d:D)(want:Bool)[x:Br][y:Br]:Prop:=match d with
 |.bool b=>@HF (b == want) x y
 |.tup []=>y.run
 |_=>False
theorem Yim(G:Dj)(T:Tbl)(fr:Frame)(st:St)(K:Frame→St→Prop):@HY G T [] fr st ⟨K⟩=K fr st:=(rfl)
theorem yVe(G:Dj)(T:Tbl)(dst:Option Nat)(op:POp)(l:List PI)(fr:Frame)(st:St)(K:Cont2 Frame St) :
  @HY G T ({dst,op,guard:=none}::l) fr st K=@Ei T op (Dq G fr) st ⟨fun d st'=>@HY G T l (fr.put dst d) st' K⟩:=(rfl)
theorem yVf(G:Dj)(T:Tbl)(dst:Option Nat)(op:POp)(s:Nat)(E:Bool)(l:List PI)(fr:Frame)(st:St)(K:Cont2 Frame St) :
  @HY G T ({dst,op,guard:=some (s,E)}::l) fr st K=@kV (fr s) E ⟨@Ei T op (Dq G fr) st ⟨fun d st'=>@HY G T l (fr.put dst d) st' K⟩⟩ ⟨@HY G T l (fr.put dst (.tup [])) st K⟩:=(rfl)
theorem yOm(G:Dj)(T:Tbl)(dst:Option Nat)(op:POp)(l:List PI)(fr:Frame)(st:St)(K:Cont2 Frame St)(X:XC) :
  @Qc G T ({dst,op,guard:=none}::l) fr st K X=@JN T op (Dq G fr) st ⟨fun d st'=>@Qc G T l (fr.put dst d) st' K X⟩ ⟨fun t d st'=>X.run t d fr st'⟩:=(rfl)
theorem yOn(G:Dj)(T:Tbl)(dst:Option Nat)(op:POp)(s:Nat)(E:Bool)(l:List PI)(fr:Frame)(st:St)(K:Cont2 Frame St)(X:XC) :
  @Qc G T ({dst,op,guard:=some (s,E)}::l) fr st K X=@kV (fr s) E ⟨@JN T op (Dq G fr) st ⟨fun d st'=>@Qc G T l (fr.put dst d) st' K X⟩ ⟨fun t d st'=>X.run t d fr st'⟩⟩ ⟨@Qc G T l (fr.put dst (.tup [])) st K X⟩:=(rfl)
theorem Yra(T:Tbl)(op:POp)(ρ:PA→D)(st:St)(K:D→St→Prop)(X:XC0)(h:op.tame=true):@JN T op ρ st ⟨K⟩ X=@Ei T op ρ st ⟨K⟩:=yZq T op ρ st ⟨K⟩ X h
theorem Yio(G:Dj)(T:Tbl)(fs:List (Option Foot))(fr:Frame)(st:St)(K:Frame→St→Prop):@Jg G T [] fs fr st ⟨K⟩=K fr st:=(rfl)
theorem yVh(G:Dj)(T:Tbl)(dst:Option Nat)(op:POp)(b:Bool)(cs:List Nat)(l:List (PI×Bool×List Nat))(fs:List (Option Foot))(fr:Frame)(st:St)(K:Cont2 Frame St) :
  @Jg G T (({dst,op,guard:=none},b,cs)::l) fs fr st K=@wF fs b cs (op.foot (Dq G fr) st) ⟨fun E=>@Ei T op (Dq G fr) st ⟨fun d st'=>@Jg G T l E (fr.put dst d) st' K⟩⟩:=(rfl)
theorem yVi(G:Dj)(T:Tbl)(dst:Option Nat)(op:POp)(s:Nat)(E:Bool)(b:Bool)(cs:List Nat)(l:List (PI×Bool×List Nat))(fs:List (Option Foot))(fr:Frame)(st:St)(K:Cont2 Frame St) :
  @Jg G T (({dst,op,guard:=some (s,E)},b,cs)::l) fs fr st K=@kV (fr s) E ⟨@wF fs b cs (op.foot (Dq G fr) st) ⟨fun I=>@Ei T op (Dq G fr) st ⟨fun d st'=>@Jg G T l I (fr.put dst d) st' K⟩⟩⟩ ⟨@wF fs b cs (some Pn) ⟨fun I=>@Jg G T l I (fr.put dst (.tup [])) st K⟩⟩:=(rfl)
theorem Yt4(b:Bool)(x y:Br):@kV (.bool b) true x y=@HF b x y:=by cases b <;> rfl
theorem Yl0(b:Bool)(x y:Br):@kV (.bool b) false x y=@HF b y x:=by cases b <;> rfl
theorem YAy(E:Bool)(x:Br)(y:Prop):@kV (.tup []) E x ⟨y⟩=y:=(rfl)
section
variable (T:Tbl) (ρ:PA→D) (st:St) (K:D→St→Prop)
theorem I8{β:Type}(o:Option α)(f:α→β)(K:β→Prop):@on β (o.map f) ⟨K⟩=@on α o ⟨fun a=>K (f a)⟩:=by cases o <;> rfl
theorem WC(x:PA):@Ei T (.mov x) ρ st ⟨K⟩=@ev (ρ x) ⟨fun d=>K d st⟩:=(rfl)
def XQ(c x y:D):Option D:=match c with
 |.bool b=>some (if b then x else y)
 |_=>none
theorem yWo(x y:D):XQ (.bool true) x y=some x:=(rfl)
theorem yP4(x y:D):XQ (.bool false) x y=some y:=(rfl)
theorem yWp(b c e:Bool):XQ (.bool b) (.bool c) (.bool e)=some (.bool (if b then c else e)):=by cases b <;> rfl
theorem YAn(c x y:PA):@Ei T (.pick c x y) ρ st ⟨K⟩=@on _ (XQ (ρ c) (ρ x) (ρ y)) ⟨fun d=>K d st⟩:=by
 simp only[Ei,Fh,POp.exec,XQ];cases ρ c <;> rfl
def DH(d:D):Option (List D):=if d.cells.all D.isCell then some d.cells else none
theorem WK(x:PA):@Ei T (.box x) ρ st ⟨K⟩=@on _ (DH (ρ x)) ⟨fun cs=>@Qj (.ptr st.length 0) (st++[{row:=false,sz:=1,els:=cs,lent:=false}]) ⟨K⟩⟩:=by
 simp only[Ei,Fh,POp.exec,DH]
 split <;> rfl
theorem WL(E:List D)(parts:List (Nat×Nat×PA)):@Ei T (.bld E parts) ρ st ⟨K⟩=@on _ (DO E (parts.map fun p=>(p.1,p.2.1,ρ p.2.2))) ⟨fun cs=>K (.agg cs) st⟩:=by
 simp only[Ei,Fh,POp.exec,I8]
def Ff(sz:Nat)(els:List D):Option D:=if(els.all fun e=>e.cells.length == sz) && decide (0<sz) && decide (els.length*sz≤16777216)then some (.slc sz els true)else none
theorem YAx(sz:Nat)(parts:List PA):@Ei T (.bslc sz parts) ρ st ⟨K⟩=@on _ (Ek st (parts.map ρ)) ⟨fun els=>@on _ (Ff sz els) ⟨fun d=>@Qj d (lend ((parts.map ρ).flatMap keys) st) ⟨K⟩⟩⟩:=by
 simp only[Ei,Fh,POp.exec]
 cases Ek st (parts.map ρ)with
 |none=>rfl
 |some els=>
  simp only[on]
  by_cases h:((els.all fun e=>e.cells.length == sz) && decide (0<sz) && decide (els.length*sz≤16777216))=true
  ·simp only[Ff,h,if_true]; rfl
  ·simp only[Ff,h,Ao,if_false]
theorem YAp(n:Nat)(ag:Bool)(p:PA):@Ei T (.load n ag p) ρ st ⟨K⟩=@on _ (Ft st n ag (ρ p)) ⟨fun d=>K d st⟩:=by
 simp only[Ei,Fh,POp.exec,I8]
theorem YAm(n:Nat)(p x:PA):@Ei T (.stor n p x) ρ st ⟨K⟩=@on _ (Ms st n (ρ p) (ρ x)) ⟨fun st'=>K (.tup []) st'⟩:=by
 simp only[Ei,Fh,POp.exec,I8]
def kD(st:St)(d:D):Option D:=match d with
 |.ptr _ _ | .eptr _ _=>some d
 |.rptr key tot _ _=>if E0 st key tot then some d else none
 |_=>none
theorem YAo(x:PA):@Ei T (.nilc x) ρ st ⟨K⟩=@on _ (kD st (ρ x)) ⟨fun d=>K d st⟩:=by
 simp only[Ei,Fh,POp.exec,kD]
 cases ρ x with
 |rptr key tot i off=>
  simp only
  split <;> rfl
 |_=>rfl
theorem WM(op:BinOp)(x y:PA):@Ei T (.bin op x y) ρ st ⟨K⟩=@on _ (Dp op (ρ x) (ρ y)) ⟨fun d=>K d st⟩:=by
 simp only[Ei,Fh,POp.exec,I8]
theorem WN(E:Bool)(x y:PA):@Ei T (.beq E x y) ρ st ⟨K⟩=@on _ (Nt E (ρ x) (ρ y)) ⟨fun d=>K d st⟩:=by
 simp only[Ei,Fh,POp.exec,I8]
theorem WQ(ks:List Nat)(E:Bool)(x y:PA):@Ei T (.aeq ks E x y) ρ st ⟨K⟩=@on _ (GM ks E (ρ x) (ρ y)) ⟨fun d=>K d st⟩:=by
 simp only[Ei,Fh,POp.exec,I8]
theorem j0(op:UnOp)(x:PA):@Ei T (.un op x) ρ st ⟨K⟩=@on _ (Ns op (ρ x)) ⟨fun d=>K d st⟩:=by
 simp only[Ei,Fh,POp.exec,I8]
theorem YAv(c:PConv)(x:PA):@Ei T (.conv c x) ρ st ⟨K⟩=@on _ (FD st c (ρ x)) ⟨fun d=>K d st⟩:=by
 simp only[Ei,Fh,POp.exec,I8]
def Pq(sz bytes:Nat)(zero ln cp:D):Option (Nat×Obj):=match FP ln,FP cp with
 |some l,some c=>if l≤c∧c≤4294967296∧c*bytes≤140737488355328∧0<sz∧zero.cells.length=sz∧zero.cells.all D.pure1=true then
   some (l,{row:=true,sz,els:=CQ l zero,lent:=false})else none
 |_,_=>none
theorem Ytx(sz bytes:Nat)(E:D)(I J:PA):@Ei T (.mkslc sz bytes E I J) ρ st ⟨K⟩=@on _ (Pq sz bytes E (ρ I) (ρ J)) ⟨fun r=>@Qj (.row st.length r.1 0 r.1) (st++[r.2]) ⟨K⟩⟩:=by
 simp only[Ei,Fh,POp.exec,Pq]
 cases FP (ρ I)with
 |none=>rfl
 |some l=>
  cases FP (ρ J)with
  |none=>rfl
  |some c=>
   simp only
   split <;> rfl
theorem Ytv(sz:Nat)(x:PA)(lo hi E:Option PA):@Ei T (.slice sz x lo hi E) ρ st ⟨K⟩=@on _ (G3 st sz (ρ x) (lo.map ρ) (hi.map ρ) (E.map ρ)) ⟨fun d=>K d st⟩:=by
 simp only[Ei,Fh,POp.exec,I8]
theorem Yly(n sz:Nat)(ag:Bool)(x:PA)(lo hi:Option PA):@Ei T (.sliceA n sz ag x lo hi) ρ st ⟨K⟩=@on _ (Pz n sz ag (ρ x) (lo.map ρ) (hi.map ρ)) ⟨fun d=>K d st⟩:=by
 simp only[Ei,Fh,POp.exec,I8]
theorem WH(off:Nat)(p:PA):@Ei T (.fld off p) ρ st ⟨K⟩=@on _ (Fw st off (ρ p)) ⟨fun d=>K d st⟩:=by
 simp only[Ei,Fh,POp.exec,I8]
theorem YAu(off n:Nat)(ag:Bool)(x:PA):@Ei T (.fldv off n ag x) ρ st ⟨K⟩=@on _ (Nj off n ag (ρ x)) ⟨fun d=>K d st⟩:=by
 simp only[Ei,Fh,POp.exec,I8]
theorem YAs(sz:Nat)(x i:PA):@Ei T (.idxS sz x i) ρ st ⟨K⟩=@on _ (Gx st sz (ρ x) (ρ i)) ⟨fun d=>K d st⟩:=by
 simp only[Ei,Fh,POp.exec,I8]
theorem YAt(n sz:Nat)(p i:PA):@Ei T (.idxA n sz p i) ρ st ⟨K⟩=@on _ (Jr st n sz (ρ p) (ρ i)) ⟨fun d=>K d st⟩:=by
 simp only[Ei,Fh,POp.exec,I8]
theorem WG(x i:PA):@Ei T (.idx x i) ρ st ⟨K⟩=@on _ (KD (ρ x) (ρ i)) ⟨fun d=>K d st⟩:=by
 simp only[Ei,Fh,POp.exec,I8]
theorem YAr(E sz:Nat)(ag:Bool)(x i:PA):@Ei T (.idxV E sz ag x i) ρ st ⟨K⟩=@on _ (Qb E sz ag (ρ x) (ρ i)) ⟨fun d=>K d st⟩:=by
 simp only[Ei,Fh,POp.exec,I8]
def ER(st:St)(str:Bool)(d:D):Option D:=if Jq d == str then(E4 st d).map fun(n:Nat)=>D.int .i64 (n:Int)else none
theorem WE(E:Bool)(x:PA):@Ei T (.len E x) ρ st ⟨K⟩=@on _ (ER st E (ρ x)) ⟨fun d=>K d st⟩:=by
 simp only[Ei,Fh,POp.exec,ER]
 split
 ·simp only[I8]
 ·rfl
theorem YAq(n:Nat):@Ei T (.lenA n) ρ st ⟨K⟩=@ev (.int .i64 (n:Int)) ⟨fun d=>K d st⟩:=(rfl)
theorem WO(sz bytes:Nat)(s x:PA):@Ei T (.app sz bytes s x) ρ st ⟨K⟩=@on _ (Ep st sz bytes (ρ s) (ρ x)) ⟨fun r=>K r.1 r.2⟩:=(rfl)
def lp(sz:Nat):Option Obj:=if 1<sz∧sz≠1000003 then some {row:=false,sz,els:=[],lent:=false} else none
theorem Yty(sz:Nat):@Ei T (.mkmap sz) ρ st ⟨K⟩=@on _ (lp sz) ⟨fun o=>@Qj (.mapv st.length) (st++[o]) ⟨K⟩⟩:=by
 simp only[Ei,Fh,POp.exec,lp]
 split <;> rfl
theorem Yt1(sz:Nat)(ks:List Nat)(m k v:PA):@Ei T (.mapup sz ks m k v) ρ st ⟨K⟩=@on _ (S5 st sz ks (ρ m) (ρ k) (ρ v)) ⟨fun st'=>K (.tup []) st'⟩:=by
 simp only[Ei,Fh,POp.exec,I8]
theorem Ylz(sz:Nat)(ks:List Nat)(ok:Bool)(E:D)(m k:PA):@Ei T (.mapget sz ks ok E m k) ρ st ⟨K⟩=@on _ (Jx st sz ks ok E (ρ m) (ρ k)) ⟨fun d=>K d st⟩:=by
 simp only[Ei,Fh,POp.exec,I8]
theorem WJ(sz:Nat)(d s:PA):@Ei T (.cpy sz d s) ρ st ⟨K⟩=@on _ (KE st sz (ρ d) (ρ s)) ⟨fun r=>K r.1 r.2⟩:=(rfl)
def Ts(isMax:Bool)(x y:D):Option D:=match x,y with
 |.int k a,.int _ b=>some (.int k (if isMax then(if b > a then b else a)else(if b<a then b else a)))
 |_,_=>none
theorem j1(E:Bool)(x y:PA):@Ei T (.mm E x y) ρ st ⟨K⟩=@on _ (Ts E (ρ x) (ρ y)) ⟨fun d=>K d st⟩:=by
 simp only[Ei,Fh,POp.exec,Ts]
 cases ρ x with
 |int k a=>cases ρ y <;> rfl
 |_=>rfl
def O8(isMax:Bool)(x y z:D):Option D:=match x,y,z with
 |.int k a,.int _ b,.int _ c=>some (.int k (Nx isMax (Nx isMax a b) c))
 |_,_,_=>none
theorem WD(E:Bool)(x y z:PA):@Ei T (.mm3 E x y z) ρ st ⟨K⟩=@on _ (O8 E (ρ x) (ρ y) (ρ z)) ⟨fun d=>K d st⟩:=by
 simp only[Ei,Fh,POp.exec,O8]
 cases ρ x with
 |int k a=>cases ρ y <;> first | rfl | (cases ρ z <;> rfl)
 |_=>rfl
theorem Ytw(f:Nat)(args:List PA):@Ei T (.rcall f args) ρ st ⟨K⟩=@on _ (T.q f) ⟨fun sp=>@on _ (IZ sp (args.map ρ) st) ⟨fun d=>K d st⟩⟩:=by
 simp only[Ei,Fh,POp.exec]
 cases T.q f with
 |none=>rfl
 |some sp=>simp only[xI,I8]
theorem Yt2(f:Nat)(args:List PA):@Ei T (.icall f args) ρ st ⟨K⟩=@on _ (T.i f) ⟨fun sp=>@on _ (sp (args.map ρ) st) ⟨fun r=>K r.1 r.2⟩⟩:=by
 simp only[Ei,Fh,POp.exec];cases T.i f <;> rfl
def JW(T:Tbl)(d:D):Option ((List D→St→Option (D×St))×List D×List D):=match d with
 |.clo f caps=>if f<5000000 then(T.i f).map fun sp=>(sp,[],caps)else if f<10000000 then(T.i (f - 5000000)).map fun sp=>(sp,caps,[])else if caps.isEmpty then some (T.y (f - 10000000),[],[])else none
 |_=>none
theorem Yt0(f:Nat)(args:List PA):@Ei T (.mcall f args) ρ st ⟨K⟩=@on _ (T.m f) ⟨fun sp=>@on _ (sp (args.map ρ)) ⟨fun r=>@Qj (r.1 st.length) (st++r.2 st.length) ⟨K⟩⟩⟩:=by
 simp only[Ei,Fh,POp.exec]
 cases T.m f with
 |none=>rfl
 |some sp=>
  simp only[on];cases sp (args.map ρ) <;> rfl
theorem Yt3(x:PA)(args:List PA):@Ei T (.callv x args) ρ st ⟨K⟩=@on _ (JW T (ρ x)) ⟨fun p=>@on _ (p.1 (p.2.1++(args.map ρ++p.2.2)) st) ⟨fun r=>K r.1 r.2⟩⟩:=by
 simp only[Ei,Fh,POp.exec,JW]
 cases ρ x with
 |clo f E=>
  simp only
  by_cases I:f<5000000
  ·simp only[if_pos I];cases T.i f <;> rfl
  ·by_cases h:f<10000000
   ·simp only[if_neg I,if_pos h]
    cases T.i (f - 5000000)with
    |none=>rfl
    |some sp=>simp only[Ag,on,Ad]
   ·simp only[if_neg I,if_neg h]
    cases E with
    |nil=>simp only[CD,if_true,on,Ad,Ai]
    |cons a l=>rfl
 |_=>rfl
theorem Ytz(f:Nat)(E:List PA):@Ei T (.mkclo f E) ρ st ⟨K⟩=@ev (.clo f (E.map ρ)) ⟨fun d=>K d st⟩:=(rfl)
theorem YAw(f:Nat)(args:List PA):@Ei T (.call f args) ρ st ⟨K⟩=@on _ (T.p f) ⟨fun sp=>@on _ (Ek st (args.map ρ)) ⟨fun vs=>@on _ (sp vs) ⟨fun r=>@Qj r (if r.noRef then st else lend ((args.map ρ).flatMap keys) st) ⟨K⟩⟩⟩⟩:=by
 simp only[Ei,Fh,POp.exec]
 cases T.p f with
 |none=>rfl
 |some sp=>
  cases Ek st (args.map ρ)with
  |none=>rfl
  |some vs=>
   simp only[on];cases sp vs <;> rfl
def Nz(d:D)(i:Nat):Option D:=match d with
 |.tup vs=>vs[i]?
 |_=>none
theorem WI(x:PA)(i:Nat):@Ei T (.ext x i) ρ st ⟨K⟩=@on _ (Nz (ρ x) i) ⟨fun d=>K d st⟩:=by
 simp only[Ei,Fh,POp.exec,Nz]
 cases ρ x with
 |tup vs=>simp only[I8]
 |_=>rfl
theorem YBs(a:D)(l:List D):Nz (.tup (a::l)) 0=some a:=(rfl)
theorem YBr(a b:D)(l:List D):Nz (.tup (a::b::l)) 1=some b:=(rfl)
theorem YBq(a b c:D)(l:List D):Nz (.tup (a::b::c::l)) 2=some c:=(rfl)
end
theorem Yj9(fr:Frame)(s:Nat)(d:D):fr.put (some s) d=fr.set s d:=(rfl)
theorem Yka(fr:Frame)(d:D):fr.put none d=fr:=(rfl)
theorem V7(G:Dj)(fr:Frame)(n:Nat):Dq G fr (.s n)=fr n:=(rfl)
theorem V8(G:Dj)(fr:Frame)(d:D):Dq G fr (.c d)=d:=(rfl)
theorem J4(G:Dj)(fr:Frame)(n:Nat)(d:D)(h:G n=some d):Dq G fr (.g n)=.eptr d 0:=by simp[Dq,h]
theorem YCz(a:D)(l:List D):Dc (a::l) 0=a:=(rfl)
theorem YCy(a b:D)(l:List D):Dc (a::b::l) 1=b:=(rfl)
theorem YCx(a b c:D)(l:List D):Dc (a::b::c::l) 2=c:=(rfl)
theorem YCw(a b c d:D)(l:List D):Dc (a::b::c::d::l) 3=d:=(rfl)
theorem YCv(a b c d e:D)(l:List D):Dc (a::b::c::d::e::l) 4=e:=(rfl)
theorem YCu(a b c d e f:D)(l:List D):Dc (a::b::c::d::e::f::l) 5=f:=(rfl)
theorem YCt(a b c d e f g:D)(l:List D):Dc (a::b::c::d::e::f::g::l) 6=g:=(rfl)
theorem YCs(a b c d e f g h:D)(l:List D):Dc (a::b::c::d::e::f::g::h::l) 7=h:=(rfl)
def LS(B:Frame→St→(Ex→Frame→St→Prop)→Prop)(cut:PS→PS):Nat→PS→(Ex→Frame→St→Prop)→Prop
 |0,_,_=>False
 |n+1,s,Q=>B (cut s).fr (cut s).st fun e fr st=>match e with
  |.next=>LS B cut n ⟨fr,st⟩ Q
  |e=>Q e fr st
def W(G:Dj)(T:Tbl):PC→Frame→St→(Ex→Frame→St→Prop)→Prop
 |.skip,fr,st,Q=>Q .next fr st
 |.ops l,fr,st,Q=>Gq G T l fr st (Q .next)
 |.any l,fr,st,Q=>Gd G T l [] fr st (Q .next)
 |.any2 keep l1 l2,fr,st,Q=>Gd G T l1 [] fr st fun fr1 st1=>Gd G T l2 [] fr st fun fr2 st2=>W2 keep st.length fr1 st1 fr2 st2 fun s=>Q .next s.fr s.st
 |.seq a b,fr,st,Q=>W G T a fr st fun e fr' st'=>match e with
  |.next=>W G T b fr' st' Q
  |e=>Q e fr' st'
 |.cond c a b,fr,st,Q=>@Tq (Dq G fr c) ⟨fun v=>@HF v ⟨W G T a fr st Q⟩ ⟨W G T b fr st Q⟩⟩
 |.block id c,fr,st,Q=>W G T c fr st fun e fr' st'=>match e with
  |.exit id'=>if id'=id then Q .next fr' st' else Q (.exit id') fr' st'
  |e=>Q e fr' st'
 |.loop keep c,fr,st,Q=>∃ n,LS (W G T c) (restrict keep st.length) n ⟨fr,st⟩ Q
 |.loopA keep c,fr,st,Q=>∃ n,LS (W G T c) (keepAll keep) n ⟨fr,st⟩ Q
 |.opsX l,fr,st,Q=>Mq G T l fr st (Q .next) (fun t d=>Q (.panic t d))
 |.pan l d1 t x,fr,st,Q=>Gq G T l fr st fun fr' st'=>@HF (LN (Dq G fr' x)) ⟨Q (.panic t (Dq G fr' x)) (fr'.set d1 .junk) st'⟩ ⟨False⟩
 |.alt a b,fr,st,Q=>W G T a fr st Q∨(a.exec G T 0 ⟨fr,st⟩=none∧(∀ m,a.exec G T m ⟨fr,st⟩=none)∧W G T b fr st Q)
 |.range x ps a b,fr,st,Q=>∃ (n:Nat) (st':St) (e:Ex),(∀ m,n≤m→TH T (Dq G fr x) (Ld (a.exec G T m) (b.exec G T m) fr ps st.length) (st++[recO 0])=some st')∧XP st' st.length=some e∧Q e fr (st'.set st.length (recO 2))
 |.exit id,fr,st,Q=>Q (.exit id) fr st
 |.ret,fr,st,Q=>Q .ret fr st
 |.fail,_,_,_=>False
theorem Lg{G:Dj}{T:Tbl}:∀ (c:PC) (fr:Frame) (st:St) (Q:Ex→Frame→St→Prop),W G T c fr st Q→
  ∃ (n:Nat) (e:Ex) (E:Frame) (st':St),(∀ m,n≤m→c.exec G T m ⟨fr,st⟩=some (e,⟨E,st'⟩))∧Q e E st'
 |.skip,fr,st,Q,h=>⟨0,.next,fr,st,fun _ _=>rfl,h⟩
 |.ops l,fr,st,Q,h=>by
  obtain⟨E,st',J,I⟩:=Us l fr st _ h;exact⟨0,.next,E,st',fun m _=>by simp only[PC.exec,J],I⟩
 |.any l,fr,st,Q,h=>by
  obtain⟨E,st',J,I⟩:=Ur l [] fr st _ h;exact⟨0,.next,E,st',fun m _=>by simp only[PC.exec,J],I⟩
 |.any2 keep l1 l2,fr,st,Q,h=>by
  obtain⟨fr1,st1,J,I⟩:=Ur l1 [] fr st _ h;obtain⟨fr2,st2,O,Y⟩:=Ur l2 [] fr st _ I;obtain⟨h5,h6⟩:=Yw9 Y;exact⟨0,.next,_,_,fun m _=>by simp only[PC.exec,J,O,h5,Ag],h6⟩
 |.seq a b,fr,st,Q,h=>by
  obtain⟨n,e,E,st',J,I⟩:=Lg a fr st _ h
  cases e with
  |next=>
   obtain⟨n',e',U,V,O,Y⟩:=Lg b E st' _ I;exact⟨n+n',e',U,V,fun m hm=>by simp only[PC.exec,J m (by omega),O m (by omega)],Y⟩
  |exit id=>exact⟨n,.exit id,E,st',fun m hm=>by simp only[PC.exec,J m hm],I⟩
  |ret=>exact⟨n,.ret,E,st',fun m hm=>by simp only[PC.exec,J m hm],I⟩
  |panic t d=>exact⟨n,.panic t d,E,st',fun m hm=>by simp only[PC.exec,J m hm],I⟩
 |.cond c a b,fr,st,Q,h=>by
  simp only[W,Tq]at h
  split at h
  ·rename_i v hv
   cases v with
   |true=>
    obtain⟨n,e,E,st',J,I⟩:=Lg a fr st _ h;exact⟨n,e,E,st',fun m hm=>by simp only[PC.exec,hv,J m hm],I⟩
   |false=>
    obtain⟨n,e,E,st',J,I⟩:=Lg b fr st _ h;exact⟨n,e,E,st',fun m hm=>by simp only[PC.exec,hv,J m hm],I⟩
  ·exact h.elim
 |.block id c,fr,st,Q,h=>by
  obtain⟨n,e,E,st',J,I⟩:=Lg c fr st _ h
  cases e with
  |next=>exact⟨n,.next,E,st',fun m hm=>by simp only[PC.exec,J m hm],I⟩
  |ret=>exact⟨n,.ret,E,st',fun m hm=>by simp only[PC.exec,J m hm],I⟩
  |panic t d=>exact⟨n,.panic t d,E,st',fun m hm=>by simp only[PC.exec,J m hm],I⟩
  |exit ae=>
   simp only at I
   split at I
   ·rename_i hi;exact⟨n,.next,E,st',fun m hm=>by simp only[PC.exec,J m hm,hi,if_true],I⟩
   ·rename_i hi;exact⟨n,.exit ae,E,st',fun m hm=>by simp only[PC.exec,J m hm,hi,if_false],I⟩
 |.loop keep c,fr,st,Q,h=>by
  obtain⟨k,h⟩:=h
  have key:∀ (k:Nat) (s:PS),LS (W G T c) (restrict keep st.length) k s Q→∃ (n:Nat) (e:Ex) (E:Frame) (st':St),(∀ m q,n≤m→k≤q→Ki (c.exec G T m) (restrict keep st.length) q s=some (e,⟨E,st'⟩))∧Q e E st':=by
   intro k
   induction k with
   |zero=>intro s h; exact h.elim
   |succ k ih=>
    intro s h;obtain⟨n,e,E,st',J,I⟩:=Lg c _ _ _ h;have N:∀ m,n≤m→c.exec G T m (restrict keep st.length s)=some (e,⟨E,st'⟩):=J
    cases e with
    |next=>
     obtain⟨n',e',U,V,O,Y⟩:=ih _ I;refine⟨n+n',e',U,V,fun m q hm hq=>?_,Y⟩;obtain⟨q,rfl⟩:∃ M,q=M+1:=⟨q - 1,by omega⟩;simp only[Ki,N m (by omega)];grind
    |exit id=>
     refine⟨n,.exit id,E,st',fun m q hm hq=>?_,I⟩;obtain⟨q,rfl⟩:∃ M,q=M+1:=⟨q - 1,by omega⟩;simp only[Ki,N m hm]
    |ret=>
     refine⟨n,.ret,E,st',fun m q hm hq=>?_,I⟩;obtain⟨q,rfl⟩:∃ M,q=M+1:=⟨q - 1,by omega⟩;simp only[Ki,N m hm]
    |panic t d=>
     refine⟨n,.panic t d,E,st',fun m q hm hq=>?_,I⟩;obtain⟨q,rfl⟩:∃ M,q=M+1:=⟨q - 1,by omega⟩;simp only[Ki,N m hm]
  obtain⟨n,e,E,st',J,I⟩:=key k _ h;exact⟨n+k,e,E,st',fun m hm=>by simp only[PC.exec]; exact J m m (by omega) (by omega),I⟩
 |.loopA keep c,fr,st,Q,h=>by
  obtain⟨k,h⟩:=h
  have key:∀ (k:Nat) (s:PS),LS (W G T c) (keepAll keep) k s Q→∃ (n:Nat) (e:Ex) (E:Frame) (st':St),(∀ m q,n≤m→k≤q→Ki (c.exec G T m) (keepAll keep) q s=some (e,⟨E,st'⟩))∧Q e E st':=by
   intro k
   induction k with
   |zero=>intro s h; exact h.elim
   |succ k ih=>
    intro s h;obtain⟨n,e,E,st',J,I⟩:=Lg c _ _ _ h;have N:∀ m,n≤m→c.exec G T m (keepAll keep s)=some (e,⟨E,st'⟩):=J
    cases e with
    |next=>
     obtain⟨n',e',U,V,O,Y⟩:=ih _ I;refine⟨n+n',e',U,V,fun m q hm hq=>?_,Y⟩;obtain⟨q,rfl⟩:∃ M,q=M+1:=⟨q - 1,by omega⟩;simp only[Ki,N m (by omega)];grind
    |exit id=>
     refine⟨n,.exit id,E,st',fun m q hm hq=>?_,I⟩;obtain⟨q,rfl⟩:∃ M,q=M+1:=⟨q - 1,by omega⟩;simp only[Ki,N m hm]
    |ret=>
     refine⟨n,.ret,E,st',fun m q hm hq=>?_,I⟩;obtain⟨q,rfl⟩:∃ M,q=M+1:=⟨q - 1,by omega⟩;simp only[Ki,N m hm]
    |panic t d=>
     refine⟨n,.panic t d,E,st',fun m q hm hq=>?_,I⟩;obtain⟨q,rfl⟩:∃ M,q=M+1:=⟨q - 1,by omega⟩;simp only[Ki,N m hm]
  obtain⟨n,e,E,st',J,I⟩:=key k _ h;exact⟨n+k,e,E,st',fun m hm=>by simp only[PC.exec]; exact J m m (by omega) (by omega),I⟩
 |.range x ps a b,fr,st,Q,h=>by
  obtain⟨n,st',e,J,O,I⟩:=h;exact⟨n,e,fr,_,fun m hm=>by simp only[PC.exec,J m hm,Bp,O,Ag],I⟩
 |.opsX l,fr,st,Q,h=>by
  rcases eH l fr st _ _ h with⟨E,st',J,I⟩ | ⟨t,d,E,st',J,I,O⟩
  ·exact⟨0,.next,E,st',fun m _=>by simp only[PC.exec,J],I⟩
  ·exact⟨0,.panic t d,E,st',fun m _=>by simp only[PC.exec,J,I,Ag],O⟩
 |.pan l d1 t x,fr,st,Q,h=>by
  obtain⟨E,st',J,I⟩:=Us l fr st _ h;unfold HF at I
  split at I
  ·rename_i hi;exact⟨0,.panic t (Dq G E x),E.set d1 .junk,st',fun m _=>by simp only[PC.exec,J,hi,if_true],I⟩
  ·grind
 |.alt a b,fr,st,Q,h=>by
  rcases h with h | ⟨_,J,h⟩
  ·obtain⟨n,e,E,st',J,I⟩:=Lg a fr st _ h;exact⟨n,e,E,st',fun m hm=>by simp only[PC.exec,J m hm],I⟩
  ·obtain⟨n,e,E,st',I,O⟩:=Lg b fr st _ h;exact⟨n,e,E,st',fun m hm=>by simp only[PC.exec,J m,I m hm],O⟩
 |.exit id,fr,st,Q,h=>⟨0,.exit id,fr,st,fun _ _=>rfl,h⟩
 |.ret,fr,st,Q,h=>⟨0,.ret,fr,st,fun _ _=>rfl,h⟩
 |.fail,_,_,_,h=>h.elim
theorem Yl{G:Dj}{T:Tbl}:∀ (l:List PI) (fr:Frame) (st:St) (K E:Frame→St→Prop),Gq G T l fr st K→(∀ fr st,K fr st→E fr st)→Gq G T l fr st E
 |[],_,_,_,_,h,hk=>hk _ _ h
 |i::l,fr,st,K,E,h,hk=>by
  have I:Fh T i.op (Dq G fr) st (fun d st'=>Gq G T l (fr.put i.dst d) st' K)→Fh T i.op (Dq G fr) st (fun d st'=>Gq G T l (fr.put i.dst d) st' E):=by
   unfold Fh on
   split
   ·exact fun h=>Yl l _ _ _ _ h hk
   ·exact id
  have J:Gq G T l (fr.put i.dst (.tup [])) st K→Gq G T l (fr.put i.dst (.tup [])) st E:=fun h=>Yl l _ _ _ _ h hk;rw[Gq]at h ⊢;unfold kG at h ⊢
  split
  ·simp_all
  ·simp_all
   split
   ·simp_all;rename_i b hb;rename_i want _ _
    revert h
    unfold HF;grind
   ·simp_all
   ·simp_all
theorem KV{G:Dj}{T:Tbl}:∀ (c:PC) (fr:Frame) (st:St) (Q I:Ex→Frame→St→Prop),W G T c fr st Q→(∀ e fr st,Q e fr st→I e fr st)→W G T c fr st I
 |.skip,fr,st,Q,I,h,E=>E _ _ _ h
 |.ops l,fr,st,Q,I,h,E=>Yl l fr st _ _ h fun fr st h=>E _ _ _ h
 |.any l,fr,st,Q,I,h,E=>Ua l [] fr st _ _ h fun fr st h=>E _ _ _ h
 |.any2 keep l1 M,fr,st,Q,I,h,E=>Ua l1 [] fr st _ _ h fun fr1 st1 h=>Ua M [] fr st _ _ h fun fr2 st2 h=>Yxa h fun s h=>E _ _ _ h
 |.seq a b,fr,st,Q,I,h,E=>by
  refine KV a fr st _ _ h fun e J st' h=>?_
  cases e with
  |next=>exact KV b _ _ _ _ h E
  |exit id=>exact E _ _ _ h
  |ret=>exact E _ _ _ h
  |panic t d=>exact E _ _ _ h
 |.cond c a b,fr,st,Q,I,h,E=>by
  simp only[W,Tq]at h ⊢
  split
  ·rename_i v hv;rw[hv]at h;simp only at h
   cases v with
   |true=>exact KV a _ _ _ _ h E
   |false=>exact KV b _ _ _ _ h E
  ·grind
 |.block id c,fr,st,Q,I,h,E=>by
  refine KV c fr st _ _ h fun e J st' h=>?_;grind
 |.loop keep c,fr,st,Q,I,h,E=>by
  obtain⟨k,h⟩:=h;refine⟨k,?_⟩
  have key:∀ (k:Nat) (s:PS),LS (W G T c) (restrict keep st.length) k s Q→LS (W G T c) (restrict keep st.length) k s I:=by
   intro k
   induction k with
   |zero=>intro s h; exact h
   |succ k N=>
    intro s h;refine KV c _ _ _ _ h fun e J st' h=>?_;grind
  grind
 |.loopA keep c,fr,st,Q,I,h,E=>by
  obtain⟨k,h⟩:=h;refine⟨k,?_⟩
  have key:∀ (k:Nat) (s:PS),LS (W G T c) (keepAll keep) k s Q→LS (W G T c) (keepAll keep) k s I:=by
   intro k
   induction k with
   |zero=>intro s h; exact h
   |succ k N=>
    intro s h;refine KV c _ _ _ _ h fun e J st' h=>?_;grind
  grind
 |.range x ps a b,fr,st,Q,I,h,E=>by
  obtain⟨n,st',e,O,U,V⟩:=h;exact⟨n,st',e,O,U,E _ _ _ V⟩
 |.opsX l,fr,st,Q,I,h,E=>dU l fr st _ _ _ _ h (fun _ _ h=>E _ _ _ h) fun _ _ _ _ h=>E _ _ _ h
 |.pan l d1 t x,fr,st,Q,I,h,E=>Yl l fr st _ _ h fun J st' h=>by
  unfold HF at h ⊢;grind
 |.alt a b,fr,st,Q,I,h,E=>h.imp (fun h=>KV a _ _ _ _ h E) fun h=>⟨h.1,h.2.1,KV b _ _ _ _ h.2.2 E⟩
 |.exit id,fr,st,Q,I,h,E=>E _ _ _ h
 |.ret,fr,st,Q,I,h,E=>E _ _ _ h
 |.fail,_,_,_,_,h,_=>h.elim
variable {Q:Ex→Frame→St→Prop}{c:PC}{ι:Type}{G:Dj}
theorem YC5(J:ι→List (Nat×D))(M:ι→St)(P:ι→Prop)(μ:ι→Nat)(E:ι)
  (U:restrict keep st.length ⟨fr,st⟩=⟨F3 (J E),M E⟩) (V:P E)
  (N:∀ i,P i→W G T c (F3 (J i)) (M i) fun e I st'=>match e with
   |.next=>∃ j,P j∧μ j<μ i∧restrict keep st.length ⟨I,st'⟩=⟨F3 (J j),M j⟩
   |e=>Q e I st'):W G T (.loop keep c) fr st Q:=by
 have key:∀ (n:Nat) (i:ι) (s:PS),μ i<n→P i→restrict keep st.length s=⟨F3 (J i),M i⟩→LS (W G T c) (restrict keep st.length) n s Q:=by
  intro n
  induction n with
  |zero=>intro i s h _ _; exact absurd h (Nat.not_lt_zero _)
  |succ n ih=>
   intro i s hi O Y;simp only[LS,Y];refine KV c _ _ _ _ (N i O) fun e I st' h=>?_;grind
 exact⟨μ E+1,key _ E _ (Ck _) V U⟩
theorem Yw7(J:ι→List (Nat×D))(M:ι→St)(P:ι→Prop)(μ:ι→Nat)(E:ι)
  (U:keepAll keep ⟨fr,st⟩=⟨F3 (J E),M E⟩) (V:P E)
  (N:∀ i,P i→W G T c (F3 (J i)) (M i) fun e I st'=>match e with
   |.next=>∃ j,P j∧μ j<μ i∧keepAll keep ⟨I,st'⟩=⟨F3 (J j),M j⟩
   |e=>Q e I st'):W G T (.loopA keep c) fr st Q:=by
 have key:∀ (n:Nat) (i:ι) (s:PS),μ i<n→P i→keepAll keep s=⟨F3 (J i),M i⟩→LS (W G T c) (keepAll keep) n s Q:=by
  intro n
  induction n with
  |zero=>intro i s h _ _; exact absurd h (Nat.not_lt_zero _)
  |succ n ih=>
   intro i s hi O Y;simp only[LS,Y];refine KV c _ _ _ _ (N i O) fun e I st' h=>?_;grind
 exact⟨μ E+1,key _ E _ (Ck _) V U⟩
variable {st':St}{ps:List Nat}
theorem Yow{x:PA}{a b:PC}{e:Ex}(h:∀ m,TH T (Dq G fr x) (Ld (a.exec G T m) (b.exec G T m) fr ps st.length) (st++[recO 0])=some st')(E:XP st' st.length=some e)(I:Q e fr (st'.set st.length (recO 2))):W G T (.range x ps a b) fr st Q:=
 ⟨0,st',e,fun m _=>h m,E,I⟩
def wW(G:Dj)(T:Tbl)(c:PC)(fr:Frame)(st:St)[Q:QC]:Prop:=W G T c fr st Q.run
theorem Ho(h:@wW G T c fr st ⟨Q⟩):W G T c fr st Q:=h
theorem SV(h:W G T c fr st Q):@wW G T c fr st ⟨Q⟩:=h
theorem YC3(G:Dj)(T:Tbl)(fr:Frame)(st:St)(Q:Ex→Frame→St→Prop):@wW G T .skip fr st ⟨Q⟩=Q .next fr st:=(rfl)
theorem X1(G:Dj)(T:Tbl)(l:List PI)(fr:Frame)(st:St)(Q:Ex→Frame→St→Prop):@wW G T (.ops l) fr st ⟨Q⟩=@HY G T l fr st ⟨Q .next⟩:=(rfl)
theorem X2(G:Dj)(T:Tbl)(l:List (PI×Bool×List Nat))(fr:Frame)(st:St)(Q:Ex→Frame→St→Prop):@wW G T (.any l) fr st ⟨Q⟩=@Jg G T l [] fr st ⟨Q .next⟩:=(rfl)
theorem YC8(G:Dj)(T:Tbl)(keep:List Nat)(l1 E:List (PI×Bool×List Nat))(fr:Frame)(st:St)(Q:Ex→Frame→St→Prop):@wW G T (.any2 keep l1 E) fr st ⟨Q⟩=
  @Jg G T l1 [] fr st ⟨fun fr1 st1=>@Jg G T E [] fr st ⟨fun fr2 st2=>@HF (st1.length == st.length+2 && st2.length == st.length+2) ⟨@XV (restrictAt keep st.length [st.length,st.length+1] ⟨fr1,st1⟩) (restrictAt keep st.length [st.length+1,st.length] ⟨fr2,st2⟩) ⟨fun s=>Q .next s.fr s.st⟩⟩ ⟨False⟩⟩⟩:=(rfl)
def SS(G:Dj)(T:Tbl)(b:PC)[Q:QC](e:Ex)(fr:Frame)(st:St):Prop:=match e with
 |.next=>W G T b fr st Q.run
 |e=>Q.run e fr st
theorem XW(G:Dj)(T:Tbl)(a b:PC)(fr:Frame)(st:St)(Q:QC):@wW G T (.seq a b) fr st Q=@wW G T a fr st ⟨@SS G T b Q⟩:=(rfl)
theorem yZ2(G:Dj)(T:Tbl)(b:PC)(Q:QC)(fr:Frame)(st:St):@SS G T b Q .next fr st=@wW G T b fr st Q:=(rfl)
theorem yZ3(G:Dj)(T:Tbl)(b:PC)(Q:Ex→Frame→St→Prop)(E:Nat)(fr:Frame)(st:St):@SS G T b ⟨Q⟩ (.exit E) fr st=Q (.exit E) fr st:=(rfl)
theorem Yiy(G:Dj)(T:Tbl)(b:PC)(Q:Ex→Frame→St→Prop)(fr:Frame)(st:St):@SS G T b ⟨Q⟩ .ret fr st=Q .ret fr st:=(rfl)
theorem yVn(G:Dj)(T:Tbl)(b:PC)(Q:Ex→Frame→St→Prop)(t:Nat)(d:D)(fr:Frame)(st:St):@SS G T b ⟨Q⟩ (.panic t d) fr st=Q (.panic t d) fr st:=(rfl)
theorem YC4(G:Dj)(T:Tbl)(l:List PI)(fr:Frame)(st:St)(Q:Ex→Frame→St→Prop):@wW G T (.opsX l) fr st ⟨Q⟩=@Qc G T l fr st ⟨Q .next⟩ ⟨fun t d=>Q (.panic t d)⟩:=(rfl)
theorem XZ(G:Dj)(T:Tbl)(l:List PI)(d1 t:Nat)(x:PA)(fr:Frame)(st:St)(Q:Ex→Frame→St→Prop):@wW G T (.pan l d1 t x) fr st ⟨Q⟩=@HY G T l fr st ⟨fun E st'=>@HF (LN (Dq G E x)) ⟨Q (.panic t (Dq G E x)) (E.set d1 .junk) st'⟩ ⟨False⟩⟩:=(rfl)
theorem YC7(G:Dj)(T:Tbl)(c:PA)(a b:PC)(fr:Frame)(st:St)(Q:QC):@wW G T (.cond c a b) fr st Q=@Tq (Dq G fr c) ⟨fun v=>@HF v ⟨@wW G T a fr st Q⟩ ⟨@wW G T b fr st Q⟩⟩:=(rfl)
def Mi(id:Nat)[Q:QC](e:Ex)(fr:Frame)(st:St):Prop:=match e with
 |.exit id'=>if id'=id then Q.run .next fr st else Q.run (.exit id') fr st
 |e=>Q.run e fr st
theorem Yw8(G:Dj)(T:Tbl)(E:Nat)(c:PC)(fr:Frame)(st:St)(Q:QC):@wW G T (.block E c) fr st Q=@wW G T c fr st ⟨@Mi E Q⟩:=(rfl)
theorem Ykr(E:Nat)(Q:Ex→Frame→St→Prop)(fr:Frame)(st:St):@Mi E ⟨Q⟩ .next fr st=Q .next fr st:=(rfl)
theorem Ysr(E:Nat)(Q:Ex→Frame→St→Prop)(fr:Frame)(st:St):@Mi E ⟨Q⟩ .ret fr st=Q .ret fr st:=(rfl)
theorem Yce(E:Nat)(Q:Ex→Frame→St→Prop)(t:Nat)(d:D)(fr:Frame)(st:St):@Mi E ⟨Q⟩ (.panic t d) fr st=Q (.panic t d) fr st:=(rfl)
theorem Yzl(I E:Nat)(Q:Ex→Frame→St→Prop)(fr:Frame)(st:St):@Mi I ⟨Q⟩ (.exit E) fr st=if E=I then Q .next fr st else Q (.exit E) fr st:=(rfl)
theorem YC6(G:Dj)(T:Tbl)(E:Nat)(fr:Frame)(st:St)(Q:Ex→Frame→St→Prop):@wW G T (.exit E) fr st ⟨Q⟩=Q (.exit E) fr st:=(rfl)
theorem XX(G:Dj)(T:Tbl)(fr:Frame)(st:St)(Q:Ex→Frame→St→Prop):@wW G T .ret fr st ⟨Q⟩=Q .ret fr st:=(rfl)
def Dn(res:List PRes)(r:D)(e:Ex)(fr:Frame)(st:St):Prop:=match e with
 |.exit _ | .panic _ _=>False
 |_=>(FM ⟨fr,st⟩ res).map DQ=some r
theorem Yjp(res:List PRes)(r:D)(fr:Frame)(st:St):Dn res r .ret fr st=((FM ⟨fr,st⟩ res).map DQ=some r):=(rfl)
theorem Ybd(res:List PRes)(r:D)(fr:Frame)(st:St):Dn res r .next fr st=((FM ⟨fr,st⟩ res).map DQ=some r):=(rfl)
def GJ(res:List PRes)[R:Cont2 D St](e:Ex)(fr:Frame)(st:St):Prop:=match e with
 |.exit _ | .panic _ _=>False
 |_=>@on _ (D3 ⟨fr,st⟩ res) ⟨fun l=>R.run (DQ l) st⟩
theorem pg(res:List PRes)(R:D→St→Prop)(fr:Frame)(st:St):@GJ res ⟨R⟩ .ret fr st=@on _ (D3 ⟨fr,st⟩ res) ⟨fun l=>R (DQ l) st⟩:=(rfl)
theorem rI(res:List PRes)(R:D→St→Prop)(fr:Frame)(st:St):@GJ res ⟨R⟩ .next fr st=@on _ (D3 ⟨fr,st⟩ res) ⟨fun l=>R (DQ l) st⟩:=(rfl)
variable {ds:List D}{F:PF}
theorem pr{r:D}(h:W G T F.code (Dc ds) [] (Dn F.res r)):∃ fuel,F.run G T fuel ds=some r:=by
 obtain⟨n,e,J,st',I,E⟩:=Lg _ _ _ _ h;refine⟨n,?_⟩;unfold PF.run;rw[I n (AD _)]
 cases e with
 |next=>exact E
 |ret=>exact E
 |exit id=>exact E.elim
 |panic t d=>exact E.elim
theorem Yg{R:D→St→Prop}(h:W G T F.code (Dc ds) st (@GJ F.res ⟨R⟩)):∃ fuel r st',(∀ m,fuel≤m→F.runI G T m ds st=some (r,st'))∧R r st':=by
 obtain⟨n,e,I,st',J,E⟩:=Lg _ _ _ _ h
 have key:∀ (E:@on _ (D3 ⟨I,st'⟩ F.res) ⟨fun l=>R (DQ l) st'⟩) (he:e=.next∨e=.ret),∃ fuel r st',(∀ m,fuel≤m→F.runI G T m ds st=some (r,st'))∧R r st':=by
  intro E he;unfold on at E
  split at E
  ·rename_i l hl;refine⟨n,DQ l,st',fun m hm=>?_,E⟩;unfold PF.runI;grind
  ·grind
 cases e with
 |next=>exact key E (.inl rfl)
 |ret=>exact key E (.inr rfl)
 |exit id=>exact E.elim
 |panic t d=>exact E.elim
def Nq[X:XC0](e:Ex)(_:Frame)(st:St):Prop:=match e with
 |.panic t d=>X.run t d st
 |_=>False
theorem yV0(X:Nat→D→St→Prop)(t:Nat)(d:D)(fr:Frame)(st:St):@Nq ⟨X⟩ (.panic t d) fr st=X t d st:=(rfl)
theorem Ya6(h:W G T F.code (Dc ds) st (@Nq ⟨X⟩)):∃ fuel t d st',(∀ m,fuel≤m→F.runX G T m ds st=some (t,d,st'))∧X t d st':=by
 obtain⟨n,e,J,st',I,E⟩:=Lg _ _ _ _ h
 cases e with
 |panic t d=>exact⟨n,t,d,st',fun m hm=>by unfold PF.runX; rw[I m hm],E⟩
 |_=>exact E.elim
def O5(h:Nat→D→List D→St→Option St)(das:List D)(res:List PRes)[R:Cont2 D St](e:Ex)(fr:Frame)(st:St):Prop:=match e with
 |.exit _=>False
 |.panic t d=>@on _ (h t d das st) ⟨fun st3=>@on _ (D3 ⟨fr,st3⟩ res) ⟨fun l=>R.run (DQ l) st3⟩⟩
 |_=>@on _ (D3 ⟨fr,st⟩ res) ⟨fun l=>R.run (DQ l) st⟩
theorem Yjr(h:Nat→D→List D→St→Option St)(E:List D)(res:List PRes)(R:D→St→Prop)(fr:Frame)(st:St):@O5 h E res ⟨R⟩ .ret fr st=@on _ (D3 ⟨fr,st⟩ res) ⟨fun l=>R (DQ l) st⟩:=(rfl)
theorem Ybg(h:Nat→D→List D→St→Option St)(E:List D)(res:List PRes)(R:D→St→Prop)(fr:Frame)(st:St):@O5 h E res ⟨R⟩ .next fr st=@on _ (D3 ⟨fr,st⟩ res) ⟨fun l=>R (DQ l) st⟩:=(rfl)
theorem yV2(h:Nat→D→List D→St→Option St)(E:List D)(res:List PRes)(R:D→St→Prop)(t:Nat)(d:D)(fr:Frame)(st:St) :
  @O5 h E res ⟨R⟩ (.panic t d) fr st=@on _ (h t d E st) ⟨fun I=>@on _ (D3 ⟨fr,I⟩ res) ⟨fun l=>R (DQ l) I⟩⟩:=(rfl)
def Q8(h:Nat→D→List D→St→Option St)(das:List D)(res:List PRes)(r:D)(e:Ex)(fr:Frame)(st:St):Prop:=match e with
 |.exit _=>False
 |.panic t d=>@on _ (h t d das st) ⟨fun st3=>(FM ⟨fr,st3⟩ res).map DQ=some r⟩
 |_=>(FM ⟨fr,st⟩ res).map DQ=some r
theorem Ybh(h:Nat→D→List D→St→Option St)(E:List D)(res:List PRes)(r:D)(fr:Frame)(st:St):Q8 h E res r .ret fr st=((FM ⟨fr,st⟩ res).map DQ=some r):=(rfl)
theorem yV3(h:Nat→D→List D→St→Option St)(E:List D)(res:List PRes)(r:D)(fr:Frame)(st:St):Q8 h E res r .next fr st=((FM ⟨fr,st⟩ res).map DQ=some r):=(rfl)
theorem yPn(h:Nat→D→List D→St→Option St)(E:List D)(res:List PRes)(r:D)(t:Nat)(d:D)(fr:Frame)(st:St):Q8 h E res r (.panic t d) fr st=@on _ (h t d E st) ⟨fun I=>(FM ⟨fr,I⟩ res).map DQ=some r⟩:=(rfl)
def Rj(G:Dj)(T:Tbl)(F:PFD)(H:IQ)(ds:List D)(st:St)(K:(Nat→D→List D→St→Option St)→List D→Ex→Frame→St→Prop):Prop:=
 @HY G T F.pre (Dc ds) st ⟨fun fr1 st1=>@on _ (Oc (Dq G fr1 F.hf) (F.ha.map (Dq G fr1))) ⟨fun p=>@on _ (H p.1) ⟨fun h=>@wW G T F.code fr1 st1 ⟨K h p.2⟩⟩⟩⟩
theorem Ya8{F:PFD}{H:IQ}{K:(Nat→D→List D→St→Option St)→List D→Ex→Frame→St→Prop}(h:Rj G T F H ds st K) :
  ∃ n s1 f M J e I st',E6 G T F.pre ⟨Dc ds,st⟩=some s1∧Oc (Dq G s1.fr F.hf) (F.ha.map (Dq G s1.fr))=some (f,M)∧H f=some J∧(∀ m,n≤m→F.code.exec G T m s1=some (e,⟨I,st'⟩))∧K J M e I st':=by
 obtain⟨fr1,st1,N,E⟩:=Us _ _ _ _ h;simp only at E;unfold on at E
 split at E
 case h_2=>exact E.elim
 rename_i p O;simp only at E
 split at E
 case h_2=>exact E.elim
 rename_i J U;obtain⟨n,e,I,st',V,Y⟩:=Lg _ _ _ _ (show W G T F.code fr1 st1 (K J p.2)from E);exact⟨n,⟨fr1,st1⟩,p.1,p.2,J,e,I,st',N,O,U,V,Y⟩
theorem Yvw(fs:List (Option Foot))(g:Option Foot):N3 fs g []=true:=(rfl)
theorem Ynf(fs:List (Option Foot))(g:Option Foot)(j:Nat)(r:List Nat):N3 fs g (j::r)=(j5 fs[j]? g && N3 fs g r):=(rfl)
theorem YBz(f g:Foot):j5 (some (some f)) (some g)=f.ok g:=(rfl)
theorem We(r w I w':List Nat)(m E:Option Nat):Foot.ok ⟨r,w,m⟩ ⟨I,w',E⟩=(H9 w' r && H9 w' w && H9 w I && Lw m I && Lw m w' && Lw E r && Lw E w && (m.isNone || E.isNone)):=(rfl)
theorem Yoh(b:List Nat):H9 [] b=true:=(rfl)
theorem Yht(k:Nat)(a b:List Nat):H9 (k::a) b=(!b.contains k && H9 a b):=by simp[H9]
theorem yZb(a:List Nat):Lw none a=true:=(rfl)
theorem yZa(n:Nat):Lw (some n) []=true:=(rfl)
theorem yRp(n k:Nat)(a:List Nat):Lw (some n) (k::a)=(decide (k<n) && Lw (some n) a):=(rfl)
theorem Yfh:Pn=⟨[],[],none⟩:=(rfl)
theorem Ych:Hl (none:Option α)=[]:=(rfl)
theorem Ycg(x:α):Hl (some x)=[x]:=(rfl)
section
variable (ρ:PA→D) (st:St)
theorem Yev(n:Nat)(p x:PA):POp.foot ρ st (.stor n p x)=some ⟨hk (ρ x),hk (ρ p),none⟩:=(rfl)
theorem Ymu(x:PA):POp.foot ρ st (.box x)=some ⟨[],[],some st.length⟩:=(rfl)
theorem yX4(a b:Nat)(z:D)(l c:PA):POp.foot ρ st (.mkslc a b z l c)=some ⟨[],[],some st.length⟩:=(rfl)
theorem yX5(f:Nat)(l:List PA):POp.foot ρ st (.mcall f l)=some ⟨[],[],some st.length⟩:=(rfl)
def RD(st:St)(s x:D):Option Foot:=match s with
 |.row key _ _ _=>some ⟨hk x,[key],none⟩
 |_=>some ⟨hk x,[],Ge x st.length⟩
theorem Yop(key tot off len:Nat)(x:D):RD st (.row key tot off len) x=some ⟨hk x,[key],none⟩:=(rfl)
theorem Yoo(sz:Nat)(els:List D)(t:Bool)(x:D):RD st (.slc sz els t) x=some ⟨hk x,[],Ge x st.length⟩:=(rfl)
theorem Yom(sz:Nat)(t:Bool)(n:Nat):Ge (.slc sz [] t) n=none:=(rfl)
theorem Yhx(sz:Nat)(a:D)(l:List D)(t:Bool)(n:Nat):Ge (.slc sz (a::l) t) n=some n:=(rfl)
theorem Yol(key tot off len n:Nat):Ge (.row key tot off len) n=some n:=(rfl)
theorem Yon(key off m sz:Nat)(ag:Bool)(n:Nat):Ge (.bsl key off m sz ag) n=some n:=(rfl)
theorem Yok(s:List UInt8)(n:Nat):Ge (.str s) n=some n:=(rfl)
theorem Ymv(a b:Nat)(s x:PA):POp.foot ρ st (.app a b s x)=RD st (ρ s) (ρ x):=(rfl)
theorem Yey(n:Nat)(ag:Bool)(x:PA):POp.foot ρ st (.load n ag x)=some ⟨hk (ρ x),[],none⟩:=by simp[POp.foot,POp.args]
theorem Yew(x:PA):POp.foot ρ st (.nilc x)=some ⟨Mg (ρ x),[],none⟩:=(rfl)
theorem Yr7(key off:Nat):Mg (.ptr key off)=[]:=(rfl)
theorem Yjn(E:D)(off:Nat):Mg (.eptr E off)=[]:=(rfl)
theorem Yjm(key tot i off:Nat):Mg (.rptr key tot i off)=[key]:=(rfl)
theorem Ymt(n:Nat)(x:PA):POp.foot ρ st (.fld n x)=some ⟨Mg (ρ x),[],none⟩:=(rfl)
theorem Yez(n m:Nat)(x i:PA):POp.foot ρ st (.idxA n m x i)=some ⟨Mg (ρ x),[],none⟩:=(rfl)
theorem yX3(n:Nat)(x:PA)(a b c:Option PA):POp.foot ρ st (.slice n x a b c)=some ⟨((x::(Hl a++Hl b++Hl c)).map ρ).flatMap hk,[],none⟩:=(rfl)
theorem Ye0(f:Nat)(l:List PA):POp.foot ρ st (.call f l)=some ⟨(l.map ρ).flatMap hk,[],none⟩:=(rfl)
theorem Ye1(n:Nat)(l:List PA):POp.foot ρ st (.bslc n l)=some ⟨(l.map ρ).flatMap hk,[],none⟩:=(rfl)
end
attribute [irreducible] kF Gd wF Jg cZ XV on Tq HF ev Qj Fh kG kV Gq W SS Mi Dn GJ wW HY Ei Jl Mq Qc JN Tp Nq O5 Q8
def EJ:D→Bool
 |.int _ _ | .bool _ | .str _ | .clo _ [] | .nilf | .nilp=>true
 |.slc sz els t=>!t && nz sz els == sz
 |_=>false
def IW:D→Bool
 |.agg l=>l.all EJ
 |d=>EJ d
variable {d:D}
theorem eh(st:St)(h:EJ d=true):DD st d=some d:=by
 cases d with
 |clo f l=>cases l <;> simp_all [EJ,DD,D.pure1]
 |slc sz els t=>simp_all [EJ,DD]
 |_=>simp_all [EJ,DD,D.pure1]
theorem Sz(st:St):∀ {l:List D},l.all EJ=true→D9 st l=some l
 |[],_=>rfl
 |d::l,h=>by
  simp only[AZ,Af]at h;simp only[D9,eh st h.1,Sz st h.2]
theorem QH(st:St)(h:IW d=true):DW st d=some d:=by
 cases d with
 |agg l=>simp only[DW,Sz st h,Ag]
 |tup l=>simp[IW,EJ]at h
 |_=>exact eh st (by simpa only[IW]using h)
theorem ep(h:EJ d=true):Fp d=[]:=by
 cases d <;> simp_all [EJ,Fp]
theorem PW(h:IW d=true):keys d=[]:=by
 cases d with
 |agg l=>
  simp only[keys,B9];simp only[IW,Ak]at h;exact fun d E=>ep (h d E)
 |_=>exact ep (by simpa only[IW]using h)
theorem r7(h:EJ d=true):DB d=[]:=by
 cases d with
 |clo f l=>cases l <;> simp_all [EJ,DB]
 |_=>simp_all [EJ,DB,Gr]
theorem TK(h:IW d=true):hk d=[]:=by
 cases d with
 |agg l=>
  simp only[hk,B9];simp only[IW,Ak]at h;exact fun d E=>r7 (h d E)
 |_=>exact r7 (by simpa only[IW]using h)
theorem tp(n:Nat)(σ:List Nat)(h:EJ d=true):EK n σ d=d:=by
 cases d with
 |clo f l=>cases l <;> simp_all [EJ,EK]
 |_=>simp_all [EJ,EK,GK]
theorem QI(n:Nat)(σ:List Nat)(h:IW d=true):EC n σ d=d:=by
 cases d with
 |agg l=>
  simp only[EC,D.agg.injEq];simp only[IW,Ak]at h
  have:∀ l:List D,(∀ d∈l,EJ d=true)→l.map (EK n σ)=l:=by
   intro l
   induction l with
   |nil=>intro _; rfl
   |cons a l E=>intro h; simp only[Aw,tp n σ (h a (by simp)),E fun d I=>h d (by simp[I])]
  grind
 |tup l=>simp[IW,EJ]at h
 |_=>exact tp n σ (by simpa only[IW]using h)
structure Dig where
 bs:List UInt8
 len:bs.length=32
 deriving DecidableEq
def Du:Dig:=⟨CQ 32 0,by simp⟩
instance:Inhabited Dig:=⟨Du⟩
theorem Dig.ext'{a b:Dig}(h:a.bs=b.bs):a=b:=by
 cases a; cases b; simp_all
def C8(d:Dig):List D:=d.bs.map Dl
def C9(d:Dig):D:=.agg (C8 d)
theorem DX(d:Dig):(C8 d).length=32:=by simp[C8,d.len]
theorem qR{a b:UInt8}(h:Dl a=Dl b):a=b:=by
 simp only[Dl,D.int.injEq,true_and]at h;exact UInt8.toNat_inj.1 (by omega)
theorem Py{α β:Type}{f:α→β}(I:∀ a b,f a=f b→a=b):∀ {l E:List α},l.map f=E.map f→l=E
 |[],[],_=>rfl
 |[],_::_,h=>by cases h
 |_::_,[],h=>by cases h
 |a::l,b::E,h=>by
  simp only[Aw,Aa]at h;rw[I _ _ h.1,Py I h.2]
variable {b:List UInt8}
theorem QB{a:List UInt8}(h:a.map Dl=b.map Dl):a=b:=Py (fun _ _=>qR) h
theorem n8{a b:Dig}(h:C9 a=C9 b):a=b:=by
 simp only[C9,C8,D.agg.injEq]at h;exact Dig.ext' (QB h)
theorem ME{a b:Dig}(h:C8 a=C8 b):a=b:=Dig.ext' (QB h)
theorem Lh{p:D→Bool}(E:∀ b,p (Dl b)=true)(d:Dig):(C8 d).all p=true:=by
 simp only[C8,Ak,AW];grind
theorem Jf(d:Dig):(C8 d).all D.isCell=true:=Lh (fun _=>rfl) d
theorem Up(d:Dig):(C8 d).all EJ=true:=Lh (fun _=>rfl) d
theorem QP(d:Dig):IW (C9 d)=true:=Up d
theorem PU(d:Dig):(C9 d).cells=C8 d:=(rfl)
theorem sJ(d:Dig):(C9 d).noRef=true:=Lh (fun _=>rfl) d
theorem aI(d:Dig):D.mk true (C8 d)=C9 d:=(rfl)
theorem Ys3(x:D)(l:List D):D.mk true (x::l)=.agg (x::l):=(rfl)
theorem Yzy(x:D)(l:List D):D.mk false (x::l)=x:=(rfl)
theorem Yw1(d:Dig):D.agg (C8 d)=C9 d:=(rfl)
theorem Yh5:[D.int .u8 0,.int .u8 0,.int .u8 0,.int .u8 0,.int .u8 0,.int .u8 0,.int .u8 0,.int .u8 0,.int .u8 0,.int .u8 0,.int .u8 0,.int .u8 0,.int .u8 0,.int .u8 0,.int .u8 0,.int .u8 0,.int .u8 0,.int .u8 0,.int .u8 0,.int .u8 0,.int .u8 0,.int .u8 0,.int .u8 0,.int .u8 0,.int .u8 0,.int .u8 0,.int .u8 0,.int .u8 0,.int .u8 0,.int .u8 0,.int .u8 0,.int .u8 0]=C8 Du:=(rfl)
theorem TR(d:Dig):(C8 d).take 32=C8 d:=AI (by rw[DX]; exact AD _)
theorem Zh(h:EJ d=true):IW d=true:=by
 cases d with
 |agg l=>simp[EJ]at h
 |_=>exact h
theorem PV(n:Nat)(σ:List Nat):∀ {l:List D},l.all EJ=true→l.map (EC n σ)=l
 |[],_=>rfl
 |d::l,h=>by
  simp only[AZ,Af]at h;simp only[Aw,QI n σ (Zh h.1),PV n σ h.2]
theorem QM:∀ {l:List D},l.all EJ=true→l.flatMap hk=[]
 |[],_=>rfl
 |d::l,h=>by
  simp only[AZ,Af]at h;simp only[At,TK (Zh h.1),QM h.2,Ad]
theorem Yj2(n:Nat)(σ:List Nat)(d:Dig):(C8 d).map (EC n σ)=C8 d:=PV n σ (Up d)
theorem Ymg(d:Dig):(C8 d).flatMap hk=[]:=QM (Up d)
theorem Yuc(st:St)(d:Dig):DW st (C9 d)=some (C9 d):=QH st (QP d)
theorem oC(d:Dig):keys (C9 d)=[]:=PW (QP d)
theorem YBb(d:Dig):hk (C9 d)=[]:=TK (QP d)
theorem pe(n:Nat)(σ:List Nat)(d:Dig):EC n σ (C9 d)=C9 d:=QI n σ (QP d)
theorem NL(d:Dig):DH (C9 d)=some (C8 d):=by
 simp only[DH,PU,Jf,if_true]
theorem lT:∀ (n:Nat) (a b:List UInt8),a.length=n→b.length=n→EY (CQ n 0) (a.map Dl) (b.map Dl)=some (decide (a=b))
 |0,[],[],_,_=>rfl
 |0,_::_,_,h,_=>by cases h
 |0,[],_::_,_,h=>by cases h
 |n+1,[],_,h,_=>by cases h
 |n+1,_::_,[],_,h=>by cases h
 |n+1,a::l,b::I,h,E=>by
  simp only[Ah,Nat.add_right_cancel_iff]at h E;simp only[B1,Aw,EY,lT n l I h E];simp only[I0,Dl,if_true]
  congr 1
  by_cases e:a=b
  ·grind
  ·have:¬ ((a.toNat:Int)=(b.toNat:Int)):=fun h=>e (UInt8.toNat_inj.1 (by omega));grind
theorem sM(a b:Dig):EY (CQ 32 0) (C8 a) (C8 b)=some (decide (a=b)):=by
 rw[C8,C8,lT 32 a.bs b.bs a.len b.len]
 congr 1
 by_cases e:a=b
 ·grind
 ·have E:¬ a.bs=b.bs:=fun h=>e (Dig.ext' h);simp[e,E]
theorem wy(E:Bool)(a b:Dig):GM [0,0,0,0,0,0,0,0,0,0,0,0,0,0,0,0,0,0,0,0,0,0,0,0,0,0,0,0,0,0,0,0] E (C9 a) (C9 b)=some (.bool (decide (a=b) != E)):=by
 show(EY (CQ 32 0) (C8 a) (C8 b)).map _=_
 rw[sM]; rfl
theorem getElem?_getD[Inhabited α](l:List α)(i:Nat)(h:i<l.length):l[i]?=some (l.getD i default):=by
 grind
theorem sg[Inhabited α](l:List α)(i:Nat)(h:i<l.length):l.take (i+1)=l.take i++[l.getD i default]:=by
 simp_all
theorem jh[Inhabited α](l:List α)(i:Nat)(h:i<l.length):l.drop i=l.getD i default::l.drop (i+1):=by
 simp_all
theorem tr(l xs:List D)(h:l.length=xs.length):FG l 0 xs=xs:=by
 simp[FG,h]
theorem tt(a b:Dig):FG (C8 a) 0 (C8 b)=C8 b:=tr _ _ (by rw[DX,DX])
theorem yO0(x:D)(l ys:List D)(n:Nat):FG (x::l) (n+1) ys=x::FG l n ys:=by
 simp[FG,Nat.add_right_comm]
def Dy(o:Option Obj)(n:Nat)(ag:Bool)(off:Nat):Option D:=if !ag && n != 1 then none else o.bind fun o=>if !o.row && decide (off+n≤o.els.length)then some (.mk ag ((o.els.drop off).take n))else none
def DY(o:Option Obj)(n:Nat)(off:Nat)(x:D):Option Obj:=o.bind fun o=>if !o.row && !o.lent && decide (off+n≤o.els.length) && x.cells.length == n && x.cells.all D.isCell then some {o with els:=FG o.els off x.cells} else none
theorem Ybx(st:St)(n:Nat)(ag:Bool)(key off:Nat):Ft st n ag (.ptr key off)=Dy st[key]? n ag off:=by
 simp only[Ft,Dy];grind
theorem Ybv(st:St)(n:Nat)(key off:Nat)(x:D):Ms st n (.ptr key off) x=(DY st[key]? n off x).map fun o=>st.set key o:=by
 simp only[Ms,DY];grind
section
variable {α:Type} (sz:Nat) (lent:Bool)
theorem RR(x:D)(l:List D):Dy (some ⟨false,sz,x::l,lent⟩) 1 false 0=some x:=by
 rfl
theorem oE(x:D)(l:List D)(n:Nat)(ag:Bool)(off:Nat):Dy (some ⟨false,sz,x::l,lent⟩) n ag (off+1)=Dy (some ⟨false,sz,l,lent⟩) n ag off:=by
 simp only[Dy,Bp,List.drop_succ_cons,Ah];grind
theorem Yto(d:Dig):Dy (some ⟨false,sz,C8 d,lent⟩) 32 true 0=some (C9 d):=by
 simp[Dy,DX,TR,aI]
theorem Ll(x:D)(d:Dig):Dy (some ⟨false,sz,x::C8 d,lent⟩) 33 true 0=some (.agg (x::C8 d)):=by
 simp[Dy,DX,TR,D.mk]
theorem xA{α:Type}[Inhabited α](f:α→D)(E:List α)(i:Nat)(h:i<E.length):Dy (some ⟨false,sz,E.map f,lent⟩) 1 false i=some (f (E.getD i default)):=by
 have I:i+1≤E.length:=h
 have:(E.map f).drop i=f (E.getD i default)::(E.map f).drop (i+1):=by
  rw[← Cn,jh E i h,Aw,Cn]
 simp[Dy,this,D.mk,I]
theorem LF(cs:List D)(n:Nat)(h:cs.length=n):Dy (some ⟨false,sz,cs,lent⟩) n true 0=some (.agg cs):=by
 subst h; simp[Dy,D.mk]
theorem yXh{α:Type}(f:α→D)(E:List α)(n:Nat)(h:E.length=n):Dy (some ⟨false,sz,E.map f,lent⟩) n true 0=some (.agg (E.map f)):=
 LF sz lent _ n (by simpa using h)
theorem xZ(x v:D)(l:List D)(hv:v.isCell=true):DY (some ⟨false,sz,x::l,false⟩) 1 0 v=some ⟨false,sz,v::l,false⟩:=by
 simp[DY,QW hv,hv,FG]
theorem Yrx(x:D)(k:IntKind)(n:Int)(l:List D):DY (some ⟨false,sz,x::l,false⟩) 1 0 (.int k n)=some ⟨false,sz,.int k n::l,false⟩:=xZ sz _ _ _ rfl
theorem Yrw(x:D)(key tot off len:Nat)(l:List D):DY (some ⟨false,sz,x::l,false⟩) 1 0 (.row key tot off len)=some ⟨false,sz,.row key tot off len::l,false⟩:=xZ sz _ _ _ rfl
theorem Yry(d e:Dig):DY (some ⟨false,sz,C8 d,false⟩) 32 0 (C9 e)=some ⟨false,sz,C8 e,false⟩:=by
 simp[DY,DX,PU,Jf,tt]
theorem L1(cs ds:List D)(n:Nat)(h:cs.length=n)(E:ds.length=n)(hc:ds.all D.isCell=true):DY (some ⟨false,sz,cs,false⟩) n 0 (.agg ds)=some ⟨false,sz,ds,false⟩:=by
 subst h;simp[DY,D.cells,E,hc,tr _ _ E.symm]
theorem Mc(x:D)(k:IntKind)(m:Int)(d e:Dig):DY (some ⟨false,sz,x::C8 d,false⟩) 33 0 (.agg (.int k m::C8 e))=some ⟨false,sz,.int k m::C8 e,false⟩:=
 L1 sz _ _ 33 (by simp[DX]) (by simp[DX]) (by simp[Jf,D.isCell])
theorem ya(f:α→D)(I:∀ a,(f a).isCell=true)(E:List α)(i:Nat)(v:α)(h:i<E.length):DY (some ⟨false,sz,E.map f,false⟩) 1 i (f v)=some ⟨false,sz,(E.set i v).map f,false⟩:=by
 have J:i+1≤E.length:=h
 have M:FG (E.map f) i [f v]=(E.set i v).map f:=by
  rw[List.map_set,FG,Ca];simp[h]
 simp[DY,QW (I v),I v,J,M]
theorem Yi7(E:List UInt8)(i:Nat)(v:UInt8)(h:i<E.length):DY (some ⟨false,sz,E.map Dl,false⟩) 1 i (Dl v)=some ⟨false,sz,(E.set i v).map Dl,false⟩:=ya sz Dl (fun _=>rfl) E i v h
theorem Yi6(E:List UInt32)(i:Nat)(v:UInt32)(h:i<E.length):DY (some ⟨false,sz,E.map wD,false⟩) 1 i (wD v)=some ⟨false,sz,(E.set i v).map wD,false⟩:=ya sz wD (fun _=>rfl) E i v h
theorem Yd{α:Type}(f:α→D)(I:∀ a,(f a).isCell=true)(E:List α):(E.map f).all D.isCell=true:=by
 grind
theorem Yi8(E vs:List UInt32)(n:Nat)(h:E.length=n)(I:vs.length=n):DY (some ⟨false,sz,E.map wD,false⟩) n 0 (.agg (vs.map wD))=some ⟨false,sz,vs.map wD,false⟩:=
 L1 sz _ _ n (by simpa using h) (by simpa using I) (Yd wD (fun _=>rfl) vs)
theorem Yi9(E vs:List UInt8)(n:Nat)(h:E.length=n)(I:vs.length=n):DY (some ⟨false,sz,E.map Dl,false⟩) n 0 (.agg (vs.map Dl))=some ⟨false,sz,vs.map Dl,false⟩:=
 L1 sz _ _ n (by simpa using h) (by simpa using I) (Yd Dl (fun _=>rfl) vs)
end
theorem yWc(st:St)(n:Nat)(ag:Bool)(key tot i off:Nat):Ft st n ag (.rptr key tot i off)=if !ag && n != 1 then none else(st[key]?).bind fun o=>if o.row && o.els.length == tot then(o.els[i]?).bind fun el=>if off+n≤el.cells.length then some (.mk ag ((el.cells.drop off).take n))else none else none:=by
 simp only[Ft];grind
theorem yWh(st:St)(d:Dig):Ft st 32 true (.eptr (C9 d) 0)=some (C9 d):=by
 simp[Ft,PU,DX,TR,aI]
theorem QE(k:IntKind)(n:Int)(h:0≤n):FP (.int k n)=some n.toNat:=by simp[FP,h]
theorem yWz(k:IntKind):FP (.int k 0)=some 0:=(rfl)
theorem PJ(st:St)(n key off:Nat)(k:IntKind)(i:Int)(E:0≤i)(J:i<(n:Int)):Jr st n 1 (.ptr key off) (.int k i)=some (.ptr key (off+i.toNat)):=by
 have I:i.toNat<n:=by omega
 simp[Jr,QE k i E,I,Fw]
theorem Yei(st:St)(n off:Nat)(E:D)(k:IntKind)(i:Int)(I:0≤i)(M:i<(n:Int)):Jr st n 1 (.eptr E off) (.int k i)=some (.eptr E (off+i.toNat)):=by
 have J:i.toNat<n:=by omega
 simp[Jr,QE k i I,J,Fw]
theorem yWf[Inhabited α](st:St)(f:α→D)(E:List α)(i:Nat)(h:i<E.length):Ft st 1 false (.eptr (.agg (E.map f)) i)=some (f (E.getD i default)):=by
 have:=xA 1 false f E i h;simpa[Ft,Dy,D.cells]using this
theorem ic(st:St)(x:D)(h:x.isCell=true):Ft st 1 false (.eptr x 0)=some x:=by
 simp[Ft,QW h,D.mk]
theorem eL(st:St)(b:UInt8):Ft st 1 false (.eptr (Dl b) 0)=some (Dl b):=ic st _ rfl
theorem yWg(st:St)(k:IntKind)(n:Int):Ft st 1 false (.eptr (.int k n) 0)=some (.int k n):=ic st _ rfl
theorem Ymf[Inhabited α](st:St)(sz:Nat)(f:α→D)(l:List α)(t:Bool)(k:IntKind)(i:Int)(E:0≤i)(J:i<(l.length:Int)) :
  Gx st sz (.slc sz (l.map f) t) (.int k i)=some (.eptr (f (l.getD i.toNat default)) 0):=by
 have I:i.toNat<l.length:=by omega
 simp only[Gx,QE k i E,AJ,getElem?_getD l i.toNat I,Ag,beq_self_eq_true,if_true]
theorem Ylg(st:St)(sz:Nat)(els:List D)(t:Bool):ER st false (.slc sz els t)=some (.int .i64 (els.length:Int)):=(rfl)
theorem Ylf(st:St)(s:List UInt8):ER st true (.str s)=some (.int .i64 (s.length:Int)):=(rfl)
theorem Ylh(st:St)(key tot off len:Nat):ER st false (.row key tot off len)=if E0 st key tot then some (.int .i64 (len:Int))else none:=by
 simp only[ER,Jq,E4,beq_self_eq_true,if_true];grind
theorem Ykj(st:St)(sz bytes key tot:Nat)(x:D)(o:Obj)(xs:List D)(E:Nat)(I:st[key]?=some o)(J:o.row=true)(M:o.sz=sz)(N:o.els.length=tot)
  (O:G7 st x=some (E,xs)) (U:E=sz∨xs=[]) (V:sz≠0) (hb:(tot+xs.length)*bytes≤140737488355328) (hl:tot+xs.length≤4294967296) :
  Ep st sz bytes (.row key tot 0 tot) x=some (.row key (tot+xs.length) 0 (tot+xs.length),st.set key {o with els:=o.els++xs}):=by
 have e:(!(E == sz || xs.isEmpty) || sz == 0)=false:=by
  grind
 simp only[Ep,O,e,I,J,M,N,hb,hl,beq_self_eq_true,AA,decide_true,if_true,Ao,if_false]
theorem pI(st:St)(sz bytes E:Nat)(els:List D)(x:D)(xs:List D)(I:Nat)(J:G7 st x=some (I,xs))(V:I=sz∨xs=[])(O:E=sz∨els=[])(Y:sz≠0)(U:xs≠[])
  (hb:(els.length+xs.length)*bytes≤140737488355328) (hl:els.length+xs.length≤4294967296) :
  Ep st sz bytes (.slc E els true) x=some (.row st.length (els.length+xs.length) 0 (els.length+xs.length),st++[{row:=true,sz,els:=els++xs,lent:=false}]):=by
 have M:xs.isEmpty=false:=by cases xs <;> simp_all
 have e:(!(I == sz || false) || sz == 0)=false:=by
  grind
 have N:(E == sz || els.isEmpty)=true:=by
  grind
 simp only[Ep,J,e,M,N,hb,hl,AA,decide_true,if_true,Ao,if_false]
theorem pJ(st:St)(sz bytes E:Nat)(els:List D)(x:D)(I:Nat)(J:G7 st x=some (I,[]))(M:sz≠0) :
  Ep st sz bytes (.slc E els true) x=some (.slc E els true,st):=by
 simp[Ep,J,M]
theorem tV:∀ (l:List D),JF 1 false l l.length=l
 |[]=>rfl
 |a::l=>by simp[JF,D.mk,tV l]
def Ec(sz key:Nat)(els:List D):D:=if els.isEmpty then .slc sz [] true else .row key els.length 0 els.length
def DC(sz:Nat)(els:List D):St:=if els.isEmpty then []else [{row:=true,sz,els,lent:=false}]
theorem ou(sz key:Nat):Ec sz key []=.slc sz [] true:=(rfl)
theorem Ykk(st:St)(sz sz0 bytes:Nat)(els xs:List D)(x:D)(E:Nat)(I:G7 (st++DC sz els) x=some (E,xs))(J:E=sz∨xs=[])(hs0:sz≠0)
  (hb:(els.length+xs.length)*bytes≤140737488355328) (hl:els.length+xs.length≤4294967296) :
  Ep (st++DC sz els) sz bytes (Ec sz0 st.length els) x=some (Ec sz0 st.length (els++xs),st++DC sz (els++xs)):=by
 cases els with
 |nil=>
  cases xs with
  |nil=>
   rw[ou,pJ _ _ _ _ _ _ E I hs0];rfl
  |cons a l=>
   rw[ou,pI _ _ _ _ _ _ (a::l) E I J (.inr rfl) hs0 (by simp) (by simpa using hb) (by simpa using hl)];simp[Ec,DC]
 |cons e r=>
  have M:(st++DC sz (e::r))[st.length]?=some {row:=true,sz,els:=e::r,lent:=false}:=by simp[DC]
  have:=Ykj (st++DC sz (e::r)) sz bytes st.length (e::r).length x _ xs E M rfl rfl rfl I J hs0 hb hl;simp only[Ec,List.isEmpty_cons,Ao,if_false,Ae]at this ⊢;rw[this];simp[DC,Nat.add_right_comm]
theorem Yy8(fr:Frame)(s t:Nat)(d:D):(fr.set s d) t=if t=s then d else fr t:=(rfl)
theorem Yzz(s t:Nat)(d:D)(r:List (Nat×D)):F3 ((s,d)::r) t=if t=s then d else F3 r t:=(rfl)
attribute [push_cast] YC8 yVx X2 Yio yVh yVi E3 Yrb Vx YBi Yt0 Yvw Ynf YBz We Yoh Yht yZb yZa yRp Yfh Ych Ycg Yev Ymu yX4 yX5 Yop Yoo Yom Yhx Yol Yon Yok Ymv Yey Yew Ymt Yez yX3 Ye0 Ye1 Yr7 Yjn Yjm Option.isNone_none Option.isNone_some
attribute [push_cast] xI Ysv Ykz Ymd Yeg Yim yVe yVf Yt4 Yl0 YAy Yty Yt1 Ylz WJ WC YAn WK WL YAx YAp YAm YAo WM WN WQ j0 YAv Ytx Ytv Yly WH YAu YAs YAt WG YAr WE YAq WO j1 WD Ytw Yt2 Yt3 Ytz YAw WI Yj9 Yka Yy8 V7 V8 Yzz YCz YCy YCx YCw YCv YCu YCt YCs YC3 X1 XW yZ2 yZ3 Yiy YC7 Yw8 Ykr Ysr Yzl YC6 XX Yjp Ybd pg rI Yh5
attribute [push_cast] Yuf Xa YBt yWo yP4 yWp YBs YBr YBq Yuc oC YBb pe DX Jf PU sJ aI Yw1 Ys3 Yzy TR NL wy yWh Ybx Ybv RR oE Yto Ll xA yXh Yrx Yrw Yry Mc Yi7 Yi6 Yi8 Yi9 eL yWg yWf Ylg Ylf
theorem xn(st:St)(k:IntKind)(n:Int):DW st (.int k n)=some (.int k n):=(rfl)
theorem Yma(st:St)(b:Bool):DW st (.bool b)=some (.bool b):=(rfl)
theorem Yt8(st:St)(s:List UInt8):DW st (.str s)=some (.str s):=(rfl)
theorem Yt9(st:St)(sz:Nat)(els:List D)(t:Bool):DW st (.slc sz els t)=some (.slc (nz sz els) els false):=(rfl)
theorem Yua(st:St)(key tot off len:Nat):DW st (.row key tot off len)=(HL st key tot off len).map fun p=>.slc (nz p.1 p.2) p.2 false:=(rfl)
theorem xm(st:St)(l:List D):DW st (.agg l)=(D9 st l).map .agg:=(rfl)
theorem Ymb(st:St):D9 st []=some []:=(rfl)
theorem qY(st:St)(d:D)(l:List D):D9 st (d::l)=(DD st d).bind fun x=>(D9 st l).map (x::·):=by
 simp only[D9]
 cases DD st d with
 |none=>rfl
 |some x=>cases D9 st l <;> rfl
theorem Yl4(st:St):Ek st []=some []:=(rfl)
theorem Yd7(st:St)(d:D)(l:List D):Ek st (d::l)=(DW st d).bind fun x=>(Ek st l).map (x::·):=by
 simp only[Ek]
 cases DW st d with
 |none=>rfl
 |some x=>cases Ek st l <;> rfl
theorem oU(st:St)(d:Dig):D9 st (C8 d)=some (C8 d):=Sz st (Up d)
theorem Ymn(s:PS):FM s []=some []:=(rfl)
theorem Yer(s:PS)(r:PRes)(l:List PRes):FM s (r::l)=(r.get s).bind fun x=>(FM s l).map (x::·):=by
 simp only[FM]
 cases r.get s with
 |none=>rfl
 |some x=>cases FM s l <;> rfl
theorem Yu5(fr:Frame)(st:St)(t:Nat):PRes.get ⟨fr,st⟩ (.tmp t)=DW st (fr t):=(rfl)
theorem Ymq(fr:Frame)(st:St)(t n:Nat)(ag:Bool):PRes.get ⟨fr,st⟩ (.cell t n ag)=(Ft st n ag (fr t)).bind fun d=>DW st d:=by
 simp only[PRes.get];grind
theorem iq(s:PS):D3 s []=some []:=(rfl)
theorem ir(fr:Frame)(st:St)(t:Nat)(l:List PRes):D3 ⟨fr,st⟩ (.tmp t::l)=(D3 ⟨fr,st⟩ l).map (fr t::·):=(rfl)
theorem Ykn(d:D):DQ [d]=d:=(rfl)
theorem Ykm(a b:D)(l:List D):DQ (a::b::l)=.tup (a::b::l):=(rfl)
theorem Yko:DQ []=.tup []:=(rfl)
theorem Ycx(k:IntKind)(n:Int):(D.int k n).noRef=true:=(rfl)
theorem yWx(b:Bool):(D.bool b).noRef=true:=(rfl)
theorem Ycw(sz:Nat)(els:List D)(t:Bool):(D.slc sz els t).noRef=false:=(rfl)
theorem oD(k:IntKind)(n:Int):keys (.int k n)=[]:=(rfl)
theorem Ydu(b:Bool):keys (.bool b)=[]:=(rfl)
theorem Ylr(s:List UInt8):keys (.str s)=[]:=(rfl)
theorem Yls(sz:Nat)(els:List D)(t:Bool):keys (.slc sz els t)=[]:=(rfl)
theorem Ylt(key tot off len:Nat):keys (.row key tot off len)=[key]:=(rfl)
theorem YBa(k:IntKind)(n:Int):hk (.int k n)=[]:=(rfl)
theorem Yuq(b:Bool):hk (.bool b)=[]:=(rfl)
theorem YA4(s:List UInt8):hk (.str s)=[]:=(rfl)
theorem YA5(sz:Nat)(els:List D)(t:Bool):hk (.slc sz els t)=[]:=(rfl)
theorem YA6(key tot off len:Nat):hk (.row key tot off len)=[key]:=(rfl)
theorem YA7(key off:Nat):hk (.ptr key off)=[key]:=(rfl)
theorem YA3(l:List D):hk (.tup l)=[]:=(rfl)
theorem Yun:hk .junk=[]:=(rfl)
theorem Ysc(n:Nat)(σ:List Nat)(k:IntKind)(m:Int):EC n σ (.int k m)=.int k m:=(rfl)
theorem Yjy(n:Nat)(σ:List Nat)(b:Bool):EC n σ (.bool b)=.bool b:=(rfl)
theorem Yr8(n:Nat)(σ:List Nat)(s:List UInt8):EC n σ (.str s)=.str s:=(rfl)
theorem Yr9(n:Nat)(σ:List Nat)(sz:Nat)(els:List D)(t:Bool):EC n σ (.slc sz els t)=.slc sz els t:=(rfl)
theorem Ysa(n:Nat)(σ:List Nat)(key tot off len:Nat):EC n σ (.row key tot off len)=Jv (fun k=>.row k tot off len) (EV n σ key):=(rfl)
theorem Ysb(n:Nat)(σ:List Nat)(key off:Nat):EC n σ (.ptr key off)=Jv (fun k=>.ptr k off) (EV n σ key):=(rfl)
theorem yP7(f:Nat→D)(k:Nat):Jv f (some k)=f k:=(rfl)
theorem Yod(k:IntKind)(n:Int):DH (.int k n)=some [.int k n]:=(rfl)
theorem Yhn(b:Bool):DH (.bool b)=some [.bool b]:=(rfl)
theorem Yoc(sz:Nat)(els:List D)(t:Bool):DH (.slc sz els t)=some [.slc sz els t]:=(rfl)
theorem Yf3(k:IntKind)(n:Int):(D.int k n).cells=[.int k n]:=(rfl)
theorem yYr(b:Bool):(D.bool b).cells=[.bool b]:=(rfl)
theorem Yf0(sz:Nat)(els:List D)(t:Bool):(D.slc sz els t).cells=[.slc sz els t]:=(rfl)
theorem Yf1(key tot off len:Nat):(D.row key tot off len).cells=[.row key tot off len]:=(rfl)
theorem Yf4(l:List D):(D.agg l).cells=l:=(rfl)
theorem dS(k:IntKind)(n:Int):(D.int k n).isCell=true:=(rfl)
theorem yQu(b:Bool):(D.bool b).isCell=true:=(rfl)
theorem yXp(sz:Nat)(els:List D)(t:Bool):(D.slc sz els t).isCell=true:=(rfl)
theorem yXq(key tot off len:Nat):(D.row key tot off len).isCell=true:=(rfl)
theorem Yyd(b:Bool):Ns .not (.bool b)=some (.bool !b):=(rfl)
theorem Ywq(k:IntKind)(a b:Int):Dp .lss (.int k a) (.int k b)=some (.bool (decide (a<b))):=by simp only[Dp,if_true,JS,Ag]
theorem Ywr(k:IntKind)(a b:Int):Dp .leq (.int k a) (.int k b)=some (.bool (decide (a≤b))):=by simp only[Dp,if_true,JS,Ag]
theorem Yws(k:IntKind)(a b:Int):Dp .gtr (.int k a) (.int k b)=some (.bool (decide (b<a))):=by simp only[Dp,if_true,JS,Ag,gt_iff_lt]
theorem Ywt(k:IntKind)(a b:Int):Dp .geq (.int k a) (.int k b)=some (.bool (decide (b≤a))):=by simp only[Dp,if_true,JS,Ag,ge_iff_le]
theorem wk(k:IntKind)(a b:Int):Dp .eql (.int k a) (.int k b)=some (.bool (decide (a=b))):=by
 simp only[Dp,if_true,JS,Ag];rfl
theorem Ywp(k:IntKind)(a b:Int):Dp .neq (.int k a) (.int k b)=some (.bool (!decide (a=b))):=by
 simp only[Dp,if_true,JS,Ag];rfl
theorem Yog(E a b:Bool):Nt E (.bool a) (.bool b)=some (.bool ((a == b) != E)):=(rfl)
theorem Yzx(k k':IntKind)(a b:Int):Ts true (.int k a) (.int k' b)=some (.int k (max a b)):=by
 simp only[Ts,if_true]
 congr 2
 omega
theorem Yzw(k k':IntKind)(a b:Int):Ts false (.int k a) (.int k' b)=some (.int k (min a b)):=by
 simp only[Ts,Ao,if_false]
 congr 2
 omega
theorem Ys2(k k' E:IntKind)(a b c:Int):O8 true (.int k a) (.int k' b) (.int E c)=some (.int k (max (max a b) c)):=by
 simp only[O8,Nx,if_true]
 congr 2
 omega
theorem Ykf(st:St)(off key o:Nat):Fw st off (.ptr key o)=some (.ptr key (o+off)):=(rfl)
theorem Yb9(st:St)(off:Nat)(E:D)(o:Nat):Fw st off (.eptr E o)=some (.eptr E (o+off)):=(rfl)
theorem Yle(st:St):lend [] st=st:=(rfl)
theorem Ydh(k:Nat)(r:List Nat)(st:St):lend (k::r) st=lend r (st.modify k fun o=>{o with lent:=true}):=(rfl)
theorem yQs(b:Bool)(x:St):(if b=true then x else x)=x:=by cases b <;> rfl
theorem tn(n sz:Nat)(ag:Bool)(key off:Nat)(h:0<n):Pz n sz ag (.ptr key off) none none=some (.bsl key off n sz ag):=by
 have:¬ 0=n:=by omega
 simp[Pz,Gs,this]
attribute [push_cast] xn Yma Yt8 Yt9 Yua xm Ymb qY Yl4 Yd7 oU Ymn Yer Yu5 Ymq iq ir Ykn Ykm Yko Ycx yWx Ycw oD Ydu Ylr Yls Ylt YBa Yuq YA4 YA5 YA6 YA7 YA3 Yun Ysc Yjy Yr8 Yr9 Ysa Ysb yP7 Yod Yhn Yoc Yf3 yYr Yf0 Yf1 Yf4 dS yQu yXp yXq Yyd Ywq Ywr Yws Ywt wk Ywp Yog Yzx Yzw Ys2 Ykf Yb9 Yle Ydh yQs Option.map_some Option.map_none Option.bind_some Option.bind_none List.map_cons List.map_nil List.flatMap_cons List.flatMap_nil List.append_nil List.nil_append List.cons_append List.getElem?_cons_zero List.getElem?_cons_succ List.set_cons_zero List.set_cons_succ List.modify_zero_cons List.modify_succ_cons List.length_cons List.length_nil List.length_map List.take_zero List.take_succ_cons List.all_cons List.all_nil Nat.zero_add Nat.add_zero Bool.not_true Bool.not_false Bool.and_self Bool.true_and Bool.and_true Bool.false_and Bool.and_false Bool.or_false Bool.false_or Bool.true_or Bool.or_true Bool.not_not if_true if_false decide_true decide_false beq_self_eq_true Bool.false_eq_true Bool.true_eq_false ne_eq bne_self_eq_false Bool.bne_false Bool.bne_true Nat.lt_irrefl Nat.le_refl
def Nb(fr:Frame):List Nat→List Nat
 |[]=>[]
 |k::r=>hk (fr k)++Nb fr r
def J1(fr:Frame)(n:Nat)(σ:List Nat):List Nat→List (Nat×D)
 |[]=>[]
 |k::r=>(k,EC n σ (fr k))::J1 fr n σ r
def Jn:St→List Nat
 |[]=>[]
 |o::r=>(if o.row then []else o.els.flatMap hk)++Jn r
def Mr(n:Nat)(σ:List Nat)(st:St):List Nat→St
 |[]=>[]
 |k::r=>Fe n σ (st.getD k default)::Mr n σ st r
def JP(n:Nat)(σ:List Nat):St→St
 |[]=>[]
 |o::r=>Fe n σ o::JP n σ r
def Ud(keep:List Nat)(n m:Nat)(l:List Nat)(fr:Frame)(st:St):PS:=restrictAt keep n (Fc n m l []) ⟨fr,st⟩
theorem gM(fr:Frame):∀ keep:List Nat,Nb fr keep=keep.flatMap fun k=>hk (fr k)
 |[]=>rfl
 |k::r=>by rw[Nb,At,gM fr r]
theorem wm:∀ st:St,Jn st=st.flatMap fun o=>if o.row then []else o.els.flatMap hk
 |[]=>rfl
 |k::r=>by rw[Jn,At,wm r]
theorem TP(fr:Frame)(n:Nat)(σ:List Nat):∀ keep:List Nat,J1 fr n σ keep=keep.map fun k=>(k,EC n σ (fr k))
 |[]=>rfl
 |k::r=>by rw[J1,Aw,TP fr n σ r]
theorem hX(n:Nat)(σ:List Nat)(st:St):∀ l:List Nat,Mr n σ st l=l.map fun k=>Fe n σ (st.getD k default)
 |[]=>rfl
 |k::r=>by rw[Mr,Aw,hX n σ st r]
theorem bA(n:Nat)(σ:List Nat):∀ st:St,JP n σ st=st.map (Fe n σ)
 |[]=>rfl
 |k::r=>by rw[JP,Aw,bA n σ r]
def jm(keep:List Nat)(n:Nat)(fr:Frame)(st:St):PS:=Ud keep n st.length (Nb fr keep++Jn (st.take n)) fr st
theorem yPp(keep:List Nat)(n:Nat)(fr:Frame)(st:St):restrict keep n ⟨fr,st⟩=jm keep (if n≤st.length then n else st.length) fr st:=by
 simp only[restrict,jm,Ud,UN,gM,wm]
theorem yLl(keep:List Nat)(n:Nat)(fr:Frame)(st:St):jm keep n fr st=Ud keep n st.length (Nb fr keep++Jn (st.take n)) fr st:=(rfl)
def Ue(keep:List Nat)(n:Nat)(σ:List Nat)(fr:Frame)(st:St):PS:=⟨F3 (J1 fr n σ keep),JP n σ (st.take n)++Mr n σ st σ⟩
theorem yLm(keep:List Nat)(n m:Nat)(l:List Nat)(fr:Frame)(st:St):Ud keep n m l fr st=Ue keep n (Fc n m l []) fr st:=by
 simp only[Ud,restrictAt,Ue,TP,picked,bA,hX]
theorem yIl(keep:List Nat)(n:Nat)(σ:List Nat)(fr:Frame)(st:St):restrictAt keep n σ ⟨fr,st⟩=Ue keep n σ fr st:=by
 simp only[restrictAt,Ue,TP,picked,bA,hX]
theorem yLk(keep:List Nat)(n:Nat)(σ:List Nat)(fr:Frame)(st:St):Ue keep n σ fr st=⟨F3 (J1 fr n σ keep),JP n σ (st.take n)++Mr n σ st σ⟩:=(rfl)
theorem Yeo(fr:Frame):Nb fr []=[]:=(rfl)
theorem yXx(fr:Frame)(k:Nat)(r:List Nat):Nb fr (k::r)=hk (fr k)++Nb fr r:=(rfl)
theorem Yep(fr:Frame)(n:Nat)(σ:List Nat):J1 fr n σ []=[]:=(rfl)
theorem yXy(fr:Frame)(n:Nat)(σ:List Nat)(k:Nat)(r:List Nat):J1 fr n σ (k::r)=(k,EC n σ (fr k))::J1 fr n σ r:=(rfl)
theorem Yoa:Jn []=[]:=(rfl)
theorem Yn9(sz:Nat)(els:List D)(lent:Bool)(r:St):Jn ({row:=true,sz,els,lent}::r)=Jn r:=(rfl)
theorem Yob(sz:Nat)(els:List D)(lent:Bool)(r:St):Jn ({row:=false,sz,els,lent}::r)=els.flatMap hk++Jn r:=(rfl)
theorem Yb6(n:Nat)(σ:List Nat)(st:St):Mr n σ st []=[]:=(rfl)
theorem yWn(n:Nat)(σ:List Nat)(st:St)(k:Nat)(r:List Nat):Mr n σ st (k::r)=Fe n σ (st.getD k default)::Mr n σ st r:=(rfl)
theorem Yjz(n:Nat)(σ:List Nat):JP n σ []=[]:=(rfl)
theorem Ybl(n:Nat)(σ:List Nat)(o:Obj)(r:St):JP n σ (o::r)=Fe n σ o::JP n σ r:=(rfl)
theorem Yir(lo hi:Nat)(E:List Nat):Fc lo hi [] E=E:=(rfl)
theorem z7(lo hi k:Nat)(r E:List Nat):Fc lo hi (k::r) E=Fc lo hi r (if lo≤k∧k<hi∧E.contains k=false then E++[k]else E):=(rfl)
theorem Ysh(n:Nat)(σ:List Nat)(key:Nat):EV n σ key=if key<n then some key else P8 σ n key:=(rfl)
theorem Ykc(k k':Nat)(r:List Nat)(b:Nat):P8 (k::r) b k'=if k'=k then some b else P8 r (b+1) k':=(rfl)
theorem Yj0(n:Nat)(σ:List Nat)(sz:Nat)(els:List D)(lent:Bool):Fe n σ {row:=true,sz,els,lent}={row:=true,sz,els,lent}:=(rfl)
theorem Yj1(n:Nat)(σ:List Nat)(sz:Nat)(els:List D)(lent:Bool):Fe n σ {row:=false,sz,els,lent}={row:=false,sz,els:=els.map (EC n σ),lent}:=(rfl)
theorem Yj6(n:Nat)(σ:List Nat)(k:IntKind)(m:Int):EK n σ (.int k m)=.int k m:=(rfl)
theorem Ybo(n:Nat)(σ:List Nat)(b:Bool):EK n σ (.bool b)=.bool b:=(rfl)
theorem Yj4(n:Nat)(σ:List Nat)(sz:Nat)(els:List D)(t:Bool):EK n σ (.slc sz els t)=.slc sz els t:=(rfl)
theorem Yj3(n:Nat)(σ:List Nat)(s:List UInt8):EK n σ (.str s)=.str s:=(rfl)
theorem Yj5(n:Nat)(σ:List Nat)(key tot off len:Nat):EK n σ (.row key tot off len)=Jv (fun k=>.row k tot off len) (EV n σ key):=(rfl)
theorem Yuu(k:IntKind)(m:Int):DB (.int k m)=[]:=(rfl)
theorem Ymh(b:Bool):DB (.bool b)=[]:=(rfl)
theorem Yus(sz:Nat)(els:List D)(t:Bool):DB (.slc sz els t)=[]:=(rfl)
theorem Yur(s:List UInt8):DB (.str s)=[]:=(rfl)
theorem Yut(key tot off len:Nat):DB (.row key tot off len)=[key]:=(rfl)
theorem YBe(key off m sz:Nat)(ag:Bool):hk (.bsl key off m sz ag)=[key]:=(rfl)
theorem Yui(key tot i off:Nat):hk (.rptr key tot i off)=[key]:=(rfl)
theorem Yum(key:Nat):hk (.mapv key)=[key]:=(rfl)
theorem Yul:hk .nilf=[]:=(rfl)
theorem Yuj:hk .nilp=[]:=(rfl)
theorem Yuk:hk .nilm=[]:=(rfl)
theorem Yuo(l:List (Int×Nat)):hk (.gmap l)=[]:=(rfl)
theorem Yjx(n:Nat)(σ:List Nat)(l:List (Int×Nat)):EC n σ (.gmap l)=.gmap l:=(rfl)
theorem Yjt(n:Nat)(σ:List Nat):EC n σ .nilm=.nilm:=(rfl)
theorem Yjw(n:Nat)(σ:List Nat)(key:Nat):EC n σ (.mapv key)=Jv .mapv (EV n σ key):=(rfl)
theorem Yju(n:Nat)(σ:List Nat):EC n σ .nilf=.nilf:=(rfl)
theorem Yjs(n:Nat)(σ:List Nat):EC n σ .nilp=.nilp:=(rfl)
def SO(keep:List Nat)(n:Nat)[Inv:InvC][Q:QC](e:Ex)(fr:Frame)(st:St):Prop:=match e with
 |.next=>Inv.run (restrict keep n ⟨fr,st⟩)
 |e=>Q.run e fr st
def au(s:PS)[Inv:InvC]:Prop:=Inv.run s
theorem yW6(keep:List Nat)(n:Nat)(E:PS→Prop)(Q:QC)(fr:Frame)(st:St):@SO keep n ⟨E⟩ Q .next fr st=@au (restrict keep n ⟨fr,st⟩) ⟨E⟩:=(rfl)
theorem yW7(keep:List Nat)(n:Nat)(E:InvC)(Q:Ex→Frame→St→Prop)(I:Nat)(fr:Frame)(st:St):@SO keep n E ⟨Q⟩ (.exit I) fr st=Q (.exit I) fr st:=(rfl)
theorem Yda(keep:List Nat)(n:Nat)(E:InvC)(Q:Ex→Frame→St→Prop)(fr:Frame)(st:St):@SO keep n E ⟨Q⟩ .ret fr st=Q .ret fr st:=(rfl)
theorem yQh(keep:List Nat)(n:Nat)(E:InvC)(Q:Ex→Frame→St→Prop)(t:Nat)(d:D)(fr:Frame)(st:St):@SO keep n E ⟨Q⟩ (.panic t d) fr st=Q (.panic t d) fr st:=(rfl)
theorem F9(E:ι→List (Nat×D))(I:ι→St)(P:ι→Prop)(μ:ι→Nat)(J:ι)
  (N:restrict keep st.length ⟨fr,st⟩=⟨F3 (E J),I J⟩) (O:P J)
  (M:∀ i,P i→@wW G T c (F3 (E i)) (I i) ⟨@SO keep st.length ⟨fun s=>∃ j,(P j∧μ j<μ i)∧s=⟨F3 (E j),I j⟩⟩ ⟨Q⟩⟩):@wW G T (.loop keep c) fr st ⟨Q⟩:=by
 refine SV (YC5 E I P μ J N O fun i hi=>KV c _ _ _ _ (Ho (M i hi)) fun e U st' h=>?_)
 cases e with
 |next=>
  obtain⟨j,⟨V,Y⟩,h3⟩:=h;grind
 |exit id=>exact h
 |ret=>exact h
 |panic t d=>exact h
theorem E2{E:ι→List (Nat×D)}{I:ι→St}{P m:ι→Prop}{s:PS}(j:ι)(J:P j)(M:m j)(N:s=⟨F3 (E j),I j⟩):@au s ⟨fun s=>∃ j,(P j∧m j)∧s=⟨F3 (E j),I j⟩⟩:=⟨j,⟨J,M⟩,N⟩
def Ti(keep:List Nat)[Inv:InvC][Q:QC](e:Ex)(fr:Frame)(st:St):Prop:=match e with
 |.next=>Inv.run (keepAll keep ⟨fr,st⟩)
 |e=>Q.run e fr st
theorem yQi(keep:List Nat)(E:PS→Prop)(Q:QC)(fr:Frame)(st:St):@Ti keep ⟨E⟩ Q .next fr st=@au (keepAll keep ⟨fr,st⟩) ⟨E⟩:=(rfl)
theorem yQj(keep:List Nat)(E:InvC)(Q:Ex→Frame→St→Prop)(I:Nat)(fr:Frame)(st:St):@Ti keep E ⟨Q⟩ (.exit I) fr st=Q (.exit I) fr st:=(rfl)
theorem yW8(keep:List Nat)(E:InvC)(Q:Ex→Frame→St→Prop)(fr:Frame)(st:St):@Ti keep E ⟨Q⟩ .ret fr st=Q .ret fr st:=(rfl)
theorem yMc(keep:List Nat)(E:InvC)(Q:Ex→Frame→St→Prop)(t:Nat)(d:D)(fr:Frame)(st:St):@Ti keep E ⟨Q⟩ (.panic t d) fr st=Q (.panic t d) fr st:=(rfl)
def SF(fr:Frame):List Nat→List (Nat×D)
 |[]=>[]
 |k::l=>(k,fr k)::SF fr l
theorem Ydx(fr:Frame):SF fr []=[]:=(rfl)
theorem yXm(fr:Frame)(k:Nat)(l:List Nat):SF fr (k::l)=(k,fr k)::SF fr l:=(rfl)
theorem oA(fr:Frame):∀ l,l.map (fun k=>(k,fr k))=SF fr l
 |[]=>rfl
 |k::l=>by rw[Aw,oA fr l]; rfl
theorem yXo(keep:List Nat)(fr:Frame)(st:St):keepAll keep ⟨fr,st⟩=⟨F3 (SF fr keep),st⟩:=by
 rw[← oA]; rfl
theorem Yov(E:ι→List (Nat×D))(I:ι→St)(P:ι→Prop)(μ:ι→Nat)(J:ι)
  (N:keepAll keep ⟨fr,st⟩=⟨F3 (E J),I J⟩) (O:P J)
  (M:∀ i,P i→@wW G T c (F3 (E i)) (I i) ⟨@Ti keep ⟨fun s=>∃ j,(P j∧μ j<μ i)∧s=⟨F3 (E j),I j⟩⟩ ⟨Q⟩⟩):@wW G T (.loopA keep c) fr st ⟨Q⟩:=by
 refine SV (Yw7 E I P μ J N O fun i hi=>KV c _ _ _ _ (Ho (M i hi)) fun e U st' h=>?_)
 cases e with
 |next=>
  obtain⟨j,⟨V,Y⟩,h3⟩:=h;grind
 |exit id=>exact h
 |ret=>exact h
 |panic t d=>exact h
def LV:PC→Bool
 |.seq a b | .cond _ a b=>LV a && LV b
 |.block _ c=>LV c
 |.loop _ _ | .loopA _ _ | .range _ _ _ _ | .alt _ _=>false
 |_=>true
theorem tN(m J:Nat):∀ (c:PC),LV c=true→∀ s,c.exec G T m s=c.exec G T J s:=by
 intro c
 induction c with
 |seq a b E I=>
  intro h s;simp only[LV,Af]at h;simp only[PC.exec,E h.1 s];grind
 |cond x a b E I=>
  intro h s;simp only[LV,Af]at h;simp only[PC.exec,E h.1 s,I h.2 s]
 |block id c M=>
  intro h s;simp only[LV]at h;simp only[PC.exec,M h s]
 |loop=>intro h; simp[LV]at h
 |loopA=>intro h; simp[LV]at h
 |range=>intro h; simp[LV]at h
 |alt=>intro h; simp[LV]at h
 |_=>intro _ s; rfl
def UX(k:Nat)(r:D)(st':St):Ex→St→Prop
 |.next,st2=>r=.bool true∧st'=st2.set k (recO 0)
 |.ret,st2=>r=.bool false∧st'=st2.set k (recO 1)
 |_,_=>False
theorem ck{a b:PC}(J:LV a=true)(hb:LV b=true){k:Nat}{r:D}(hl:ds.length=ps.length)
  (h:@wW G T a (JO fr ps ds) st ⟨fun e fr1 st1=>e=.next∧recAt st1 k=some 0∧@wW G T b fr1 (st1.set k (recO 2)) ⟨fun e _ st2=>UX k r st' e st2⟩⟩) (m:Nat) :
  Ld (a.exec G T m) (b.exec G T m) fr ps k ds st=some (r,st'):=by
 obtain⟨n,e,fr1,st1,M,rfl,N,O⟩:=Lg _ _ _ _ (Ho h);obtain⟨I,U,fr2,st2,V,E⟩:=Lg _ _ _ _ (Ho O);unfold Ld;rw[if_pos hl,tN m n a J,M n (AD _)];simp only;rw[if_pos N,tN m I b hb,V I (AD _)]
 cases U with
 |next=>obtain⟨rfl,rfl⟩:=E; rfl
 |ret=>obtain⟨rfl,rfl⟩:=E; rfl
 |exit id=>exact E.elim
 |panic t d=>exact E.elim
theorem fE{x:PA}{a b:PC}{f:Nat}{E:List D}{sp:(List D→St→Option (D×St))→List D→St→Option (D×St)}{e:Ex}
  (I:Dq G fr x=.clo f E) (J:f<5000000) (M:T.r f=some sp) (h:∀ m,sp (Ld (a.exec G T m) (b.exec G T m) fr ps st.length) E (st++[recO 0])=some (d,st')) (N:XP st' st.length=some e) (O:Q e fr (st'.set st.length (recO 2))):@wW G T (.range x ps a b) fr st ⟨Q⟩:=by
 refine SV (Yow (fun m=>?_) N O);simp only[TH,I,if_pos J,M,h m,Ag]
theorem jD(T:Tbl)(l:Nat)(y:List D→St→Option (D×St)):(Qd T l y).p=T.p:=(rfl)
theorem jF(T:Tbl)(l:Nat)(y:List D→St→Option (D×St)):(Qd T l y).i=T.i:=(rfl)
theorem jE(T:Tbl)(l:Nat)(y:List D→St→Option (D×St)):(Qd T l y).m=T.m:=(rfl)
theorem wQ(T:Tbl)(f:Nat)(E:List D)(h:f<5000000):JW T (.clo f E)=(T.i f).map fun sp=>(sp,[],E):=by
 simp only[JW,if_pos h]
theorem PT(T:Tbl)(f f':Nat)(E:List D)(h:f=f'+5000000)(I:f'<5000000):JW T (.clo f E)=(T.i f').map fun sp=>(sp,E,[]):=by
 subst h;simp only[JW,if_neg (show ¬ f'+5000000<5000000 by omega),if_pos (show f'+5000000<10000000 by omega),Cp]
theorem U7(f:Nat)(E ds:List D)(h:f<5000000):Pf (.clo f E) ds=some (f,ds++E):=by
 simp only[Pf,if_pos h]
theorem yYm(T:Tbl)(l:Nat)(y:List D→St→Option (D×St)):JW (Qd T l y) (.clo (10000000+l) [])=some (y,[],[]):=by
 unfold JW;have E:¬ 10000000+l<5000000:=by omega
 simp only[E,Nat.not_lt.2 (Nat.le_add_right 10000000 l),if_false,CD,if_true,Nat.add_sub_cancel_left,Qd]
theorem Yd4(k:IntKind)(n:Int):LN (.int k n)=true:=(rfl)
theorem yXr(k:IntKind)(n:Int):LN (.agg [.int k n])=true:=(rfl)
attribute [push_cast] yVn YC4 XZ Yce yZp yOm yOn yVg Yky Ycp yW2 yW3 yW0 yW1 yV0 Yjr Ybg yV2 Ybh yV3 yPn Yd4 yXr
attribute [irreducible] Ti
attribute [push_cast] yQi yQj yW8 Ydx yXm yXo jD jF jE wQ PT yYm U7 Yra
attribute [irreducible] SO au
attribute [push_cast] yW6 yW7 Yda yQh yMc
attribute [push_cast] YBe Yui Yum Yul Yuj Yuk Yuo Yjx Yjt Yjw Yju Yjs Yj2 Ymg
attribute [push_cast] yIl yPp yLl yLm yLk Yeo yXx Yep yXy Yoa Yn9 Yob Yb6 yWn Yjz Ybl Yir z7 Ysh Ykc Yj0 Yj1 Yj6 Ybo Yj4 Yj3 Yj5 Yuu Ymh Yus Yur Yut List.getD_cons_zero List.getD_cons_succ List.contains_nil List.contains_cons false_and and_false and_true true_and and_self Int.toNat_natCast Int.cast_ofNat_Int Int.toNat_zero Int.toNat_one
noncomputable def Dk{α:Type}(enc:α→List D)(pre:α→Prop)(f:α→D):List D→Option D:=
 fun ds=>@dite _ (∃ a,enc a=ds∧pre a) (Classical.propDecidable _) (fun h=>some (f h.choose)) (fun _=>none)
theorem iA{enc:α→List D}{pre:α→Prop}{f:α→D}(h:Dk enc pre f ds=some d):∃ a,enc a=ds∧pre a∧f a=d:=by
 unfold Dk at h
 split at h
 ·grind
 ·cases h
theorem D7{enc:α→List D}{pre:α→Prop}{f:α→D}(E:∀ a b,enc a=enc b→a=b)(a:α)(I:pre a):Dk enc pre f (enc a)=some (f a):=by
 have J:∃ b,enc b=enc a∧pre b:=⟨a,rfl,I⟩;unfold Dk;grind
def Ej{α:Type}:List (Nat×α)→Nat→Option α
 |[],_=>none
 |(k,a)::r,n=>if n=k then some a else Ej r n
def tb(l:List (Nat×(List D→Option D)))(li:List (Nat×(List D→St→Option (D×St))))(lm:List (Nat×(List D→Option ((Nat→D)×(Nat→List Obj)))):=[]):Tbl:={p:=Ej l,i:=Ej li,m:=Ej lm}
theorem jL(l:List (Nat×(List D→Option D)))(li:List (Nat×(List D→St→Option (D×St))))(E:List (Nat×(List D→Option ((Nat→D)×(Nat→List Obj)))))(n:Nat):(tb l li E).p n=Ej l n:=(rfl)
theorem VQ(l:List (Nat×(List D→Option D)))(li:List (Nat×(List D→St→Option (D×St))))(E:List (Nat×(List D→Option ((Nat→D)×(Nat→List Obj)))))(n:Nat):(tb l li E).i n=Ej li n:=(rfl)
theorem jM(l:List (Nat×(List D→Option D)))(li:List (Nat×(List D→St→Option (D×St))))(E:List (Nat×(List D→Option ((Nat→D)×(Nat→List Obj)))))(n:Nat):(tb l li E).m n=Ej E n:=(rfl)
theorem Ylc(n:Nat):Ej ([]:List (Nat×α)) n=none:=(rfl)
theorem rk(k:Nat)(a:α)(r:List (Nat×α))(n:Nat):Ej ((k,a)::r) n=if n=k then some a else Ej r n:=(rfl)
theorem Jy{α:Type}:∀ {l:List (Nat×α)} {n:Nat} {a:α},Ej l n=some a→(n,a)∈l
 |[],_,_,h=>by cases h
 |(k,b)::r,n,a,h=>by
  simp only[Ej]at h
  split at h
  ·grind
  ·exact Ar _ (Jy h)
variable {li:List (Nat×(List D→St→Option (D×St)))}{l:List (Nat×(List D→Option D))}{P:Program}
theorem DI(h:∀ x∈l,Contract P G x.1 x.2)(hi:∀ x∈li,IContract P G x.1 x.2)(I:l.all (fun x=>decide (x.1<50000000))=true:=by rfl):TblOK P G (tb l li):=
 ⟨fun _ _ E=>.inl ⟨of_decide_eq_true (Ak.1 I _ (Jy E)),h _ (Jy E)⟩,fun _ _ E=>hi _ (Jy E),fun _ _ E=>(by cases E),fun _ _ E=>(by cases E),fun _ _ E=>(by cases E),fun _ _ E=>(by cases E)⟩
def Tn(l:List (Nat×(List D→Option D)))(li:List (Nat×(List D→St→Option (D×St))))(lr:List (Nat×((List D→St→Option (D×St))→List D→St→Option (D×St)))):Tbl:={p:=Ej l,i:=Ej li,m:=fun _=>none,r:=Ej lr}
theorem VH(l:List (Nat×(List D→Option D)))(li:List (Nat×(List D→St→Option (D×St))))(E:List (Nat×((List D→St→Option (D×St))→List D→St→Option (D×St))))(n:Nat):(Tn l li E).p n=Ej l n:=(rfl)
theorem VI(l:List (Nat×(List D→Option D)))(li:List (Nat×(List D→St→Option (D×St))))(E:List (Nat×((List D→St→Option (D×St))→List D→St→Option (D×St))))(n:Nat):(Tn l li E).i n=Ej li n:=(rfl)
theorem VG(l:List (Nat×(List D→Option D)))(li:List (Nat×(List D→St→Option (D×St))))(E:List (Nat×((List D→St→Option (D×St))→List D→St→Option (D×St))))(n:Nat):(Tn l li E).r n=Ej E n:=(rfl)
theorem wa{I:List (Nat×((List D→St→Option (D×St))→List D→St→Option (D×St)))}(h:∀ x∈l,Contract P G x.1 x.2)(hi:∀ x∈li,IContract P G x.1 x.2)
  (M:∀ x∈I,Uj P G x.1 x.2) (J:l.all (fun x=>decide (x.1<50000000))=true:=by rfl):TblOK P G (Tn l li I):=
 ⟨fun _ _ E=>.inl ⟨of_decide_eq_true (Ak.1 J _ (Jy E)),h _ (Jy E)⟩,fun _ _ E=>hi _ (Jy E),fun _ _ E=>(by cases E),fun _ _ E=>M _ (Jy E),fun _ _ E=>(by cases E),fun _ _ E=>(by cases E)⟩
def MN(l:List (Nat×(List D→Option D)))(li:List (Nat×(List D→St→Option (D×St))))(lx:List (Nat×(List D→St→Option (Nat×D×St)))):Tbl:={p:=Ej l,i:=Ej li,m:=fun _=>none,x:=Ej lx}
theorem VE(l:List (Nat×(List D→Option D)))(li:List (Nat×(List D→St→Option (D×St))))(E:List (Nat×(List D→St→Option (Nat×D×St))))(n:Nat):(MN l li E).p n=Ej l n:=(rfl)
theorem VF(l:List (Nat×(List D→Option D)))(li:List (Nat×(List D→St→Option (D×St))))(E:List (Nat×(List D→St→Option (Nat×D×St))))(n:Nat):(MN l li E).i n=Ej li n:=(rfl)
theorem VD(l:List (Nat×(List D→Option D)))(li:List (Nat×(List D→St→Option (D×St))))(E:List (Nat×(List D→St→Option (Nat×D×St))))(n:Nat):(MN l li E).x n=Ej E n:=(rfl)
theorem Og{I:List (Nat×(List D→St→Option (Nat×D×St)))}(h:∀ x∈l,Contract P G x.1 x.2)(hi:∀ x∈li,IContract P G x.1 x.2)
  (M:∀ x∈I,QN P G x.1 x.2) (J:l.all (fun x=>decide (x.1<50000000))=true:=by rfl):TblOK P G (MN l li I):=
 ⟨fun _ _ E=>.inl ⟨of_decide_eq_true (Ak.1 J _ (Jy E)),h _ (Jy E)⟩,fun _ _ E=>hi _ (Jy E),fun _ _ E=>(by cases E),fun _ _ E=>(by cases E),fun _ _ E=>M _ (Jy E),fun _ _ E=>(by cases E)⟩
def Rk(l:List (Nat×(List D→Option D)))(li:List (Nat×(List D→St→Option (D×St))))(lq:List (Nat×(List D→List (Option (Bool×Nat×List D))→Option D))):Tbl:={p:=Ej l,i:=Ej li,m:=fun _=>none,q:=Ej lq}
theorem VK(l:List (Nat×(List D→Option D)))(li:List (Nat×(List D→St→Option (D×St))))(E:List (Nat×(List D→List (Option (Bool×Nat×List D))→Option D)))(n:Nat):(Rk l li E).p n=Ej l n:=(rfl)
theorem VL(l:List (Nat×(List D→Option D)))(li:List (Nat×(List D→St→Option (D×St))))(E:List (Nat×(List D→List (Option (Bool×Nat×List D))→Option D)))(n:Nat):(Rk l li E).i n=Ej li n:=(rfl)
theorem VJ(l:List (Nat×(List D→Option D)))(li:List (Nat×(List D→St→Option (D×St))))(E:List (Nat×(List D→List (Option (Bool×Nat×List D))→Option D)))(n:Nat):(Rk l li E).q n=Ej E n:=(rfl)
theorem fC{I:List (Nat×(List D→List (Option (Bool×Nat×List D))→Option D))}(h:∀ x∈l,Contract P G x.1 x.2)(hi:∀ x∈li,IContract P G x.1 x.2)
  (M:∀ x∈I,IContract P G x.1 (fun ds st=>(IZ x.2 ds st).map (·,st))) (J:l.all (fun x=>decide (x.1<50000000))=true:=by rfl):TblOK P G (Rk l li I):=
 ⟨fun _ _ E=>.inl ⟨of_decide_eq_true (Ak.1 J _ (Jy E)),h _ (Jy E)⟩,fun _ _ E=>hi _ (Jy E),fun _ _ E=>(by cases E),fun _ _ E=>(by cases E),fun _ _ E=>(by cases E),fun _ _ E=>M _ (Jy E)⟩
theorem all_nil{p:α→Prop}:∀ x∈([]:List α),p x:=fun _ h=>by cases h
theorem all_cons{p:α→Prop}{a:α}{l:List α}(h:p a)(hl:∀ x∈l,p x):∀ x∈a::l,p x:=by
 grind
theorem Ed{il:List Nat}{f:Nat}{hints:List (List Nat)}(E:DA P il f hints=some F)(I:TblOK P G T){enc:α→List D}{pre:α→Prop}{r:α→D}
  (h:∀ a,pre a→@wW G T F.code (Dc (enc a)) [] ⟨Dn F.res (r a)⟩) (J:T.y=fun _ _ _=>none:=by rfl):Contract P G f (Dk enc pre r):=by
 refine oQ I J E fun ds d M=>?_;obtain⟨a,rfl,N,rfl⟩:=iA M;exact pr (Ho (h a N))
theorem Li{a b:List Dig}:a.map C9=b.map C9↔a=b:=⟨Py fun _ _=>n8,fun h=>by rw[h]⟩
theorem KZ{a b:Dig}:C9 a=C9 b↔a=b:=⟨n8,fun h=>by rw[h]⟩
theorem L5{a b:Dig}:C8 a=C8 b↔a=b:=⟨ME,fun h=>by rw[h]⟩
theorem qS{a:List UInt8}:a.map Dl=b.map Dl↔a=b:=⟨QB,fun h=>by rw[h]⟩
theorem Yn6{a b:UInt8}:Dl a=Dl b↔a=b:=⟨qR,fun h=>by rw[h]⟩
theorem J3(sz:Nat)(els:List D):nz (nz sz els) els=nz sz els:=by cases els <;> rfl
theorem Yzq(sz:Nat):nz sz []=0:=(rfl)
theorem Ysx(sz:Nat)(a:D)(l:List D):nz sz (a::l)=sz:=(rfl)
theorem kE(sz:Nat)(els:List D):nz sz els=sz∨els=[]:=by cases els <;> simp[nz]
theorem Ks[Inhabited α](st:St)(sz:Nat)(f:α→D)(l:List α)(t:Bool)(k:IntKind)(i:Int)(E:0≤i)(I:i<(l.length:Int)) :
  Gx st sz (.slc (nz sz (l.map f)) (l.map f) t) (.int k i)=some (.eptr (f (l.getD i.toNat default)) 0):=by
 have:nz sz (l.map f)=sz:=by
  rcases kE sz (l.map f)with h | h
  ·exact h
  ·have:l.length=0:=by simpa using congrArg List.length h
   omega
 rw[this];exact Ymf st sz f l t k i E I
attribute [push_cast] J3 Yzq Ysx jL VQ jM VH VI VG VE VF VD VK VL VJ Ylc rk List.map_nil
theorem oJ(h:n≤64):min n.toNat 64=n.toNat:=by omega
variable {x:Int}{k k':IntKind}
theorem uS(hk:k=.i64∨k=.u64)(I:0≤n)(E:n≤64):Dp .shr (.int k x) (.int k' n)=some (.int k (x / 2 ^ n.toNat)):=by
 have hb:k.bits=64:=by rcases hk with rfl | rfl <;> rfl
 simp only[Dp,Mz,show ¬ n<0 by omega,if_false,Ag,hb,oJ E];grind
theorem NY(E:0≤n)(I:n≤64):Dp .shr (.int .u64 x) (.int k' n)=some (.int .u64 (x / 2 ^ n.toNat)):=uS (.inr rfl) E I
theorem XT(E:0≤n)(I:n≤64):Dp .shr (.int .i64 x) (.int k' n)=some (.int .i64 (x / 2 ^ n.toNat)):=uS (.inl rfl) E I
theorem V6(M:0≤n)(E:n≤64)(I:-9223372036854775808≤x*2 ^ n.toNat)(J:x*2 ^ n.toNat<9223372036854775808):Dp .shl (.int .i64 x) (.int k' n)=some (.int .i64 (x*2 ^ n.toNat)):=by
 simp only[Dp,Mz,show ¬ n<0 by omega,if_false,Ag,show IntKind.bits .i64=64 from rfl,oJ E,OE I J]
theorem fZ(E:0≤n)(I:n≤62):Dp .shl (.int .i64 1) (.int k' n)=some (.int .i64 (2 ^ n.toNat)):=by
 have J:(2:Int) ^ n.toNat≤2 ^ 62:=by
  have M:(2:Nat) ^ n.toNat≤2 ^ 62:=Nat.pow_le_pow_right (by decide) (by omega);grind
 have N:(0:Int)≤2 ^ n.toNat:=Int.pow_nonneg (by decide);have:=V6 (x:=1) (k':=k') E (by omega) (by omega) (by rw[Int.one_mul]; omega);grind
theorem OU{b:Int}(hb:0<b)(E:0≤a)(J:a<9223372036854775808):Dp .quo (.int .i64 a) (.int .i64 b)=some (.int .i64 (a / b)):=by
 have I:a.tdiv b=a / b:=Bq E;have M:a / b≤a:=BZ b E;have N:0≤a / b:=BD E (by omega);simp only[Dp,if_true,KX,show ¬ b=0 by omega,if_false,Ag,I,OE (show -9223372036854775808≤a / b by omega) (show a / b<9223372036854775808 by omega)]
theorem P9{b:Int}(hb:0<b)(E:0≤a):Dp .rem (.int .i64 a) (.int .i64 b)=some (.int .i64 (a % b)):=by
 have I:a.tmod b=a % b:=Int.tmod_eq_emod_of_nonneg E;simp only[Dp,if_true,KX,show ¬ b=0 by omega,if_false,Ag,I]
theorem toNat_ofInt(E:0≤a)(I:a<9223372036854775808):(CR 64 a).toNat=a.toNat:=by
 grind
theorem Yw0(E:0≤a)(I:a<9223372036854775808):Dp .and (.int .i64 a) (.int .i64 1)=some (.int .i64 (a % 2)):=by
 have h:(CR (IntKind.bits .i64) a &&& CR (IntKind.bits .i64) 1).toNat=(a % 2).toNat:=by
  show(CR 64 a &&& CR 64 1).toNat=_
  rw[CE,toNat_ofInt E I,show(CR 64 1).toNat=2 ^ 1 - 1 from rfl,BI];omega
 simp only[Dp,if_true,K5,Ag,h];rw[OE (by omega) (by omega)]
 congr 2
 omega
theorem nO(E:0≤a)(I:a<9223372036854775808):Dp .xor (.int .i64 a) (.int .i64 1)=some (.int .i64 (if a % 2=0 then a+1 else a - 1)):=by
 have J:∀ n:Nat,n ^^^ 1=if n % 2=0 then n+1 else n - 1:=by
  intro n
  have M:(n ^^^ 1) % 2=(n+1) % 2:=by
   have:=Nat.testBit_xor n 1 0;grind
  have N:(n ^^^ 1) / 2=n / 2:=by
   apply Nat.eq_of_testBit_eq;grind
  grind
 have h:(CR (IntKind.bits .i64) a ^^^ CR (IntKind.bits .i64) 1).toNat=(if a % 2=0 then a+1 else a - 1).toNat:=by
  show(CR 64 a ^^^ CR 64 1).toNat=_
  rw[BitVec.toNat_xor,toNat_ofInt E I,show(CR 64 1).toNat=1 from rfl,J];grind
 simp only[Dp,if_true,K5,Ag,h];rw[OE (by split <;> omega) (by split <;> omega)]
 congr 2
 omega
theorem bj(st:St)(E:0≤a)(I:a<9223372036854775808):FD st (.int .u64) (.int .i64 a)=some (.int .u64 a):=by
 obtain⟨n,rfl⟩:=Bg E;simp only[FD,TU]
 congr 2
 omega
theorem wR(st:St)(I:0≤a)(E:a<9223372036854775808):FD st (.int .i64) (.int k a)=some (.int .i64 a):=by
 simp only[FD,OE (show -9223372036854775808≤a by omega) E]
theorem NM(st:St)(E:0≤a):FD st (.int .u8) (.int k a)=some (Dl (UInt8.ofNat a.toNat)):=by
 obtain⟨n,rfl⟩:=Bg E;rfl
theorem PE(st:St)(b:UInt8):FD st (.int .i64) (Dl b)=some (.int .i64 (b.toNat:Int)):=by
 have:=b.toNat_lt;simp only[Dl];exact wR st (by omega) (by omega)
theorem Yug(s:List UInt8)(k:IntKind)(i:Int)(E:0≤i)(J:i<(s.length:Int)):KD (.str s) (.int k i)=some (Dl (s.getD i.toNat default)):=by
 have I:i.toNat<s.length:=by omega
 simp only[KD,QE k i E,getElem?_getD s i.toNat I]
theorem Yme(s:List UInt8)(b:UInt8)(h:b.toNat<s.length):KD (.str s) (Dl b)=some (Dl (s.getD b.toNat default)):=by
 have:=Yug s .u8 (b.toNat:Int) (by omega) (by omega);simpa[Dl]using this
theorem yV9{s:List UInt8}{h:Int}(E:0≤h)(I:h≤(s.length:Int)):G3 st 0 (.str s) none (some (.int k h)) none=some (.str (s.take h.toNat)):=by
 simp[G3,Gs,QE k h E];omega
theorem Yg9(st:St)(b:UInt8):DW st (Dl b)=some (Dl b):=(rfl)
theorem yY5(b:UInt8):keys (Dl b)=[]:=(rfl)
theorem Yn7(b:UInt8):hk (Dl b)=[]:=(rfl)
theorem Yg8(n:Nat)(σ:List Nat)(b:UInt8):EC n σ (Dl b)=Dl b:=(rfl)
theorem yRn(b:UInt8):(Dl b).cells=[Dl b]:=(rfl)
theorem yN7(b:UInt8):(Dl b).isCell=true:=(rfl)
theorem yRm(b:UInt8):(Dl b).noRef=true:=(rfl)
theorem Yha(b:UInt8):DH (Dl b)=some [Dl b]:=(rfl)
theorem yI5(b:UInt8):Ff 1 [Dl b]=some (.slc 1 [Dl b] true):=(rfl)
theorem yMf(d:Dig):Ff 32 [C9 d]=some (.slc 32 [C9 d] true):=by
 simp[Ff,PU,DX]
theorem yYl(st:St)(s:List UInt8):FD st .bytes (.str s)=some (.slc 1 (s.map Dl) false):=(rfl)
theorem Ydd(a:Nat)(l:List D)(t:Bool):Ff 1 [.slc a l t]=some (.slc 1 [.slc a l t] true):=(rfl)
theorem Ydc(a b:Nat)(l m:List D)(t u:Bool):Ff 1 [.slc a l t,.slc b m u]=some (.slc 1 [.slc a l t,.slc b m u] true):=(rfl)
theorem Ydb(a b c:Nat)(l m n:List D)(t u v:Bool):Ff 1 [.slc a l t,.slc b m u,.slc c n v]=some (.slc 1 [.slc a l t,.slc b m u,.slc c n v] true):=(rfl)
theorem Yde:Ff 1 []=some (.slc 1 [] true):=(rfl)
theorem yXb:Ff 32 []=some (.slc 32 [] true):=(rfl)
theorem Hy(k:IntKind)(n:Int)(d:Dig):DH (.agg (.int k n::C8 d))=some (.int k n::C8 d):=by
 simp[DH,D.cells,Jf,D.isCell]
theorem yNl(k:IntKind)(n:Int)(d:Dig):(D.agg (.int k n::C8 d)).noRef=true:=by
 have:=sJ d;simp only[C9,D.noRef]at this;simp[D.noRef,D.noRef1,this]
theorem yQo(k:IntKind)(n:Int)(d:Dig):keys (.agg (.int k n::C8 d))=[]:=PW (by simp[IW,EJ,Up])
theorem yQy(k k':IntKind)(n m:Int)(z d:Dig):DO (.int k n::C8 z) [(0,1,.int k' m),(1,32,C9 d)]=some (.int k' m::C8 d):=by
 have I:FG (.int k n::C8 z) 0 [.int k' m]=.int k' m::C8 z:=rfl
 have J:FG (.int k' m::C8 z) 1 (C8 d)=.int k' m::C8 d:=by
  rw[show(1:Nat)=0+1 from rfl,yO0,tt]
 have E:(C8 d).length=32:=DX d;have M:(C8 z).length=32:=DX z;simp only[DO,PU,Jf,E];have N:(D.int k' m).cells=[.int k' m]:=rfl;have O:(([D.int k' m].length == 1) && decide (0+1≤(D.int k n::C8 z).length) && [D.int k' m].all D.isCell)=true:=by simp[D.isCell]
 grind
attribute [push_cast] Hy yNl yQo yQy
theorem gN(st:St)(k:IntKind)(n:Int):DD st (.int k n)=some (.int k n):=(rfl)
theorem Yef(st:St)(b:Bool):DD st (.bool b)=some (.bool b):=(rfl)
theorem Ymc(st:St)(s:List UInt8):DD st (.str s)=some (.str s):=(rfl)
theorem gO(st:St)(sz:Nat)(els:List D)(t:Bool):DD st (.slc sz els t)=some (.slc (nz sz els) els false):=(rfl)
attribute [push_cast] gN Yef Ymc gO Nat.zero_le
attribute [push_cast] Yde yXb yYl Ydd Ydc Ydb
theorem rM(f:α→D)(E:∀ a,EJ (f a)=true)(l:List α):(l.map f).all EJ=true:=by
 grind
theorem eS(l:List UInt8):(l.map Dl).all EJ=true:=rM Dl (fun _=>rfl) l
theorem eZ(l:List UInt32):(l.map wD).all EJ=true:=rM wD (fun _=>rfl) l
theorem yXs(st:St)(l:List UInt32):D9 st (l.map wD)=some (l.map wD):=Sz st (eZ l)
theorem yXu(st:St)(l:List UInt8):D9 st (l.map Dl)=some (l.map Dl):=Sz st (eS l)
theorem yV4(n:Nat)(σ:List Nat)(l:List UInt32):(l.map wD).map (EC n σ)=l.map wD:=PV n σ (eZ l)
theorem yV5(n:Nat)(σ:List Nat)(l:List UInt8):(l.map Dl).map (EC n σ)=l.map Dl:=PV n σ (eS l)
theorem Yel(l:List UInt32):(l.map wD).flatMap hk=[]:=QM (eZ l)
theorem Yen(l:List UInt8):(l.map Dl).flatMap hk=[]:=QM (eS l)
attribute [push_cast] yV4 yV5 Yel Yen
theorem yQa(l:List UInt32):(D.agg (l.map wD)).noRef=true:=by
 simp only[D.noRef,Ak,AW];rintro x ⟨a,_,rfl⟩;rfl
theorem Yhh(l:List UInt32):DH (.agg (l.map wD))=some (l.map wD):=by
 simp only[DH,D.cells,Yd wD (fun _=>rfl),if_true]
theorem wc{a b:UInt32}(h:wD a=wD b):a=b:=by
 simp only[wD,D.int.injEq,true_and]at h;exact UInt32.toNat_inj.1 (by omega)
theorem Yh6{a b:UInt32}:wD a=wD b↔a=b:=⟨wc,fun h=>by rw[h]⟩
theorem yZi{a b:List UInt32}:a.map wD=b.map wD↔a=b:=⟨Py fun _ _=>wc,fun h=>by rw[h]⟩
theorem Yya(st:St)(b:UInt32):DW st (wD b)=some (wD b):=(rfl)
theorem Yrc(b:UInt32):keys (wD b)=[]:=(rfl)
theorem Yin(b:UInt32):(wD b).noRef=true:=(rfl)
theorem Vy(b:UInt32):hk (wD b)=[]:=(rfl)
theorem Yx9(n:Nat)(σ:List Nat)(b:UInt32):EC n σ (wD b)=wD b:=(rfl)
def zW(n:Nat):List UInt32:=CQ n 0
theorem Yqe(n:Nat):D.int .u32 0::(zW n).map wD=(zW (n+1)).map wD:=(rfl)
theorem Yqf:[D.int .u32 0,.int .u32 0,.int .u32 0,.int .u32 0,.int .u32 0,.int .u32 0,.int .u32 0,.int .u32 0]=(zW 8).map wD:=(rfl)
theorem OK(f:α→D)(I:∀ a,(f a).isCell=true)(E:List α)(i:Nat)(v:α)(r:List (Nat×Nat×D))(h:i<E.length):DO (E.map f) ((i,1,f v)::r)=DO ((E.set i v).map f) r:=by
 have J:i+1≤E.length:=h
 have M:FG (E.map f) i [f v]=(E.set i v).map f:=by
  rw[List.map_set,FG,Ca];simp[h]
 simp[DO,QW (I v),I v,J,M]
theorem Ow(cs:List D):DO cs []=some cs:=(rfl)
theorem WW(a b c d e f g h:UInt32):DO ((zW 8).map wD) [(0,1,wD a),(1,1,wD b),(2,1,wD c),(3,1,wD d),(4,1,wD e),(5,1,wD f),(6,1,wD g),(7,1,wD h)]=some ([a,b,c,d,e,f,g,h].map wD):=by
 have hf:∀ a,(wD a).isCell=true:=fun _=>rfl;rw[OK wD hf _ _ _ _ (by simp[zW]),OK wD hf _ _ _ _ (by simp[zW]),OK wD hf _ _ _ _ (by simp[zW]),OK wD hf _ _ _ _ (by simp[zW]),OK wD hf _ _ _ _ (by simp[zW]),OK wD hf _ _ _ _ (by simp[zW]),OK wD hf _ _ _ _ (by simp[zW]),OK wD hf _ _ _ _ (by simp[zW]),Ow];rfl
theorem Yy6(x:UInt32)(k:IntKind)(z:Int)(E:0≤z)(h:z<32):Dp .shl (wD x) (.int k z)=some (wD (x <<< UInt32.ofNat z.toNat)):=by
 obtain⟨n,rfl⟩:=Bg E;exact uR x k n (by omega)
theorem vV(x:UInt32)(k:IntKind)(z:Int)(E:0≤z)(h:z<32):Dp .shr (wD x) (.int k z)=some (wD (x >>> UInt32.ofNat z.toNat)):=by
 obtain⟨n,rfl⟩:=Bg E;exact uT x k n (by omega)
theorem Yy4(x:UInt64)(k:IntKind)(z:Int)(E:0≤z)(h:z<64):Dp .shr (qD x) (.int k z)=some (qD (x >>> C7 z.toNat)):=by
 obtain⟨n,rfl⟩:=Bg E;exact V5 x k n (by omega)
def LK(s:List UInt8):D:=.slc (nz 1 (s.map Dl)) (s.map Dl) false
theorem Ywk{a:List UInt8}(h:LK a=LK b):a=b:=by
 simp only[LK,D.slc.injEq]at h;exact QB h.2.1
theorem Ywj{a b:List (List UInt8)}:a.map LK=b.map LK↔a=b:=⟨Py fun _ _=>Ywk,fun h=>by rw[h]⟩
theorem Yby(st:St)(s:List UInt8):Ft st 1 false (.eptr (LK s) 0)=some (.slc (nz 1 (s.map Dl)) (s.map Dl) false):=ic st _ rfl
theorem VX(sz:Nat)(E I J M N O U V:D)(a b c d e f g h:UInt32):DY (some ⟨false,sz,[E,I,J,M,N,O,U,V],false⟩) 8 0 (.agg [wD a,wD b,wD c,wD d,wD e,wD f,wD g,wD h])=some ⟨false,sz,[wD a,wD b,wD c,wD d,wD e,wD f,wD g,wD h],false⟩:=L1 sz _ _ 8 rfl rfl rfl
attribute [push_cast] VX yXs yXu yQa Yhh Yya Yrc Yin Vy Yx9 Yqe Yqf WW Ow Yby
attribute [push_cast] Yg9 yY5 Yn7 Yg8 yRn yN7 yRm Yha yI5 yMf
end Go.Proofs.YtijnglngaogdjaaGreatDoor.PI
