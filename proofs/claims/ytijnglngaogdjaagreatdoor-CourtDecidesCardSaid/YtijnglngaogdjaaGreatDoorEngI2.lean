/-
  Integers: what the pure operations do within their bounds.
  Conditions: none; these are lemmas.
-/
import Derived.Test.YtijnglngaogdjaaGreatDoorEngR
import Derived.ChangeArms
import Derived.Lib.LaidTab
import Derived.ChangeSame
open BitVec renaming ofInt→CR
open List renaming range→CS,replicate→CQ
open UInt64 renaming ofNat→C7
namespace Go.Proofs.YtijnglngaogdjaaGreatDoor.PI
open Go Go.RowKit
inductive Ty where
 |bool
 |int (k:IntKind)
 |str
 |slc (e:Ty)
 |agg (fs:List Ty)
 /-- a slice whose elements' type is told of in another way -/
 |opq (Q:D→Prop)
 deriving Inhabited
mutual
def Ty.size:Ty→Nat
 |.agg fs=>Ty.sizes fs
 |_=>1
def Ty.sizes:List Ty→Nat
 |[]=>0
 |f::r=>f.size+Ty.sizes r
end
inductive Has:Ty→D→Prop
 |bool (b:Bool):Has .bool (.bool b)
 |int (k:IntKind) (n:Int):(Lit.int k n).wf=true→Has (.int k) (.int k n)
 |str (s:List UInt8):s.length≤maxLen→Has .str (.str s)
 |slc (e:Ty) (els:List D):(∀ (i:Nat) x,els[i]?=some x→Has e x)→els.length≤maxLen→Has (.slc e) (.slc (nz e.size els) els false)
 |opq (Q:D→Prop) (sz:Nat) (els:List D):Q (.slc (nz sz els) els false)→Has (.opq Q) (.slc (nz sz els) els false)
 |agg (fs:List Ty) (xs:List D):fs.length=xs.length→(∀ (i:Nat) f x,fs[i]?=some f→xs[i]?=some x→Has f x)→Has (.agg fs) (.agg (xs.flatMap D.cells))
def bJ(P:Program):Nat→List Field→List Ty→Bool
 |_,[],[]=>true
 |o,f::fs,t::ts=>f.offset == o && P.cellsOf f.type == t.size && bJ P (o+t.size) fs ts
 |_,_,_=>false
def Tf(tf:TypeId→Option Ty):List Field→Option (List Ty)
 |[]=>some []
 |f::fs=>match tf f.type,Tf tf fs with
  |some t,some ts=>some (t::ts)
  |_,_=>none
inductive TyD (P:Program):TypeId→D→Prop
 |bool (t:TypeId) (b:Bool):P.underlying t=some .bool→TyD P t (.bool b)
 |int (t:TypeId) (k:IntKind) (n:Int):P.underlying t=some (.int k)→(Lit.int k n).wf=true→TyD P t (.int k n)
 |str (t:TypeId) (s:List UInt8):P.underlying t=some .string→s.length≤maxLen→TyD P t (.str s)
 |slc (t e:TypeId) (els:List D):P.underlying t=some (.slice e)→(∀ x∈els,TyD P e x)→els.length≤maxLen→TyD P t (.slc (nz (P.cellsOf e) els) els false)
 |agg (t:TypeId) (fs:Array Field) (xs:List D):P.underlying t=some (.struct fs)→fs.toList.length=xs.length→(∀ (i:Nat) f x,fs.toList[i]?=some f→xs[i]?=some x→TyD P f.type x)→TyD P t (.agg (xs.flatMap D.cells))
 |arr (t:TypeId) (m:Nat) (e:TypeId) (xs:List D):P.underlying t=some (.array m e)→xs.length=m→(∀ x∈xs,TyD P e x)→TyD P t (.agg (xs.flatMap D.cells))
def Ya(P:Program):Nat→Nat→List Field→Bool
 |o,n,[]=>o == n
 |o,n,f::fs=>f.offset == o && Ya P (o+P.cellsOf f.type) n fs
def Sv(P:Program)(S:List TypeId)(t:TypeId):Bool:=match P.underlying t with
 |some .bool | some (.int _) | some .string=>P.cellsOf t == 1
 |some (.slice e)=>S.contains e && decide (0<P.cellsOf e) && P.cellsOf t == 1
 |some (.struct fs)=>fs.toList.all (fun f=>S.contains f.type) && Ya P 0 (P.cellsOf t) fs.toList
 |some (.array m e)=>S.contains e && P.cellsOf t == m*P.cellsOf e
 |_=>false
def LF(P:Program)(S:List TypeId):Bool:=S.all (Sv P S)
def YFs(P:Program)(t:TypeId):List TypeId:=match P.underlying t with
 |some (.slice e) | some (.array _ e)=>[e]
 |some (.struct fs)=>fs.toList.map (·.type)
 |_=>[]
def RZ(P:Program):Nat→List TypeId→List TypeId
 |0,S=>S
 |n+1,S=>RZ P n ((S++S.flatMap (YFs P)).eraseDups)
def GK(P:Program):Nat→TypeId→Option Ty
 |0,_=>none
 |n+1,t=>match P.underlying t with
  |some .bool=>some .bool
  |some (.int k)=>some (.int k)
  |some .string=>some .str
  |some (.slice e)=>match GK P n e with
   |some x=>if P.cellsOf e == x.size && decide (0<x.size)then some (.slc x)else none
   |none=>if LF P (RZ P 6 [t]) && (RZ P 6 [t]).contains t then some (.opq (TyD P t))else none
  |some (.struct fs)=>match Tf (GK P n) fs.toList with
   |some ts=>if bJ P 0 fs.toList ts && P.cellsOf t == Ty.sizes ts then some (.agg ts)else none
   |none=>none
  |some (.array m e)=>match GK P n e with
   |some x=>if P.cellsOf e == x.size && P.cellsOf t == m*x.size then some (.agg (CQ m x))else none
   |none=>none
  |_=>none
def XX(w:World):Nat→Nat→Prop:=fun b o=>(w.cell? ⟨b,o,none⟩).isSome=true
def La(w:World):Ghost:={β:=id,γ:=id,Im:=XX w}
variable {cs:List Value}{a:Addr}
section
variable {H:Type} {enc:TypeId×Value→H} {P:Program} {w:World}
def RepL(w:World)(xs:List D)(cs:List Value):Prop:=xs.length=cs.length∧(∀ (j:Nat) y v,xs[j]?=some y→cs[j]?=some v→RepV w (La w) [] y v)∧∀ y∈xs,y.pure1=true
theorem RepL.nil:RepL w [] []:=⟨rfl,fun j y v h=>by simp at h,fun y h=>by cases h⟩
theorem RepL.append{xs ys:List D}{ds:List Value}(h:RepL w xs cs)(I:RepL w ys ds):RepL w (xs++ys) (cs++ds):=by
 refine⟨by simp[h.1,I.1],fun j y v E hv=>?_,fun y E=>?_⟩
 ·rcases Ba j xs.length with hj | hj
  ·rw[At hj]at E;rw[At (by rw[← h.1]; exact hj)]at hv;exact h.2.1 j y v E hv
  ·rw[AP hj]at E;rw[AP (by rw[← h.1]; exact hj),← h.1]at hv;exact I.2.1 _ y v E hv
 ·rcases AO.1 E with E | E
  ·exact h.2.2 y E
  ·exact I.2.2 y E
theorem RepL.one{x:D}{v:Value}(h:RepV w (La w) [] x v)(E:x.pure1=true):RepL w x.cells [v]:=by
 rw[Zt E];refine⟨rfl,fun j y u I hu=>?_,fun y I=>?_⟩
 ·grind
 ·grind
theorem ya{s:ByteArray}:RepV w (La w) [] (.str s.data.toList) (.string s):=ij s _ rfl
mutual
def wt:D→Nat
 |.slc _ els _=>HV els+1
 |.agg l=>HV l
 |.str s=>s.length+1
 |.int _ _=>1
 |.bool _=>1
 |_=>0
def HV:List D→Nat
 |[]=>0
 |d::l=>wt d+HV l
end
mutual
def blk{H:Type}:DataW H→Nat
 |.lit (.string s)=>s.length+1
 |.lit _=>1
 |.nil=>1
 |.slice e _=>GQ e+1
 |.agg p=>GQ p
 |_=>0
def GQ{H:Type}:List (DataW H)→Nat
 |[]=>0
 |d::l=>blk d+GQ l
end
theorem UH:∀ (a b:List D),HV (a++b)=HV a+HV b
 |[],b=>by simp[HV]
 |x::a,b=>by rw[Ae,HV,HV,UH a b]; omega
theorem YL(d:D):HV d.cells=wt d:=by
 cases d <;> simp[D.cells,HV,wt]
theorem ng:∀ (a:List D) (b:List (DataW H)),a.length=b.length→(∀ (i:Nat) x y,a[i]?=some x→b[i]?=some y→wt x≤blk y)→HV a≤GQ b
 |[],b,_,_=>by simp[HV]
 |x::a,[],h,_=>by simp at h
 |x::a,y::b,h,hle=>by
  have J:=hle 0 x y rfl rfl;have M:=ng a b (by simpa using h) (fun i x y E I=>hle (i+1) x y (by simpa using E) (by simpa using I));simp only[HV,GQ];omega
def lU(enc:TypeId×Value→H)(P:Program)(w:World)(sp:Nat→Bool)(t:TypeId)(ty:Ty):Prop:=
 ∀ (fuel:Nat) (cs:List Value) (x:DataW H×List MemPlace),DataW.trod enc P w 0 sp true fuel t cs=some x→∃ d,Has ty d∧RepL w d.cells cs∧cs.length=ty.size∧((∃ fs,ty=.agg fs)∨d.pure1=true)∧wt d≤blk x.1
theorem nB{sp:Nat→Bool}{V:TypeId→Option Ty}(J:∀ t ty,V t=some ty→lU enc P w sp t ty)(fuel:Nat)(cs:List Value):∀ (fs:List Field) (E:List Ty) (o:Nat) (ys:List (DataW H×List MemPlace)),
  Tf V fs=some E→bJ P o fs E=true→fs.mapM (fun f=>DataW.trod enc P w 0 sp true fuel f.type ((cs.drop f.offset).take (P.cellsOf f.type)))=some ys→
  ∃ xs:List D,E.length=xs.length∧(∀ (i:Nat) f x,E[i]?=some f→xs[i]?=some x→Has f x)∧RepL w (xs.flatMap D.cells) ((cs.drop o).take (Ty.sizes E))∧(o≤cs.length→o+Ty.sizes E≤cs.length)∧HV (xs.flatMap D.cells)≤GQ (ys.map (·.1))
 |[],E,o,ys,I,M,U=>by
  simp[Tf]at I; subst I;exact⟨[],rfl,fun i f x h=>by simp at h,by simpa[Ty.sizes]using RepL.nil,fun h=>by simpa[Ty.sizes]using h,by simp[HV]⟩
 |f::fs,E,o,ys,I,M,U=>by
  unfold Tf at I
  split at I
  case h_2=>cases I
  rename_i t Y ht aa;simp only[Db]at I; subst I;simp only[bJ,Af,beq_iff_eq]at M;obtain⟨⟨e1,e2⟩,e3⟩:=M;simp only[By,Bt,Az,BF,Db]at U;obtain⟨y,hy,ac,ad,rfl⟩:=U;rw[e1,e2]at hy;obtain⟨d,d1,d2,d3,_,d5⟩:=J _ _ ht fuel _ _ hy;obtain⟨xs,x1,x2,x3,x4,x5⟩:=nB J fuel cs fs Y (o+t.size) ac aa e3 ad
  have hlen:o+t.size≤cs.length∨t.size=0:=by
   grind
  refine⟨d::xs,by simp[x1],?_,?_,?_,?_⟩
  ·grind
  ·have:=d2.append x3;simp only[Au,Ty.sizes];rw[CA,Bx];exact this
  ·intro ho;simp only[Ty.sizes];omega
  ·simp only[Au,UH,YL,Ax,GQ];omega
theorem vX{sp:Nat→Bool}{e:TypeId}{x:Ty}(E:lU enc P w sp e x)(hc:P.cellsOf e=x.size)(fuel:Nat)(cs:List Value):∀ (n k:Nat) (ys:List (DataW H×List MemPlace)),
  (List.range' k n).mapM (fun i=>DataW.trod enc P w 0 sp true fuel e ((cs.drop (i*P.cellsOf e)).take (P.cellsOf e)))=some ys→
  ∃ xs:List D,xs.length=n∧(∀ (i:Nat) y,xs[i]?=some y→Has x y)∧RepL w (xs.flatMap D.cells) ((cs.drop (k*x.size)).take (n*x.size))∧HV (xs.flatMap D.cells)≤GQ (ys.map (·.1))
 |0,k,ys,h=>⟨[],rfl,fun i y h=>by simp at h,by simpa using RepL.nil,by simp[HV]⟩
 |n+1,k,ys,h=>by
  simp only[BX,By,Bt,Az,BF,Db]at h;obtain⟨y,I,J,M,rfl⟩:=h;rw[hc]at I;obtain⟨d,d1,d2,d3,_,d5⟩:=E fuel _ _ I;obtain⟨xs,U,Y,V,x5⟩:=vX E hc fuel cs n (k+1) J M;refine⟨d::xs,by simp[U],?_,?_,?_⟩
  ·grind
  ·have:=d2.append V;simp only[Au];rw[A2,BA,Nat.add_comm (n*x.size),CA,Bx];grind
  ·simp only[Au,UH,YL,Ax,GQ];omega
theorem Ty.sizes_replicate(x:Ty):∀ m,Ty.sizes (CQ m x)=m*x.size
 |0=>by simp[Ty.sizes]
 |m+1=>by rw[B0,Ty.sizes,Ty.sizes_replicate x m,A2,BA,Nat.add_comm]
theorem cells?_get{base:Nat}{n:Nat}(h:w.cells? base a n=some cs):cs.length=n∧∀ (j:Nat) v,cs[j]?=some v→w.cell? (a.add j)=some v:=by
 unfold World.cells? at h
 split at h
 ·have hl:cs.length=n:=by simpa using Lib.mapM_length h
  refine⟨hl,fun j v hv=>?_⟩;have hj:j<n:=by rw[← hl]; exact(Ac.1 hv).1
  obtain⟨b,hb,hf⟩:=Lib.mapM_at h j j (by simp[hj]);grind
 ·cases h
def mA(enc:TypeId×Value→H)(P:Program)(w:World)(sp:Nat→Bool)(fuel:Nat)(t:TypeId):Prop:=
 ∀ (cs:List Value) (x:DataW H×List MemPlace),DataW.trod enc P w 0 sp true fuel t cs=some x→∃ d,TyD P t d∧RepL w d.cells cs∧cs.length=P.cellsOf t∧((∃ l,d=.agg l)∨d.pure1=true)∧wt d≤blk x.1
theorem nF{sp:Nat→Bool}{fuel:Nat}(cs:List Value)(n:Nat):∀ (fs:List Field) (o:Nat) (ys:List (DataW H×List MemPlace)),(∀ f∈fs,mA enc P w sp fuel f.type)→Ya P o n fs=true→
  fs.mapM (fun f=>DataW.trod enc P w 0 sp true fuel f.type ((cs.drop f.offset).take (P.cellsOf f.type)))=some ys→
  ∃ xs:List D,fs.length=xs.length∧(∀ (i:Nat) f x,fs[i]?=some f→xs[i]?=some x→TyD P f.type x)∧RepL w (xs.flatMap D.cells) ((cs.drop o).take (n - o))∧o≤n∧HV (xs.flatMap D.cells)≤GQ (ys.map (·.1))
 |[],o,ys,_,E,J=>by
  simp only[Ya,beq_iff_eq]at E;subst E;exact⟨[],rfl,fun i f x h=>by simp at h,by simpa using RepL.nil,Ay _,by simp[HV]⟩
 |f::fs,o,ys,I,E,J=>by
  simp only[Ya,Af,beq_iff_eq]at E;obtain⟨Y,e3⟩:=E;simp only[By,Bt,Az,BF,Db]at J;obtain⟨y,M,U,V,rfl⟩:=J;rw[Y]at M;obtain⟨d,d1,d2,d3,_,d5⟩:=I f (by simp) _ _ M;obtain⟨xs,x1,x2,x3,x4,x5⟩:=nF cs n fs (o+P.cellsOf f.type) U (fun g hg=>I g (by simp[hg])) e3 V;refine⟨d::xs,by simp[x1],?_,?_,by omega,?_⟩
  ·grind
  ·have:=d2.append x3;simp only[Au];rw[show n - o=P.cellsOf f.type+(n - (o+P.cellsOf f.type)) by omega,CA,Bx];exact this
  ·simp only[Au,UH,YL,Ax,GQ];omega
theorem nq{sp:Nat→Bool}{fuel:Nat}{e:TypeId}(E:mA enc P w sp fuel e)(cs:List Value):∀ (n k:Nat) (ys:List (DataW H×List MemPlace)),
  (List.range' k n).mapM (fun i=>DataW.trod enc P w 0 sp true fuel e ((cs.drop (i*P.cellsOf e)).take (P.cellsOf e)))=some ys→
  ∃ xs:List D,xs.length=n∧(∀ y∈xs,TyD P e y)∧RepL w (xs.flatMap D.cells) ((cs.drop (k*P.cellsOf e)).take (n*P.cellsOf e))∧HV (xs.flatMap D.cells)≤GQ (ys.map (·.1))
 |0,k,ys,h=>⟨[],rfl,(fun y h=>by cases h),by simpa using RepL.nil,by simp[HV]⟩
 |n+1,k,ys,h=>by
  simp only[BX,By,Bt,Az,BF,Db]at h;obtain⟨y,M,I,J,rfl⟩:=h;obtain⟨d,d1,d2,d3,_,d5⟩:=E _ _ M;obtain⟨xs,U,Y,V,x5⟩:=nq E cs n (k+1) I J;refine⟨d::xs,by simp[U],?_,?_,?_⟩
  ·grind
  ·have:=d2.append V;simp only[Au];rw[A2,BA,Nat.add_comm (n*P.cellsOf e),CA,Bx];grind
  ·simp only[Au,UH,YL,Ax,GQ];omega
theorem yQr{Q:D→Prop}{sz:Nat}{len cap:Nat}{bs:Nat→Nat}(J:0<sz)(ac:len≤cap)
  (E:∀ i,i<len→∃ d,Q d∧d.cells.length=sz∧(∀ (j:Nat) y,d.cells[j]?=some y→y.pure1=true∧∃ v,w.cell? ((a.add (i*sz)).add j)=some v∧RepV w (La w) [] y v)∧wt d≤bs i) :
  ∃ els:List D,els.length=len∧(∀ x∈els,Q x)∧RepL w (D.slc (nz sz els) els false).cells [.slice (some a) len cap]∧∀ (i:Nat) x,els[i]?=some x→wt x≤bs i:=by
 let f:Nat→D:=fun i=>if hi:i<len then(E i hi).choose else .junk
 have hf:∀ i (hi:i<len),f i=(E i hi).choose:=fun i hi=>by simp[f,hi]
 have V:∀ (i:Nat) x,((CS len).map f)[i]?=some x→∃ hi:i<len,x=(E i hi).choose:=by
  intro i x M;simp only[AF,DI]at M;obtain⟨i',I,rfl⟩:=M;rw[Ac]at I;obtain⟨Y,h3⟩:=I;simp at Y h3;grind
 refine⟨(CS len).map f,by simp,fun x M=>?_,?_,fun i x M=>?_⟩
 ·grind
 ·refine RepL.one (RepV.nz (t:=false) ?_) rfl;rcases B7 len with h0 | h0
  ·subst h0;exact .slcE _ false (some a) cap (fun h=>by cases h)
  ·have U:a.spot=none:=by
    obtain⟨d1,d2,d3,_⟩:=(E 0 h0).choose_spec;obtain⟨_,v,I,_⟩:=d3 0 _ (Am (by rw[d2]; exact J));rw[Cc]at I;have Y:(a.add 0).add 0=a:=by simp[Addr.add]
    rw[Y]at I;unfold World.cell? at I
    split at I
    ·split at I
     ·cases I
     ·rename_i hs; simpa using hs
    ·cases I
   obtain⟨b,off,spot⟩:=a;simp only at U;subst U;have hl:len=((CS len).map f).length:=by simp
   conv=>rhs; rw[hl]
   refine RepV.slc_mk J ?_ (by simpa using ac) (fun h=>by cases h) ?_
   ·grind
   ·intro i j d hd;obtain⟨e',he,hj⟩:=IQ hd;obtain⟨ad,rfl⟩:=V i e' he;obtain⟨hp,v,hv,hr⟩:=(E i ad).choose_spec.2.2.1 j d hj;rw[LP,LP]at hv;refine⟨hp,?_,v,hv,hr⟩
    show(w.cell? ⟨b,off+i*sz+j,none⟩).isSome=true
    rw[hv]; rfl
 ·grind
theorem uL{sp:Nat→Bool}{S:List TypeId}(hS:LF P S=true):∀ (fuel:Nat) (t:TypeId),t∈S→mA enc P w sp fuel t
 |0,t,_=>by intro cs x E; simp[DataW.trod]at E
 |fuel+1,t,Y=>by
  have ih:=fun t Y=>uL (sp:=sp) hS fuel t Y;have hc:Sv P S t=true:=Al.1 hS t Y;unfold Sv at hc;intro cs x E
  split at hc
  ·rename_i hu;simp only[beq_iff_eq]at hc;unfold DataW.trod at E;rw[hu]at E
   split at E <;> simp_all
   exact⟨_,.bool t _ hu,RepL.one (.bool _) rfl,.inr rfl,by rw[← E]; simp[wt,blk]⟩
  ·rename_i k hu;simp only[beq_iff_eq]at hc;unfold DataW.trod at E;rw[hu]at E
   split at E <;> simp_all
   rename_i k' m;obtain⟨⟨rfl,hw⟩,I⟩:=E;exact⟨_,.int t _ _ hu hw,RepL.one (.int _ _) rfl,.inr rfl,by rw[← I]; simp[wt,blk]⟩
  ·rename_i hu;simp only[beq_iff_eq]at hc;unfold DataW.trod at E;rw[hu]at E
   split at E <;> simp_all
   rename_i s;exact⟨_,.str t s.data.toList hu (by simpa using E.1),RepL.one ya rfl,.inr rfl,by rw[← E.2]; simp[wt,blk]⟩
  ·rename_i e hu;simp only[Af,Bf,decide_eq_true_eq,beq_iff_eq]at hc;obtain⟨⟨J,ab⟩,U⟩:=hc;rcases DataW.trod_slice hu E with⟨rfl,I⟩ | ⟨a,len,cap,elems,rest,m,hm,rfl,I,_,a3,bb,hlen,a4,_,_⟩
   ·refine⟨.slc (nz (P.cellsOf e) []) [] false,.slc t e [] hu (fun x h=>by cases h) (A4 _),RepL.one (.slcE _ false none 0 (fun h=>by cases h)) rfl,U.symm,.inr rfl,by rw[I]; simp[wt,HV,blk]⟩
   ·obtain rfl:m=fuel:=by omega
    have ac:∀ i,i<len→∃ d,TyD P e d∧d.cells.length=P.cellsOf e∧(∀ (j:Nat) y,d.cells[j]?=some y→y.pure1=true∧∃ v,w.cell? ((a.add (i*P.cellsOf e)).add j)=some v∧RepV w (La w) [] y v)∧wt d≤((elems[i]?).map fun y=>blk y.1).getD 0:=by
     intro i hi;have h1:=a4 i hi;rw[Am (by omega)]at h1 ⊢;simp only[Az]at h1;obtain⟨cs',h2,h3⟩:=h1;obtain⟨d,d1,d2,d3,_,d5⟩:=ih e J cs' _ h3;obtain⟨h4,h5⟩:=cells?_get h2;refine⟨d,d1,by rw[d2.1,h4],fun j y hy=>⟨d2.2.2 y (An hy),?_⟩,by simpa using d5⟩;have hj:j<cs'.length:=by rw[← d2.1]; exact(Ac.1 hy).1
     exact⟨cs'[j],h5 j _ (Am hj),d2.2.1 j y _ hy (Am hj)⟩
    obtain⟨els,e1,e2,e3,e4⟩:=yQr ab a3 ac;refine⟨_,.slc t e els hu e2 (by omega),e3,U.symm,.inr rfl,?_⟩;rw[I];simp only[wt,blk];refine Nat.succ_le_succ (ng _ _ (by simp; omega) ?_);grind
  ·rename_i fs hu;simp only[Af,Al,Bf]at hc;obtain⟨J,af⟩:=hc;unfold DataW.trod at E;rw[hu]at E;simp only at E
   split at E
   case isFalse=>cases E
   rename_i hl;simp only[DI]at E;obtain⟨ys,M,rfl⟩:=E;obtain⟨xs,x1,x2,V,x4,x5⟩:=nF cs (P.cellsOf t) fs.toList 0 ys (fun f hf=>ih f.type (J f hf)) af M;refine⟨.agg (xs.flatMap D.cells),.agg t fs xs hu x1 x2,?_,hl,.inl ⟨_,rfl⟩,by simpa only[wt,blk]using x5⟩;rw[Bz,Nat.sub_zero,AG (by omega)]at V;exact V
  ·rename_i m e hu;simp only[Af,Bf,beq_iff_eq]at hc;obtain⟨J,bc⟩:=hc;unfold DataW.trod at E;rw[hu]at E;simp only at E
   split at E
   case isFalse=>cases E
   rename_i hl;simp only[DI]at E;obtain⟨ys,M,rfl⟩:=E;rw[Bn]at M;obtain⟨xs,x1,x2,V,x5⟩:=nq (ih e J) cs m 0 ys M;refine⟨.agg (xs.flatMap D.cells),.arr t m e xs hu x1 x2,?_,hl,.inl ⟨_,rfl⟩,by simpa only[wt,blk]using x5⟩;rw[Cc,Bz,AG (by omega)]at V;exact V
  ·cases hc
theorem r7{sp:Nat→Bool}:∀ (n:Nat) (t:TypeId) (ty:Ty),GK P n t=some ty→lU enc P w sp t ty
 |0,_,_,h=>by simp[GK]at h
 |n+1,t,ty,h=>by
  have ih:=r7 (sp:=sp) n;intro fuel cs x E;unfold GK at h
  cases fuel with
  |zero=>simp[DataW.trod]at E
  |succ fuel=>
  split at h
  ·rename_i hu;simp only[Db]at h; subst h;unfold DataW.trod at E;rw[hu]at E
   split at E <;> simp_all
   exact⟨_,.bool _,RepL.one (.bool _) rfl,rfl,rfl,by rw[← E]; simp[wt,blk]⟩
  ·rename_i k hu;simp only[Db]at h; subst h;unfold DataW.trod at E;rw[hu]at E
   split at E <;> simp_all
   rename_i k' m;obtain⟨⟨rfl,hw⟩,M⟩:=E;exact⟨_,.int _ _ hw,RepL.one (.int _ _) rfl,rfl,rfl,by rw[← M]; simp[wt,blk]⟩
  ·rename_i hu;simp only[Db]at h; subst h;unfold DataW.trod at E;rw[hu]at E
   split at E <;> simp_all
   rename_i s;exact⟨_,.str s.data.toList (by simpa using E.1),RepL.one ya rfl,rfl,rfl,by rw[← E.2]; simp[wt,blk]⟩
  ·rename_i e hu
   split at h
   case h_2=>
    split at h
    case isFalse=>cases h
    rename_i U;simp only[Af,Bf]at U;simp only[Db]at h; subst h;obtain⟨d,d1,d2,d3,d4,d5⟩:=uL U.1 (fuel+1) t U.2 cs x E
    have ad:P.cellsOf t=1:=by
     have:=Al.1 U.1 t U.2;unfold Sv at this;grind
    rw[ad]at d3
    have:∃ sz els,d=.slc (nz sz els) els false:=by
     cases d1 with
     |slc _ e' els I h2 h3=>exact⟨_,_,rfl⟩
     |agg _ fs xs I=>rw[hu]at I; cases I
     |arr _ m e' xs I=>rw[hu]at I; cases I
     |bool _ b I=>rw[hu]at I; cases I
     |int _ k n I=>rw[hu]at I; cases I
     |str _ s I=>rw[hu]at I; cases I
    obtain⟨sz,els,rfl⟩:=this;exact⟨_,.opq _ sz els d1,d2,d3,.inr rfl,d5⟩
   rename_i ex hex
   split at h
   case isFalse=>cases h
   rename_i hc;simp only[Af,beq_iff_eq,decide_eq_true_eq]at hc;simp only[Db]at h; subst h;rcases DataW.trod_slice hu E with⟨rfl,M⟩ | ⟨a,len,cap,elems,rest,m,_,rfl,M,_,a5,bg,hlen,a6,_,_⟩
   ·exact⟨_,.slc ex [] (fun i x h=>by simp at h) (A4 _),RepL.one (.slcE _ false none 0 (fun h=>by cases h)) rfl,rfl,.inr rfl,by rw[M]; simp[wt,HV,blk]⟩
   ·have J:∀ i (hi:i<len),∃ d,Has ex d∧d.cells.length=ex.size∧(∀ (j:Nat) y,d.cells[j]?=some y→y.pure1=true∧∃ v,w.cell? ((a.add (i*ex.size)).add j)=some v∧RepV w (La w) [] y v)∧wt d≤blk (elems[i]'(by omega)).1:=by
     intro i hi;have I:=a6 i hi;rw[hc.1,Am (by omega)]at I;simp only[Az]at I;obtain⟨cs',h2,h3⟩:=I;obtain⟨d,d1,d2,d3,_,d5⟩:=ih e ex hex m cs' _ h3;obtain⟨h4,h5⟩:=cells?_get h2;refine⟨d,d1,by rw[d2.1,h4],fun j y hy=>⟨d2.2.2 y (An hy),?_⟩,d5⟩;have hj:j<cs'.length:=by rw[← d2.1]; exact(Ac.1 hy).1
     exact⟨cs'[j],h5 j _ (Am hj),d2.2.1 j y _ hy (Am hj)⟩
    let f:Nat→D:=fun i=>if hi:i<len then(J i hi).choose else .junk
    have hf:∀ i (hi:i<len),f i=(J i hi).choose:=fun i hi=>by simp[f,hi]
    have ah:∀ (i:Nat) x,((CS len).map f)[i]?=some x→∃ hi:i<len,x=(J i hi).choose:=by
     grind
    refine⟨.slc (nz ex.size ((CS len).map f)) ((CS len).map f) false,.slc ex _ (fun i x E=>?_) (by simp; omega),?_,rfl,.inr rfl,?_⟩
    ·grind
    ·refine RepL.one (RepV.nz (t:=false) ?_) rfl;rcases B7 len with h0 | h0
     ·subst h0;exact .slcE _ false (some a) cap (fun h=>by cases h)
     ·have ab:a.spot=none:=by
       obtain⟨d1,d2,d3,_⟩:=(J 0 h0).choose_spec;obtain⟨_,v,I,_⟩:=d3 0 _ (Am (by rw[d2]; exact hc.2));rw[Cc]at I;have h2:(a.add 0).add 0=a:=by simp[Addr.add]
       rw[h2]at I;unfold World.cell? at I
       split at I
       ·split at I
        ·cases I
        ·rename_i hs; simpa using hs
       ·cases I
      obtain⟨b,off,spot⟩:=a;simp only at ab;subst ab;have hl:len=((CS len).map f).length:=by simp
      conv=>rhs; rw[hl]
      refine RepV.slc_mk hc.2 ?_ (by simpa using a5) (fun h=>by cases h) ?_
      ·grind
      ·intro i j d hd;obtain⟨e',he,hj⟩:=IQ hd;obtain⟨a7,rfl⟩:=ah i e' he;obtain⟨hp,v,hv,hr⟩:=(J i a7).choose_spec.2.2.1 j d hj;rw[LP,LP]at hv;refine⟨hp,?_,v,hv,hr⟩
       show(w.cell? ⟨b,off+i*ex.size+j,none⟩).isSome=true
       rw[hv]; rfl
    ·rw[M];simp only[wt,blk];refine Nat.succ_le_succ (ng _ _ (by simp; omega) ?_);grind
  ·rename_i fs hu
   split at h
   case h_2=>cases h
   rename_i ts a8
   split at h
   case isFalse=>cases h
   rename_i hc;simp only[Af,beq_iff_eq]at hc;simp only[Db]at h; subst h;unfold DataW.trod at E;rw[hu]at E;simp only at E
   split at E
   case isFalse=>cases E
   rename_i hl;simp only[DI]at E;obtain⟨ys,V,rfl⟩:=E;obtain⟨xs,x1,x2,Y,x4,x5⟩:=nB ih fuel cs fs.toList ts 0 ys a8 hc.1 V;refine⟨.agg (xs.flatMap D.cells),.agg ts xs x1 x2,?_,by rw[hl,hc.2]; rfl,.inl ⟨ts,rfl⟩,by simpa only[wt,blk]using x5⟩;rw[Bz,AG (by omega)]at Y;exact Y
  ·rename_i m e hu
   split at h
   case h_2=>cases h
   rename_i ex hex
   split at h
   case isFalse=>cases h
   rename_i hc;simp only[Af,beq_iff_eq]at hc;simp only[Db]at h; subst h;unfold DataW.trod at E;rw[hu]at E;simp only at E
   split at E
   case isFalse=>cases E
   rename_i hl;simp only[DI]at E;obtain⟨ys,V,rfl⟩:=E;rw[Bn]at V;obtain⟨xs,x1,x2,Y,x5⟩:=vX (ih e ex hex) hc.1 fuel cs m 0 ys V;refine⟨.agg (xs.flatMap D.cells),.agg _ xs (by simp[x1]) ?_,?_,by rw[hl,hc.2]; exact(Ty.sizes_replicate ex m).symm,.inl ⟨_,rfl⟩,by simpa only[wt,blk]using x5⟩
   ·grind
   ·rw[Cc,Bz,AG (by omega)]at Y;exact Y
  ·cases h
end
end Go.Proofs.YtijnglngaogdjaaGreatDoor.PI
namespace Go.Proofs.YtijnglngaogdjaaGreatDoor.PI
open Go Go.RowKit Go.ChangeShapes
variable {v:Value}{a:Addr}{n:Nat}{before:List MemPlace}{args:Array Value}{s:ChangeSpec}{tys:List Ty}{sp:List D→Option D}{fn:Func}{G:Dj}
section
variable {H:Type} {enc:TypeId×Value→H} {P:Program} {W W':World}
theorem N7{α β:Type}{f g:α→Option β}:∀ {l:List α} {r:List β},l.mapM f=some r→(∀ x y,x∈l→y∈r→f x=some y→g x=some y)→l.mapM g=some r
 |[],r,h,_=>by simpa using h
 |a::l,r,h,E=>by
  simp only[By,Bt,Az,BF,Db]at h ⊢;obtain⟨b,hb,J,I,rfl⟩:=h;exact⟨b,E a b (by simp) (by simp) hb,J,N7 I (fun x y M U=>E x y (by simp[M]) (by simp[U])),rfl⟩
theorem cell?_below(hb:Below W.heap.size W W')(h:W.cell? a=some v):W'.cell? a=some v:=by
 have E:=World.block_lt_of_cell? W a h;rw[← h];simp only[World.cell?,hb.block a.block E]
theorem cells?_below(hb:Below W.heap.size W W'){b:Nat}{cs:List Value}(h:W.cells? b a n=some cs):W'.cells? b a n=some cs:=by
 unfold World.cells? at h ⊢
 split at h
 ·rename_i E;rw[if_pos E];exact N7 h fun x y _ _ I=>cell?_below hb I
 ·cases h
theorem uK(hb:Below W.heap.size W W'){S:List TypeId}(hS:LF P S=true):∀ (fuel:Nat) (t:TypeId),t∈S→∀ (cs:List Value) (x:DataW H×List MemPlace),DataW.trod enc P W 0 (fun _=>true) true fuel t cs=some x→
  ∀ I:Nat→Bool,(∀ p∈x.2,I p.block=true)→DataW.trod enc P W' 0 I true fuel t cs=some x
 |0,t,_=>by intro cs x E; simp[DataW.trod]at E
 |fuel+1,t,ht=>by
  have ih:=uK hb hS fuel;intro cs x E I ac;have hc:Sv P S t=true:=Al.1 hS t ht;unfold Sv at hc
  split at hc
  ·rename_i hu;unfold DataW.trod at E ⊢;grind
  ·rename_i k hu;unfold DataW.trod at E ⊢;grind
  ·rename_i hu;unfold DataW.trod at E ⊢;grind
  ·rename_i e hu;simp only[Af,Bf,decide_eq_true_eq,beq_iff_eq]at hc;obtain⟨⟨M,a0⟩,_⟩:=hc
   have U:∀ (b:Addr) (y:DataW H×List MemPlace),(∀ p∈y.2,I p.block=true)→(W.cells? 0 b (P.cellsOf e)).bind (DataW.trod enc P W 0 (fun _=>true) true fuel e)=some y→(W'.cells? 0 b (P.cellsOf e)).bind (DataW.trod enc P W' 0 I true fuel e)=some y:=by
    intro b y J V;simp only[Az]at V ⊢;obtain⟨cs',h2,h3⟩:=V;exact⟨cs',cells?_below hb h2,ih e M cs' y h3 I J⟩
   unfold DataW.trod at E ⊢;rw[hu]at E ⊢
   split at E
   all_goals try (first | (rename_i heq _; cases heq; done) | (rename_i heq; cases heq; done))
   all_goals try (simp_all; done)
   rename_i e' a len cap heq;cases heq;simp only[if_true]at E ⊢
   split at E
   case isFalse=>cases E
   rename_i ab;rw[if_pos ab];simp only[Az,DI]at E ⊢;obtain⟨elems,V,rest,h2,rfl⟩:=E;have hle:elems.length=len:=by simpa using Lib.mapM_length V
   have a3:rest.length=cap - len:=by simpa using Lib.mapM_length h2
   have M:∀ y∈elems++rest,∀ p∈y.2,I p.block=true:=fun y J p hp=>ac p (by
    grind)
   refine⟨elems,N7 V (fun i y _ J hi=>U _ y (M y (by simp[J])) hi),rest,?_,rfl⟩;rcases B7 cap with h0 | h0
   ·grind
   ·have ad:I a.block=true:=ac (.cell a.block (a.off+0)) (by
     simp only[AO]
     left
     simp only[MemPlace.row,AX,AY];simp_all)
    rw[if_pos ad];exact N7 h2 (fun i y _ J hi=>U _ y (M y (by simp[J])) hi)
  ·rename_i fs hu;simp only[Af,Al,Bf]at hc;unfold DataW.trod at E ⊢;rw[hu]at E ⊢;simp only at E ⊢
   split at E
   case isFalse=>cases E
   rename_i hl;rw[if_pos hl];simp only[DI]at E ⊢;obtain⟨ys,Y,rfl⟩:=E;refine⟨ys,N7 Y (fun f y hf J hi=>?_),rfl⟩;grind
  ·rename_i m e hu;simp only[Af,Bf,beq_iff_eq]at hc;unfold DataW.trod at E ⊢;rw[hu]at E ⊢;simp only at E ⊢
   split at E
   case isFalse=>cases E
   rename_i hl;rw[if_pos hl];simp only[DI]at E ⊢;obtain⟨ys,Y,rfl⟩:=E;refine⟨ys,N7 Y (fun i y _ J hi=>?_),rfl⟩;grind
  ·cases hc
theorem vJ(hb:Below W.heap.size W W'):∀ (n:Nat) (t:TypeId) (ty:Ty),GK P n t=some ty→∀ (fuel:Nat) (cs:List Value) (x:DataW H×List MemPlace),DataW.trod enc P W 0 (fun _=>true) true fuel t cs=some x→
  ∀ I:Nat→Bool,(∀ p∈x.2,I p.block=true)→DataW.trod enc P W' 0 I true fuel t cs=some x
 |0,_,_,h=>by simp[GK]at h
 |n+1,t,ty,h=>by
  have ih:=vJ hb n;intro fuel cs x E I U;unfold GK at h
  cases fuel with
  |zero=>simp[DataW.trod]at E
  |succ fuel=>
  split at h
  ·rename_i hu;unfold DataW.trod at E ⊢;grind
  ·rename_i k hu;unfold DataW.trod at E ⊢;grind
  ·rename_i hu;unfold DataW.trod at E ⊢;grind
  ·rename_i e hu
   split at h
   case h_2=>
    split at h
    case isFalse=>cases h
    rename_i V;simp only[Af,Bf]at V;exact uK hb V.1 (fuel+1) t V.2 cs x E I U
   rename_i ex hex
   split at h
   case isFalse=>cases h
   rename_i hc;simp only[Af,beq_iff_eq,decide_eq_true_eq]at hc;have a0:0<P.cellsOf e:=by rw[hc.1]; exact hc.2
   have Y:∀ (b:Addr) (y:DataW H×List MemPlace),(∀ p∈y.2,I p.block=true)→(W.cells? 0 b (P.cellsOf e)).bind (DataW.trod enc P W 0 (fun _=>true) true fuel e)=some y→(W'.cells? 0 b (P.cellsOf e)).bind (DataW.trod enc P W' 0 I true fuel e)=some y:=by
    intro b y J h1;simp only[Az]at h1 ⊢;obtain⟨cs',h2,h3⟩:=h1;exact⟨cs',cells?_below hb h2,ih e ex hex fuel cs' y h3 I J⟩
   unfold DataW.trod at E ⊢;rw[hu]at E ⊢
   split at E
   all_goals try (first | (rename_i heq _; cases heq; done) | (rename_i heq; cases heq; done))
   all_goals try (simp_all; done)
   rename_i e' a len cap heq;cases heq;simp only[if_true]at E ⊢
   split at E
   case isFalse=>cases E
   rename_i ac;rw[if_pos ac];simp only[Az,DI]at E ⊢;obtain⟨elems,h1,rest,h2,rfl⟩:=E;have hle:elems.length=len:=by simpa using Lib.mapM_length h1
   have a5:rest.length=cap - len:=by simpa using Lib.mapM_length h2
   have ad:∀ y∈elems++rest,∀ p∈y.2,I p.block=true:=fun y J p hp=>U p (by
    grind)
   refine⟨elems,N7 h1 (fun i y _ J hi=>Y _ y (ad y (by simp[J])) hi),rest,?_,rfl⟩;rcases B7 cap with h0 | h0
   ·grind
   ·have af:I a.block=true:=U (.cell a.block (a.off+0)) (by
     simp only[AO]
     left
     simp only[MemPlace.row,AX,AY];simp_all)
    rw[if_pos af];exact N7 h2 (fun i y _ J hi=>Y _ y (ad y (by simp[J])) hi)
  ·rename_i fs hu
   split at h
   case h_2=>cases h
   rename_i ts ae;unfold DataW.trod at E ⊢;rw[hu]at E ⊢;simp only at E ⊢
   split at E
   case isFalse=>cases E
   rename_i hl;rw[if_pos hl];simp only[DI]at E ⊢;obtain⟨ys,M,rfl⟩:=E
   have a4:∀ f∈fs.toList,∃ ty,GK P n f.type=some ty:=by
    clear M hl hu h;generalize fs.toList=l at ae
    induction l generalizing ts with
    |nil=>intro f hf; cases hf
    |cons f0 l a6=>
     unfold Tf at ae;grind
   refine⟨ys,N7 M (fun f y hf J hi=>?_),rfl⟩;grind
  ·rename_i m e hu
   split at h
   case h_2=>cases h
   rename_i ex hex;unfold DataW.trod at E ⊢;rw[hu]at E ⊢;simp only at E ⊢
   split at E
   case isFalse=>cases E
   rename_i hl;rw[if_pos hl];simp only[DI]at E ⊢;obtain⟨ys,M,rfl⟩:=E;refine⟨ys,N7 M (fun i y _ J hi=>?_),rfl⟩;grind
  ·cases h
theorem nM(hb:Below W.heap.size W W'){n:Nat}:∀ (I:List TypeId) (tys:List Ty) (vs:List Value) (ds:List (DataW H)) (ps:List MemPlace),I.mapM (GK P n)=some tys→DataW.TrodAll enc P W 0 (fun _=>true) true I vs ds ps→
  ∀ E:Nat→Bool,(∀ p∈ps,E p.block=true)→DataW.TrodAll enc P W' 0 E true I vs ds ps
 |[],_,[],[],ps,_,h=>fun _ _=>h
 |t::I,tys,v::vs,d::ds,ps,V,h=>by
  intro E J;simp only[By,Bt,Az,BF,Db]at V;obtain⟨ty,Y,M,h2,rfl⟩:=V;obtain⟨p,q,⟨fuel,h3⟩,h4,rfl⟩:=h;exact⟨p,q,⟨fuel,vJ hb n t ty Y fuel _ _ h3 E (fun x U=>J x (by simp[U]))⟩,nM hb I M vs ds q h2 h4 E (fun x U=>J x (by simp[U])),rfl⟩
 |[],_,_::_,_,_,_,h=>by cases h
 |[],_,[],_::_,_,_,h=>by cases h
 |_::_,_,[],_,_,_,h=>by cases h
 |_::_,_,_::_,[],_,_,h=>by cases h
theorem Ybd{sp:Nat→Bool}{t:TypeId}{ty:Ty}{d:DataW H}{ps:List MemPlace}(E:GK P n t=some ty)(hv:Value.okWide P W .any 0 t v)(h:DataW.Trod enc P W 0 sp true t v d ps) :
  ∃ x,Has ty x∧(RepV W (La W) [] x v∧purA x=true)∧wt x≤blk d:=by
 obtain⟨fuel,h⟩:=h;obtain⟨x,J,M,h3,h4,h5⟩:=r7 n t ty E fuel _ _ h;refine⟨x,J,?_,h5⟩
 have I:(∀ cs,v≠.agg cs)→x.pure1=true→RepV W (La W) [] x v∧purA x=true:=by
  intro Y V;have aa:v.cells=#[v]:=by cases v <;> first | rfl | exact absurd rfl (Y _)
  rw[Zt V,aa]at M;refine⟨M.2.1 0 x v rfl rfl,?_⟩;cases x <;> first | exact V | (simp[D.pure1]at V; done)
 have U:∀ cs l,v=.agg cs→x=.agg l→RepV W (La W) [] x v∧purA x=true:=by
  intro cs l e1 e2;subst e1; subst e2;refine⟨?_,?_⟩
  ·have:=RepV.agg (w:=W) (g:=La W) (st:=[]) l cs.toList (by simpa[D.cells,Value.cells]using M.1) (fun i d u hd hu=>M.2.1 i d u hd (by simpa[Value.cells]using hu));omega
  ·simp only[purA,Al];exact M.2.2
 unfold Value.okWide at hv
 cases n with
 |zero=>simp[GK]at E
 |succ n=>
 unfold GK at E
 split at E
 ·rename_i hu;simp only[Db]at E; subst E;cases J;exact I (fun cs e=>by subst e; simp[hu,Cell.okWide,Cell.ok]at hv) rfl
 ·rename_i k hu;simp only[Db]at E; subst E;cases J;exact I (fun cs e=>by subst e; simp[hu,Cell.okWide,Cell.ok]at hv) rfl
 ·rename_i hu;simp only[Db]at E; subst E;cases J;exact I (fun cs e=>by subst e; simp[hu,Cell.okWide,Cell.ok]at hv) rfl
 ·rename_i e hu
  split at E
  case h_2=>
   split at E
   case isFalse=>cases E
   simp only[Db]at E; subst E;cases J;exact I (fun cs e=>by subst e; simp[hu,Cell.okWide,Cell.ok]at hv) rfl
  split at E
  case isFalse=>cases E
  simp only[Db]at E; subst E;cases J;exact I (fun cs e=>by subst e; simp[hu,Cell.okWide,Cell.ok]at hv) rfl
 ·rename_i fs hu
  split at E
  case h_2=>cases E
  split at E
  case isFalse=>cases E
  simp only[Db]at E; subst E;simp only[hu]at hv;obtain⟨cs,rfl,_,_⟩:=hv
  cases J with
  |agg _ xs _ _=>exact U cs _ rfl rfl
 ·rename_i m e hu
  split at E
  case h_2=>cases E
  split at E
  case isFalse=>cases E
  simp only[Db]at E; subst E;simp only[hu]at hv;obtain⟨cs,rfl,_,_⟩:=hv
  cases J with
  |agg _ xs _ _=>exact U cs _ rfl rfl
 ·cases E
inductive HasAll:List Ty→List D→Prop
 |nil:HasAll [] []
 |cons {t:Ty} {ts:List Ty} {x:D} {xs:List D}:Has t x→HasAll ts xs→HasAll (t::ts) (x::xs)
theorem uj{sp:Nat→Bool}{n:Nat}:∀ (I:List TypeId) (tys:List Ty) (vs:List Value) (ds:List (DataW H)) (ps:List MemPlace),I.mapM (GK P n)=some tys→(∀ (j:Nat) t v,I[j]?=some t→vs[j]?=some v→Value.okWide P W .any 0 t v)→DataW.TrodAll enc P W 0 sp true I vs ds ps→
  ∃ xs,HasAll tys xs∧xs.length=vs.length∧(∀ (i:Nat) d v,xs[i]?=some d→vs[i]?=some v→RepV W (La W) [] d v)∧(∀ d∈xs,purA d=true)∧HV xs≤GQ ds
 |[],tys,[],[],ps,E,_,_=>by
  simp at E; subst E;exact⟨[],.nil,rfl,fun i d v h=>by simp at h,(fun d h=>by cases h),by simp[HV]⟩
 |t::I,tys,v::vs,d::ds,ps,E,hv,h=>by
  simp only[By,Bt,Az,BF,Db]at E;obtain⟨ty,U,J,V,rfl⟩:=E;obtain⟨p,q,Y,h4,rfl⟩:=h;obtain⟨x,x1,⟨x2,x3⟩,x5⟩:=Ybd U (hv 0 t v rfl rfl) Y;obtain⟨xs,y1,y2,y3,y4,y5⟩:=uj I J vs ds q V (fun j t v E M=>hv (j+1) t v (by simpa using E) (by simpa using M)) h4;refine⟨x::xs,.cons x1 y1,by simp[y2],?_,?_,?_⟩
  ·grind
  ·grind
  ·simp only[HV,GQ]; omega
 |[],_,_::_,_,_,_,_,h=>by cases h
 |[],_,[],_::_,_,_,_,h=>by cases h
 |_::_,_,[],_,_,_,_,h=>by cases h
 |_::_,_,_::_,[],_,_,_,h=>by cases h
theorem yKl{K N:Nat}(hC:Contract P G K sp)(M:fn.params.toList.mapM (GK P n)=some tys)(E:s.vars=[])
  (I:∃ tb,fn.resultTypes=#[tb]∧P.underlying tb=some .bool)
  (ac:∀ (H:Type) (ds:List (DataW H)),ds.length=fn.params.size→(s.fn H ds).results=[.lit (.bool true)]∧(s.fn H ds).args=ds∧(s.fn H ds).vars=[])
  (ad:∀ xs,HasAll tys xs→HV xs≤N→sp xs=some (.bool true))
   {ds V:List (DataW H)}  (hG:GlobOK G W (La W)) (hN:GQ ds≤N)
  (Y:∀ (j:Nat) t v,fn.params[j]?=some t→args[j]?=some v→Value.okWide P W .any 0 t v)
  (hW:DataW.Whole enc P fn.params.toList s.vars false W args.toList ds V before) :
  Calls P K args W fun e W'=>∃ v,e=.returned v∧s.post enc P fn false true false false W args v W':=by
 obtain⟨tb,I,af⟩:=I;have U:=hW;obtain⟨p,q,hA,hV,rfl,bc,bd⟩:=hW;rw[E]at hV
 have ah:V=[]∧q=[]:=by
  cases V with
  |nil=>exact⟨rfl,hV⟩
  |cons a l=>cases hV
 obtain⟨rfl,rfl⟩:=ah;obtain⟨xs,x1,x2,x3,x4,x5⟩:=uj fn.params.toList tys args.toList ds p M (fun j t v ht hv=>Y j t v (by simpa using ht) (by simpa using hv)) hA
 have hlen:∀ (J:List TypeId) (vs:List Value) (ds:List (DataW H)) (ps:List MemPlace),DataW.TrodAll enc P W 0 (fun _=>true) true J vs ds ps→ds.length=J.length:=by
  intro J
  induction J with
  |nil=>intro vs ds ps h; cases vs <;> cases ds <;> first | rfl | cases h
  |cons t J ih=>
   intro vs ds ps h
   cases vs with
   |nil=>cases h
   |cons v vs=>
    cases ds with
    |nil=>cases h
    |cons d ds=>
     obtain⟨_,_,_,h4,_⟩:=h;grind
 have a0:ds.length=fn.params.size:=by simpa using hlen _ _ _ _ hA
 have hc:=hC W (La W) xs args.toList (.bool true) (ad xs x1 (AS x5 hN)) hG (fun b o h=>h) x2 x3 x4;rw[BE]at hc;refine hc.mono ?_;rintro e W' ⟨v,g',rfl,h1,_,_,_,_,hb⟩;have hv:=Mh h1;subst hv;obtain⟨f1,f2,f3⟩:=ac H ds a0;refine⟨_,rfl,ds,[],p++[],[],p,[],U,?_,?_,?_,?_,fun h=>by cases h⟩
 ·rw[Ad,f1,I];exact⟨[],[],⟨1,by unfold DataW.trod; simp[af,Value.cells]⟩,rfl,rfl⟩
 ·rw[Ad,f2];refine nM hb _ tys _ _ _ M hA _ fun x hx=>?_;simpa using U.lt x (by simpa using hx)
 ·rw[Ad,f3,E];rfl
 ·refine⟨hb.os,hb.output,fun i hi=>?_⟩;rw[hb.block i hi];grind
theorem law_contract{K:Nat}(Y:Contract P G K sp)(J:fn.params.toList.mapM (GK P n)=some tys)(E:s.vars=[])
  (M:∃ tb,fn.resultTypes=#[tb]∧P.underlying tb=some .bool)
  (U:∀ (H:Type) (ds:List (DataW H)),ds.length=fn.params.size→(s.fn H ds).results=[.lit (.bool true)]∧(s.fn H ds).args=ds∧(s.fn H ds).vars=[])
  (V:∀ xs,HasAll tys xs→sp xs=some (.bool true))
   {ds gs:List (DataW H)}  (hG:GlobOK G W (La W))
  (I:∀ (j:Nat) t v,fn.params[j]?=some t→args[j]?=some v→Value.okWide P W .any 0 t v)
  (hW:DataW.Whole enc P fn.params.toList s.vars false W args.toList ds gs before) :
  Calls P K args W fun e W'=>∃ v,e=.returned v∧s.post enc P fn false true false false W args v W':=
 yKl (N:=GQ ds) Y J E M U (fun xs h _=>V xs h) hG (Ay _) I hW
def RK(g:Nat)(k:IntKind)(zs:List Int):Dj:=fun n=>if n=g then some (.agg (zs.map fun z=>.int k z))else none
theorem Yxr{I:String}{k:IntKind}{zs:List Int}{g:Nat}(h:Lib.TabIs P W I k zs)(U:P.globalNamed I=some g):GlobOK (RK g k zs) W (La W):=by
 intro n d E;simp only[RK,As,Db]at E;obtain⟨rfl,rfl⟩:=E
 have hj:∀ (j:Nat) (d:D),(D.agg (zs.map fun z=>D.int k z)).cells[j]?=some d→d=.int k (zs.getD j 0)∧W.cell? ⟨n,j,none⟩=some (.int k (zs.getD j 0)):=by
  intro j d E;simp only[D.cells,AF,DI]at E;obtain⟨z,J,rfl⟩:=E;have M:j<zs.length:=(Ac.1 J).1;exact⟨by simp[Ai,J],h.cell U j M⟩
 refine .eptr _ 0 n 0 (fun j=>.int k (zs.getD j 0)) (fun j d E=>?_) (fun j d E=>?_) (fun j d E=>?_)
 ·rw[(hj j d E).1]; rfl
 ·have:=(hj j d E).2;rw[Ao];exact⟨by show(W.cell? ⟨n,j,none⟩).isSome=true; rw[this]; rfl,this⟩
 ·rw[(hj j d E).1]; exact .int _ _
end
end Go.Proofs.YtijnglngaogdjaaGreatDoor.PI
namespace Go.Proofs.YtijnglngaogdjaaGreatDoor.PI
open Go
def wD(x:UInt32):D:=.int .u32 (x.toNat:Int)
def qD(x:UInt64):D:=.int .u64 (x.toNat:Int)
theorem YCl{n:Nat}(m:Nat):CR n (m:Int)=BitVec.ofNat n m:=BitVec.ofInt_natCast ..
theorem SG(n:Nat):IntKind.wrap .u32 (n:Int)=((n % 2 ^ 32:Nat):Int):=by
 rfl
theorem Ug(n:Nat):IntKind.wrap .u64 (n:Int)=((n % 2 ^ 64:Nat):Int):=by
 rfl
theorem ef(n:Nat):IntKind.wrap .u8 (n:Int)=((n % 2 ^ 8:Nat):Int):=by
 rfl
theorem lR(x y:UInt32):Ds .add (wD x) (wD y)=some (wD (x+y)):=by
 rfl
theorem XR(x:UInt32):CR 32 (x.toNat:Int)=x.toBitVec:=by
 simp_all
theorem eH(x:UInt32):x.toNat % 2 ^ 32=x.toNat:=A7 x.toNat_lt
theorem XV(x y:UInt32):Ds .and (wD x) (wD y)=some (wD (x &&& y)):=by
 have h:(CR (IntKind.bits .u32) (x.toNat:Int) &&& CR (IntKind.bits .u32) (y.toNat:Int)).toNat=(x &&& y).toNat:=by
  show(CR 32 (x.toNat:Int) &&& CR 32 (y.toNat:Int)).toNat=_
  simp_all
 simp only[Ds,wD,if_true,Li,Ag,h,SG,eH]
theorem Wv(x y:UInt32):Ds .or (wD x) (wD y)=some (wD (x ||| y)):=by
 have h:(CR (IntKind.bits .u32) (x.toNat:Int) ||| CR (IntKind.bits .u32) (y.toNat:Int)).toNat=(x ||| y).toNat:=by
  show(CR 32 (x.toNat:Int) ||| CR 32 (y.toNat:Int)).toNat=_
  simp_all
 simp only[Ds,wD,if_true,Li,Ag,h,SG,eH]
theorem wY(x y:UInt32):Ds .xor (wD x) (wD y)=some (wD (x ^^^ y)):=by
 have h:(CR (IntKind.bits .u32) (x.toNat:Int) ^^^ CR (IntKind.bits .u32) (y.toNat:Int)).toNat=(x ^^^ y).toNat:=by
  show(CR 32 (x.toNat:Int) ^^^ CR 32 (y.toNat:Int)).toNat=_
  simp_all
 simp only[Ds,wD,if_true,Li,Ag,h,SG,eH]
theorem WB(x:UInt32):NC .xor (wD x)=some (wD (~~~x)):=by
 have E:(IntKind.max .u32)=((4294967295:UInt32).toNat:Int):=by decide
 have h:(CR (IntKind.bits .u32) ((4294967295:UInt32).toNat:Int) ^^^ CR (IntKind.bits .u32) (x.toNat:Int)).toNat=(~~~x).toNat:=by
  show(CR 32 ((4294967295:UInt32).toNat:Int) ^^^ CR 32 (x.toNat:Int)).toNat=_
  rw[XR,XR,show(4294967295:UInt32).toBitVec=BitVec.allOnes 32 from rfl,BitVec.allOnes_xor];rfl
 simp only[NC,wD,Li,Ag,show IntKind.signed .u32=false from rfl,Ap,if_false,E,h,SG,eH]
theorem Yyi(st:St)(b:UInt8):FT st (.int .u32) (Dn b)=some (wD b.toUInt32):=by
 simp only[FT,Dn,wD,SG,UInt8.toNat_toUInt32];simp_all
theorem Yyg(st:St)(x:UInt32):FT st (.int .u8) (wD x)=some (Dn x.toUInt8):=by
 rfl
theorem Yyh(st:St)(x:UInt64):FT st (.int .u8) (qD x)=some (Dn x.toUInt8):=by
 rfl
theorem YB1(x:UInt32)(k:IntKind)(n:Nat)(h:n<32):Ds .shl (wD x) (.int k (n:Int))=some (wD (x <<< (UInt32.ofNat n))):=by
 have e:(x <<< (UInt32.ofNat n)).toNat=x.toNat*2 ^ n % 2 ^ 32:=by
  rw[UInt32.toNat_shiftLeft,Nat.shiftLeft_eq,UInt32.toNat_ofNat',A7 (show n<2 ^ 32 by omega),A7 h]
 have E:((x.toNat:Int)*2 ^ n)=((x.toNat*2 ^ n:Nat):Int):=by push_cast; rfl
 simp only[Ds,wD,MJ,show ¬ ((n:Int)<0) by omega,if_false,Ag,AR,show IntKind.bits .u32=32 from rfl,BR (Cs h),E,SG,e]
theorem YBx(x:UInt32)(k:IntKind)(n:Nat)(h:n<32):Ds .shr (wD x) (.int k (n:Int))=some (wD (x >>> (UInt32.ofNat n))):=by
 have e:(x >>> (UInt32.ofNat n)).toNat=x.toNat / 2 ^ n:=by
  rw[UInt32.toNat_shiftRight,Nat.shiftRight_eq_div_pow,UInt32.toNat_ofNat',A7 (show n<2 ^ 32 by omega),A7 h]
 have E:(x.toNat:Int).fdiv (2 ^ n)=((x.toNat / 2 ^ n:Nat):Int):=by
  grind
 simp only[Ds,wD,MJ,show ¬ ((n:Int)<0) by omega,if_false,Ag,AR,show IntKind.bits .u32=32 from rfl,BR (Cs h),E,e]
theorem wA(x:UInt64)(k:IntKind)(n:Nat)(h:n<64):Ds .shl (qD x) (.int k (n:Int))=some (qD (x <<< (C7 n))):=by
 have e:(x <<< (C7 n)).toNat=x.toNat*2 ^ n % 2 ^ 64:=by
  rw[UInt64.toNat_shiftLeft,Nat.shiftLeft_eq,UInt64.toNat_ofNat',A7 (show n<2 ^ 64 by omega),A7 h]
 have E:((x.toNat:Int)*2 ^ n)=((x.toNat*2 ^ n:Nat):Int):=by push_cast; rfl
 simp only[Ds,qD,MJ,show ¬ ((n:Int)<0) by omega,if_false,Ag,AR,show IntKind.bits .u64=64 from rfl,BR (Cs h),E,Ug,e]
theorem Wo(x:UInt64)(k:IntKind)(n:Nat)(h:n<64):Ds .shr (qD x) (.int k (n:Int))=some (qD (x >>> (C7 n))):=by
 have e:(x >>> (C7 n)).toNat=x.toNat / 2 ^ n:=by
  rw[UInt64.toNat_shiftRight,Nat.shiftRight_eq_div_pow,UInt64.toNat_ofNat',A7 (show n<2 ^ 64 by omega),A7 h]
 have E:(x.toNat:Int).fdiv (2 ^ n)=((x.toNat / 2 ^ n:Nat):Int):=by
  grind
 simp only[Ds,qD,MJ,show ¬ ((n:Int)<0) by omega,if_false,Ag,AR,show IntKind.bits .u64=64 from rfl,BR (Cs h),E,e]
variable {n:Int}
theorem OU(E:-9223372036854775808≤n)(I:n<9223372036854775808):IntKind.wrap .i64 n=n:=by
 show(if(true && decide (n % (2 ^ 64:Int) ≥ (2 ^ (64 - 1):Int)))=true then n % (2 ^ 64:Int) - (2 ^ 64:Int)else n % (2 ^ 64:Int))=n
 grind
variable {a:Int}
theorem DM{b:Int}(E:-9223372036854775808≤a+b)(I:a+b<9223372036854775808):Ds .add (.int .i64 a) (.int .i64 b)=some (.int .i64 (a+b)):=by
 simp only[Ds,if_true,Lb,Ag,OU E I]
theorem Fy{b:Int}(E:-9223372036854775808≤a - b)(I:a - b<9223372036854775808):Ds .sub (.int .i64 a) (.int .i64 b)=some (.int .i64 (a - b)):=by
 simp only[Ds,if_true,Lb,Ag,OU E I]
theorem Nn{b:Int}(E:-9223372036854775808≤a*b)(I:a*b<9223372036854775808):Ds .mul (.int .i64 a) (.int .i64 b)=some (.int .i64 (a*b)):=by
 simp only[Ds,if_true,Lb,Ag,OU E I]
class Cont (α:Type):Type where
 mk::
 run:α→Prop
class Cont2 (α β:Type):Type where
 mk::
 run:α→β→Prop
class QC:Type where
 mk::
 run:Ex→Frame→St→Prop
class InvC:Type where
 mk::
 run:PS→Prop
class Br:Type where
 mk::
 run:Prop
def on{α:Type}(o:Option α)[k:Cont α]:Prop:=match o with
 |some a=>k.run a
 |none=>False
variable {α:Type}
theorem zU(a:α)(K:α→Prop):@on α (some a) ⟨K⟩=K a:=(rfl)
theorem Yvm(k:Cont α):@on α none k=False:=(rfl)
def TI(d:D)[k:Cont Bool]:Prop:=match d with
 |.bool b=>k.run b
 |_=>False
theorem Ynb(b:Bool)(K:Bool→Prop):@TI (.bool b) ⟨K⟩=K b:=(rfl)
def H8(b:Bool)[x:Br][y:Br]:Prop:=if b=true then x.run else y.run
theorem Yoo(x:Prop)(y:Br):@H8 true ⟨x⟩ y=x:=(rfl)
theorem Ygj(x:Br)(y:Prop):@H8 false x ⟨y⟩=y:=(rfl)
theorem Yw5(b:Bool)(x y:Br):@H8 (!b) x y=@H8 b y x:=by cases b <;> rfl
variable {y:Prop}
theorem E3{p:Prop}[Decidable p]{x:Prop}(E:p→x)(I:¬ p→y):@H8 (decide p) ⟨x⟩ ⟨y⟩:=by
 by_cases h:p
 ·rw[show decide p=true by simpa using h]; exact E h
 ·rw[show decide p=false by simpa using h]; exact I h
def ev(d:D)[k:Cont D]:Prop:=k.run d
theorem Xw(d:D)(K:D→Prop):@ev d ⟨K⟩=K d:=(rfl)
def QD(d:D)(st:St)[k:Cont2 D St]:Prop:=k.run d st
theorem YEt(d:D)(st:St)(K:D→St→Prop):@QD d st ⟨K⟩=K d st:=(rfl)
def Fu(T:Tbl)(op:POp)(ρ:PA→D)(st:St)(K:D→St→Prop):Prop:=@on _ (op.exec T ρ st) ⟨fun p=>K p.1 p.2⟩
def kG(fr:Frame)(g:Option (Nat×Bool))(x y:Prop):Prop:=match g with
 |none=>x
 |some (s,want)=>match fr s with
  |.bool b=>@H8 (b == want) ⟨x⟩ ⟨y⟩
  |.tup []=>y
  |_=>False
def GN(G:Dj)(T:Tbl):List PI→Frame→St→(Frame→St→Prop)→Prop
 |[],fr,st,K=>K fr st
 |i::l,fr,st,K=>kG fr i.guard (Fu T i.op (Du G fr) st fun d st'=>GN G T l (fr.put i.dst d) st' K) (GN G T l (fr.put i.dst (.tup [])) st K)
theorem UC{G:Dj}{T:Tbl}:∀ (l:List PI) (fr:Frame) (st:St) (K:Frame→St→Prop),GN G T l fr st K→∃ E st',Fg G T l ⟨fr,st⟩=some ⟨E,st'⟩∧K E st'
 |[],fr,st,K,h=>⟨fr,st,rfl,h⟩
 |i::l,fr,st,K,h=>by
  have yes:Fu T i.op (Du G fr) st (fun d st'=>GN G T l (fr.put i.dst d) st' K)→i.wanted fr=some true→∃ E st',Fg G T (i::l) ⟨fr,st⟩=some ⟨E,st'⟩∧K E st':=by
   intro h hw;unfold Fu on at h
   split at h
   ·rename_i p V;obtain⟨E,st',M,U⟩:=UC l _ _ K h;exact⟨E,st',by simp only[Fg,PI.exec,hw,V,M],U⟩
   ·exact h.elim
  have no:GN G T l (fr.put i.dst (.tup [])) st K→i.wanted fr=some false→∃ E st',Fg G T (i::l) ⟨fr,st⟩=some ⟨E,st'⟩∧K E st':=by
   intro h hw;obtain⟨E,st',M,U⟩:=UC l _ _ K h;exact⟨E,st',by simp only[Fg,PI.exec,hw,M],U⟩
  rw[GN]at h;unfold kG at h
  split at h
  ·rename_i I;exact yes h (by simp[PI.wanted,I])
  ·rename_i s want I
   split at h
   ·rename_i b hb;have hw:i.wanted fr=some (b == want):=by simp[PI.wanted,I,hb]
    cases J:(b == want)with
    |true=>rw[J]at h hw; exact yes h hw
    |false=>rw[J]at h hw; exact no h hw
   ·rename_i hb;exact no h (by simp[PI.wanted,I,hb])
   ·exact h.elim
def JD(T:Tbl)(op:POp)(ρ:PA→D)(st:St)(K:D→St→Prop)(X:Nat→D→St→Prop):Prop:=match op.exec T ρ st with
 |some p=>K p.1 p.2
 |none=>match op.execX T ρ st with
  |some r=>X r.1 r.2.1 r.2.2
  |none=>False
def MZ(G:Dj)(T:Tbl):List PI→Frame→St→(Frame→St→Prop)→(Nat→D→Frame→St→Prop)→Prop
 |[],fr,st,K,_=>K fr st
 |i::l,fr,st,K,X=>kG fr i.guard (JD T i.op (Du G fr) st (fun d st'=>MZ G T l (fr.put i.dst d) st' K X) (fun t d st'=>X t d fr st')) (MZ G T l (fr.put i.dst (.tup [])) st K X)
theorem fC{G:Dj}{T:Tbl}:∀ (l:List PI) (fr:Frame) (st:St) (K:Frame→St→Prop) (X:Nat→D→Frame→St→Prop),MZ G T l fr st K X→
  (∃ E st',Fg G T l ⟨fr,st⟩=some ⟨E,st'⟩∧K E st')∨∃ t d E st',Fg G T l ⟨fr,st⟩=none∧Kk G T l ⟨fr,st⟩=some (t,d,⟨E,st'⟩)∧X t d E st'
 |[],fr,st,K,X,h=>.inl ⟨fr,st,rfl,h⟩
 |i::l,fr,st,K,X,h=>by
  have yes:JD T i.op (Du G fr) st (fun d st'=>MZ G T l (fr.put i.dst d) st' K X) (fun t d st'=>X t d fr st')→i.wanted fr=some true→
    (∃ E st',Fg G T (i::l) ⟨fr,st⟩=some ⟨E,st'⟩∧K E st')∨∃ t d E st',Fg G T (i::l) ⟨fr,st⟩=none∧Kk G T (i::l) ⟨fr,st⟩=some (t,d,⟨E,st'⟩)∧X t d E st':=by
   intro h hw;unfold JD at h
   split at h
   ·rename_i p V;rcases fC l _ _ K X h with⟨E,st',I,J⟩ | ⟨t,d,E,st',I,J,Y⟩
    ·exact .inl ⟨E,st',by simp only[Fg,PI.exec,hw,V,I],J⟩
    ·exact .inr ⟨t,d,E,st',by simp only[Fg,PI.exec,hw,V,I],by simp only[Kk,PI.exec,hw,V,J],Y⟩
   ·rename_i hn
    split at h
    ·rename_i r hr;exact .inr ⟨r.1,r.2.1,fr,r.2.2,by simp only[Fg,PI.exec,hw,hn],by simp only[Kk,PI.exec,PI.execX,hw,hn,hr,Ag],h⟩
    ·exact h.elim
  have no:MZ G T l (fr.put i.dst (.tup [])) st K X→i.wanted fr=some false→
    (∃ E st',Fg G T (i::l) ⟨fr,st⟩=some ⟨E,st'⟩∧K E st')∨∃ t d E st',Fg G T (i::l) ⟨fr,st⟩=none∧Kk G T (i::l) ⟨fr,st⟩=some (t,d,⟨E,st'⟩)∧X t d E st':=by
   intro h hw;rcases fC l _ _ K X h with⟨E,st',I,J⟩ | ⟨t,d,E,st',I,J,Y⟩
   ·exact .inl ⟨E,st',by simp only[Fg,PI.exec,hw,I],J⟩
   ·exact .inr ⟨t,d,E,st',by simp only[Fg,PI.exec,hw,I],by simp only[Kk,PI.exec,hw,J],Y⟩
  rw[MZ]at h;unfold kG at h
  split at h
  ·rename_i M;exact yes h (by simp[PI.wanted,M])
  ·rename_i s want M
   split at h
   ·rename_i b hb;have hw:i.wanted fr=some (b == want):=by simp[PI.wanted,M,hb]
    cases U:(b == want)with
    |true=>rw[U]at h hw; exact yes h hw
    |false=>rw[U]at h hw; exact no h hw
   ·rename_i hb;exact no h (by simp[PI.wanted,M,hb])
   ·exact h.elim
variable {X:Nat→D→St→Prop}{st:St}{T:Tbl}
theorem Yfx{op:POp}{ρ:PA→D}{K E:D→St→Prop}{I:Nat→D→St→Prop}(h:JD T op ρ st K X)(hk:∀ d st,K d st→E d st)(J:∀ t d st,X t d st→I t d st):JD T op ρ st E I:=by
 unfold JD at h ⊢;grind
variable {fr:Frame}
theorem Yww{g:Option (Nat×Bool)}{x E I:Prop}(h:kG fr g x y)(J:x→E)(M:y→I):kG fr g E I:=by
 unfold kG at h ⊢
 revert h
 split
 ·exact J
 ·split
  ·unfold H8;grind
  ·exact M
  ·exact id
theorem fi{G:Dj}{T:Tbl}:∀ (l:List PI) (fr:Frame) (st:St) (K E:Frame→St→Prop) (X I:Nat→D→Frame→St→Prop),MZ G T l fr st K X→(∀ fr st,K fr st→E fr st)→(∀ t d fr st,X t d fr st→I t d fr st)→MZ G T l fr st E I
 |[],_,_,_,_,_,_,h,hk,_=>hk _ _ h
 |i::l,fr,st,K,E,X,I,h,hk,J=>by
  rw[MZ]at h ⊢;exact Yww h (fun h=>Yfx h (fun _ _ h=>fi l _ _ _ _ _ _ h hk J) fun _ _ _ h=>J _ _ _ _ h) fun h=>fi l _ _ _ _ _ _ h hk J
class XC:Type where
 mk::
 run:Nat→D→Frame→St→Prop
class XC0:Type where
 mk::
 run:Nat→D→St→Prop
def Qw(G:Dj)(T:Tbl)(l:List PI)(fr:Frame)(st:St)[K:Cont2 Frame St][X:XC]:Prop:=MZ G T l fr st K.run X.run
def J3(T:Tbl)(op:POp)(ρ:PA→D)(st:St)[K:Cont2 D St][X:XC0]:Prop:=JD T op ρ st K.run X.run
theorem Ybb(G:Dj)(T:Tbl)(fr:Frame)(st:St)(K:Frame→St→Prop)(X:XC):@Qw G T [] fr st ⟨K⟩ X=K fr st:=(rfl)
def TH(o:Option (D×St))(p:Option (Nat×D×St))[K:Cont2 D St][X:XC0]:Prop:=match o with
 |some r=>K.run r.1 r.2
 |none=>match p with
  |some r=>X.run r.1 r.2.1 r.2.2
  |none=>False
theorem Yna(d:D)(st:St)(p:Option (Nat×D×St))(K:D→St→Prop)(X:XC0):@TH (some (d,st)) p ⟨K⟩ X=K d st:=(rfl)
theorem Yeh(t:Nat)(d:D)(st:St)(K:Cont2 D St)(X:Nat→D→St→Prop):@TH none (some (t,d,st)) K ⟨X⟩=X t d st:=(rfl)
def X8(o:Option (List D→St→Option (D×St)))(ds:List D)(st:St):Option (D×St):=match o with
 |some sp=>sp ds st
 |none=>none
theorem yYt(sp:List D→St→Option (D×St))(ds:List D)(st:St):X8 (some sp) ds st=sp ds st:=(rfl)
theorem yYu(ds:List D)(st:St):X8 none ds st=none:=(rfl)
def X9(o:Option (List D→St→Option (Nat×D×St)))(ds:List D)(st:St):Option (Nat×D×St):=match o with
 |some sp=>sp ds st
 |none=>none
theorem yYr(sp:List D→St→Option (Nat×D×St))(ds:List D)(st:St):X9 (some sp) ds st=sp ds st:=(rfl)
theorem yYs(ds:List D)(st:St):X9 none ds st=none:=(rfl)
theorem yW7(T:Tbl)(f:Nat)(args:List PA)(ρ:PA→D)(st:St)(K:Cont2 D St)(X:XC0):@J3 T (.icall f args) ρ st K X=@TH (X8 (T.i f) (args.map ρ) st) (X9 (T.x f) (args.map ρ) st) K X:=by
 rfl
def Po(d:D)(ds:List D):Option (Nat×List D):=match d with
 |.clo f caps=>if f<5000000 then some (f,ds++caps)else if f<10000000 then some (f - 5000000,caps++ds)else none
 |_=>none
theorem Y7(T:Tbl)(x:PA)(args:List PA)(ρ:PA→D)(st:St)(K:Cont2 D St)(X:XC0)(f:Nat)(ds:List D)(h:Po (ρ x) (args.map ρ)=some (f,ds)):@J3 T (.callv x args) ρ st K X=@TH (X8 (T.i f) ds st) (X9 (T.x f) ds st) K X:=by
 simp only[J3,JD,POp.exec,TH,X8,X9,POp.execX,POp.callee];unfold Po at h;grind
def POp.tame:POp→Bool
 |.icall _ _ | .callv _ _=>false
 |_=>true
theorem Ybc(T:Tbl)(op:POp)(ρ:PA→D)(st:St)(K:Cont2 D St)(X:XC0)(h:op.tame=true):@J3 T op ρ st K X=Fu T op ρ st K.run:=by
 have:op.execX T ρ st=none:=by
  cases op <;> first | rfl | (simp[POp.tame]at h; done)
 simp only[J3,JD,Fu,on,this];grind
def kF(fs:List (Option Foot))(b:Bool)(cs:List Nat)(f:Option Foot)(K:List (Option Foot)→Prop):Prop:=@H8 (Oo fs f cs) ⟨K (fs++[if b then f else none])⟩ ⟨False⟩
variable {f:Option Foot}{cs:List Nat}{fs:List (Option Foot)}
theorem gO{b:Bool}{K:List (Option Foot)→Prop}(h:kF fs b cs f K):Oo fs f cs=true∧K (fs++[if b then f else none]):=by
 unfold kF H8 at h;grind
theorem zH{b:Bool}{K E:List (Option Foot)→Prop}(h:kF fs b cs f K)(hk:∀ fs,K fs→E fs):kF fs b cs f E:=by
 obtain⟨I,J⟩:=gO h;unfold kF H8;grind
def Gz(G:Dj)(T:Tbl):List (PI×Bool×List Nat)→List (Option Foot)→Frame→St→(Frame→St→Prop)→Prop
 |[],_,fr,st,K=>K fr st
 |i::l,fs,fr,st,K=>kG fr i.1.guard (kF fs i.2.1 i.2.2 (i.1.op.foot (Du G fr) st) fun fs'=>Fu T i.1.op (Du G fr) st fun d st'=>Gz G T l fs' (fr.put i.1.dst d) st' K)
   (kF fs i.2.1 i.2.2 (some PD) fun fs'=>Gz G T l fs' (fr.put i.1.dst (.tup [])) st K)
theorem UB{G:Dj}{T:Tbl}:∀ (l:List (PI×Bool×List Nat)) (fs:List (Option Foot)) (fr:Frame) (st:St) (K:Frame→St→Prop),Gz G T l fs fr st K→∃ E st',HP G T l fs ⟨fr,st⟩=some ⟨E,st'⟩∧K E st'
 |[],_,fr,st,K,h=>⟨fr,st,rfl,h⟩
 |(i,b,cs)::l,fs,fr,st,K,h=>by
  have yes:kF fs b cs (i.op.foot (Du G fr) st) (fun J=>Fu T i.op (Du G fr) st fun d st'=>Gz G T l J (fr.put i.dst d) st' K)→i.wanted fr=some true→∃ E st',HP G T ((i,b,cs)::l) fs ⟨fr,st⟩=some ⟨E,st'⟩∧K E st':=by
   intro h hw;obtain⟨U,h⟩:=gO h;unfold Fu on at h
   split at h
   ·rename_i p hp;obtain⟨E,st',V,Y⟩:=UB l _ _ _ K h;have hf:i.foot G ⟨fr,st⟩=i.op.foot (Du G fr) st:=by simp[PI.foot,hw]
    have hx:i.exec G T ⟨fr,st⟩=some ⟨fr.put i.dst p.1,p.2⟩:=by simp only[PI.exec,hw,hp]
    exact⟨E,st',by simp only[HP,hf,U,if_true,hx,V],Y⟩
   ·exact h.elim
  have no:kF fs b cs (some PD) (fun J=>Gz G T l J (fr.put i.dst (.tup [])) st K)→i.wanted fr=some false→∃ E st',HP G T ((i,b,cs)::l) fs ⟨fr,st⟩=some ⟨E,st'⟩∧K E st':=by
   intro h hw;obtain⟨U,h⟩:=gO h;obtain⟨E,st',V,Y⟩:=UB l _ _ _ K h;have hf:i.foot G ⟨fr,st⟩=some PD:=by simp[PI.foot,hw]
   have hx:i.exec G T ⟨fr,st⟩=some ⟨fr.put i.dst (.tup []),st⟩:=by simp only[PI.exec,hw]
   exact⟨E,st',by simp only[HP,hf,U,if_true,hx,V],Y⟩
  rw[Gz]at h;unfold kG at h
  split at h
  ·rename_i I;exact yes h (by simp only at I; simp[PI.wanted,I])
  ·rename_i s want I;simp only at I
   split at h
   ·rename_i b hb;have hw:i.wanted fr=some (b == want):=by simp[PI.wanted,I,hb]
    cases M:(b == want)with
    |true=>rw[M]at h hw; exact yes h hw
    |false=>rw[M]at h hw; exact no h hw
   ·rename_i hb;exact no h (by simp[PI.wanted,I,hb])
   ·exact h.elim
theorem Ur{G:Dj}{T:Tbl}:∀ (l:List (PI×Bool×List Nat)) (fs:List (Option Foot)) (fr:Frame) (st:St) (K I:Frame→St→Prop),Gz G T l fs fr st K→(∀ fr st,K fr st→I fr st)→Gz G T l fs fr st I
 |[],_,_,_,_,_,h,hk=>hk _ _ h
 |i::l,fs,fr,st,K,I,h,hk=>by
  have J:kF fs i.2.1 i.2.2 (i.1.op.foot (Du G fr) st) (fun E=>Fu T i.1.op (Du G fr) st fun d st'=>Gz G T l E (fr.put i.1.dst d) st' K)→kF fs i.2.1 i.2.2 (i.1.op.foot (Du G fr) st) (fun E=>Fu T i.1.op (Du G fr) st fun d st'=>Gz G T l E (fr.put i.1.dst d) st' I):=by
   refine fun h=>zH h fun E=>?_;unfold Fu on
   split
   ·exact fun h=>Ur l _ _ _ _ _ h hk
   ·exact id
  have M:kF fs i.2.1 i.2.2 (some PD) (fun E=>Gz G T l E (fr.put i.1.dst (.tup [])) st K)→kF fs i.2.1 i.2.2 (some PD) (fun E=>Gz G T l E (fr.put i.1.dst (.tup [])) st I):=fun h=>zH h fun E h=>Ur l _ _ _ _ _ h hk;rw[Gz]at h ⊢;unfold kG at h ⊢
  revert h
  split
  ·exact J
  ·split
   ·unfold H8;grind
   ·exact M
   ·exact id
class FsC:Type where
 mk::
 run:List (Option Foot)→Prop
def wF(fs:List (Option Foot))(b:Bool)(cs:List Nat)(f:Option Foot)[K:FsC]:Prop:=kF fs b cs f K.run
theorem EZ(fs:List (Option Foot))(f:Option Foot)(K:List (Option Foot)→Prop):@wF fs false [] f ⟨K⟩=K (fs++[none]):=(rfl)
def eg(l:List (Option Foot))[K:FsC]:Prop:=K.run l
theorem YEi(l:List (Option Foot))(K:List (Option Foot)→Prop):@eg l ⟨K⟩=K l:=(rfl)
theorem Yty(fs:List (Option Foot))(f:Foot)(K:FsC):@wF fs true [] (some f) K=@eg (fs++[some f]) K:=(rfl)
theorem VQ(fs:List (Option Foot))(b:Bool)(j:Nat)(cs:List Nat)(f:Foot)(K:FsC):@wF fs b (j::cs) (some f) K=@H8 (Oo fs (some f) (j::cs)) ⟨@eg (fs++[if b then some f else none]) K⟩ ⟨False⟩:=(rfl)
def Yf(a b:PS)[k:Cont PS]:Prop:=a=b∧k.run a
theorem yXp(a:PS)(K:PS→Prop):@Yf a a ⟨K⟩=K a:=by simp[Yf]
def W2(keep:List Nat)(n:Nat)(fr1:Frame)(st1:St)(fr2:Frame)(st2:St)(K:PS→Prop):Prop:=
 @H8 (st1.length == n+2 && st2.length == n+2) ⟨@Yf (restrictAt keep n [n,n+1] ⟨fr1,st1⟩) (restrictAt keep n [n+1,n] ⟨fr2,st2⟩) ⟨K⟩⟩ ⟨False⟩
variable {st1 st2:St}{fr1 fr2:Frame}{keep:List Nat}
theorem Yzy{n:Nat}{K:PS→Prop}(h:W2 keep n fr1 st1 fr2 st2 K):eJ keep n ⟨fr1,st1⟩ ⟨fr2,st2⟩=some (restrictAt keep n [n,n+1] ⟨fr1,st1⟩)∧K (restrictAt keep n [n,n+1] ⟨fr1,st1⟩):=by
 unfold W2 H8 at h
 split at h
 ·rename_i hl;simp only[Af,beq_iff_eq]at hl;obtain⟨I,E⟩:=h;refine⟨?_,E⟩;unfold eJ;grind
 ·exact h.elim
theorem Yzz{n:Nat}{K E:PS→Prop}(h:W2 keep n fr1 st1 fr2 st2 K)(hk:∀ s,K s→E s):W2 keep n fr1 st1 fr2 st2 E:=by
 unfold W2 H8 at h ⊢
 split at h
 ·rename_i hl;rw[if_pos hl];exact⟨h.1,hk _ h.2⟩
 ·exact h.elim
def Jz(G:Dj)(T:Tbl)(l:List (PI×Bool×List Nat))(fs:List (Option Foot))(fr:Frame)(st:St)[K:Cont2 Frame St]:Prop:=Gz G T l fs fr st K.run
def It(G:Dj)(T:Tbl)(l:List PI)(fr:Frame)(st:St)[K:Cont2 Frame St]:Prop:=GN G T l fr st K.run
def El(T:Tbl)(op:POp)(ρ:PA→D)(st:St)[K:Cont2 D St]:Prop:=Fu T op ρ st K.run
def kV(d:D)(want:Bool)[x:Br][y:Br]:Prop:=match d with
 |.bool b=>@H8 (b == want) x y
 |.tup []=>y.run
 |_=>False
theorem Yku(G:Dj)(T:Tbl)(fr:Frame)(st:St)(K:Frame→St→Prop):@It G T [] fr st ⟨K⟩=K fr st:=(rfl)
theorem yW5(G:Dj)(T:Tbl)(dst:Option Nat)(op:POp)(l:List PI)(fr:Frame)(st:St)(K:Cont2 Frame St) :
  @It G T ({dst,op,guard:=none}::l) fr st K=@El T op (Du G fr) st ⟨fun d st'=>@It G T l (fr.put dst d) st' K⟩:=(rfl)
theorem yW6(G:Dj)(T:Tbl)(dst:Option Nat)(op:POp)(s:Nat)(E:Bool)(l:List PI)(fr:Frame)(st:St)(K:Cont2 Frame St) :
  @It G T ({dst,op,guard:=some (s,E)}::l) fr st K=@kV (fr s) E ⟨@El T op (Du G fr) st ⟨fun d st'=>@It G T l (fr.put dst d) st' K⟩⟩ ⟨@It G T l (fr.put dst (.tup [])) st K⟩:=(rfl)
theorem yP2(G:Dj)(T:Tbl)(dst:Option Nat)(op:POp)(l:List PI)(fr:Frame)(st:St)(K:Cont2 Frame St)(X:XC) :
  @Qw G T ({dst,op,guard:=none}::l) fr st K X=@J3 T op (Du G fr) st ⟨fun d st'=>@Qw G T l (fr.put dst d) st' K X⟩ ⟨fun t d st'=>X.run t d fr st'⟩:=(rfl)
theorem yP3(G:Dj)(T:Tbl)(dst:Option Nat)(op:POp)(s:Nat)(E:Bool)(l:List PI)(fr:Frame)(st:St)(K:Cont2 Frame St)(X:XC) :
  @Qw G T ({dst,op,guard:=some (s,E)}::l) fr st K X=@kV (fr s) E ⟨@J3 T op (Du G fr) st ⟨fun d st'=>@Qw G T l (fr.put dst d) st' K X⟩ ⟨fun t d st'=>X.run t d fr st'⟩⟩ ⟨@Qw G T l (fr.put dst (.tup [])) st K X⟩:=(rfl)
theorem Ytx(T:Tbl)(op:POp)(ρ:PA→D)(st:St)(K:D→St→Prop)(X:XC0)(h:op.tame=true):@J3 T op ρ st ⟨K⟩ X=@El T op ρ st ⟨K⟩:=Ybc T op ρ st ⟨K⟩ X h
theorem Ykw(G:Dj)(T:Tbl)(fs:List (Option Foot))(fr:Frame)(st:St)(K:Frame→St→Prop):@Jz G T [] fs fr st ⟨K⟩=K fr st:=(rfl)
theorem yW8(G:Dj)(T:Tbl)(dst:Option Nat)(op:POp)(b:Bool)(cs:List Nat)(l:List (PI×Bool×List Nat))(fs:List (Option Foot))(fr:Frame)(st:St)(K:Cont2 Frame St) :
  @Jz G T (({dst,op,guard:=none},b,cs)::l) fs fr st K=@wF fs b cs (op.foot (Du G fr) st) ⟨fun E=>@El T op (Du G fr) st ⟨fun d st'=>@Jz G T l E (fr.put dst d) st' K⟩⟩:=(rfl)
theorem yW9(G:Dj)(T:Tbl)(dst:Option Nat)(op:POp)(s:Nat)(E:Bool)(b:Bool)(cs:List Nat)(l:List (PI×Bool×List Nat))(fs:List (Option Foot))(fr:Frame)(st:St)(K:Cont2 Frame St) :
  @Jz G T (({dst,op,guard:=some (s,E)},b,cs)::l) fs fr st K=@kV (fr s) E ⟨@wF fs b cs (op.foot (Du G fr) st) ⟨fun I=>@El T op (Du G fr) st ⟨fun d st'=>@Jz G T l I (fr.put dst d) st' K⟩⟩⟩ ⟨@wF fs b cs (some PD) ⟨fun I=>@Jz G T l I (fr.put dst (.tup [])) st K⟩⟩:=(rfl)
theorem Ywv(b:Bool)(x y:Br):@kV (.bool b) true x y=@H8 b x y:=by cases b <;> rfl
theorem Yoc(b:Bool)(x y:Br):@kV (.bool b) false x y=@H8 b y x:=by cases b <;> rfl
theorem YDv(E:Bool)(x:Br)(y:Prop):@kV (.tup []) E x ⟨y⟩=y:=(rfl)
section
variable (T:Tbl) (ρ:PA→D) (st:St) (K:D→St→Prop)
theorem Ju{β:Type}(o:Option α)(f:α→β)(K:β→Prop):@on β (o.map f) ⟨K⟩=@on α o ⟨fun a=>K (f a)⟩:=by cases o <;> rfl
theorem WY(x:PA):@El T (.mov x) ρ st ⟨K⟩=@ev (ρ x) ⟨fun d=>K d st⟩:=(rfl)
def Yb(c x y:D):Option D:=match c with
 |.bool b=>some (if b then x else y)
 |_=>none
theorem yYf(x y:D):Yb (.bool true) x y=some x:=(rfl)
theorem yRm(x y:D):Yb (.bool false) x y=some y:=(rfl)
theorem yYg(b c e:Bool):Yb (.bool b) (.bool c) (.bool e)=some (.bool (if b then c else e)):=by cases b <;> rfl
theorem YDk(c x y:PA):@El T (.pick c x y) ρ st ⟨K⟩=@on _ (Yb (ρ c) (ρ x) (ρ y)) ⟨fun d=>K d st⟩:=by
 simp only[El,Fu,POp.exec,Yb];cases ρ c <;> rfl
def DH(d:D):Option (List D):=if d.cells.all D.isCell then some d.cells else none
theorem W6(x:PA):@El T (.box x) ρ st ⟨K⟩=@on _ (DH (ρ x)) ⟨fun cs=>@QD (.ptr st.length 0) (st++[{row:=false,sz:=1,els:=cs,lent:=false}]) ⟨K⟩⟩:=by
 simp only[El,Fu,POp.exec,DH]
 split <;> rfl
theorem W7(E:List D)(parts:List (Nat×Nat×PA)):@El T (.bld E parts) ρ st ⟨K⟩=@on _ (DN E (parts.map fun p=>(p.1,p.2.1,ρ p.2.2))) ⟨fun cs=>K (.agg cs) st⟩:=by
 simp only[El,Fu,POp.exec,Ju]
def Ft(sz:Nat)(els:List D):Option D:=if(els.all fun e=>e.cells.length == sz) && decide (0<sz) && decide (els.length*sz≤16777216)then some (.slc sz els true)else none
theorem YDu(sz:Nat)(parts:List PA):@El T (.bslc sz parts) ρ st ⟨K⟩=@on _ (Eo st (parts.map ρ)) ⟨fun els=>@on _ (Ft sz els) ⟨fun d=>@QD d (lend ((parts.map ρ).flatMap keys) st) ⟨K⟩⟩⟩:=by
 simp only[El,Fu,POp.exec]
 cases Eo st (parts.map ρ)with
 |none=>rfl
 |some els=>
  simp only[on]
  by_cases h:((els.all fun e=>e.cells.length == sz) && decide (0<sz) && decide (els.length*sz≤16777216))=true
  ·simp only[Ft,h,if_true]; rfl
  ·simp only[Ft,h,Ap,if_false]
theorem YDm(n:Nat)(ag:Bool)(p:PA):@El T (.load n ag p) ρ st ⟨K⟩=@on _ (FF st n ag (ρ p)) ⟨fun d=>K d st⟩:=by
 simp only[El,Fu,POp.exec,Ju]
theorem YDj(n:Nat)(p x:PA):@El T (.stor n p x) ρ st ⟨K⟩=@on _ (M0 st n (ρ p) (ρ x)) ⟨fun st'=>K (.tup []) st'⟩:=by
 simp only[El,Fu,POp.exec,Ju]
def l9(st:St)(d:D):Option D:=match d with
 |.ptr _ _ | .eptr _ _=>some d
 |.rptr key tot _ _=>if Fb st key tot then some d else none
 |_=>none
theorem YDl(x:PA):@El T (.nilc x) ρ st ⟨K⟩=@on _ (l9 st (ρ x)) ⟨fun d=>K d st⟩:=by
 simp only[El,Fu,POp.exec,l9]
 cases ρ x with
 |rptr key tot i off=>
  simp only
  split <;> rfl
 |_=>rfl
theorem W8(op:BinOp)(x y:PA):@El T (.bin op x y) ρ st ⟨K⟩=@on _ (Ds op (ρ x) (ρ y)) ⟨fun d=>K d st⟩:=by
 simp only[El,Fu,POp.exec,Ju]
theorem W9(E:Bool)(x y:PA):@El T (.beq E x y) ρ st ⟨K⟩=@on _ (ND E (ρ x) (ρ y)) ⟨fun d=>K d st⟩:=by
 simp only[El,Fu,POp.exec,Ju]
theorem Xb(ks:List Nat)(E:Bool)(x y:PA):@El T (.aeq ks E x y) ρ st ⟨K⟩=@on _ (G7 ks E (ρ x) (ρ y)) ⟨fun d=>K d st⟩:=by
 simp only[El,Fu,POp.exec,Ju]
theorem lF(op:UnOp)(x:PA):@El T (.un op x) ρ st ⟨K⟩=@on _ (NC op (ρ x)) ⟨fun d=>K d st⟩:=by
 simp only[El,Fu,POp.exec,Ju]
theorem YDs(c:PConv)(x:PA):@El T (.conv c x) ρ st ⟨K⟩=@on _ (FT st c (ρ x)) ⟨fun d=>K d st⟩:=by
 simp only[El,Fu,POp.exec,Ju]
def Pv(sz bytes:Nat)(zero ln cp:D):Option (Nat×Obj):=match F8 ln,F8 cp with
 |some l,some c=>if l≤c∧c≤4294967296∧c*bytes≤140737488355328∧0<sz∧zero.cells.length=sz∧zero.cells.all D.pure1=true then
   some (l,{row:=true,sz,els:=CQ l zero,lent:=false})else none
 |_,_=>none
theorem Ywo(sz bytes:Nat)(E:D)(I J:PA):@El T (.mkslc sz bytes E I J) ρ st ⟨K⟩=@on _ (Pv sz bytes E (ρ I) (ρ J)) ⟨fun r=>@QD (.row st.length r.1 0 r.1) (st++[r.2]) ⟨K⟩⟩:=by
 simp only[El,Fu,POp.exec,Pv]
 cases F8 (ρ I)with
 |none=>rfl
 |some l=>
  cases F8 (ρ J)with
  |none=>rfl
  |some c=>
   simp only
   split <;> rfl
theorem Ywm(sz:Nat)(x:PA)(lo hi E:Option PA):@El T (.slice sz x lo hi E) ρ st ⟨K⟩=@on _ (Hp st sz (ρ x) (lo.map ρ) (hi.map ρ) (E.map ρ)) ⟨fun d=>K d st⟩:=by
 simp only[El,Fu,POp.exec,Ju]
theorem Yoa(n sz:Nat)(ag:Bool)(x:PA)(lo hi:Option PA):@El T (.sliceA n sz ag x lo hi) ρ st ⟨K⟩=@on _ (PR n sz ag (ρ x) (lo.map ρ) (hi.map ρ)) ⟨fun d=>K d st⟩:=by
 simp only[El,Fu,POp.exec,Ju]
theorem W3(off:Nat)(p:PA):@El T (.fld off p) ρ st ⟨K⟩=@on _ (FJ st off (ρ p)) ⟨fun d=>K d st⟩:=by
 simp only[El,Fu,POp.exec,Ju]
theorem YDr(off n:Nat)(ag:Bool)(x:PA):@El T (.fldv off n ag x) ρ st ⟨K⟩=@on _ (Nu off n ag (ρ x)) ⟨fun d=>K d st⟩:=by
 simp only[El,Fu,POp.exec,Ju]
theorem YDp(sz:Nat)(x i:PA):@El T (.idxS sz x i) ρ st ⟨K⟩=@on _ (GX st sz (ρ x) (ρ i)) ⟨fun d=>K d st⟩:=by
 simp only[El,Fu,POp.exec,Ju]
theorem YDq(n sz:Nat)(p i:PA):@El T (.idxA n sz p i) ρ st ⟨K⟩=@on _ (JH st n sz (ρ p) (ρ i)) ⟨fun d=>K d st⟩:=by
 simp only[El,Fu,POp.exec,Ju]
theorem W1(x i:PA):@El T (.idx x i) ρ st ⟨K⟩=@on _ (KS (ρ x) (ρ i)) ⟨fun d=>K d st⟩:=by
 simp only[El,Fu,POp.exec,Ju]
theorem YDo(E sz:Nat)(ag:Bool)(x i:PA):@El T (.idxV E sz ag x i) ρ st ⟨K⟩=@on _ (Qu E sz ag (ρ x) (ρ i)) ⟨fun d=>K d st⟩:=by
 simp only[El,Fu,POp.exec,Ju]
def Fc(st:St)(str:Bool)(d:D):Option D:=if JV d == str then(Fm st d).map fun(n:Nat)=>D.int .i64 (n:Int)else none
theorem W0(E:Bool)(x:PA):@El T (.len E x) ρ st ⟨K⟩=@on _ (Fc st E (ρ x)) ⟨fun d=>K d st⟩:=by
 simp only[El,Fu,POp.exec,Fc]
 split
 ·simp only[Ju]
 ·rfl
theorem YDn(n:Nat):@El T (.lenA n) ρ st ⟨K⟩=@ev (.int .i64 (n:Int)) ⟨fun d=>K d st⟩:=(rfl)
theorem Xa(sz bytes:Nat)(s x:PA):@El T (.app sz bytes s x) ρ st ⟨K⟩=@on _ (Em st sz bytes (ρ s) (ρ x)) ⟨fun r=>K r.1 r.2⟩:=(rfl)
def mW(sz:Nat):Option Obj:=if 1<sz∧sz≠1000003 then some {row:=false,sz,els:=[],lent:=false} else none
theorem Ywp(sz:Nat):@El T (.mkmap sz) ρ st ⟨K⟩=@on _ (mW sz) ⟨fun o=>@QD (.mapv st.length) (st++[o]) ⟨K⟩⟩:=by
 simp only[El,Fu,POp.exec,mW]
 split <;> rfl
theorem Yws(sz:Nat)(ks:List Nat)(m k v:PA):@El T (.mapup sz ks m k v) ρ st ⟨K⟩=@on _ (Tr st sz ks (ρ m) (ρ k) (ρ v)) ⟨fun st'=>K (.tup []) st'⟩:=by
 simp only[El,Fu,POp.exec,Ju]
theorem Yob(sz:Nat)(ks:List Nat)(ok:Bool)(E:D)(m k:PA):@El T (.mapget sz ks ok E m k) ρ st ⟨K⟩=@on _ (JO st sz ks ok E (ρ m) (ρ k)) ⟨fun d=>K d st⟩:=by
 simp only[El,Fu,POp.exec,Ju]
theorem W5(sz:Nat)(d s:PA):@El T (.cpy sz d s) ρ st ⟨K⟩=@on _ (KT st sz (ρ d) (ρ s)) ⟨fun r=>K r.1 r.2⟩:=(rfl)
def TK(isMax:Bool)(x y:D):Option D:=match x,y with
 |.int k a,.int _ b=>some (.int k (if isMax then(if b > a then b else a)else(if b<a then b else a)))
 |_,_=>none
theorem lG(E:Bool)(x y:PA):@El T (.mm E x y) ρ st ⟨K⟩=@on _ (TK E (ρ x) (ρ y)) ⟨fun d=>K d st⟩:=by
 simp only[El,Fu,POp.exec,TK]
 cases ρ x with
 |int k a=>cases ρ y <;> rfl
 |_=>rfl
def Pg(isMax:Bool)(x y z:D):Option D:=match x,y,z with
 |.int k a,.int _ b,.int _ c=>some (.int k (NH isMax (NH isMax a b) c))
 |_,_,_=>none
theorem WZ(E:Bool)(x y z:PA):@El T (.mm3 E x y z) ρ st ⟨K⟩=@on _ (Pg E (ρ x) (ρ y) (ρ z)) ⟨fun d=>K d st⟩:=by
 simp only[El,Fu,POp.exec,Pg]
 cases ρ x with
 |int k a=>cases ρ y <;> first | rfl | (cases ρ z <;> rfl)
 |_=>rfl
theorem Ywn(f:Nat)(args:List PA):@El T (.rcall f args) ρ st ⟨K⟩=@on _ (T.q f) ⟨fun sp=>@on _ (Jk sp (args.map ρ) st) ⟨fun d=>K d st⟩⟩:=by
 simp only[El,Fu,POp.exec]
 cases T.q f with
 |none=>rfl
 |some sp=>simp only[zU,Ju]
theorem Ywt(f:Nat)(args:List PA):@El T (.icall f args) ρ st ⟨K⟩=@on _ (T.i f) ⟨fun sp=>@on _ (sp (args.map ρ) st) ⟨fun r=>K r.1 r.2⟩⟩:=by
 simp only[El,Fu,POp.exec];cases T.i f <;> rfl
def Kd(T:Tbl)(d:D):Option ((List D→St→Option (D×St))×List D×List D):=match d with
 |.clo f caps=>if f<5000000 then(T.i f).map fun sp=>(sp,[],caps)else if f<10000000 then(T.i (f - 5000000)).map fun sp=>(sp,caps,[])else if caps.isEmpty then some (T.y (f - 10000000),[],[])else none
 |_=>none
theorem Ywr(f:Nat)(args:List PA):@El T (.mcall f args) ρ st ⟨K⟩=@on _ (T.m f) ⟨fun sp=>@on _ (sp (args.map ρ)) ⟨fun r=>@QD (r.1 st.length) (st++r.2 st.length) ⟨K⟩⟩⟩:=by
 simp only[El,Fu,POp.exec]
 cases T.m f with
 |none=>rfl
 |some sp=>
  simp only[on];cases sp (args.map ρ) <;> rfl
theorem Ywu(x:PA)(args:List PA):@El T (.callv x args) ρ st ⟨K⟩=@on _ (Kd T (ρ x)) ⟨fun p=>@on _ (p.1 (p.2.1++(args.map ρ++p.2.2)) st) ⟨fun r=>K r.1 r.2⟩⟩:=by
 simp only[El,Fu,POp.exec,Kd]
 cases ρ x with
 |clo f E=>
  simp only
  by_cases I:f<5000000
  ·simp only[if_pos I];cases T.i f <;> rfl
  ·by_cases h:f<10000000
   ·simp only[if_neg I,if_pos h]
    cases T.i (f - 5000000)with
    |none=>rfl
    |some sp=>simp only[Ag,on,Ad]
   ·simp only[if_neg I,if_neg h]
    cases E with
    |nil=>simp only[CD,if_true,on,Ad,Aj]
    |cons a l=>rfl
 |_=>rfl
theorem Ywq(f:Nat)(E:List PA):@El T (.mkclo f E) ρ st ⟨K⟩=@ev (.clo f (E.map ρ)) ⟨fun d=>K d st⟩:=(rfl)
theorem YDt(f:Nat)(args:List PA):@El T (.call f args) ρ st ⟨K⟩=@on _ (T.p f) ⟨fun sp=>@on _ (Eo st (args.map ρ)) ⟨fun vs=>@on _ (sp vs) ⟨fun r=>@QD r (if r.noRef then st else lend ((args.map ρ).flatMap keys) st) ⟨K⟩⟩⟩⟩:=by
 simp only[El,Fu,POp.exec]
 cases T.p f with
 |none=>rfl
 |some sp=>
  cases Eo st (args.map ρ)with
  |none=>rfl
  |some vs=>
   simp only[on];cases sp vs <;> rfl
def NJ(d:D)(i:Nat):Option D:=match d with
 |.tup vs=>vs[i]?
 |_=>none
theorem W4(x:PA)(i:Nat):@El T (.ext x i) ρ st ⟨K⟩=@on _ (NJ (ρ x) i) ⟨fun d=>K d st⟩:=by
 simp only[El,Fu,POp.exec,NJ]
 cases ρ x with
 |tup vs=>simp only[Ju]
 |_=>rfl
theorem YEs(a:D)(l:List D):NJ (.tup (a::l)) 0=some a:=(rfl)
theorem YEr(a b:D)(l:List D):NJ (.tup (a::b::l)) 1=some b:=(rfl)
theorem YEq(a b c:D)(l:List D):NJ (.tup (a::b::c::l)) 2=some c:=(rfl)
end
theorem Ymk(fr:Frame)(s:Nat)(d:D):fr.put (some s) d=fr.set s d:=(rfl)
theorem Yml(fr:Frame)(d:D):fr.put none d=fr:=(rfl)
theorem Wq(G:Dj)(fr:Frame)(n:Nat):Du G fr (.s n)=fr n:=(rfl)
theorem Ws(G:Dj)(fr:Frame)(d:D):Du G fr (.c d)=d:=(rfl)
theorem Ki(G:Dj)(fr:Frame)(n:Nat)(d:D)(h:G n=some d):Du G fr (.g n)=.eptr d 0:=by simp[Du,h]
theorem YF2(a:D)(l:List D):Dc (a::l) 0=a:=(rfl)
theorem YF1(a b:D)(l:List D):Dc (a::b::l) 1=b:=(rfl)
theorem YF0(a b c:D)(l:List D):Dc (a::b::c::l) 2=c:=(rfl)
theorem YFz(a b c d:D)(l:List D):Dc (a::b::c::d::l) 3=d:=(rfl)
theorem YFy(a b c d e:D)(l:List D):Dc (a::b::c::d::e::l) 4=e:=(rfl)
theorem YFx(a b c d e f:D)(l:List D):Dc (a::b::c::d::e::f::l) 5=f:=(rfl)
theorem YFw(a b c d e f g:D)(l:List D):Dc (a::b::c::d::e::f::g::l) 6=g:=(rfl)
theorem YFv(a b c d e f g h:D)(l:List D):Dc (a::b::c::d::e::f::g::h::l) 7=h:=(rfl)
def L1(B:Frame→St→(Ex→Frame→St→Prop)→Prop)(cut:PS→PS):Nat→PS→(Ex→Frame→St→Prop)→Prop
 |0,_,_=>False
 |n+1,s,Q=>B (cut s).fr (cut s).st fun e fr st=>match e with
  |.next=>L1 B cut n ⟨fr,st⟩ Q
  |e=>Q e fr st
def W(G:Dj)(T:Tbl):PC→Frame→St→(Ex→Frame→St→Prop)→Prop
 |.skip,fr,st,Q=>Q .next fr st
 |.ops l,fr,st,Q=>GN G T l fr st (Q .next)
 |.any l,fr,st,Q=>Gz G T l [] fr st (Q .next)
 |.any2 keep l1 l2,fr,st,Q=>Gz G T l1 [] fr st fun fr1 st1=>Gz G T l2 [] fr st fun fr2 st2=>W2 keep st.length fr1 st1 fr2 st2 fun s=>Q .next s.fr s.st
 |.seq a b,fr,st,Q=>W G T a fr st fun e fr' st'=>match e with
  |.next=>W G T b fr' st' Q
  |e=>Q e fr' st'
 |.cond c a b,fr,st,Q=>@TI (Du G fr c) ⟨fun v=>@H8 v ⟨W G T a fr st Q⟩ ⟨W G T b fr st Q⟩⟩
 |.block id c,fr,st,Q=>W G T c fr st fun e fr' st'=>match e with
  |.exit id'=>if id'=id then Q .next fr' st' else Q (.exit id') fr' st'
  |e=>Q e fr' st'
 |.loop keep c,fr,st,Q=>∃ n,L1 (W G T c) (restrict keep st.length) n ⟨fr,st⟩ Q
 |.loopA keep c,fr,st,Q=>∃ n,L1 (W G T c) (keepAll keep) n ⟨fr,st⟩ Q
 |.opsX l,fr,st,Q=>MZ G T l fr st (Q .next) (fun t d=>Q (.panic t d))
 |.pan l d1 t x,fr,st,Q=>GN G T l fr st fun fr' st'=>@H8 (L9 (Du G fr' x)) ⟨Q (.panic t (Du G fr' x)) (fr'.set d1 .junk) st'⟩ ⟨False⟩
 |.alt a b,fr,st,Q=>W G T a fr st Q∨(a.exec G T 0 ⟨fr,st⟩=none∧(∀ m,a.exec G T m ⟨fr,st⟩=none)∧W G T b fr st Q)
 |.range x ps a b,fr,st,Q=>∃ (n:Nat) (st':St) (e:Ex),(∀ m,n≤m→TX T (Du G fr x) (Lp (a.exec G T m) (b.exec G T m) fr ps st.length) (st++[recO 0])=some st')∧Yd st' st.length=some e∧Q e fr (st'.set st.length (recO 2))
 |.exit id,fr,st,Q=>Q (.exit id) fr st
 |.ret,fr,st,Q=>Q .ret fr st
 |.fail,_,_,_=>False
theorem Lr{G:Dj}{T:Tbl}:∀ (c:PC) (fr:Frame) (st:St) (Q:Ex→Frame→St→Prop),W G T c fr st Q→
  ∃ (n:Nat) (e:Ex) (E:Frame) (st':St),(∀ m,n≤m→c.exec G T m ⟨fr,st⟩=some (e,⟨E,st'⟩))∧Q e E st'
 |.skip,fr,st,Q,h=>⟨0,.next,fr,st,fun _ _=>rfl,h⟩
 |.ops l,fr,st,Q,h=>by
  obtain⟨E,st',J,I⟩:=UC l fr st _ h;exact⟨0,.next,E,st',fun m _=>by simp only[PC.exec,J],I⟩
 |.any l,fr,st,Q,h=>by
  obtain⟨E,st',J,I⟩:=UB l [] fr st _ h;exact⟨0,.next,E,st',fun m _=>by simp only[PC.exec,J],I⟩
 |.any2 keep l1 l2,fr,st,Q,h=>by
  obtain⟨fr1,st1,J,I⟩:=UB l1 [] fr st _ h;obtain⟨fr2,st2,V,h4⟩:=UB l2 [] fr st _ I;obtain⟨h5,h6⟩:=Yzy h4;exact⟨0,.next,_,_,fun m _=>by simp only[PC.exec,J,V,h5,Ag],h6⟩
 |.seq a b,fr,st,Q,h=>by
  obtain⟨n,e,E,st',J,I⟩:=Lr a fr st _ h
  cases e with
  |next=>
   obtain⟨n',e',Y,aa,V,h4⟩:=Lr b E st' _ I;exact⟨n+n',e',Y,aa,fun m hm=>by simp only[PC.exec,J m (by omega),V m (by omega)],h4⟩
  |exit id=>exact⟨n,.exit id,E,st',fun m hm=>by simp only[PC.exec,J m hm],I⟩
  |ret=>exact⟨n,.ret,E,st',fun m hm=>by simp only[PC.exec,J m hm],I⟩
  |panic t d=>exact⟨n,.panic t d,E,st',fun m hm=>by simp only[PC.exec,J m hm],I⟩
 |.cond c a b,fr,st,Q,h=>by
  simp only[W,TI]at h
  split at h
  ·rename_i v hv
   cases v with
   |true=>
    obtain⟨n,e,E,st',J,I⟩:=Lr a fr st _ h;exact⟨n,e,E,st',fun m hm=>by simp only[PC.exec,hv,J m hm],I⟩
   |false=>
    obtain⟨n,e,E,st',J,I⟩:=Lr b fr st _ h;exact⟨n,e,E,st',fun m hm=>by simp only[PC.exec,hv,J m hm],I⟩
  ·exact h.elim
 |.block id c,fr,st,Q,h=>by
  obtain⟨n,e,E,st',J,I⟩:=Lr c fr st _ h
  cases e with
  |next=>exact⟨n,.next,E,st',fun m hm=>by simp only[PC.exec,J m hm],I⟩
  |ret=>exact⟨n,.ret,E,st',fun m hm=>by simp only[PC.exec,J m hm],I⟩
  |panic t d=>exact⟨n,.panic t d,E,st',fun m hm=>by simp only[PC.exec,J m hm],I⟩
  |exit ah=>
   simp only at I
   split at I
   ·rename_i hi;exact⟨n,.next,E,st',fun m hm=>by simp only[PC.exec,J m hm,hi,if_true],I⟩
   ·rename_i hi;exact⟨n,.exit ah,E,st',fun m hm=>by simp only[PC.exec,J m hm,hi,if_false],I⟩
 |.loop keep c,fr,st,Q,h=>by
  obtain⟨k,h⟩:=h
  have key:∀ (k:Nat) (s:PS),L1 (W G T c) (restrict keep st.length) k s Q→∃ (n:Nat) (e:Ex) (E:Frame) (st':St),(∀ m q,n≤m→k≤q→Kw (c.exec G T m) (restrict keep st.length) q s=some (e,⟨E,st'⟩))∧Q e E st':=by
   intro k
   induction k with
   |zero=>intro s h; exact h.elim
   |succ k ih=>
    intro s h;obtain⟨n,e,E,st',J,I⟩:=Lr c _ _ _ h;have U:∀ m,n≤m→c.exec G T m (restrict keep st.length s)=some (e,⟨E,st'⟩):=J
    cases e with
    |next=>
     obtain⟨n',e',Y,aa,V,h4⟩:=ih _ I;refine⟨n+n',e',Y,aa,fun m q hm hq=>?_,h4⟩;obtain⟨q,rfl⟩:∃ M,q=M+1:=⟨q - 1,by omega⟩;simp only[Kw,U m (by omega)];grind
    |exit id=>
     refine⟨n,.exit id,E,st',fun m q hm hq=>?_,I⟩;obtain⟨q,rfl⟩:∃ M,q=M+1:=⟨q - 1,by omega⟩;simp only[Kw,U m hm]
    |ret=>
     refine⟨n,.ret,E,st',fun m q hm hq=>?_,I⟩;obtain⟨q,rfl⟩:∃ M,q=M+1:=⟨q - 1,by omega⟩;simp only[Kw,U m hm]
    |panic t d=>
     refine⟨n,.panic t d,E,st',fun m q hm hq=>?_,I⟩;obtain⟨q,rfl⟩:∃ M,q=M+1:=⟨q - 1,by omega⟩;simp only[Kw,U m hm]
  obtain⟨n,e,E,st',J,I⟩:=key k _ h;exact⟨n+k,e,E,st',fun m hm=>by simp only[PC.exec]; exact J m m (by omega) (by omega),I⟩
 |.loopA keep c,fr,st,Q,h=>by
  obtain⟨k,h⟩:=h
  have key:∀ (k:Nat) (s:PS),L1 (W G T c) (keepAll keep) k s Q→∃ (n:Nat) (e:Ex) (E:Frame) (st':St),(∀ m q,n≤m→k≤q→Kw (c.exec G T m) (keepAll keep) q s=some (e,⟨E,st'⟩))∧Q e E st':=by
   intro k
   induction k with
   |zero=>intro s h; exact h.elim
   |succ k ih=>
    intro s h;obtain⟨n,e,E,st',J,I⟩:=Lr c _ _ _ h;have U:∀ m,n≤m→c.exec G T m (keepAll keep s)=some (e,⟨E,st'⟩):=J
    cases e with
    |next=>
     obtain⟨n',e',Y,aa,V,h4⟩:=ih _ I;refine⟨n+n',e',Y,aa,fun m q hm hq=>?_,h4⟩;obtain⟨q,rfl⟩:∃ M,q=M+1:=⟨q - 1,by omega⟩;simp only[Kw,U m (by omega)];grind
    |exit id=>
     refine⟨n,.exit id,E,st',fun m q hm hq=>?_,I⟩;obtain⟨q,rfl⟩:∃ M,q=M+1:=⟨q - 1,by omega⟩;simp only[Kw,U m hm]
    |ret=>
     refine⟨n,.ret,E,st',fun m q hm hq=>?_,I⟩;obtain⟨q,rfl⟩:∃ M,q=M+1:=⟨q - 1,by omega⟩;simp only[Kw,U m hm]
    |panic t d=>
     refine⟨n,.panic t d,E,st',fun m q hm hq=>?_,I⟩;obtain⟨q,rfl⟩:∃ M,q=M+1:=⟨q - 1,by omega⟩;simp only[Kw,U m hm]
  obtain⟨n,e,E,st',J,I⟩:=key k _ h;exact⟨n+k,e,E,st',fun m hm=>by simp only[PC.exec]; exact J m m (by omega) (by omega),I⟩
 |.range x ps a b,fr,st,Q,h=>by
  obtain⟨n,st',e,J,V,I⟩:=h;exact⟨n,e,fr,_,fun m hm=>by simp only[PC.exec,J m hm,Bp,V,Ag],I⟩
 |.opsX l,fr,st,Q,h=>by
  rcases fC l fr st _ _ h with⟨E,st',J,I⟩ | ⟨t,d,E,st',J,I,V⟩
  ·exact⟨0,.next,E,st',fun m _=>by simp only[PC.exec,J],I⟩
  ·exact⟨0,.panic t d,E,st',fun m _=>by simp only[PC.exec,J,I,Ag],V⟩
 |.pan l d1 t x,fr,st,Q,h=>by
  obtain⟨E,st',J,I⟩:=UC l fr st _ h;unfold H8 at I
  split at I
  ·rename_i hi;exact⟨0,.panic t (Du G E x),E.set d1 .junk,st',fun m _=>by simp only[PC.exec,J,hi,if_true],I⟩
  ·grind
 |.alt a b,fr,st,Q,h=>by
  rcases h with h | ⟨_,J,h⟩
  ·obtain⟨n,e,E,st',J,I⟩:=Lr a fr st _ h;exact⟨n,e,E,st',fun m hm=>by simp only[PC.exec,J m hm],I⟩
  ·obtain⟨n,e,E,st',I,V⟩:=Lr b fr st _ h;exact⟨n,e,E,st',fun m hm=>by simp only[PC.exec,J m,I m hm],V⟩
 |.exit id,fr,st,Q,h=>⟨0,.exit id,fr,st,fun _ _=>rfl,h⟩
 |.ret,fr,st,Q,h=>⟨0,.ret,fr,st,fun _ _=>rfl,h⟩
 |.fail,_,_,_,h=>h.elim
theorem YD{G:Dj}{T:Tbl}:∀ (l:List PI) (fr:Frame) (st:St) (K E:Frame→St→Prop),GN G T l fr st K→(∀ fr st,K fr st→E fr st)→GN G T l fr st E
 |[],_,_,_,_,h,hk=>hk _ _ h
 |i::l,fr,st,K,E,h,hk=>by
  have I:Fu T i.op (Du G fr) st (fun d st'=>GN G T l (fr.put i.dst d) st' K)→Fu T i.op (Du G fr) st (fun d st'=>GN G T l (fr.put i.dst d) st' E):=by
   unfold Fu on
   split
   ·exact fun h=>YD l _ _ _ _ h hk
   ·exact id
  have J:GN G T l (fr.put i.dst (.tup [])) st K→GN G T l (fr.put i.dst (.tup [])) st E:=fun h=>YD l _ _ _ _ h hk;rw[GN]at h ⊢;unfold kG at h ⊢
  split
  ·simp_all
  ·simp_all
   split
   ·simp_all;rename_i b hb;rename_i want _ _
    revert h
    unfold H8;grind
   ·simp_all
   ·simp_all
theorem K9{G:Dj}{T:Tbl}:∀ (c:PC) (fr:Frame) (st:St) (Q I:Ex→Frame→St→Prop),W G T c fr st Q→(∀ e fr st,Q e fr st→I e fr st)→W G T c fr st I
 |.skip,fr,st,Q,I,h,E=>E _ _ _ h
 |.ops l,fr,st,Q,I,h,E=>YD l fr st _ _ h fun fr st h=>E _ _ _ h
 |.any l,fr,st,Q,I,h,E=>Ur l [] fr st _ _ h fun fr st h=>E _ _ _ h
 |.any2 keep l1 M,fr,st,Q,I,h,E=>Ur l1 [] fr st _ _ h fun fr1 st1 h=>Ur M [] fr st _ _ h fun fr2 st2 h=>Yzz h fun s h=>E _ _ _ h
 |.seq a b,fr,st,Q,I,h,E=>by
  refine K9 a fr st _ _ h fun e J st' h=>?_
  cases e with
  |next=>exact K9 b _ _ _ _ h E
  |exit id=>exact E _ _ _ h
  |ret=>exact E _ _ _ h
  |panic t d=>exact E _ _ _ h
 |.cond c a b,fr,st,Q,I,h,E=>by
  simp only[W,TI]at h ⊢
  split
  ·rename_i v hv;rw[hv]at h;simp only at h
   cases v with
   |true=>exact K9 a _ _ _ _ h E
   |false=>exact K9 b _ _ _ _ h E
  ·grind
 |.block id c,fr,st,Q,I,h,E=>by
  refine K9 c fr st _ _ h fun e J st' h=>?_;grind
 |.loop keep c,fr,st,Q,I,h,E=>by
  obtain⟨k,h⟩:=h;refine⟨k,?_⟩
  have key:∀ (k:Nat) (s:PS),L1 (W G T c) (restrict keep st.length) k s Q→L1 (W G T c) (restrict keep st.length) k s I:=by
   intro k
   induction k with
   |zero=>intro s h; exact h
   |succ k U=>
    intro s h;refine K9 c _ _ _ _ h fun e J st' h=>?_;grind
  grind
 |.loopA keep c,fr,st,Q,I,h,E=>by
  obtain⟨k,h⟩:=h;refine⟨k,?_⟩
  have key:∀ (k:Nat) (s:PS),L1 (W G T c) (keepAll keep) k s Q→L1 (W G T c) (keepAll keep) k s I:=by
   intro k
   induction k with
   |zero=>intro s h; exact h
   |succ k U=>
    intro s h;refine K9 c _ _ _ _ h fun e J st' h=>?_;grind
  grind
 |.range x ps a b,fr,st,Q,I,h,E=>by
  obtain⟨n,st',e,V,Y,h2⟩:=h;exact⟨n,st',e,V,Y,E _ _ _ h2⟩
 |.opsX l,fr,st,Q,I,h,E=>fi l fr st _ _ _ _ h (fun _ _ h=>E _ _ _ h) fun _ _ _ _ h=>E _ _ _ h
 |.pan l d1 t x,fr,st,Q,I,h,E=>YD l fr st _ _ h fun J st' h=>by
  unfold H8 at h ⊢;grind
 |.alt a b,fr,st,Q,I,h,E=>h.imp (fun h=>K9 a _ _ _ _ h E) fun h=>⟨h.1,h.2.1,K9 b _ _ _ _ h.2.2 E⟩
 |.exit id,fr,st,Q,I,h,E=>E _ _ _ h
 |.ret,fr,st,Q,I,h,E=>E _ _ _ h
 |.fail,_,_,_,_,h,_=>h.elim
variable {Q:Ex→Frame→St→Prop}{c:PC}{ι:Type}{G:Dj}
theorem YGa(J:ι→List (Nat×D))(M:ι→St)(P:ι→Prop)(μ:ι→Nat)(E:ι)
  (Y:restrict keep st.length ⟨fr,st⟩=⟨Gn (J E),M E⟩) (hP:P E)
  (U:∀ i,P i→W G T c (Gn (J i)) (M i) fun e I st'=>match e with
   |.next=>∃ j,P j∧μ j<μ i∧restrict keep st.length ⟨I,st'⟩=⟨Gn (J j),M j⟩
   |e=>Q e I st'):W G T (.loop keep c) fr st Q:=by
 have key:∀ (n:Nat) (i:ι) (s:PS),μ i<n→P i→restrict keep st.length s=⟨Gn (J i),M i⟩→L1 (W G T c) (restrict keep st.length) n s Q:=by
  intro n
  induction n with
  |zero=>intro i s h _ _; exact absurd h (Nat.not_lt_zero _)
  |succ n ih=>
   intro i s hi V hr;simp only[L1,hr];refine K9 c _ _ _ _ (U i V) fun e I st' h=>?_;grind
 exact⟨μ E+1,key _ E _ (Cj _) hP Y⟩
theorem Yzw(J:ι→List (Nat×D))(M:ι→St)(P:ι→Prop)(μ:ι→Nat)(E:ι)
  (Y:keepAll keep ⟨fr,st⟩=⟨Gn (J E),M E⟩) (hP:P E)
  (U:∀ i,P i→W G T c (Gn (J i)) (M i) fun e I st'=>match e with
   |.next=>∃ j,P j∧μ j<μ i∧keepAll keep ⟨I,st'⟩=⟨Gn (J j),M j⟩
   |e=>Q e I st'):W G T (.loopA keep c) fr st Q:=by
 have key:∀ (n:Nat) (i:ι) (s:PS),μ i<n→P i→keepAll keep s=⟨Gn (J i),M i⟩→L1 (W G T c) (keepAll keep) n s Q:=by
  intro n
  induction n with
  |zero=>intro i s h _ _; exact absurd h (Nat.not_lt_zero _)
  |succ n ih=>
   intro i s hi V hr;simp only[L1,hr];refine K9 c _ _ _ _ (U i V) fun e I st' h=>?_;grind
 exact⟨μ E+1,key _ E _ (Cj _) hP Y⟩
variable {st':St}{ps:List Nat}
theorem Yrb{x:PA}{a b:PC}{e:Ex}(h:∀ m,TX T (Du G fr x) (Lp (a.exec G T m) (b.exec G T m) fr ps st.length) (st++[recO 0])=some st')(E:Yd st' st.length=some e)(I:Q e fr (st'.set st.length (recO 2))):W G T (.range x ps a b) fr st Q:=
 ⟨0,st',e,fun m _=>h m,E,I⟩
def wW(G:Dj)(T:Tbl)(c:PC)(fr:Frame)(st:St)[Q:QC]:Prop:=W G T c fr st Q.run
theorem HQ(h:@wW G T c fr st ⟨Q⟩):W G T c fr st Q:=h
theorem Tg(h:W G T c fr st Q):@wW G T c fr st ⟨Q⟩:=h
theorem YF8(G:Dj)(T:Tbl)(fr:Frame)(st:St)(Q:Ex→Frame→St→Prop):@wW G T .skip fr st ⟨Q⟩=Q .next fr st:=(rfl)
theorem Yp(G:Dj)(T:Tbl)(l:List PI)(fr:Frame)(st:St)(Q:Ex→Frame→St→Prop):@wW G T (.ops l) fr st ⟨Q⟩=@It G T l fr st ⟨Q .next⟩:=(rfl)
theorem Yq(G:Dj)(T:Tbl)(l:List (PI×Bool×List Nat))(fr:Frame)(st:St)(Q:Ex→Frame→St→Prop):@wW G T (.any l) fr st ⟨Q⟩=@Jz G T l [] fr st ⟨Q .next⟩:=(rfl)
theorem YGd(G:Dj)(T:Tbl)(keep:List Nat)(l1 E:List (PI×Bool×List Nat))(fr:Frame)(st:St)(Q:Ex→Frame→St→Prop):@wW G T (.any2 keep l1 E) fr st ⟨Q⟩=
  @Jz G T l1 [] fr st ⟨fun fr1 st1=>@Jz G T E [] fr st ⟨fun fr2 st2=>@H8 (st1.length == st.length+2 && st2.length == st.length+2) ⟨@Yf (restrictAt keep st.length [st.length,st.length+1] ⟨fr1,st1⟩) (restrictAt keep st.length [st.length+1,st.length] ⟨fr2,st2⟩) ⟨fun s=>Q .next s.fr s.st⟩⟩ ⟨False⟩⟩⟩:=(rfl)
def Te(G:Dj)(T:Tbl)(b:PC)[Q:QC](e:Ex)(fr:Frame)(st:St):Prop:=match e with
 |.next=>W G T b fr st Q.run
 |e=>Q.run e fr st
theorem Ym(G:Dj)(T:Tbl)(a b:PC)(fr:Frame)(st:St)(Q:QC):@wW G T (.seq a b) fr st Q=@wW G T a fr st ⟨@Te G T b Q⟩:=(rfl)
theorem Ybo(G:Dj)(T:Tbl)(b:PC)(Q:QC)(fr:Frame)(st:St):@Te G T b Q .next fr st=@wW G T b fr st Q:=(rfl)
theorem Ybp(G:Dj)(T:Tbl)(b:PC)(Q:Ex→Frame→St→Prop)(E:Nat)(fr:Frame)(st:St):@Te G T b ⟨Q⟩ (.exit E) fr st=Q (.exit E) fr st:=(rfl)
theorem Yk7(G:Dj)(T:Tbl)(b:PC)(Q:Ex→Frame→St→Prop)(fr:Frame)(st:St):@Te G T b ⟨Q⟩ .ret fr st=Q .ret fr st:=(rfl)
theorem yXe(G:Dj)(T:Tbl)(b:PC)(Q:Ex→Frame→St→Prop)(t:Nat)(d:D)(fr:Frame)(st:St):@Te G T b ⟨Q⟩ (.panic t d) fr st=Q (.panic t d) fr st:=(rfl)
theorem YF9(G:Dj)(T:Tbl)(l:List PI)(fr:Frame)(st:St)(Q:Ex→Frame→St→Prop):@wW G T (.opsX l) fr st ⟨Q⟩=@Qw G T l fr st ⟨Q .next⟩ ⟨fun t d=>Q (.panic t d)⟩:=(rfl)
theorem Yo(G:Dj)(T:Tbl)(l:List PI)(d1 t:Nat)(x:PA)(fr:Frame)(st:St)(Q:Ex→Frame→St→Prop):@wW G T (.pan l d1 t x) fr st ⟨Q⟩=@It G T l fr st ⟨fun E st'=>@H8 (L9 (Du G E x)) ⟨Q (.panic t (Du G E x)) (E.set d1 .junk) st'⟩ ⟨False⟩⟩:=(rfl)
theorem YGc(G:Dj)(T:Tbl)(c:PA)(a b:PC)(fr:Frame)(st:St)(Q:QC):@wW G T (.cond c a b) fr st Q=@TI (Du G fr c) ⟨fun v=>@H8 v ⟨@wW G T a fr st Q⟩ ⟨@wW G T b fr st Q⟩⟩:=(rfl)
def Mz(id:Nat)[Q:QC](e:Ex)(fr:Frame)(st:St):Prop:=match e with
 |.exit id'=>if id'=id then Q.run .next fr st else Q.run (.exit id') fr st
 |e=>Q.run e fr st
theorem Yzx(G:Dj)(T:Tbl)(E:Nat)(c:PC)(fr:Frame)(st:St)(Q:QC):@wW G T (.block E c) fr st Q=@wW G T c fr st ⟨@Mz E Q⟩:=(rfl)
theorem Ym4(E:Nat)(Q:Ex→Frame→St→Prop)(fr:Frame)(st:St):@Mz E ⟨Q⟩ .next fr st=Q .next fr st:=(rfl)
theorem Yvi(E:Nat)(Q:Ex→Frame→St→Prop)(fr:Frame)(st:St):@Mz E ⟨Q⟩ .ret fr st=Q .ret fr st:=(rfl)
theorem Yd6(E:Nat)(Q:Ex→Frame→St→Prop)(t:Nat)(d:D)(fr:Frame)(st:St):@Mz E ⟨Q⟩ (.panic t d) fr st=Q (.panic t d) fr st:=(rfl)
theorem YCh(I E:Nat)(Q:Ex→Frame→St→Prop)(fr:Frame)(st:St):@Mz I ⟨Q⟩ (.exit E) fr st=if E=I then Q .next fr st else Q (.exit E) fr st:=(rfl)
theorem YGb(G:Dj)(T:Tbl)(E:Nat)(fr:Frame)(st:St)(Q:Ex→Frame→St→Prop):@wW G T (.exit E) fr st ⟨Q⟩=Q (.exit E) fr st:=(rfl)
theorem Yn(G:Dj)(T:Tbl)(fr:Frame)(st:St)(Q:Ex→Frame→St→Prop):@wW G T .ret fr st ⟨Q⟩=Q .ret fr st:=(rfl)
def Dq(res:List PRes)(r:D)(e:Ex)(fr:Frame)(st:St):Prop:=match e with
 |.exit _ | .panic _ _=>False
 |_=>(F5 ⟨fr,st⟩ res).map DU=some r
theorem Ylz(res:List PRes)(r:D)(fr:Frame)(st:St):Dq res r .ret fr st=((F5 ⟨fr,st⟩ res).map DU=some r):=(rfl)
theorem Yc2(res:List PRes)(r:D)(fr:Frame)(st:St):Dq res r .next fr st=((F5 ⟨fr,st⟩ res).map DU=some r):=(rfl)
def G4(res:List PRes)[R:Cont2 D St](e:Ex)(fr:Frame)(st:St):Prop:=match e with
 |.exit _ | .panic _ _=>False
 |_=>@on _ (D9 ⟨fr,st⟩ res) ⟨fun l=>R.run (DU l) st⟩
theorem rE(res:List PRes)(R:D→St→Prop)(fr:Frame)(st:St):@G4 res ⟨R⟩ .ret fr st=@on _ (D9 ⟨fr,st⟩ res) ⟨fun l=>R (DU l) st⟩:=(rfl)
theorem tU(res:List PRes)(R:D→St→Prop)(fr:Frame)(st:St):@G4 res ⟨R⟩ .next fr st=@on _ (D9 ⟨fr,st⟩ res) ⟨fun l=>R (DU l) st⟩:=(rfl)
variable {ds:List D}{F:PF}
theorem rJ{r:D}(h:W G T F.code (Dc ds) [] (Dq F.res r)):∃ fuel,F.run G T fuel ds=some r:=by
 obtain⟨n,e,J,st',I,E⟩:=Lr _ _ _ _ h;refine⟨n,?_⟩;unfold PF.run;rw[I n (Ay _)]
 cases e with
 |next=>exact E
 |ret=>exact E
 |exit id=>exact E.elim
 |panic t d=>exact E.elim
theorem YF{R:D→St→Prop}(h:W G T F.code (Dc ds) st (@G4 F.res ⟨R⟩)):∃ fuel r st',(∀ m,fuel≤m→F.runI G T m ds st=some (r,st'))∧R r st':=by
 obtain⟨n,e,I,st',J,E⟩:=Lr _ _ _ _ h
 have key:∀ (E:@on _ (D9 ⟨I,st'⟩ F.res) ⟨fun l=>R (DU l) st'⟩) (he:e=.next∨e=.ret),∃ fuel r st',(∀ m,fuel≤m→F.runI G T m ds st=some (r,st'))∧R r st':=by
  intro E he;unfold on at E
  split at E
  ·rename_i l hl;refine⟨n,DU l,st',fun m hm=>?_,E⟩;unfold PF.runI;grind
  ·grind
 cases e with
 |next=>exact key E (.inl rfl)
 |ret=>exact key E (.inr rfl)
 |exit id=>exact E.elim
 |panic t d=>exact E.elim
def NA[X:XC0](e:Ex)(_:Frame)(st:St):Prop:=match e with
 |.panic t d=>X.run t d st
 |_=>False
theorem yXr(X:Nat→D→St→Prop)(t:Nat)(d:D)(fr:Frame)(st:St):@NA ⟨X⟩ (.panic t d) fr st=X t d st:=(rfl)
theorem Yct(h:W G T F.code (Dc ds) st (@NA ⟨X⟩)):∃ fuel t d st',(∀ m,fuel≤m→F.runX G T m ds st=some (t,d,st'))∧X t d st':=by
 obtain⟨n,e,J,st',I,E⟩:=Lr _ _ _ _ h
 cases e with
 |panic t d=>exact⟨n,t,d,st',fun m hm=>by unfold PF.runX; rw[I m hm],E⟩
 |_=>exact E.elim
def Pd(h:Nat→D→List D→St→Option St)(das:List D)(res:List PRes)[R:Cont2 D St](e:Ex)(fr:Frame)(st:St):Prop:=match e with
 |.exit _=>False
 |.panic t d=>@on _ (h t d das st) ⟨fun st3=>@on _ (D9 ⟨fr,st3⟩ res) ⟨fun l=>R.run (DU l) st3⟩⟩
 |_=>@on _ (D9 ⟨fr,st⟩ res) ⟨fun l=>R.run (DU l) st⟩
theorem Yl1(h:Nat→D→List D→St→Option St)(E:List D)(res:List PRes)(R:D→St→Prop)(fr:Frame)(st:St):@Pd h E res ⟨R⟩ .ret fr st=@on _ (D9 ⟨fr,st⟩ res) ⟨fun l=>R (DU l) st⟩:=(rfl)
theorem Yc5(h:Nat→D→List D→St→Option St)(E:List D)(res:List PRes)(R:D→St→Prop)(fr:Frame)(st:St):@Pd h E res ⟨R⟩ .next fr st=@on _ (D9 ⟨fr,st⟩ res) ⟨fun l=>R (DU l) st⟩:=(rfl)
theorem yXt(h:Nat→D→List D→St→Option St)(E:List D)(res:List PRes)(R:D→St→Prop)(t:Nat)(d:D)(fr:Frame)(st:St) :
  @Pd h E res ⟨R⟩ (.panic t d) fr st=@on _ (h t d E st) ⟨fun I=>@on _ (D9 ⟨fr,I⟩ res) ⟨fun l=>R (DU l) I⟩⟩:=(rfl)
def Ry(h:Nat→D→List D→St→Option St)(das:List D)(res:List PRes)(r:D)(e:Ex)(fr:Frame)(st:St):Prop:=match e with
 |.exit _=>False
 |.panic t d=>@on _ (h t d das st) ⟨fun st3=>(F5 ⟨fr,st3⟩ res).map DU=some r⟩
 |_=>(F5 ⟨fr,st⟩ res).map DU=some r
theorem Yc6(h:Nat→D→List D→St→Option St)(E:List D)(res:List PRes)(r:D)(fr:Frame)(st:St):Ry h E res r .ret fr st=((F5 ⟨fr,st⟩ res).map DU=some r):=(rfl)
theorem yXu(h:Nat→D→List D→St→Option St)(E:List D)(res:List PRes)(r:D)(fr:Frame)(st:St):Ry h E res r .next fr st=((F5 ⟨fr,st⟩ res).map DU=some r):=(rfl)
theorem yQ3(h:Nat→D→List D→St→Option St)(E:List D)(res:List PRes)(r:D)(t:Nat)(d:D)(fr:Frame)(st:St):Ry h E res r (.panic t d) fr st=@on _ (h t d E st) ⟨fun I=>(F5 ⟨fr,I⟩ res).map DU=some r⟩:=(rfl)
def RI(G:Dj)(T:Tbl)(F:PFD)(H:Jh)(ds:List D)(st:St)(K:(Nat→D→List D→St→Option St)→List D→Ex→Frame→St→Prop):Prop:=
 @It G T F.pre (Dc ds) st ⟨fun fr1 st1=>@on _ (Oy (Du G fr1 F.hf) (F.ha.map (Du G fr1))) ⟨fun p=>@on _ (H p.1) ⟨fun h=>@wW G T F.code fr1 st1 ⟨K h p.2⟩⟩⟩⟩
theorem Ycv{F:PFD}{H:Jh}{K:(Nat→D→List D→St→Option St)→List D→Ex→Frame→St→Prop}(h:RI G T F H ds st K) :
  ∃ n s1 f M J e I st',Fg G T F.pre ⟨Dc ds,st⟩=some s1∧Oy (Du G s1.fr F.hf) (F.ha.map (Du G s1.fr))=some (f,M)∧H f=some J∧(∀ m,n≤m→F.code.exec G T m s1=some (e,⟨I,st'⟩))∧K J M e I st':=by
 obtain⟨fr1,st1,U,E⟩:=UC _ _ _ _ h;simp only at E;unfold on at E
 split at E
 case h_2=>exact E.elim
 rename_i p V;simp only at E
 split at E
 case h_2=>exact E.elim
 rename_i J Y;obtain⟨n,e,I,st',h3,h4⟩:=Lr _ _ _ _ (show W G T F.code fr1 st1 (K J p.2)from E);exact⟨n,⟨fr1,st1⟩,p.1,p.2,J,e,I,st',U,V,Y,h3,h4⟩
theorem Yyk(fs:List (Option Foot))(g:Option Foot):Oo fs g []=true:=(rfl)
theorem Yps(fs:List (Option Foot))(g:Option Foot)(j:Nat)(r:List Nat):Oo fs g (j::r)=(lK fs[j]? g && Oo fs g r):=(rfl)
theorem YE1(f g:Foot):lK (some (some f)) (some g)=f.ok g:=(rfl)
theorem Wz(r w I w':List Nat)(m E:Option Nat):Foot.ok ⟨r,w,m⟩ ⟨I,w',E⟩=(IC w' r && IC w' w && IC w I && LL m I && LL m w' && LL E r && LL E w && (m.isNone || E.isNone)):=(rfl)
theorem Yqt(b:List Nat):IC [] b=true:=(rfl)
theorem Yj1(k:Nat)(a b:List Nat):IC (k::a) b=(!b.contains k && IC a b):=by simp[IC]
theorem Yax(a:List Nat):LL none a=true:=(rfl)
theorem Yaw(n:Nat):LL (some n) []=true:=(rfl)
theorem yTd(n k:Nat)(a:List Nat):LL (some n) (k::a)=(decide (k<n) && LL (some n) a):=(rfl)
theorem Yhl:PD=⟨[],[],none⟩:=(rfl)
theorem Yd9:HK (none:Option α)=[]:=(rfl)
theorem Yd8(x:α):HK (some x)=[x]:=(rfl)
section
variable (ρ:PA→D) (st:St)
theorem Ygy(n:Nat)(p x:PA):POp.foot ρ st (.stor n p x)=some ⟨hk (ρ x),hk (ρ p),none⟩:=(rfl)
theorem Yo7(x:PA):POp.foot ρ st (.box x)=some ⟨[],[],some st.length⟩:=(rfl)
theorem yZu(a b:Nat)(z:D)(l c:PA):POp.foot ρ st (.mkslc a b z l c)=some ⟨[],[],some st.length⟩:=(rfl)
theorem yZv(f:Nat)(l:List PA):POp.foot ρ st (.mcall f l)=some ⟨[],[],some st.length⟩:=(rfl)
def R1(st:St)(s x:D):Option Foot:=match s with
 |.row key _ _ _=>some ⟨hk x,[key],none⟩
 |_=>some ⟨hk x,[],GA x st.length⟩
theorem Yq1(key tot off len:Nat)(x:D):R1 st (.row key tot off len) x=some ⟨hk x,[key],none⟩:=(rfl)
theorem Yq0(sz:Nat)(els:List D)(t:Bool)(x:D):R1 st (.slc sz els t) x=some ⟨hk x,[],GA x st.length⟩:=(rfl)
theorem Yqy(sz:Nat)(t:Bool)(n:Nat):GA (.slc sz [] t) n=none:=(rfl)
theorem Yj5(sz:Nat)(a:D)(l:List D)(t:Bool)(n:Nat):GA (.slc sz (a::l) t) n=some n:=(rfl)
theorem Yqx(key tot off len n:Nat):GA (.row key tot off len) n=some n:=(rfl)
theorem Yqz(key off m sz:Nat)(ag:Bool)(n:Nat):GA (.bsl key off m sz ag) n=some n:=(rfl)
theorem Yqw(s:List UInt8)(n:Nat):GA (.str s) n=some n:=(rfl)
theorem Yo8(a b:Nat)(s x:PA):POp.foot ρ st (.app a b s x)=R1 st (ρ s) (ρ x):=(rfl)
theorem Yg1(n:Nat)(ag:Bool)(x:PA):POp.foot ρ st (.load n ag x)=some ⟨hk (ρ x),[],none⟩:=by simp[POp.foot,POp.args]
theorem Ygz(x:PA):POp.foot ρ st (.nilc x)=some ⟨Mx (ρ x),[],none⟩:=(rfl)
theorem Yuw(key off:Nat):Mx (.ptr key off)=[]:=(rfl)
theorem Ylx(E:D)(off:Nat):Mx (.eptr E off)=[]:=(rfl)
theorem Ylw(key tot i off:Nat):Mx (.rptr key tot i off)=[key]:=(rfl)
theorem Yo6(n:Nat)(x:PA):POp.foot ρ st (.fld n x)=some ⟨Mx (ρ x),[],none⟩:=(rfl)
theorem Yg2(n m:Nat)(x i:PA):POp.foot ρ st (.idxA n m x i)=some ⟨Mx (ρ x),[],none⟩:=(rfl)
theorem yZt(n:Nat)(x:PA)(a b c:Option PA):POp.foot ρ st (.slice n x a b c)=some ⟨((x::(HK a++HK b++HK c)).map ρ).flatMap hk,[],none⟩:=(rfl)
theorem Yg3(f:Nat)(l:List PA):POp.foot ρ st (.call f l)=some ⟨(l.map ρ).flatMap hk,[],none⟩:=(rfl)
theorem Yg4(n:Nat)(l:List PA):POp.foot ρ st (.bslc n l)=some ⟨(l.map ρ).flatMap hk,[],none⟩:=(rfl)
end
attribute [irreducible] kF Gz wF Jz eg Yf on TI H8 ev QD Fu kG kV GN W Te Mz Dq G4 wW It El JD MZ Qw J3 TH NA Pd Ry
def Es:D→Bool
 |.int _ _ | .bool _ | .str _ | .clo _ [] | .nilf | .nilp=>true
 |.slc sz els t=>!t && nz sz els == sz
 |_=>false
def Jj:D→Bool
 |.agg l=>l.all Es
 |d=>Es d
variable {d:D}
theorem fb(st:St)(h:Es d=true):DC st d=some d:=by
 cases d with
 |clo f l=>cases l <;> simp_all [Es,DC,D.pure1]
 |slc sz els t=>simp_all [Es,DC]
 |_=>simp_all [Es,DC,D.pure1]
theorem SY(st:St):∀ {l:List D},l.all Es=true→D5 st l=some l
 |[],_=>rfl
 |d::l,h=>by
  simp only[A0,Af]at h;simp only[D5,fb st h.1,SY st h.2]
theorem Q3(st:St)(h:Jj d=true):DX st d=some d:=by
 cases d with
 |agg l=>simp only[DX,SY st h,Ag]
 |tup l=>simp[Jj,Es]at h
 |_=>exact fb st (by simpa only[Jj]using h)
theorem fc(h:Es d=true):FB d=[]:=by
 cases d <;> simp_all [Es,FB]
theorem Qc(h:Jj d=true):keys d=[]:=by
 cases d with
 |agg l=>
  simp only[keys,B8];simp only[Jj,Al]at h;exact fun d E=>fc (h d E)
 |_=>exact fc (by simpa only[Jj]using h)
theorem tY(h:Es d=true):DE d=[]:=by
 cases d with
 |clo f l=>cases l <;> simp_all [Es,DE]
 |_=>simp_all [Es,DE,GO]
theorem T0(h:Jj d=true):hk d=[]:=by
 cases d with
 |agg l=>
  simp only[hk,B8];simp only[Jj,Al]at h;exact fun d E=>tY (h d E)
 |_=>exact tY (by simpa only[Jj]using h)
theorem vF(n:Nat)(σ:List Nat)(h:Es d=true):ER n σ d=d:=by
 cases d with
 |clo f l=>cases l <;> simp_all [Es,ER]
 |_=>simp_all [Es,ER,G5]
theorem Q4(n:Nat)(σ:List Nat)(h:Jj d=true):Ez n σ d=d:=by
 cases d with
 |agg l=>
  simp only[Ez,D.agg.injEq];simp only[Jj,Al]at h
  have:∀ l:List D,(∀ d∈l,Es d=true)→l.map (ER n σ)=l:=by
   intro l
   induction l with
   |nil=>intro _; rfl
   |cons a l E=>intro h; simp only[Ax,vF n σ (h a (by simp)),E fun d I=>h d (by simp[I])]
  grind
 |tup l=>simp[Jj,Es]at h
 |_=>exact vF n σ (by simpa only[Jj]using h)
structure Dig where
 bs:List UInt8
 len:bs.length=32
 deriving DecidableEq
def Dt:Dig:=⟨CQ 32 0,by simp⟩
instance:Inhabited Dig:=⟨Dt⟩
theorem Dig.ext'{a b:Dig}(h:a.bs=b.bs):a=b:=by
 cases a; cases b; simp_all
def C8(d:Dig):List D:=d.bs.map Dn
def C9(d:Dig):D:=.agg (C8 d)
theorem D2(d:Dig):(C8 d).length=32:=by simp[C8,d.len]
theorem sD{a b:UInt8}(h:Dn a=Dn b):a=b:=by
 simp only[Dn,D.int.injEq,true_and]at h;exact UInt8.toNat_inj.1 (by omega)
theorem PV{α β:Type}{f:α→β}(I:∀ a b,f a=f b→a=b):∀ {l E:List α},l.map f=E.map f→l=E
 |[],[],_=>rfl
 |[],_::_,h=>by cases h
 |_::_,[],h=>by cases h
 |a::l,b::E,h=>by
  simp only[Ax,Aa]at h;rw[I _ _ h.1,PV I h.2]
variable {b:List UInt8}
theorem QY{a:List UInt8}(h:a.map Dn=b.map Dn):a=b:=PV (fun _ _=>sD) h
theorem pX{a b:Dig}(h:C9 a=C9 b):a=b:=by
 simp only[C9,C8,D.agg.injEq]at h;exact Dig.ext' (QY h)
theorem LV{a b:Dig}(h:C8 a=C8 b):a=b:=Dig.ext' (QY h)
theorem Lf{p:D→Bool}(E:∀ b,p (Dn b)=true)(d:Dig):(C8 d).all p=true:=by
 simp only[C8,Al,AX];grind
theorem I0(d:Dig):(C8 d).all D.isCell=true:=Lf (fun _=>rfl) d
theorem UM(d:Dig):(C8 d).all Es=true:=Lf (fun _=>rfl) d
theorem Q9(d:Dig):Jj (C9 d)=true:=UM d
theorem Qf(d:Dig):(C9 d).cells=C8 d:=(rfl)
theorem uP(d:Dig):(C9 d).noRef=true:=Lf (fun _=>rfl) d
theorem bI(d:Dig):D.mk true (C8 d)=C9 d:=(rfl)
theorem Yvu(x:D)(l:List D):D.mk true (x::l)=.agg (x::l):=(rfl)
theorem YCv(x:D)(l:List D):D.mk false (x::l)=x:=(rfl)
theorem Yzq(d:Dig):D.agg (C8 d)=C9 d:=(rfl)
theorem Yke:[D.int .u8 0,.int .u8 0,.int .u8 0,.int .u8 0,.int .u8 0,.int .u8 0,.int .u8 0,.int .u8 0,.int .u8 0,.int .u8 0,.int .u8 0,.int .u8 0,.int .u8 0,.int .u8 0,.int .u8 0,.int .u8 0,.int .u8 0,.int .u8 0,.int .u8 0,.int .u8 0,.int .u8 0,.int .u8 0,.int .u8 0,.int .u8 0,.int .u8 0,.int .u8 0,.int .u8 0,.int .u8 0,.int .u8 0,.int .u8 0,.int .u8 0,.int .u8 0]=C8 Dt:=(rfl)
theorem T8(d:Dig):(C8 d).take 32=C8 d:=AG (by rw[D2]; exact Ay _)
theorem ZN(h:Es d=true):Jj d=true:=by
 cases d with
 |agg l=>simp[Es]at h
 |_=>exact h
theorem Mr(n:Nat)(σ:List Nat):∀ {l:List D},l.all Es=true→l.map (Ez n σ)=l
 |[],_=>rfl
 |d::l,h=>by
  simp only[A0,Af]at h;simp only[Ax,Q4 n σ (ZN h.1),Mr n σ h.2]
theorem MU:∀ {l:List D},l.all Es=true→l.flatMap hk=[]
 |[],_=>rfl
 |d::l,h=>by
  simp only[A0,Af]at h;simp only[Au,T0 (ZN h.1),MU h.2,Ad]
theorem Ymc(n:Nat)(σ:List Nat)(d:Dig):(C8 d).map (Ez n σ)=C8 d:=Mr n σ (UM d)
theorem Yor(d:Dig):(C8 d).flatMap hk=[]:=MU (UM d)
theorem Yw4(st:St)(d:Dig):DX st (C9 d)=some (C9 d):=Q3 st (Q9 d)
theorem qE(d:Dig):keys (C9 d)=[]:=Qc (Q9 d)
theorem YEa(d:Dig):hk (C9 d)=[]:=T0 (Q9 d)
theorem rC(n:Nat)(σ:List Nat)(d:Dig):Ez n σ (C9 d)=C9 d:=Q4 n σ (Q9 d)
theorem Yza(d:Dig):DH (C9 d)=some (C8 d):=by
 simp only[DH,Qf,I0,if_true]
theorem nE:∀ (n:Nat) (a b:List UInt8),a.length=n→b.length=n→E9 (CQ n 0) (a.map Dn) (b.map Dn)=some (decide (a=b))
 |0,[],[],_,_=>rfl
 |0,_::_,_,h,_=>by cases h
 |0,[],_::_,_,h=>by cases h
 |n+1,[],_,h,_=>by cases h
 |n+1,_::_,[],_,h=>by cases h
 |n+1,a::l,b::I,h,E=>by
  simp only[Ah,Nat.add_right_cancel_iff]at h E;simp only[B0,Ax,E9,nE n l I h E];simp only[Jn,Dn,if_true]
  congr 1
  by_cases e:a=b
  ·grind
  ·have:¬ ((a.toNat:Int)=(b.toNat:Int)):=fun h=>e (UInt8.toNat_inj.1 (by omega));grind
theorem vu(a b:Dig):E9 (CQ 32 0) (C8 a) (C8 b)=some (decide (a=b)):=by
 rw[C8,C8,nE 32 a.bs b.bs a.len b.len]
 congr 1
 by_cases e:a=b
 ·grind
 ·have E:¬ a.bs=b.bs:=fun h=>e (Dig.ext' h);simp[e,E]
theorem yG(E:Bool)(a b:Dig):G7 [0,0,0,0,0,0,0,0,0,0,0,0,0,0,0,0,0,0,0,0,0,0,0,0,0,0,0,0,0,0,0,0] E (C9 a) (C9 b)=some (.bool (decide (a=b) != E)):=by
 show(E9 (CQ 32 0) (C8 a) (C8 b)).map _=_
 rw[vu]; rfl
theorem getElem?_getD[Inhabited α](l:List α)(i:Nat)(h:i<l.length):l[i]?=some (l.getD i default):=by
 grind
theorem um[Inhabited α](l:List α)(i:Nat)(h:i<l.length):l.take (i+1)=l.take i++[l.getD i default]:=by
 simp_all
theorem sP[Inhabited α](l:List α)(i:Nat)(h:i<l.length):l.drop i=l.getD i default::l.drop (i+1):=by
 simp_all
theorem vH(l xs:List D)(h:l.length=xs.length):FU l 0 xs=xs:=by
 simp[FU,h]
theorem vI(a b:Dig):FU (C8 a) 0 (C8 b)=C8 b:=vH _ _ (by rw[D2,D2])
theorem yQg(x:D)(l ys:List D)(n:Nat):FU (x::l) (n+1) ys=x::FU l n ys:=by
 simp[FU,Nat.add_right_comm]
def DA(o:Option Obj)(n:Nat)(ag:Bool)(off:Nat):Option D:=if !ag && n != 1 then none else o.bind fun o=>if !o.row && decide (off+n≤o.els.length)then some (.mk ag ((o.els.drop off).take n))else none
def DT(o:Option Obj)(n:Nat)(off:Nat)(x:D):Option Obj:=o.bind fun o=>if !o.row && !o.lent && decide (off+n≤o.els.length) && x.cells.length == n && x.cells.all D.isCell then some {o with els:=FU o.els off x.cells} else none
theorem Ydo(st:St)(n:Nat)(ag:Bool)(key off:Nat):FF st n ag (.ptr key off)=DA st[key]? n ag off:=by
 simp only[FF,DA];grind
theorem Ydm(st:St)(n:Nat)(key off:Nat)(x:D):M0 st n (.ptr key off) x=(DT st[key]? n off x).map fun o=>st.set key o:=by
 simp only[M0,DT];grind
section
variable {α:Type} (sz:Nat) (lent:Bool)
theorem MO(x:D)(l:List D):DA (some ⟨false,sz,x::l,lent⟩) 1 false 0=some x:=by
 rfl
theorem qH(x:D)(l:List D)(n:Nat)(ag:Bool)(off:Nat):DA (some ⟨false,sz,x::l,lent⟩) n ag (off+1)=DA (some ⟨false,sz,l,lent⟩) n ag off:=by
 simp only[DA,Bp,List.drop_succ_cons,Ah];grind
theorem Ywf(d:Dig):DA (some ⟨false,sz,C8 d,lent⟩) 32 true 0=some (C9 d):=by
 simp[DA,D2,T8,bI]
theorem SQ(x:D)(d:Dig):DA (some ⟨false,sz,x::C8 d,lent⟩) 33 true 0=some (.agg (x::C8 d)):=by
 simp[DA,D2,T8,D.mk]
theorem zM{α:Type}[Inhabited α](f:α→D)(E:List α)(i:Nat)(h:i<E.length):DA (some ⟨false,sz,E.map f,lent⟩) 1 false i=some (f (E.getD i default)):=by
 have I:i+1≤E.length:=h
 have:(E.map f).drop i=f (E.getD i default)::(E.map f).drop (i+1):=by
  rw[← Co,sP E i h,Ax,Co]
 simp[DA,this,D.mk,I]
theorem LQ(cs:List D)(n:Nat)(h:cs.length=n):DA (some ⟨false,sz,cs,lent⟩) n true 0=some (.agg cs):=by
 subst h; simp[DA,D.mk]
theorem yY9{α:Type}(f:α→D)(E:List α)(n:Nat)(h:E.length=n):DA (some ⟨false,sz,E.map f,lent⟩) n true 0=some (.agg (E.map f)):=
 LQ sz lent _ n (by simpa using h)
theorem Yb2(x v:D)(l:List D)(hv:v.isCell=true):DT (some ⟨false,sz,x::l,false⟩) 1 0 v=some ⟨false,sz,v::l,false⟩:=by
 simp[DT,Rl hv,hv,FU]
theorem Yum(x:D)(k:IntKind)(n:Int)(l:List D):DT (some ⟨false,sz,x::l,false⟩) 1 0 (.int k n)=some ⟨false,sz,.int k n::l,false⟩:=Yb2 sz _ _ _ rfl
theorem Yul(x:D)(key tot off len:Nat)(l:List D):DT (some ⟨false,sz,x::l,false⟩) 1 0 (.row key tot off len)=some ⟨false,sz,.row key tot off len::l,false⟩:=Yb2 sz _ _ _ rfl
theorem Yun(d e:Dig):DT (some ⟨false,sz,C8 d,false⟩) 32 0 (C9 e)=some ⟨false,sz,C8 e,false⟩:=by
 simp[DT,D2,Qf,I0,vI]
theorem LS(cs ds:List D)(n:Nat)(h:cs.length=n)(E:ds.length=n)(hc:ds.all D.isCell=true):DT (some ⟨false,sz,cs,false⟩) n 0 (.agg ds)=some ⟨false,sz,ds,false⟩:=by
 subst h;simp[DT,D.cells,E,hc,vH _ _ E.symm]
theorem Y0(x:D)(k:IntKind)(m:Int)(d e:Dig):DT (some ⟨false,sz,x::C8 d,false⟩) 33 0 (.agg (.int k m::C8 e))=some ⟨false,sz,.int k m::C8 e,false⟩:=
 LS sz _ _ 33 (by simp[D2]) (by simp[D2]) (by simp[I0,D.isCell])
theorem Yb1(f:α→D)(I:∀ a,(f a).isCell=true)(E:List α)(i:Nat)(v:α)(h:i<E.length):DT (some ⟨false,sz,E.map f,false⟩) 1 i (f v)=some ⟨false,sz,(E.set i v).map f,false⟩:=by
 have J:i+1≤E.length:=h
 have M:FU (E.map f) i [f v]=(E.set i v).map f:=by
  rw[List.map_set,FU,B9];simp[h]
 simp[DT,Rl (I v),I v,J,M]
theorem Ylg(E:List UInt8)(i:Nat)(v:UInt8)(h:i<E.length):DT (some ⟨false,sz,E.map Dn,false⟩) 1 i (Dn v)=some ⟨false,sz,(E.set i v).map Dn,false⟩:=Yb1 sz Dn (fun _=>rfl) E i v h
theorem Ylf(E:List UInt32)(i:Nat)(v:UInt32)(h:i<E.length):DT (some ⟨false,sz,E.map wD,false⟩) 1 i (wD v)=some ⟨false,sz,(E.set i v).map wD,false⟩:=Yb1 sz wD (fun _=>rfl) E i v h
theorem YE{α:Type}(f:α→D)(I:∀ a,(f a).isCell=true)(E:List α):(E.map f).all D.isCell=true:=by
 grind
theorem Ylh(E vs:List UInt32)(n:Nat)(h:E.length=n)(I:vs.length=n):DT (some ⟨false,sz,E.map wD,false⟩) n 0 (.agg (vs.map wD))=some ⟨false,sz,vs.map wD,false⟩:=
 LS sz _ _ n (by simpa using h) (by simpa using I) (YE wD (fun _=>rfl) vs)
theorem Yli(E vs:List UInt8)(n:Nat)(h:E.length=n)(I:vs.length=n):DT (some ⟨false,sz,E.map Dn,false⟩) n 0 (.agg (vs.map Dn))=some ⟨false,sz,vs.map Dn,false⟩:=
 LS sz _ _ n (by simpa using h) (by simpa using I) (YE Dn (fun _=>rfl) vs)
end
theorem yX3(st:St)(n:Nat)(ag:Bool)(key tot i off:Nat):FF st n ag (.rptr key tot i off)=if !ag && n != 1 then none else(st[key]?).bind fun o=>if o.row && o.els.length == tot then(o.els[i]?).bind fun el=>if off+n≤el.cells.length then some (.mk ag ((el.cells.drop off).take n))else none else none:=by
 simp only[FF];grind
theorem yX8(st:St)(d:Dig):FF st 32 true (.eptr (C9 d) 0)=some (C9 d):=by
 simp[FF,Qf,D2,T8,bI]
theorem Q0(k:IntKind)(n:Int)(h:0≤n):F8 (.int k n)=some n.toNat:=by simp[F8,h]
theorem yYq(k:IntKind):F8 (.int k 0)=some 0:=(rfl)
theorem PZ(st:St)(n key off:Nat)(k:IntKind)(i:Int)(E:0≤i)(J:i<(n:Int)):JH st n 1 (.ptr key off) (.int k i)=some (.ptr key (off+i.toNat)):=by
 have I:i.toNat<n:=by omega
 simp[JH,Q0 k i E,I,FJ]
theorem Ygm(st:St)(n off:Nat)(E:D)(k:IntKind)(i:Int)(I:0≤i)(M:i<(n:Int)):JH st n 1 (.eptr E off) (.int k i)=some (.eptr E (off+i.toNat)):=by
 have J:i.toNat<n:=by omega
 simp[JH,Q0 k i I,J,FJ]
theorem yX6[Inhabited α](st:St)(f:α→D)(E:List α)(i:Nat)(h:i<E.length):FF st 1 false (.eptr (.agg (E.map f)) i)=some (f (E.getD i default)):=by
 have:=zM 1 false f E i h;simpa[FF,DA,D.cells]using this
theorem jf(st:St)(x:D)(h:x.isCell=true):FF st 1 false (.eptr x 0)=some x:=by
 simp[FF,Rl h,D.mk]
theorem fI(st:St)(b:UInt8):FF st 1 false (.eptr (Dn b) 0)=some (Dn b):=jf st _ rfl
theorem yX7(st:St)(k:IntKind)(n:Int):FF st 1 false (.eptr (.int k n) 0)=some (.int k n):=jf st _ rfl
theorem Yoq[Inhabited α](st:St)(sz:Nat)(f:α→D)(l:List α)(t:Bool)(k:IntKind)(i:Int)(E:0≤i)(J:i<(l.length:Int)) :
  GX st sz (.slc sz (l.map f) t) (.int k i)=some (.eptr (f (l.getD i.toNat default)) 0):=by
 have I:i.toNat<l.length:=by omega
 simp only[GX,Q0 k i E,AF,getElem?_getD l i.toNat I,Ag,beq_self_eq_true,if_true]
theorem Ynt(st:St)(sz:Nat)(els:List D)(t:Bool):Fc st false (.slc sz els t)=some (.int .i64 (els.length:Int)):=(rfl)
theorem Yns(st:St)(s:List UInt8):Fc st true (.str s)=some (.int .i64 (s.length:Int)):=(rfl)
theorem Ynu(st:St)(key tot off len:Nat):Fc st false (.row key tot off len)=if Fb st key tot then some (.int .i64 (len:Int))else none:=by
 simp only[Fc,JV,Fm,beq_self_eq_true,if_true];grind
theorem Ymw(st:St)(sz bytes key tot:Nat)(x:D)(o:Obj)(xs:List D)(E:Nat)(I:st[key]?=some o)(J:o.row=true)(M:o.sz=sz)(U:o.els.length=tot)
  (V:Hw st x=some (E,xs)) (Y:E=sz∨xs=[]) (h0:sz≠0) (hb:(tot+xs.length)*bytes≤140737488355328) (hl:tot+xs.length≤4294967296) :
  Em st sz bytes (.row key tot 0 tot) x=some (.row key (tot+xs.length) 0 (tot+xs.length),st.set key {o with els:=o.els++xs}):=by
 have e:(!(E == sz || xs.isEmpty) || sz == 0)=false:=by
  grind
 simp only[Em,V,e,I,J,M,U,hb,hl,beq_self_eq_true,AA,decide_true,if_true,Ap,if_false]
theorem rf(st:St)(sz bytes E:Nat)(els:List D)(x:D)(xs:List D)(I:Nat)(J:Hw st x=some (I,xs))(hs:I=sz∨xs=[])(V:E=sz∨els=[])(h0:sz≠0)(Y:xs≠[])
  (hb:(els.length+xs.length)*bytes≤140737488355328) (hl:els.length+xs.length≤4294967296) :
  Em st sz bytes (.slc E els true) x=some (.row st.length (els.length+xs.length) 0 (els.length+xs.length),st++[{row:=true,sz,els:=els++xs,lent:=false}]):=by
 have M:xs.isEmpty=false:=by cases xs <;> simp_all
 have e:(!(I == sz || false) || sz == 0)=false:=by
  grind
 have U:(E == sz || els.isEmpty)=true:=by
  grind
 simp only[Em,J,e,M,U,hb,hl,AA,decide_true,if_true,Ap,if_false]
theorem rh(st:St)(sz bytes E:Nat)(els:List D)(x:D)(I:Nat)(J:Hw st x=some (I,[]))(M:sz≠0) :
  Em st sz bytes (.slc E els true) x=some (.slc E els true,st):=by
 simp[Em,J,M]
theorem vM:∀ (l:List D),JU 1 false l l.length=l
 |[]=>rfl
 |a::l=>by simp[JU,D.mk,vM l]
def D6(sz key:Nat)(els:List D):D:=if els.isEmpty then .slc sz [] true else .row key els.length 0 els.length
def Dz(sz:Nat)(els:List D):St:=if els.isEmpty then []else [{row:=true,sz,els,lent:=false}]
theorem pI(sz key:Nat):D6 sz key []=.slc sz [] true:=(rfl)
theorem Ymx(st:St)(sz sz0 bytes:Nat)(els xs:List D)(x:D)(E:Nat)(I:Hw (st++Dz sz els) x=some (E,xs))(J:E=sz∨xs=[])(hs0:sz≠0)
  (hb:(els.length+xs.length)*bytes≤140737488355328) (hl:els.length+xs.length≤4294967296) :
  Em (st++Dz sz els) sz bytes (D6 sz0 st.length els) x=some (D6 sz0 st.length (els++xs),st++Dz sz (els++xs)):=by
 cases els with
 |nil=>
  cases xs with
  |nil=>
   rw[pI,rh _ _ _ _ _ _ E I hs0];rfl
  |cons a l=>
   rw[pI,rf _ _ _ _ _ _ (a::l) E I J (.inr rfl) hs0 (by simp) (by simpa using hb) (by simpa using hl)];simp[D6,Dz]
 |cons e r=>
  have M:(st++Dz sz (e::r))[st.length]?=some {row:=true,sz,els:=e::r,lent:=false}:=by simp[Dz]
  have:=Ymw (st++Dz sz (e::r)) sz bytes st.length (e::r).length x _ xs E M rfl rfl rfl I J hs0 hb hl;simp only[D6,List.isEmpty_cons,Ap,if_false,Ae]at this ⊢;rw[this];simp[Dz,Nat.add_right_comm]
theorem YB2(fr:Frame)(s t:Nat)(d:D):(fr.set s d) t=if t=s then d else fr t:=(rfl)
theorem YCw(s t:Nat)(d:D)(r:List (Nat×D)):Gn ((s,d)::r) t=if t=s then d else Gn r t:=(rfl)
attribute [push_cast] YGd yXp Yq Ykw yW8 yW9 EZ Yty VQ YEi Ywr Yyk Yps YE1 Wz Yqt Yj1 Yax Yaw yTd Yhl Yd9 Yd8 Ygy Yo7 yZu yZv Yq1 Yq0 Yqy Yj5 Yqx Yqz Yqw Yo8 Yg1 Ygz Yo6 Yg2 yZt Yg3 Yg4 Yuw Ylx Ylw Option.isNone_none Option.isNone_some
attribute [push_cast] zU Yvm Ynb Yoo Ygj Yku yW5 yW6 Ywv Yoc YDv Ywp Yws Yob W5 WY YDk W6 W7 YDu YDm YDj YDl W8 W9 Xb lF YDs Ywo Ywm Yoa W3 YDr YDp YDq W1 YDo W0 YDn Xa lG WZ Ywn Ywt Ywu Ywq YDt W4 Ymk Yml YB2 Wq Ws YCw YF2 YF1 YF0 YFz YFy YFx YFw YFv YF8 Yp Ym Ybo Ybp Yk7 YGc Yzx Ym4 Yvi YCh YGb Yn Ylz Yc2 rE tU Yke
attribute [push_cast] Yw5 Xw YEt yYf yRm yYg YEs YEr YEq Yw4 qE YEa rC D2 I0 Qf uP bI Yzq Yvu YCv T8 Yza yG yX8 Ydo Ydm MO qH Ywf SQ zM yY9 Yum Yul Yun Y0 Ylg Ylf Ylh Yli fI yX7 yX6 Ynt Yns
theorem zC(st:St)(k:IntKind)(n:Int):DX st (.int k n)=some (.int k n):=(rfl)
theorem Yol(st:St)(b:Bool):DX st (.bool b)=some (.bool b):=(rfl)
theorem Ywz(st:St)(s:List UInt8):DX st (.str s)=some (.str s):=(rfl)
theorem Yw0(st:St)(sz:Nat)(els:List D)(t:Bool):DX st (.slc sz els t)=some (.slc (nz sz els) els false):=(rfl)
theorem Yw1(st:St)(key tot off len:Nat):DX st (.row key tot off len)=(Ic st key tot off len).map fun p=>.slc (nz p.1 p.2) p.2 false:=(rfl)
theorem zz(st:St)(l:List D):DX st (.agg l)=(D5 st l).map .agg:=(rfl)
theorem Yom(st:St):D5 st []=some []:=(rfl)
theorem tc(st:St)(d:D)(l:List D):D5 st (d::l)=(DC st d).bind fun x=>(D5 st l).map (x::·):=by
 simp only[D5]
 cases DC st d with
 |none=>rfl
 |some x=>cases D5 st l <;> rfl
theorem Yof(st:St):Eo st []=some []:=(rfl)
theorem Yf8(st:St)(d:D)(l:List D):Eo st (d::l)=(DX st d).bind fun x=>(Eo st l).map (x::·):=by
 simp only[Eo]
 cases DX st d with
 |none=>rfl
 |some x=>cases Eo st l <;> rfl
theorem qt(st:St)(d:Dig):D5 st (C8 d)=some (C8 d):=SY st (UM d)
theorem Yo0(s:PS):F5 s []=some []:=(rfl)
theorem Ygu(s:PS)(r:PRes)(l:List PRes):F5 s (r::l)=(r.get s).bind fun x=>(F5 s l).map (x::·):=by
 simp only[F5]
 cases r.get s with
 |none=>rfl
 |some x=>cases F5 s l <;> rfl
theorem Yxt(fr:Frame)(st:St)(t:Nat):PRes.get ⟨fr,st⟩ (.tmp t)=DX st (fr t):=(rfl)
theorem Yo3(fr:Frame)(st:St)(t n:Nat)(ag:Bool):PRes.get ⟨fr,st⟩ (.cell t n ag)=(FF st n ag (fr t)).bind fun d=>DX st d:=by
 simp only[PRes.get];grind
theorem ji(s:PS):D9 s []=some []:=(rfl)
theorem jj(fr:Frame)(st:St)(t:Nat)(l:List PRes):D9 ⟨fr,st⟩ (.tmp t::l)=(D9 ⟨fr,st⟩ l).map (fr t::·):=(rfl)
theorem Ym0(d:D):DU [d]=d:=(rfl)
theorem Ymz(a b:D)(l:List D):DU (a::b::l)=.tup (a::b::l):=(rfl)
theorem Ym1:DU []=.tup []:=(rfl)
theorem Yeo(k:IntKind)(n:Int):(D.int k n).noRef=true:=(rfl)
theorem yYn(b:Bool):(D.bool b).noRef=true:=(rfl)
theorem Yen(sz:Nat)(els:List D)(t:Bool):(D.slc sz els t).noRef=false:=(rfl)
theorem qG(k:IntKind)(n:Int):keys (.int k n)=[]:=(rfl)
theorem Yft(b:Bool):keys (.bool b)=[]:=(rfl)
theorem Yn3(s:List UInt8):keys (.str s)=[]:=(rfl)
theorem Yn4(sz:Nat)(els:List D)(t:Bool):keys (.slc sz els t)=[]:=(rfl)
theorem Yn5(key tot off len:Nat):keys (.row key tot off len)=[key]:=(rfl)
theorem YD9(k:IntKind)(n:Int):hk (.int k n)=[]:=(rfl)
theorem Yxg(b:Bool):hk (.bool b)=[]:=(rfl)
theorem YD3(s:List UInt8):hk (.str s)=[]:=(rfl)
theorem YD4(sz:Nat)(els:List D)(t:Bool):hk (.slc sz els t)=[]:=(rfl)
theorem YD5(key tot off len:Nat):hk (.row key tot off len)=[key]:=(rfl)
theorem YD6(key off:Nat):hk (.ptr key off)=[key]:=(rfl)
theorem YD2(l:List D):hk (.tup l)=[]:=(rfl)
theorem Yxd:hk .junk=[]:=(rfl)
theorem Yu2(n:Nat)(σ:List Nat)(k:IntKind)(m:Int):Ez n σ (.int k m)=.int k m:=(rfl)
theorem Yl8(n:Nat)(σ:List Nat)(b:Bool):Ez n σ (.bool b)=.bool b:=(rfl)
theorem Yuy(n:Nat)(σ:List Nat)(s:List UInt8):Ez n σ (.str s)=.str s:=(rfl)
theorem Yuz(n:Nat)(σ:List Nat)(sz:Nat)(els:List D)(t:Bool):Ez n σ (.slc sz els t)=.slc sz els t:=(rfl)
theorem Yu0(n:Nat)(σ:List Nat)(key tot off len:Nat):Ez n σ (.row key tot off len)=JL (fun k=>.row k tot off len) (E6 n σ key):=(rfl)
theorem Yu1(n:Nat)(σ:List Nat)(key off:Nat):Ez n σ (.ptr key off)=JL (fun k=>.ptr k off) (E6 n σ key):=(rfl)
theorem yRp(f:Nat→D)(k:Nat):JL f (some k)=f k:=(rfl)
theorem Yqp(k:IntKind)(n:Int):DH (.int k n)=some [.int k n]:=(rfl)
theorem Yju(b:Bool):DH (.bool b)=some [.bool b]:=(rfl)
theorem Yqo(sz:Nat)(els:List D)(t:Bool):DH (.slc sz els t)=some [.slc sz els t]:=(rfl)
theorem Yh9(k:IntKind)(n:Int):(D.int k n).cells=[.int k n]:=(rfl)
theorem Yag(b:Bool):(D.bool b).cells=[.bool b]:=(rfl)
theorem Yh6(sz:Nat)(els:List D)(t:Bool):(D.slc sz els t).cells=[.slc sz els t]:=(rfl)
theorem Yh7(key tot off len:Nat):(D.row key tot off len).cells=[.row key tot off len]:=(rfl)
theorem Yia(l:List D):(D.agg l).cells=l:=(rfl)
theorem fh(k:IntKind)(n:Int):(D.int k n).isCell=true:=(rfl)
theorem ySe(b:Bool):(D.bool b).isCell=true:=(rfl)
theorem yZg(sz:Nat)(els:List D)(t:Bool):(D.slc sz els t).isCell=true:=(rfl)
theorem yZh(key tot off len:Nat):(D.row key tot off len).isCell=true:=(rfl)
theorem YA3(b:Bool):NC .not (.bool b)=some (.bool !b):=(rfl)
theorem Yze(k:IntKind)(a b:Int):Ds .lss (.int k a) (.int k b)=some (.bool (decide (a<b))):=by simp only[Ds,if_true,J7,Ag]
theorem Yzf(k:IntKind)(a b:Int):Ds .leq (.int k a) (.int k b)=some (.bool (decide (a≤b))):=by simp only[Ds,if_true,J7,Ag]
theorem Yzg(k:IntKind)(a b:Int):Ds .gtr (.int k a) (.int k b)=some (.bool (decide (b<a))):=by simp only[Ds,if_true,J7,Ag,gt_iff_lt]
theorem Yzh(k:IntKind)(a b:Int):Ds .geq (.int k a) (.int k b)=some (.bool (decide (b≤a))):=by simp only[Ds,if_true,J7,Ag,ge_iff_le]
theorem yI(k:IntKind)(a b:Int):Ds .eql (.int k a) (.int k b)=some (.bool (decide (a=b))):=by
 simp only[Ds,if_true,J7,Ag];rfl
theorem Yzd(k:IntKind)(a b:Int):Ds .neq (.int k a) (.int k b)=some (.bool (!decide (a=b))):=by
 simp only[Ds,if_true,J7,Ag];rfl
theorem Yqs(E a b:Bool):ND E (.bool a) (.bool b)=some (.bool ((a == b) != E)):=(rfl)
theorem YCu(k k':IntKind)(a b:Int):TK true (.int k a) (.int k' b)=some (.int k (max a b)):=by
 simp only[TK,if_true]
 congr 2
 omega
theorem YCt(k k':IntKind)(a b:Int):TK false (.int k a) (.int k' b)=some (.int k (min a b)):=by
 simp only[TK,Ap,if_false]
 congr 2
 omega
theorem Yvt(k k' E:IntKind)(a b c:Int):Pg true (.int k a) (.int k' b) (.int E c)=some (.int k (max (max a b) c)):=by
 simp only[Pg,NH,if_true]
 congr 2
 omega
theorem Ymr(st:St)(off key o:Nat):FJ st off (.ptr key o)=some (.ptr key (o+off)):=(rfl)
theorem Yd1(st:St)(off:Nat)(E:D)(o:Nat):FJ st off (.eptr E o)=some (.eptr E (o+off)):=(rfl)
theorem Ynr(st:St):lend [] st=st:=(rfl)
theorem Yfa(k:Nat)(r:List Nat)(st:St):lend (k::r) st=lend r (st.modify k fun o=>{o with lent:=true}):=(rfl)
theorem ySc(b:Bool)(x:St):(if b=true then x else x)=x:=by cases b <;> rfl
theorem vn(n sz:Nat)(ag:Bool)(key off:Nat)(h:0<n):PR n sz ag (.ptr key off) none none=some (.bsl key off n sz ag):=by
 have:¬ 0=n:=by omega
 simp[PR,GP,this]
attribute [push_cast] zC Yol Ywz Yw0 Yw1 zz Yom tc Yof Yf8 qt Yo0 Ygu Yxt Yo3 ji jj Ym0 Ymz Ym1 Yeo yYn Yen qG Yft Yn3 Yn4 Yn5 YD9 Yxg YD3 YD4 YD5 YD6 YD2 Yxd Yu2 Yl8 Yuy Yuz Yu0 Yu1 yRp Yqp Yju Yqo Yh9 Yag Yh6 Yh7 Yia fh ySe yZg yZh YA3 Yze Yzf Yzg Yzh yI Yzd Yqs YCu YCt Yvt Ymr Yd1 Ynr Yfa ySc Option.map_some Option.map_none Option.bind_some Option.bind_none List.map_cons List.map_nil List.flatMap_cons List.flatMap_nil List.append_nil List.nil_append List.cons_append List.getElem?_cons_zero List.getElem?_cons_succ List.set_cons_zero List.set_cons_succ List.modify_zero_cons List.modify_succ_cons List.length_cons List.length_nil List.length_map List.take_zero List.take_succ_cons List.all_cons List.all_nil Nat.zero_add Nat.add_zero Bool.not_true Bool.not_false Bool.and_self Bool.true_and Bool.and_true Bool.false_and Bool.and_false Bool.or_false Bool.false_or Bool.true_or Bool.or_true Bool.not_not if_true if_false decide_true decide_false beq_self_eq_true Bool.false_eq_true Bool.true_eq_false ne_eq bne_self_eq_false Bool.bne_false Bool.bne_true Nat.lt_irrefl Nat.le_refl
def Ns(fr:Frame):List Nat→List Nat
 |[]=>[]
 |k::r=>hk (fr k)++Ns fr r
def Kh(fr:Frame)(n:Nat)(σ:List Nat):List Nat→List (Nat×D)
 |[]=>[]
 |k::r=>(k,Ez n σ (fr k))::Kh fr n σ r
def JF:St→List Nat
 |[]=>[]
 |o::r=>(if o.row then []else o.els.flatMap hk)++JF r
def L4(n:Nat)(σ:List Nat)(st:St):List Nat→St
 |[]=>[]
 |k::r=>Fq n σ (st.getD k default)::L4 n σ st r
def J5(n:Nat)(σ:List Nat):St→St
 |[]=>[]
 |o::r=>Fq n σ o::J5 n σ r
def Ut(keep:List Nat)(n m:Nat)(l:List Nat)(fr:Frame)(st:St):PS:=restrictAt keep n (Fa n m l []) ⟨fr,st⟩
theorem iM(fr:Frame):∀ keep:List Nat,Ns fr keep=keep.flatMap fun k=>hk (fr k)
 |[]=>rfl
 |k::r=>by rw[Ns,Au,iM fr r]
theorem yJ:∀ st:St,JF st=st.flatMap fun o=>if o.row then []else o.els.flatMap hk
 |[]=>rfl
 |k::r=>by rw[JF,Au,yJ r]
theorem TT(fr:Frame)(n:Nat)(σ:List Nat):∀ keep:List Nat,Kh fr n σ keep=keep.map fun k=>(k,Ez n σ (fr k))
 |[]=>rfl
 |k::r=>by rw[Kh,Ax,TT fr n σ r]
theorem jC(n:Nat)(σ:List Nat)(st:St):∀ l:List Nat,L4 n σ st l=l.map fun k=>Fq n σ (st.getD k default)
 |[]=>rfl
 |k::r=>by rw[L4,Ax,jC n σ st r]
theorem cI(n:Nat)(σ:List Nat):∀ st:St,J5 n σ st=st.map (Fq n σ)
 |[]=>rfl
 |k::r=>by rw[J5,Ax,cI n σ r]
def ky(keep:List Nat)(n:Nat)(fr:Frame)(st:St):PS:=Ut keep n st.length (Ns fr keep++JF (st.take n)) fr st
theorem yQ5(keep:List Nat)(n:Nat)(fr:Frame)(st:St):restrict keep n ⟨fr,st⟩=ky keep (if n≤st.length then n else st.length) fr st:=by
 simp only[restrict,ky,Ut,Vb,iM,yJ]
theorem yMu(keep:List Nat)(n:Nat)(fr:Frame)(st:St):ky keep n fr st=Ut keep n st.length (Ns fr keep++JF (st.take n)) fr st:=(rfl)
def Uu(keep:List Nat)(n:Nat)(σ:List Nat)(fr:Frame)(st:St):PS:=⟨Gn (Kh fr n σ keep),J5 n σ (st.take n)++L4 n σ st σ⟩
theorem yMv(keep:List Nat)(n m:Nat)(l:List Nat)(fr:Frame)(st:St):Ut keep n m l fr st=Uu keep n (Fa n m l []) fr st:=by
 simp only[Ut,restrictAt,Uu,TT,picked,cI,jC]
theorem yJn(keep:List Nat)(n:Nat)(σ:List Nat)(fr:Frame)(st:St):restrictAt keep n σ ⟨fr,st⟩=Uu keep n σ fr st:=by
 simp only[restrictAt,Uu,TT,picked,cI,jC]
theorem yMt(keep:List Nat)(n:Nat)(σ:List Nat)(fr:Frame)(st:St):Uu keep n σ fr st=⟨Gn (Kh fr n σ keep),J5 n σ (st.take n)++L4 n σ st σ⟩:=(rfl)
theorem Ygs(fr:Frame):Ns fr []=[]:=(rfl)
theorem yZo(fr:Frame)(k:Nat)(r:List Nat):Ns fr (k::r)=hk (fr k)++Ns fr r:=(rfl)
theorem Ygt(fr:Frame)(n:Nat)(σ:List Nat):Kh fr n σ []=[]:=(rfl)
theorem yZp(fr:Frame)(n:Nat)(σ:List Nat)(k:Nat)(r:List Nat):Kh fr n σ (k::r)=(k,Ez n σ (fr k))::Kh fr n σ r:=(rfl)
theorem Yqm:JF []=[]:=(rfl)
theorem Yql(sz:Nat)(els:List D)(lent:Bool)(r:St):JF ({row:=true,sz,els,lent}::r)=JF r:=(rfl)
theorem Yqn(sz:Nat)(els:List D)(lent:Bool)(r:St):JF ({row:=false,sz,els,lent}::r)=els.flatMap hk++JF r:=(rfl)
theorem Ydy(n:Nat)(σ:List Nat)(st:St):L4 n σ st []=[]:=(rfl)
theorem yYe(n:Nat)(σ:List Nat)(st:St)(k:Nat)(r:List Nat):L4 n σ st (k::r)=Fq n σ (st.getD k default)::L4 n σ st r:=(rfl)
theorem Yl9(n:Nat)(σ:List Nat):J5 n σ []=[]:=(rfl)
theorem Yda(n:Nat)(σ:List Nat)(o:Obj)(r:St):J5 n σ (o::r)=Fq n σ o::J5 n σ r:=(rfl)
theorem Ykz(lo hi:Nat)(E:List Nat):Fa lo hi [] E=E:=(rfl)
theorem Ybg(lo hi k:Nat)(r E:List Nat):Fa lo hi (k::r) E=Fa lo hi r (if lo≤k∧k<hi∧E.contains k=false then E++[k]else E):=(rfl)
theorem Yu7(n:Nat)(σ:List Nat)(key:Nat):E6 n σ key=if key<n then some key else Qv σ n key:=(rfl)
theorem Ymn(k k':Nat)(r:List Nat)(b:Nat):Qv (k::r) b k'=if k'=k then some b else Qv r (b+1) k':=(rfl)
theorem Yma(n:Nat)(σ:List Nat)(sz:Nat)(els:List D)(lent:Bool):Fq n σ {row:=true,sz,els,lent}={row:=true,sz,els,lent}:=(rfl)
theorem Ymb(n:Nat)(σ:List Nat)(sz:Nat)(els:List D)(lent:Bool):Fq n σ {row:=false,sz,els,lent}={row:=false,sz,els:=els.map (Ez n σ),lent}:=(rfl)
theorem Ymg(n:Nat)(σ:List Nat)(k:IntKind)(m:Int):ER n σ (.int k m)=.int k m:=(rfl)
theorem Yde(n:Nat)(σ:List Nat)(b:Bool):ER n σ (.bool b)=.bool b:=(rfl)
theorem Yme(n:Nat)(σ:List Nat)(sz:Nat)(els:List D)(t:Bool):ER n σ (.slc sz els t)=.slc sz els t:=(rfl)
theorem Ymd(n:Nat)(σ:List Nat)(s:List UInt8):ER n σ (.str s)=.str s:=(rfl)
theorem Ymf(n:Nat)(σ:List Nat)(key tot off len:Nat):ER n σ (.row key tot off len)=JL (fun k=>.row k tot off len) (E6 n σ key):=(rfl)
theorem Yxk(k:IntKind)(m:Int):DE (.int k m)=[]:=(rfl)
theorem Yot(b:Bool):DE (.bool b)=[]:=(rfl)
theorem Yxi(sz:Nat)(els:List D)(t:Bool):DE (.slc sz els t)=[]:=(rfl)
theorem Yxh(s:List UInt8):DE (.str s)=[]:=(rfl)
theorem Yxj(key tot off len:Nat):DE (.row key tot off len)=[key]:=(rfl)
theorem YEd(key off m sz:Nat)(ag:Bool):hk (.bsl key off m sz ag)=[key]:=(rfl)
theorem Yw8(key tot i off:Nat):hk (.rptr key tot i off)=[key]:=(rfl)
theorem Yxc(key:Nat):hk (.mapv key)=[key]:=(rfl)
theorem Yxb:hk .nilf=[]:=(rfl)
theorem Yw9:hk .nilp=[]:=(rfl)
theorem Yxa:hk .nilm=[]:=(rfl)
theorem Yxe(l:List (Int×Nat)):hk (.gmap l)=[]:=(rfl)
theorem Yl7(n:Nat)(σ:List Nat)(l:List (Int×Nat)):Ez n σ (.gmap l)=.gmap l:=(rfl)
theorem Yl3(n:Nat)(σ:List Nat):Ez n σ .nilm=.nilm:=(rfl)
theorem Yl6(n:Nat)(σ:List Nat)(key:Nat):Ez n σ (.mapv key)=JL .mapv (E6 n σ key):=(rfl)
theorem Yl4(n:Nat)(σ:List Nat):Ez n σ .nilf=.nilf:=(rfl)
theorem Yl2(n:Nat)(σ:List Nat):Ez n σ .nilp=.nilp:=(rfl)
def S9(keep:List Nat)(n:Nat)[Inv:InvC][Q:QC](e:Ex)(fr:Frame)(st:St):Prop:=match e with
 |.next=>Inv.run (restrict keep n ⟨fr,st⟩)
 |e=>Q.run e fr st
def aY(s:PS)[Inv:InvC]:Prop:=Inv.run s
theorem yYx(keep:List Nat)(n:Nat)(E:PS→Prop)(Q:QC)(fr:Frame)(st:St):@S9 keep n ⟨E⟩ Q .next fr st=@aY (restrict keep n ⟨fr,st⟩) ⟨E⟩:=(rfl)
theorem yYy(keep:List Nat)(n:Nat)(E:InvC)(Q:Ex→Frame→St→Prop)(I:Nat)(fr:Frame)(st:St):@S9 keep n E ⟨Q⟩ (.exit I) fr st=Q (.exit I) fr st:=(rfl)
theorem Ye3(keep:List Nat)(n:Nat)(E:InvC)(Q:Ex→Frame→St→Prop)(fr:Frame)(st:St):@S9 keep n E ⟨Q⟩ .ret fr st=Q .ret fr st:=(rfl)
theorem yR0(keep:List Nat)(n:Nat)(E:InvC)(Q:Ex→Frame→St→Prop)(t:Nat)(d:D)(fr:Frame)(st:St):@S9 keep n E ⟨Q⟩ (.panic t d) fr st=Q (.panic t d) fr st:=(rfl)
theorem F0(E:ι→List (Nat×D))(I:ι→St)(P:ι→Prop)(μ:ι→Nat)(J:ι)
  (U:restrict keep st.length ⟨fr,st⟩=⟨Gn (E J),I J⟩) (V:P J)
  (M:∀ i,P i→@wW G T c (Gn (E i)) (I i) ⟨@S9 keep st.length ⟨fun s=>∃ j,(P j∧μ j<μ i)∧s=⟨Gn (E j),I j⟩⟩ ⟨Q⟩⟩):@wW G T (.loop keep c) fr st ⟨Q⟩:=by
 refine Tg (YGa E I P μ J U V fun i hi=>K9 c _ _ _ _ (HQ (M i hi)) fun e Y st' h=>?_)
 cases e with
 |next=>
  obtain⟨j,⟨h1,h2⟩,h3⟩:=h;grind
 |exit id=>exact h
 |ret=>exact h
 |panic t d=>exact h
theorem E5{E:ι→List (Nat×D)}{I:ι→St}{P m:ι→Prop}{s:PS}(j:ι)(J:P j)(M:m j)(U:s=⟨Gn (E j),I j⟩):@aY s ⟨fun s=>∃ j,(P j∧m j)∧s=⟨Gn (E j),I j⟩⟩:=⟨j,⟨J,M⟩,U⟩
def Tn(keep:List Nat)[Inv:InvC][Q:QC](e:Ex)(fr:Frame)(st:St):Prop:=match e with
 |.next=>Inv.run (keepAll keep ⟨fr,st⟩)
 |e=>Q.run e fr st
theorem yR1(keep:List Nat)(E:PS→Prop)(Q:QC)(fr:Frame)(st:St):@Tn keep ⟨E⟩ Q .next fr st=@aY (keepAll keep ⟨fr,st⟩) ⟨E⟩:=(rfl)
theorem yR2(keep:List Nat)(E:InvC)(Q:Ex→Frame→St→Prop)(I:Nat)(fr:Frame)(st:St):@Tn keep E ⟨Q⟩ (.exit I) fr st=Q (.exit I) fr st:=(rfl)
theorem yYz(keep:List Nat)(E:InvC)(Q:Ex→Frame→St→Prop)(fr:Frame)(st:St):@Tn keep E ⟨Q⟩ .ret fr st=Q .ret fr st:=(rfl)
theorem yNm(keep:List Nat)(E:InvC)(Q:Ex→Frame→St→Prop)(t:Nat)(d:D)(fr:Frame)(st:St):@Tn keep E ⟨Q⟩ (.panic t d) fr st=Q (.panic t d) fr st:=(rfl)
def S3(fr:Frame):List Nat→List (Nat×D)
 |[]=>[]
 |k::l=>(k,fr k)::S3 fr l
theorem Yfw(fr:Frame):S3 fr []=[]:=(rfl)
theorem yZd(fr:Frame)(k:Nat)(l:List Nat):S3 fr (k::l)=(k,fr k)::S3 fr l:=(rfl)
theorem qz(fr:Frame):∀ l,l.map (fun k=>(k,fr k))=S3 fr l
 |[]=>rfl
 |k::l=>by rw[Ax,qz fr l]; rfl
theorem yZf(keep:List Nat)(fr:Frame)(st:St):keepAll keep ⟨fr,st⟩=⟨Gn (S3 fr keep),st⟩:=by
 rw[← qz]; rfl
theorem Yra(E:ι→List (Nat×D))(I:ι→St)(P:ι→Prop)(μ:ι→Nat)(J:ι)
  (U:keepAll keep ⟨fr,st⟩=⟨Gn (E J),I J⟩) (V:P J)
  (M:∀ i,P i→@wW G T c (Gn (E i)) (I i) ⟨@Tn keep ⟨fun s=>∃ j,(P j∧μ j<μ i)∧s=⟨Gn (E j),I j⟩⟩ ⟨Q⟩⟩):@wW G T (.loopA keep c) fr st ⟨Q⟩:=by
 refine Tg (Yzw E I P μ J U V fun i hi=>K9 c _ _ _ _ (HQ (M i hi)) fun e Y st' h=>?_)
 cases e with
 |next=>
  obtain⟨j,⟨h1,h2⟩,h3⟩:=h;grind
 |exit id=>exact h
 |ret=>exact h
 |panic t d=>exact h
def Ma:PC→Bool
 |.seq a b | .cond _ a b=>Ma a && Ma b
 |.block _ c=>Ma c
 |.loop _ _ | .loopA _ _ | .range _ _ _ _ | .alt _ _=>false
 |_=>true
theorem vR(m J:Nat):∀ (c:PC),Ma c=true→∀ s,c.exec G T m s=c.exec G T J s:=by
 intro c
 induction c with
 |seq a b E I=>
  intro h s;simp only[Ma,Af]at h;simp only[PC.exec,E h.1 s];grind
 |cond x a b E I=>
  intro h s;simp only[Ma,Af]at h;simp only[PC.exec,E h.1 s,I h.2 s]
 |block id c M=>
  intro h s;simp only[Ma]at h;simp only[PC.exec,M h s]
 |loop=>intro h; simp[Ma]at h
 |loopA=>intro h; simp[Ma]at h
 |range=>intro h; simp[Ma]at h
 |alt=>intro h; simp[Ma]at h
 |_=>intro _ s; rfl
def Vd(k:Nat)(r:D)(st':St):Ex→St→Prop
 |.next,st2=>r=.bool true∧st'=st2.set k (recO 0)
 |.ret,st2=>r=.bool false∧st'=st2.set k (recO 1)
 |_,_=>False
theorem dF{a b:PC}(J:Ma a=true)(hb:Ma b=true){k:Nat}{r:D}(hl:ds.length=ps.length)
  (h:@wW G T a (J4 fr ps ds) st ⟨fun e fr1 st1=>e=.next∧recAt st1 k=some 0∧@wW G T b fr1 (st1.set k (recO 2)) ⟨fun e _ st2=>Vd k r st' e st2⟩⟩) (m:Nat) :
  Lp (a.exec G T m) (b.exec G T m) fr ps k ds st=some (r,st'):=by
 obtain⟨n,e,fr1,st1,M,rfl,U,V⟩:=Lr _ _ _ _ (HQ h);obtain⟨I,Y,fr2,st2,h3,E⟩:=Lr _ _ _ _ (HQ V);unfold Lp;rw[if_pos hl,vR m n a J,M n (Ay _)];simp only;rw[if_pos U,vR m I b hb,h3 I (Ay _)]
 cases Y with
 |next=>obtain⟨rfl,rfl⟩:=E; rfl
 |ret=>obtain⟨rfl,rfl⟩:=E; rfl
 |exit id=>exact E.elim
 |panic t d=>exact E.elim
theorem gp{x:PA}{a b:PC}{f:Nat}{E:List D}{sp:(List D→St→Option (D×St))→List D→St→Option (D×St)}{e:Ex}
  (I:Du G fr x=.clo f E) (J:f<5000000) (M:T.r f=some sp) (h:∀ m,sp (Lp (a.exec G T m) (b.exec G T m) fr ps st.length) E (st++[recO 0])=some (d,st')) (U:Yd st' st.length=some e) (V:Q e fr (st'.set st.length (recO 2))):@wW G T (.range x ps a b) fr st ⟨Q⟩:=by
 refine Tg (Yrb (fun m=>?_) U V);simp only[TX,I,if_pos J,M,h m,Ag]
theorem kL(T:Tbl)(l:Nat)(y:List D→St→Option (D×St)):(Qx T l y).p=T.p:=(rfl)
theorem kN(T:Tbl)(l:Nat)(y:List D→St→Option (D×St)):(Qx T l y).i=T.i:=(rfl)
theorem kM(T:Tbl)(l:Nat)(y:List D→St→Option (D×St)):(Qx T l y).m=T.m:=(rfl)
theorem zl(T:Tbl)(f:Nat)(E:List D)(h:f<5000000):Kd T (.clo f E)=(T.i f).map fun sp=>(sp,[],E):=by
 simp only[Kd,if_pos h]
theorem Qe(T:Tbl)(f f':Nat)(E:List D)(h:f=f'+5000000)(I:f'<5000000):Kd T (.clo f E)=(T.i f').map fun sp=>(sp,E,[]):=by
 subst h;simp only[Kd,if_neg (show ¬ f'+5000000<5000000 by omega),if_pos (show f'+5000000<10000000 by omega),Cq]
theorem Vu(f:Nat)(E ds:List D)(h:f<5000000):Po (.clo f E) ds=some (f,ds++E):=by
 simp only[Po,if_pos h]
theorem Yab(T:Tbl)(l:Nat)(y:List D→St→Option (D×St)):Kd (Qx T l y) (.clo (10000000+l) [])=some (y,[],[]):=by
 unfold Kd;have E:¬ 10000000+l<5000000:=by omega
 simp only[E,Nat.not_lt.2 (Nat.le_add_right 10000000 l),if_false,CD,if_true,Nat.add_sub_cancel_left,Qx]
theorem Yf4(k:IntKind)(n:Int):L9 (.int k n)=true:=(rfl)
theorem yZi(k:IntKind)(n:Int):L9 (.agg [.int k n])=true:=(rfl)
attribute [push_cast] yXe YF9 Yo Yd6 Ybb yP2 yP3 yW7 Yna Yeh yYt yYu yYr yYs yXr Yl1 Yc5 yXt Yc6 yXu yQ3 Yf4 yZi
attribute [irreducible] Tn
attribute [push_cast] yR1 yR2 yYz Yfw yZd yZf kL kN kM zl Qe Yab Vu Ytx
attribute [irreducible] S9 aY
attribute [push_cast] yYx yYy Ye3 yR0 yNm
attribute [push_cast] YEd Yw8 Yxc Yxb Yw9 Yxa Yxe Yl7 Yl3 Yl6 Yl4 Yl2 Ymc Yor
attribute [push_cast] yJn yQ5 yMu yMv yMt Ygs yZo Ygt yZp Yqm Yql Yqn Ydy yYe Yl9 Yda Ykz Ybg Yu7 Ymn Yma Ymb Ymg Yde Yme Ymd Ymf Yxk Yot Yxi Yxh Yxj List.getD_cons_zero List.getD_cons_succ List.contains_nil List.contains_cons false_and and_false and_true true_and and_self Int.toNat_natCast Int.cast_ofNat_Int Int.toNat_zero Int.toNat_one
noncomputable def Dl{α:Type}(enc:α→List D)(pre:α→Prop)(f:α→D):List D→Option D:=
 fun ds=>@dite _ (∃ a,enc a=ds∧pre a) (Classical.propDecidable _) (fun h=>some (f h.choose)) (fun _=>none)
theorem jr{enc:α→List D}{pre:α→Prop}{f:α→D}(h:Dl enc pre f ds=some d):∃ a,enc a=ds∧pre a∧f a=d:=by
 unfold Dl at h
 split at h
 ·grind
 ·cases h
theorem D7{enc:α→List D}{pre:α→Prop}{f:α→D}(E:∀ a b,enc a=enc b→a=b)(a:α)(I:pre a):Dl enc pre f (enc a)=some (f a):=by
 have J:∃ b,enc b=enc a∧pre b:=⟨a,rfl,I⟩;unfold Dl;grind
def En{α:Type}:List (Nat×α)→Nat→Option α
 |[],_=>none
 |(k,a)::r,n=>if n=k then some a else En r n
def tb(l:List (Nat×(List D→Option D)))(li:List (Nat×(List D→St→Option (D×St))))(lm:List (Nat×(List D→Option ((Nat→D)×(Nat→List Obj)))):=[]):Tbl:={p:=En l,i:=En li,m:=En lm}
theorem kT(l:List (Nat×(List D→Option D)))(li:List (Nat×(List D→St→Option (D×St))))(E:List (Nat×(List D→Option ((Nat→D)×(Nat→List Obj)))))(n:Nat):(tb l li E).p n=En l n:=(rfl)
theorem V9(l:List (Nat×(List D→Option D)))(li:List (Nat×(List D→St→Option (D×St))))(E:List (Nat×(List D→Option ((Nat→D)×(Nat→List Obj)))))(n:Nat):(tb l li E).i n=En li n:=(rfl)
theorem kU(l:List (Nat×(List D→Option D)))(li:List (Nat×(List D→St→Option (D×St))))(E:List (Nat×(List D→Option ((Nat→D)×(Nat→List Obj)))))(n:Nat):(tb l li E).m n=En E n:=(rfl)
theorem Ynp(n:Nat):En ([]:List (Nat×α)) n=none:=(rfl)
theorem tw(k:Nat)(a:α)(r:List (Nat×α))(n:Nat):En ((k,a)::r) n=if n=k then some a else En r n:=(rfl)
theorem JP{α:Type}:∀ {l:List (Nat×α)} {n:Nat} {a:α},En l n=some a→(n,a)∈l
 |[],_,_,h=>by cases h
 |(k,b)::r,n,a,h=>by
  simp only[En]at h
  split at h
  ·grind
  ·exact Ar _ (JP h)
variable {li:List (Nat×(List D→St→Option (D×St)))}{l:List (Nat×(List D→Option D))}{P:Program}
theorem DJ(h:∀ x∈l,Contract P G x.1 x.2)(hi:∀ x∈li,IContract P G x.1 x.2)(I:l.all (fun x=>decide (x.1<50000000))=true:=by rfl):TblOK P G (tb l li):=
 ⟨fun _ _ E=>.inl ⟨of_decide_eq_true (Al.1 I _ (JP E)),h _ (JP E)⟩,fun _ _ E=>hi _ (JP E),fun _ _ E=>(by cases E),fun _ _ E=>(by cases E),fun _ _ E=>(by cases E),fun _ _ E=>(by cases E)⟩
def TF(l:List (Nat×(List D→Option D)))(li:List (Nat×(List D→St→Option (D×St))))(lr:List (Nat×((List D→St→Option (D×St))→List D→St→Option (D×St)))):Tbl:={p:=En l,i:=En li,m:=fun _=>none,r:=En lr}
theorem V0(l:List (Nat×(List D→Option D)))(li:List (Nat×(List D→St→Option (D×St))))(E:List (Nat×((List D→St→Option (D×St))→List D→St→Option (D×St))))(n:Nat):(TF l li E).p n=En l n:=(rfl)
theorem V1(l:List (Nat×(List D→Option D)))(li:List (Nat×(List D→St→Option (D×St))))(E:List (Nat×((List D→St→Option (D×St))→List D→St→Option (D×St))))(n:Nat):(TF l li E).i n=En li n:=(rfl)
theorem VZ(l:List (Nat×(List D→Option D)))(li:List (Nat×(List D→St→Option (D×St))))(E:List (Nat×((List D→St→Option (D×St))→List D→St→Option (D×St))))(n:Nat):(TF l li E).r n=En E n:=(rfl)
theorem yd{I:List (Nat×((List D→St→Option (D×St))→List D→St→Option (D×St)))}(h:∀ x∈l,Contract P G x.1 x.2)(hi:∀ x∈li,IContract P G x.1 x.2)
  (M:∀ x∈I,UA P G x.1 x.2) (J:l.all (fun x=>decide (x.1<50000000))=true:=by rfl):TblOK P G (TF l li I):=
 ⟨fun _ _ E=>.inl ⟨of_decide_eq_true (Al.1 J _ (JP E)),h _ (JP E)⟩,fun _ _ E=>hi _ (JP E),fun _ _ E=>(by cases E),fun _ _ E=>M _ (JP E),fun _ _ E=>(by cases E),fun _ _ E=>(by cases E)⟩
def M3(l:List (Nat×(List D→Option D)))(li:List (Nat×(List D→St→Option (D×St))))(lx:List (Nat×(List D→St→Option (Nat×D×St)))):Tbl:={p:=En l,i:=En li,m:=fun _=>none,x:=En lx}
theorem VX(l:List (Nat×(List D→Option D)))(li:List (Nat×(List D→St→Option (D×St))))(E:List (Nat×(List D→St→Option (Nat×D×St))))(n:Nat):(M3 l li E).p n=En l n:=(rfl)
theorem VY(l:List (Nat×(List D→Option D)))(li:List (Nat×(List D→St→Option (D×St))))(E:List (Nat×(List D→St→Option (Nat×D×St))))(n:Nat):(M3 l li E).i n=En li n:=(rfl)
theorem VW(l:List (Nat×(List D→Option D)))(li:List (Nat×(List D→St→Option (D×St))))(E:List (Nat×(List D→St→Option (Nat×D×St))))(n:Nat):(M3 l li E).x n=En E n:=(rfl)
theorem OB{I:List (Nat×(List D→St→Option (Nat×D×St)))}(h:∀ x∈l,Contract P G x.1 x.2)(hi:∀ x∈li,IContract P G x.1 x.2)
  (M:∀ x∈I,Q7 P G x.1 x.2) (J:l.all (fun x=>decide (x.1<50000000))=true:=by rfl):TblOK P G (M3 l li I):=
 ⟨fun _ _ E=>.inl ⟨of_decide_eq_true (Al.1 J _ (JP E)),h _ (JP E)⟩,fun _ _ E=>hi _ (JP E),fun _ _ E=>(by cases E),fun _ _ E=>(by cases E),fun _ _ E=>M _ (JP E),fun _ _ E=>(by cases E)⟩
def RJ(l:List (Nat×(List D→Option D)))(li:List (Nat×(List D→St→Option (D×St))))(lq:List (Nat×(List D→List (Option (Bool×Nat×List D))→Option D))):Tbl:={p:=En l,i:=En li,m:=fun _=>none,q:=En lq}
theorem V3(l:List (Nat×(List D→Option D)))(li:List (Nat×(List D→St→Option (D×St))))(E:List (Nat×(List D→List (Option (Bool×Nat×List D))→Option D)))(n:Nat):(RJ l li E).p n=En l n:=(rfl)
theorem V4(l:List (Nat×(List D→Option D)))(li:List (Nat×(List D→St→Option (D×St))))(E:List (Nat×(List D→List (Option (Bool×Nat×List D))→Option D)))(n:Nat):(RJ l li E).i n=En li n:=(rfl)
theorem V2(l:List (Nat×(List D→Option D)))(li:List (Nat×(List D→St→Option (D×St))))(E:List (Nat×(List D→List (Option (Bool×Nat×List D))→Option D)))(n:Nat):(RJ l li E).q n=En E n:=(rfl)
theorem m9{I:List (Nat×(List D→List (Option (Bool×Nat×List D))→Option D))}(h:∀ x∈l,Contract P G x.1 x.2)(hi:∀ x∈li,IContract P G x.1 x.2)
  (M:∀ x∈I,IContract P G x.1 (fun ds st=>(Jk x.2 ds st).map (·,st))) (J:l.all (fun x=>decide (x.1<50000000))=true:=by rfl):TblOK P G (RJ l li I):=
 ⟨fun _ _ E=>.inl ⟨of_decide_eq_true (Al.1 J _ (JP E)),h _ (JP E)⟩,fun _ _ E=>hi _ (JP E),fun _ _ E=>(by cases E),fun _ _ E=>(by cases E),fun _ _ E=>(by cases E),fun _ _ E=>M _ (JP E)⟩
theorem all_nil{p:α→Prop}:∀ x∈([]:List α),p x:=fun _ h=>by cases h
theorem all_cons{p:α→Prop}{a:α}{l:List α}(h:p a)(hl:∀ x∈l,p x):∀ x∈a::l,p x:=by
 grind
theorem Eg{il:List Nat}{f:Nat}{hints:List (List Nat)}(E:DB P il f hints=some F)(I:TblOK P G T){enc:α→List D}{pre:α→Prop}{r:α→D}
  (h:∀ a,pre a→@wW G T F.code (Dc (enc a)) [] ⟨Dq F.res (r a)⟩) (J:T.y=fun _ _ _=>none:=by rfl):Contract P G f (Dl enc pre r):=by
 refine qd I J E fun ds d M=>?_;obtain⟨a,rfl,U,rfl⟩:=jr M;exact rJ (HQ (h a U))
theorem KM{a b:List Dig}:a.map C9=b.map C9↔a=b:=⟨PV fun _ _=>pX,fun h=>by rw[h]⟩
theorem Ls{a b:Dig}:C9 a=C9 b↔a=b:=⟨pX,fun h=>by rw[h]⟩
theorem Mj{a b:Dig}:C8 a=C8 b↔a=b:=⟨LV,fun h=>by rw[h]⟩
theorem sE{a:List UInt8}:a.map Dn=b.map Dn↔a=b:=⟨QY,fun h=>by rw[h]⟩
theorem pK{a b:UInt8}:Dn a=Dn b↔a=b:=⟨sD,fun h=>by rw[h]⟩
theorem IJ(sz:Nat)(els:List D):nz (nz sz els) els=nz sz els:=by cases els <;> rfl
theorem YCm(sz:Nat):nz sz []=0:=(rfl)
theorem Yvo(sz:Nat)(a:D)(l:List D):nz sz (a::l)=sz:=(rfl)
theorem mh(sz:Nat)(els:List D):nz sz els=sz∨els=[]:=by cases els <;> simp[nz]
theorem KH[Inhabited α](st:St)(sz:Nat)(f:α→D)(l:List α)(t:Bool)(k:IntKind)(i:Int)(E:0≤i)(I:i<(l.length:Int)) :
  GX st sz (.slc (nz sz (l.map f)) (l.map f) t) (.int k i)=some (.eptr (f (l.getD i.toNat default)) 0):=by
 have:nz sz (l.map f)=sz:=by
  rcases mh sz (l.map f)with h | h
  ·exact h
  ·have:l.length=0:=by simpa using congrArg List.length h
   omega
 rw[this];exact Yoq st sz f l t k i E I
attribute [push_cast] IJ YCm Yvo kT V9 kU V0 V1 VZ VX VY VW V3 V4 V2 Ynp tw List.map_nil
theorem rP(h:n≤64):min n.toNat 64=n.toNat:=by omega
variable {x:Int}{k k':IntKind}
theorem YBz(hk:k=.i64∨k=.u64)(I:0≤n)(E:n≤64):Ds .shr (.int k x) (.int k' n)=some (.int k (x / 2 ^ n.toNat)):=by
 have hb:k.bits=64:=by rcases hk with rfl | rfl <;> rfl
 simp only[Ds,MJ,show ¬ n<0 by omega,if_false,Ag,hb,rP E];grind
theorem Oi(E:0≤n)(I:n≤64):Ds .shr (.int .u64 x) (.int k' n)=some (.int .u64 (x / 2 ^ n.toNat)):=YBz (.inr rfl) E I
theorem Yi(E:0≤n)(I:n≤64):Ds .shr (.int .i64 x) (.int k' n)=some (.int .i64 (x / 2 ^ n.toNat)):=YBz (.inl rfl) E I
theorem Wp(M:0≤n)(E:n≤64)(I:-9223372036854775808≤x*2 ^ n.toNat)(J:x*2 ^ n.toNat<9223372036854775808):Ds .shl (.int .i64 x) (.int k' n)=some (.int .i64 (x*2 ^ n.toNat)):=by
 simp only[Ds,MJ,show ¬ n<0 by omega,if_false,Ag,show IntKind.bits .i64=64 from rfl,rP E,OU I J]
theorem gQ(E:0≤n)(I:n≤62):Ds .shl (.int .i64 1) (.int k' n)=some (.int .i64 (2 ^ n.toNat)):=by
 have J:(2:Int) ^ n.toNat≤2 ^ 62:=by
  have M:(2:Nat) ^ n.toNat≤2 ^ 62:=Cn (by decide) (by omega);grind
 have U:(0:Int)≤2 ^ n.toNat:=Int.pow_nonneg (by decide);have:=Wp (x:=1) (k':=k') E (by omega) (by omega) (by rw[Int.one_mul]; omega);grind
theorem Yc{b:Int}(hb:0<b)(E:0≤a)(J:a<9223372036854775808):Ds .quo (.int .i64 a) (.int .i64 b)=some (.int .i64 (a / b)):=by
 have I:a.tdiv b=a / b:=Bq E;have M:a / b≤a:=BY b E;have U:0≤a / b:=BB E (by omega);simp only[Ds,if_true,Lb,show ¬ b=0 by omega,if_false,Ag,I,OU (show -9223372036854775808≤a / b by omega) (show a / b<9223372036854775808 by omega)]
theorem YCb{b:Int}(hb:0<b)(E:0≤a):Ds .rem (.int .i64 a) (.int .i64 b)=some (.int .i64 (a % b)):=by
 have I:a.tmod b=a % b:=Int.tmod_eq_emod_of_nonneg E;simp only[Ds,if_true,Lb,show ¬ b=0 by omega,if_false,Ag,I]
theorem toNat_ofInt(E:0≤a)(I:a<9223372036854775808):(CR 64 a).toNat=a.toNat:=by
 grind
theorem Yzp(E:0≤a)(I:a<9223372036854775808):Ds .and (.int .i64 a) (.int .i64 1)=some (.int .i64 (a % 2)):=by
 have h:(CR (IntKind.bits .i64) a &&& CR (IntKind.bits .i64) 1).toNat=(a % 2).toNat:=by
  show(CR 64 a &&& CR 64 1).toNat=_
  rw[CE,toNat_ofInt E I,show(CR 64 1).toNat=2 ^ 1 - 1 from rfl,BH];omega
 simp only[Ds,if_true,Li,Ag,h];rw[OU (by omega) (by omega)]
 congr 2
 omega
theorem Ya1(E:0≤a)(I:a<9223372036854775808):Ds .xor (.int .i64 a) (.int .i64 1)=some (.int .i64 (if a % 2=0 then a+1 else a - 1)):=by
 have J:∀ n:Nat,n ^^^ 1=if n % 2=0 then n+1 else n - 1:=by
  intro n
  have M:(n ^^^ 1) % 2=(n+1) % 2:=by
   have:=Nat.testBit_xor n 1 0;grind
  have U:(n ^^^ 1) / 2=n / 2:=by
   apply Nat.eq_of_testBit_eq;grind
  grind
 have h:(CR (IntKind.bits .i64) a ^^^ CR (IntKind.bits .i64) 1).toNat=(if a % 2=0 then a+1 else a - 1).toNat:=by
  show(CR 64 a ^^^ CR 64 1).toNat=_
  rw[BitVec.toNat_xor,toNat_ofInt E I,show(CR 64 1).toNat=1 from rfl,J];grind
 simp only[Ds,if_true,Li,Ag,h];rw[OU (by split <;> omega) (by split <;> omega)]
 congr 2
 omega
theorem cH(st:St)(E:0≤a)(I:a<9223372036854775808):FT st (.int .u64) (.int .i64 a)=some (.int .u64 a):=by
 obtain⟨n,rfl⟩:=A6 E;simp only[FT,Ug]
 congr 2
 omega
theorem zm(st:St)(I:0≤a)(E:a<9223372036854775808):FT st (.int .i64) (.int k a)=some (.int .i64 a):=by
 simp only[FT,OU (show -9223372036854775808≤a by omega) E]
theorem MM(st:St)(E:0≤a):FT st (.int .u8) (.int k a)=some (Dn (UInt8.ofNat a.toNat)):=by
 obtain⟨n,rfl⟩:=A6 E;rfl
theorem PL(st:St)(b:UInt8):FT st (.int .i64) (Dn b)=some (.int .i64 (b.toNat:Int)):=by
 have:=b.toNat_lt;simp only[Dn];exact zm st (by omega) (by omega)
theorem Yw6(s:List UInt8)(k:IntKind)(i:Int)(E:0≤i)(J:i<(s.length:Int)):KS (.str s) (.int k i)=some (Dn (s.getD i.toNat default)):=by
 have I:i.toNat<s.length:=by omega
 simp only[KS,Q0 k i E,getElem?_getD s i.toNat I]
theorem Yop(s:List UInt8)(b:UInt8)(h:b.toNat<s.length):KS (.str s) (Dn b)=some (Dn (s.getD b.toNat default)):=by
 have:=Yw6 s .u8 (b.toNat:Int) (by omega) (by omega);simpa[Dn]using this
theorem yX0{s:List UInt8}{h:Int}(E:0≤h)(I:h≤(s.length:Int)):Hp st 0 (.str s) none (some (.int k h)) none=some (.str (s.take h.toNat)):=by
 simp[Hp,GP,Q0 k h E];omega
theorem Yjf(st:St)(b:UInt8):DX st (Dn b)=some (Dn b):=(rfl)
theorem Yas(b:UInt8):keys (Dn b)=[]:=(rfl)
theorem Yqj(b:UInt8):hk (Dn b)=[]:=(rfl)
theorem Yje(n:Nat)(σ:List Nat)(b:UInt8):Ez n σ (Dn b)=Dn b:=(rfl)
theorem yTa(b:UInt8):(Dn b).cells=[Dn b]:=(rfl)
theorem yPo(b:UInt8):(Dn b).isCell=true:=(rfl)
theorem yS9(b:UInt8):(Dn b).noRef=true:=(rfl)
theorem Yjg(b:UInt8):DH (Dn b)=some [Dn b]:=(rfl)
theorem yKa(b:UInt8):Ft 1 [Dn b]=some (.slc 1 [Dn b] true):=(rfl)
theorem yNp(d:Dig):Ft 32 [C9 d]=some (.slc 32 [C9 d] true):=by
 simp[Ft,Qf,D2]
theorem Yaa(st:St)(s:List UInt8):FT st .bytes (.str s)=some (.slc 1 (s.map Dn) false):=(rfl)
theorem Ye6(a:Nat)(l:List D)(t:Bool):Ft 1 [.slc a l t]=some (.slc 1 [.slc a l t] true):=(rfl)
theorem Ye5(a b:Nat)(l m:List D)(t u:Bool):Ft 1 [.slc a l t,.slc b m u]=some (.slc 1 [.slc a l t,.slc b m u] true):=(rfl)
theorem Ye4(a b c:Nat)(l m n:List D)(t u v:Bool):Ft 1 [.slc a l t,.slc b m u,.slc c n v]=some (.slc 1 [.slc a l t,.slc b m u,.slc c n v] true):=(rfl)
theorem Ye7:Ft 1 []=some (.slc 1 [] true):=(rfl)
theorem yY2:Ft 32 []=some (.slc 32 [] true):=(rfl)
theorem Ku(k:IntKind)(n:Int)(d:Dig):DH (.agg (.int k n::C8 d))=some (.int k n::C8 d):=by
 simp[DH,D.cells,I0,D.isCell]
theorem yOz(k:IntKind)(n:Int)(d:Dig):(D.agg (.int k n::C8 d)).noRef=true:=by
 have:=uP d;simp only[C9,D.noRef]at this;simp[D.noRef,D.noRef1,this]
theorem yR7(k:IntKind)(n:Int)(d:Dig):keys (.agg (.int k n::C8 d))=[]:=Qc (by simp[Jj,Es,UM])
theorem ySl(k k':IntKind)(n m:Int)(z d:Dig):DN (.int k n::C8 z) [(0,1,.int k' m),(1,32,C9 d)]=some (.int k' m::C8 d):=by
 have I:FU (.int k n::C8 z) 0 [.int k' m]=.int k' m::C8 z:=rfl
 have J:FU (.int k' m::C8 z) 1 (C8 d)=.int k' m::C8 d:=by
  rw[show(1:Nat)=0+1 from rfl,yQg,vI]
 have E:(C8 d).length=32:=D2 d;have M:(C8 z).length=32:=D2 z;simp only[DN,Qf,I0,E];have U:(D.int k' m).cells=[.int k' m]:=rfl;have V:(([D.int k' m].length == 1) && decide (0+1≤(D.int k n::C8 z).length) && [D.int k' m].all D.isCell)=true:=by simp[D.isCell]
 grind
attribute [push_cast] Ku yOz yR7 ySl
theorem iN(st:St)(k:IntKind)(n:Int):DC st (.int k n)=some (.int k n):=(rfl)
theorem Ygi(st:St)(b:Bool):DC st (.bool b)=some (.bool b):=(rfl)
theorem Yon(st:St)(s:List UInt8):DC st (.str s)=some (.str s):=(rfl)
theorem iO(st:St)(sz:Nat)(els:List D)(t:Bool):DC st (.slc sz els t)=some (.slc (nz sz els) els false):=(rfl)
attribute [push_cast] iN Ygi Yon iO Nat.zero_le
attribute [push_cast] Ye7 yY2 Yaa Ye6 Ye5 Ye4
theorem tC(f:α→D)(E:∀ a,Es (f a)=true)(l:List α):(l.map f).all Es=true:=by
 grind
theorem fu(l:List UInt8):(l.map Dn).all Es=true:=tC Dn (fun _=>rfl) l
theorem fH(l:List UInt32):(l.map wD).all Es=true:=tC wD (fun _=>rfl) l
theorem yZj(st:St)(l:List UInt32):D5 st (l.map wD)=some (l.map wD):=SY st (fH l)
theorem yZl(st:St)(l:List UInt8):D5 st (l.map Dn)=some (l.map Dn):=SY st (fu l)
theorem yXv(n:Nat)(σ:List Nat)(l:List UInt32):(l.map wD).map (Ez n σ)=l.map wD:=Mr n σ (fH l)
theorem yXw(n:Nat)(σ:List Nat)(l:List UInt8):(l.map Dn).map (Ez n σ)=l.map Dn:=Mr n σ (fu l)
theorem Ygp(l:List UInt32):(l.map wD).flatMap hk=[]:=MU (fH l)
theorem Ygr(l:List UInt8):(l.map Dn).flatMap hk=[]:=MU (fu l)
attribute [push_cast] yXv yXw Ygp Ygr
theorem yRs(l:List UInt32):(D.agg (l.map wD)).noRef=true:=by
 simp only[D.noRef,Al,AX];rintro x ⟨a,_,rfl⟩;rfl
theorem Yjo(l:List UInt32):DH (.agg (l.map wD))=some (l.map wD):=by
 simp only[DH,D.cells,YE wD (fun _=>rfl),if_true]
theorem yp{a b:UInt32}(h:wD a=wD b):a=b:=by
 simp only[wD,D.int.injEq,true_and]at h;exact UInt32.toNat_inj.1 (by omega)
theorem Ykf{a b:UInt32}:wD a=wD b↔a=b:=⟨yp,fun h=>by rw[h]⟩
theorem Ya3{a b:List UInt32}:a.map wD=b.map wD↔a=b:=⟨PV fun _ _=>yp,fun h=>by rw[h]⟩
theorem YA0(st:St)(b:UInt32):DX st (wD b)=some (wD b):=(rfl)
theorem Ytz(b:UInt32):keys (wD b)=[]:=(rfl)
theorem Ykv(b:UInt32):(wD b).noRef=true:=(rfl)
theorem VR(b:UInt32):hk (wD b)=[]:=(rfl)
theorem YAz(n:Nat)(σ:List Nat)(b:UInt32):Ez n σ (wD b)=wD b:=(rfl)
def zW(n:Nat):List UInt32:=CQ n 0
theorem Ys1(n:Nat):D.int .u32 0::(zW n).map wD=(zW (n+1)).map wD:=(rfl)
theorem Ys2:[D.int .u32 0,.int .u32 0,.int .u32 0,.int .u32 0,.int .u32 0,.int .u32 0,.int .u32 0,.int .u32 0]=(zW 8).map wD:=(rfl)
theorem MT(f:α→D)(I:∀ a,(f a).isCell=true)(E:List α)(i:Nat)(v:α)(r:List (Nat×Nat×D))(h:i<E.length):DN (E.map f) ((i,1,f v)::r)=DN ((E.set i v).map f) r:=by
 have J:i+1≤E.length:=h
 have M:FU (E.map f) i [f v]=(E.set i v).map f:=by
  rw[List.map_set,FU,B9];simp[h]
 simp[DN,Rl (I v),I v,J,M]
theorem N4(cs:List D):DN cs []=some cs:=(rfl)
theorem Xj(a b c d e f g h:UInt32):DN ((zW 8).map wD) [(0,1,wD a),(1,1,wD b),(2,1,wD c),(3,1,wD d),(4,1,wD e),(5,1,wD f),(6,1,wD g),(7,1,wD h)]=some ([a,b,c,d,e,f,g,h].map wD):=by
 have hf:∀ a,(wD a).isCell=true:=fun _=>rfl;rw[MT wD hf _ _ _ _ (by simp[zW]),MT wD hf _ _ _ _ (by simp[zW]),MT wD hf _ _ _ _ (by simp[zW]),MT wD hf _ _ _ _ (by simp[zW]),MT wD hf _ _ _ _ (by simp[zW]),MT wD hf _ _ _ _ (by simp[zW]),MT wD hf _ _ _ _ (by simp[zW]),MT wD hf _ _ _ _ (by simp[zW]),N4];rfl
theorem YB0(x:UInt32)(k:IntKind)(z:Int)(E:0≤z)(h:z<32):Ds .shl (wD x) (.int k z)=some (wD (x <<< UInt32.ofNat z.toNat)):=by
 obtain⟨n,rfl⟩:=A6 E;exact YB1 x k n (by omega)
theorem xR(x:UInt32)(k:IntKind)(z:Int)(E:0≤z)(h:z<32):Ds .shr (wD x) (.int k z)=some (wD (x >>> UInt32.ofNat z.toNat)):=by
 obtain⟨n,rfl⟩:=A6 E;exact YBx x k n (by omega)
theorem YBy(x:UInt64)(k:IntKind)(z:Int)(E:0≤z)(h:z<64):Ds .shr (qD x) (.int k z)=some (qD (x >>> C7 z.toNat)):=by
 obtain⟨n,rfl⟩:=A6 E;exact Wo x k n (by omega)
def LZ(s:List UInt8):D:=.slc (nz 1 (s.map Dn)) (s.map Dn) false
theorem Yy8{a:List UInt8}(h:LZ a=LZ b):a=b:=by
 simp only[LZ,D.slc.injEq]at h;exact QY h.2.1
theorem Yy7{a b:List (List UInt8)}:a.map LZ=b.map LZ↔a=b:=⟨PV fun _ _=>Yy8,fun h=>by rw[h]⟩
theorem Ydp(st:St)(s:List UInt8):FF st 1 false (.eptr (LZ s) 0)=some (.slc (nz 1 (s.map Dn)) (s.map Dn) false):=jf st _ rfl
theorem Wg(sz:Nat)(E I J M U V Y x7:D)(a b c d e f g h:UInt32):DT (some ⟨false,sz,[E,I,J,M,U,V,Y,x7],false⟩) 8 0 (.agg [wD a,wD b,wD c,wD d,wD e,wD f,wD g,wD h])=some ⟨false,sz,[wD a,wD b,wD c,wD d,wD e,wD f,wD g,wD h],false⟩:=LS sz _ _ 8 rfl rfl rfl
attribute [push_cast] Wg yZj yZl yRs Yjo YA0 Ytz Ykv VR YAz Ys1 Ys2 Xj N4 Ydp
attribute [push_cast] Yjf Yas Yqj Yje yTa yPo yS9 Yjg yKa yNp
end Go.Proofs.YtijnglngaogdjaaGreatDoor.PI
