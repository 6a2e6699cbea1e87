/-
  Slices that are made by appending, from nothing: laid out for rewriting.
  Conditions: none; these are lemmas.
-/
import Derived.Test.YtijnglngaogdjaaGreatDoorEngR
import Derived.ChangeArms
import Derived.Lib.LaidTab
import Derived.ChangeSame
open BitVec renaming ofInt→CP
open List renaming range→CQ,replicate→CM
open UInt64 renaming ofNat→CX
set_option linter.unusedVariables false
set_option linter.unusedSimpArgs false
namespace Go.Proofs.YtijnglngaogdjaaGreatDoor.PI
open Go Go.RowKit
inductive Ty where
 |bool
 |int (k:IntKind)
 |str
 |slc (e:Ty)
 |agg (fs:List Ty)
 /-- a slice whose elements' type is told of in another way -/
 |opq (Q:D→Prop)
 deriving Inhabited
mutual
def Ty.size:Ty→Nat
 |.agg fs=>Ty.sizes fs
 |_=>1
def Ty.sizes:List Ty→Nat
 |[]=>0
 |f::r=>f.size+Ty.sizes r
end
inductive Has:Ty→D→Prop
 |bool (b:Bool):Has .bool (.bool b)
 |int (k:IntKind) (n:Int):(Lit.int k n).wf=true→Has (.int k) (.int k n)
 |str (s:List UInt8):s.length≤maxLen→Has .str (.str s)
 |slc (e:Ty) (els:List D):(∀ (i:Nat) x,els[i]?=some x→Has e x)→els.length≤maxLen→Has (.slc e) (.slc (nz e.size els) els false)
 |opq (Q:D→Prop) (sz:Nat) (els:List D):Q (.slc (nz sz els) els false)→Has (.opq Q) (.slc (nz sz els) els false)
 |agg (fs:List Ty) (xs:List D):fs.length=xs.length→(∀ (i:Nat) f x,fs[i]?=some f→xs[i]?=some x→Has f x)→Has (.agg fs) (.agg (xs.flatMap D.cells))
def UK(P:Program):Nat→List Field→List Ty→Bool
 |_,[],[]=>true
 |o,f::fs,t::ts=>f.offset == o && P.cellsOf f.type == t.size && UK P (o+t.size) fs ts
 |_,_,_=>false
def N9(tf:TypeId→Option Ty):List Field→Option (List Ty)
 |[]=>some []
 |f::fs=>match tf f.type,N9 tf fs with
  |some t,some ts=>some (t::ts)
  |_,_=>none
inductive TyD (P:Program):TypeId→D→Prop
 |bool (t:TypeId) (b:Bool):P.underlying t=some .bool→TyD P t (.bool b)
 |int (t:TypeId) (k:IntKind) (n:Int):P.underlying t=some (.int k)→(Lit.int k n).wf=true→TyD P t (.int k n)
 |str (t:TypeId) (s:List UInt8):P.underlying t=some .string→s.length≤maxLen→TyD P t (.str s)
 |slc (t e:TypeId) (els:List D):P.underlying t=some (.slice e)→(∀ x∈els,TyD P e x)→els.length≤maxLen→TyD P t (.slc (nz (P.cellsOf e) els) els false)
 |agg (t:TypeId) (fs:Array Field) (xs:List D):P.underlying t=some (.struct fs)→fs.toList.length=xs.length→(∀ (i:Nat) f x,fs.toList[i]?=some f→xs[i]?=some x→TyD P f.type x)→TyD P t (.agg (xs.flatMap D.cells))
 |arr (t:TypeId) (m:Nat) (e:TypeId) (xs:List D):P.underlying t=some (.array m e)→xs.length=m→(∀ x∈xs,TyD P e x)→TyD P t (.agg (xs.flatMap D.cells))
def Pu(P:Program):Nat→Nat→List Field→Bool
 |o,n,[]=>o == n
 |o,n,f::fs=>f.offset == o && Pu P (o+P.cellsOf f.type) n fs
def NA(P:Program)(S:List TypeId)(t:TypeId):Bool:=match P.underlying t with
 |some .bool | some (.int _) | some .string=>P.cellsOf t == 1
 |some (.slice e)=>S.contains e && decide (0<P.cellsOf e) && P.cellsOf t == 1
 |some (.struct fs)=>fs.toList.all (fun f=>S.contains f.type) && Pu P 0 (P.cellsOf t) fs.toList
 |some (.array m e)=>S.contains e && P.cellsOf t == m*P.cellsOf e
 |_=>false
def IU(P:Program)(S:List TypeId):Bool:=S.all (NA P S)
def yP(P:Program)(t:TypeId):List TypeId:=match P.underlying t with
 |some (.slice e) | some (.array _ e)=>[e]
 |some (.struct fs)=>fs.toList.map (·.type)
 |_=>[]
def M7(P:Program):Nat→List TypeId→List TypeId
 |0,S=>S
 |n+1,S=>M7 P n ((S++S.flatMap (yP P)).eraseDups)
def FO(P:Program):Nat→TypeId→Option Ty
 |0,_=>none
 |n+1,t=>match P.underlying t with
  |some .bool=>some .bool
  |some (.int k)=>some (.int k)
  |some .string=>some .str
  |some (.slice e)=>match FO P n e with
   |some x=>if P.cellsOf e == x.size && decide (0<x.size)then some (.slc x)else none
   |none=>if IU P (M7 P 6 [t]) && (M7 P 6 [t]).contains t then some (.opq (TyD P t))else none
  |some (.struct fs)=>match N9 (FO P n) fs.toList with
   |some ts=>if UK P 0 fs.toList ts && P.cellsOf t == Ty.sizes ts then some (.agg ts)else none
   |none=>none
  |some (.array m e)=>match FO P n e with
   |some x=>if P.cellsOf e == x.size && P.cellsOf t == m*x.size then some (.agg (CM m x))else none
   |none=>none
  |_=>none
def Rm(w:World):Nat→Nat→Prop:=fun b o=>(w.cell? ⟨b,o,none⟩).isSome=true
def IF(w:World):Ghost:={β:=id,γ:=id,Im:=Rm w}
variable {cs:List Value}{a:Addr}
section
variable {H:Type} {enc:TypeId×Value→H} {P:Program} {w:World}
def RepL(w:World)(xs:List D)(cs:List Value):Prop:=xs.length=cs.length∧(∀ (j:Nat) y v,xs[j]?=some y→cs[j]?=some v→RepV w (IF w) [] y v)∧∀ y∈xs,y.pure1=true
theorem RepL.nil:RepL w [] []:=⟨rfl,fun j y v h=>by simp at h,fun y h=>by cases h⟩
theorem RepL.append{xs ys:List D}{ds:List Value}(h:RepL w xs cs)(I:RepL w ys ds):RepL w (xs++ys) (cs++ds):=by
 refine⟨by simp[h.1,I.1],fun j y v u hv=>?_,fun y u=>?_⟩
 ·rcases Be j xs.length with E | E
  ·rw[Ao E]at u;rw[Ao (by rw[← h.1]; exact E)]at hv;exact h.2.1 j y v u hv
  ·rw[AD E]at u;rw[AD (by rw[← h.1]; exact E),← h.1]at hv;exact I.2.1 _ y v u hv
 ·rcases AF.1 u with u | u
  ·exact h.2.2 y u
  ·exact I.2.2 y u
theorem RepL.one{x:D}{v:Value}(h:RepV w (IF w) [] x v)(E:x.pure1=true):RepL w x.cells [v]:=by
 rw[SO E];refine⟨rfl,fun j y u I hu=>?_,fun y I=>?_⟩
 ·grind
 ·grind
theorem mF{s:ByteArray}:RepV w (IF w) [] (.str s.data.toList) (.string s):=Yz s _ rfl
mutual
def wt:D→Nat
 |.slc _ els _=>Gm els+1
 |.agg l=>Gm l
 |.str s=>s.length+1
 |.int _ _=>1
 |.bool _=>1
 |_=>0
def Gm:List D→Nat
 |[]=>0
 |d::l=>wt d+Gm l
end
mutual
def blk{H:Type}:DataW H→Nat
 |.lit (.string s)=>s.length+1
 |.lit _=>1
 |.nil=>1
 |.slice e _=>FV e+1
 |.agg p=>FV p
 |_=>0
def FV{H:Type}:List (DataW H)→Nat
 |[]=>0
 |d::l=>blk d+FV l
end
theorem Pc:∀ (a b:List D),Gm (a++b)=Gm a+Gm b
 |[],b=>by simp[Gm]
 |x::a,b=>by rw[At,Gm,Gm,Pc a b]; omega
theorem Sp(d:D):Gm d.cells=wt d:=by
 cases d <;> simp[D.cells,Gm,wt]
theorem Xy:∀ (a:List D) (b:List (DataW H)),a.length=b.length→(∀ (i:Nat) x y,a[i]?=some x→b[i]?=some y→wt x≤blk y)→Gm a≤FV b
 |[],b,_,_=>by simp[Gm]
 |x::a,[],h,_=>by simp at h
 |x::a,y::b,h,hle=>by
  have I:=hle 0 x y rfl rfl;have J:=Xy a b (by simpa using h) (fun i x y u E=>hle (i+1) x y (by simpa using u) (by simpa using E));simp only[Gm,FV];omega
def ZT(enc:TypeId×Value→H)(P:Program)(w:World)(sp:Nat→Bool)(t:TypeId)(ty:Ty):Prop:=
 ∀ (fuel:Nat) (cs:List Value) (x:DataW H×List MemPlace),DataW.trod enc P w 0 sp true fuel t cs=some x→∃ d,Has ty d∧RepL w d.cells cs∧cs.length=ty.size∧((∃ fs,ty=.agg fs)∨d.pure1=true)∧wt d≤blk x.1
theorem bO{sp:Nat→Bool}{N:TypeId→Option Ty}(I:∀ t ty,N t=some ty→ZT enc P w sp t ty)(fuel:Nat)(cs:List Value):∀ (fs:List Field) (u:List Ty) (o:Nat) (ys:List (DataW H×List MemPlace)),
  N9 N fs=some u→UK P o fs u=true→fs.mapM (fun f=>DataW.trod enc P w 0 sp true fuel f.type ((cs.drop f.offset).take (P.cellsOf f.type)))=some ys→
  ∃ xs:List D,u.length=xs.length∧(∀ (i:Nat) f x,u[i]?=some f→xs[i]?=some x→Has f x)∧RepL w (xs.flatMap D.cells) ((cs.drop o).take (Ty.sizes u))∧(o≤cs.length→o+Ty.sizes u≤cs.length)∧Gm (xs.flatMap D.cells)≤FV (ys.map (·.1))
 |[],u,o,ys,E,J,M=>by
  simp[N9]at E; subst E;exact⟨[],rfl,fun i f x h=>by simp at h,by simpa[Ty.sizes]using RepL.nil,fun h=>by simpa[Ty.sizes]using h,by simp[Gm]⟩
 |f::fs,u,o,ys,E,J,M=>by
  unfold N9 at E
  split at E
  case h_2=>cases E
  rename_i t O ht U;simp only[C9]at E; subst E;simp only[UK,Ac,beq_iff_eq]at J;obtain⟨⟨e1,e2⟩,e3⟩:=J;simp only[Bv,Bo,Aw,BG,C9]at M;obtain⟨y,V,X,Y,rfl⟩:=M;rw[e1,e2]at V;obtain⟨d,d1,d2,d3,_,d5⟩:=I _ _ ht fuel _ _ V;obtain⟨xs,x1,x2,x3,x4,x5⟩:=bO I fuel cs fs O (o+t.size) X U e3 Y
  have hlen:o+t.size≤cs.length∨t.size=0:=by
   grind
  refine⟨d::xs,by simp[x1],?_,?_,?_,?_⟩
  ·grind
  ·have:=d2.append x3;simp only[An,Ty.sizes];rw[Cx,Bu];exact this
  ·intro ho;simp only[Ty.sizes];omega
  ·simp only[An,Pc,Sp,Aq,FV];omega
theorem br{sp:Nat→Bool}{e:TypeId}{x:Ty}(u:ZT enc P w sp e x)(E:P.cellsOf e=x.size)(fuel:Nat)(cs:List Value):∀ (n k:Nat) (ys:List (DataW H×List MemPlace)),
  (List.range' k n).mapM (fun i=>DataW.trod enc P w 0 sp true fuel e ((cs.drop (i*P.cellsOf e)).take (P.cellsOf e)))=some ys→
  ∃ xs:List D,xs.length=n∧(∀ (i:Nat) y,xs[i]?=some y→Has x y)∧RepL w (xs.flatMap D.cells) ((cs.drop (k*x.size)).take (n*x.size))∧Gm (xs.flatMap D.cells)≤FV (ys.map (·.1))
 |0,k,ys,h=>⟨[],rfl,fun i y h=>by simp at h,by simpa using RepL.nil,by simp[Gm]⟩
 |n+1,k,ys,h=>by
  simp only[BT,Bv,Bo,Aw,BG,C9]at h;obtain⟨y,I,J,M,rfl⟩:=h;rw[E]at I;obtain⟨d,d1,d2,d3,_,d5⟩:=u fuel _ _ I;obtain⟨xs,N,U,O,V⟩:=br u E fuel cs n (k+1) J M;refine⟨d::xs,by simp[N],?_,?_,?_⟩
  ·grind
  ·have:=d2.append O;simp only[An];rw[AX,Bw,Nat.add_comm (n*x.size),Cx,Bu];grind
  ·simp only[An,Pc,Sp,Aq,FV];omega
theorem Ty.sizes_replicate(x:Ty):∀ m,Ty.sizes (CM m x)=m*x.size
 |0=>by simp[Ty.sizes]
 |m+1=>by rw[BI,Ty.sizes,Ty.sizes_replicate x m,AX,Bw,Nat.add_comm]
theorem cells?_get{base:Nat}{n:Nat}(h:w.cells? base a n=some cs):cs.length=n∧∀ (j:Nat) v,cs[j]?=some v→w.cell? (a.add j)=some v:=by
 unfold World.cells? at h
 split at h
 ·have hl:cs.length=n:=by simpa using Lib.mapM_length h
  refine⟨hl,fun j v hv=>?_⟩;have u:j<n:=by rw[← hl]; exact(Ab.1 hv).1
  obtain⟨b,hb,hf⟩:=Lib.mapM_at h j j (by simp[u]);grind
 ·cases h
def Xd(enc:TypeId×Value→H)(P:Program)(w:World)(sp:Nat→Bool)(fuel:Nat)(t:TypeId):Prop:=
 ∀ (cs:List Value) (x:DataW H×List MemPlace),DataW.trod enc P w 0 sp true fuel t cs=some x→∃ d,TyD P t d∧RepL w d.cells cs∧cs.length=P.cellsOf t∧((∃ l,d=.agg l)∨d.pure1=true)∧wt d≤blk x.1
theorem ck{sp:Nat→Bool}{fuel:Nat}(cs:List Value)(n:Nat):∀ (fs:List Field) (o:Nat) (ys:List (DataW H×List MemPlace)),(∀ f∈fs,Xd enc P w sp fuel f.type)→Pu P o n fs=true→
  fs.mapM (fun f=>DataW.trod enc P w 0 sp true fuel f.type ((cs.drop f.offset).take (P.cellsOf f.type)))=some ys→
  ∃ xs:List D,fs.length=xs.length∧(∀ (i:Nat) f x,fs[i]?=some f→xs[i]?=some x→TyD P f.type x)∧RepL w (xs.flatMap D.cells) ((cs.drop o).take (n - o))∧o≤n∧Gm (xs.flatMap D.cells)≤FV (ys.map (·.1))
 |[],o,ys,_,u,I=>by
  simp only[Pu,beq_iff_eq]at u;subst u;exact⟨[],rfl,fun i f x h=>by simp at h,by simpa using RepL.nil,Az _,by simp[Gm]⟩
 |f::fs,o,ys,E,u,I=>by
  simp only[Pu,Ac,beq_iff_eq]at u;obtain⟨O,U⟩:=u;simp only[Bv,Bo,Aw,BG,C9]at I;obtain⟨y,J,M,N,rfl⟩:=I;rw[O]at J;obtain⟨d,d1,d2,d3,_,d5⟩:=E f (by simp) _ _ J;obtain⟨xs,V,x2,X,x4,x5⟩:=ck cs n fs (o+P.cellsOf f.type) M (fun g Y=>E g (by simp[Y])) U N;refine⟨d::xs,by simp[V],?_,?_,by omega,?_⟩
  ·grind
  ·have:=d2.append X;simp only[An];rw[show n - o=P.cellsOf f.type+(n - (o+P.cellsOf f.type)) by omega,Cx,Bu];exact this
  ·simp only[An,Pc,Sp,Aq,FV];omega
theorem bS{sp:Nat→Bool}{fuel:Nat}{e:TypeId}(u:Xd enc P w sp fuel e)(cs:List Value):∀ (n k:Nat) (ys:List (DataW H×List MemPlace)),
  (List.range' k n).mapM (fun i=>DataW.trod enc P w 0 sp true fuel e ((cs.drop (i*P.cellsOf e)).take (P.cellsOf e)))=some ys→
  ∃ xs:List D,xs.length=n∧(∀ y∈xs,TyD P e y)∧RepL w (xs.flatMap D.cells) ((cs.drop (k*P.cellsOf e)).take (n*P.cellsOf e))∧Gm (xs.flatMap D.cells)≤FV (ys.map (·.1))
 |0,k,ys,h=>⟨[],rfl,(fun y h=>by cases h),by simpa using RepL.nil,by simp[Gm]⟩
 |n+1,k,ys,h=>by
  simp only[BT,Bv,Bo,Aw,BG,C9]at h;obtain⟨y,J,E,I,rfl⟩:=h;obtain⟨d,d1,d2,d3,_,d5⟩:=u _ _ J;obtain⟨xs,M,O,N,U⟩:=bS u cs n (k+1) E I;refine⟨d::xs,by simp[M],?_,?_,?_⟩
  ·grind
  ·have:=d2.append N;simp only[An];rw[AX,Bw,Nat.add_comm (n*P.cellsOf e),Cx,Bu];grind
  ·simp only[An,Pc,Sp,Aq,FV];omega
theorem xz{Q:D→Prop}{sz:Nat}{len cap:Nat}{V:Nat→Nat}(I:0<sz)(X:len≤cap)
  (u:∀ i,i<len→∃ d,Q d∧d.cells.length=sz∧(∀ (j:Nat) y,d.cells[j]?=some y→y.pure1=true∧∃ v,w.cell? ((a.add (i*sz)).add j)=some v∧RepV w (IF w) [] y v)∧wt d≤V i) :
  ∃ els:List D,els.length=len∧(∀ x∈els,Q x)∧RepL w (D.slc (nz sz els) els false).cells [.slice (some a) len cap]∧∀ (i:Nat) x,els[i]?=some x→wt x≤V i:=by
 let f:Nat→D:=fun i=>if hi:i<len then(u i hi).choose else .junk
 have hf:∀ i (hi:i<len),f i=(u i hi).choose:=fun i hi=>by simp[f,hi]
 have N:∀ (i:Nat) x,((CQ len).map f)[i]?=some x→∃ hi:i<len,x=(u i hi).choose:=by
  intro i x J;simp only[AG,DA]at J;obtain⟨i',E,rfl⟩:=J;rw[Ab]at E;obtain⟨O,h3⟩:=E;simp at O h3;grind
 refine⟨(CQ len).map f,by simp,fun x J=>?_,?_,fun i x J=>?_⟩
 ·grind
 ·refine RepL.one (RepV.nz (t:=false) ?_) rfl;rcases BN len with U | U
  ·subst U;exact .slcE _ false (some a) cap (fun h=>by cases h)
  ·have M:a.spot=none:=by
    obtain⟨d1,d2,d3,_⟩:=(u 0 U).choose_spec;obtain⟨_,v,E,_⟩:=d3 0 _ (Af (by rw[d2]; exact I));rw[Cr]at E;have O:(a.add 0).add 0=a:=by simp[Addr.add]
    rw[O]at E;unfold World.cell? at E
    split at E
    ·split at E
     ·cases E
     ·rename_i hs; simpa using hs
    ·cases E
   obtain⟨b,off,spot⟩:=a;simp only at M;subst M;have hl:len=((CQ len).map f).length:=by simp
   conv=>rhs; rw[hl]
   refine RepV.slc_mk I ?_ (by simpa using X) (fun h=>by cases h) ?_
   ·grind
   ·intro i j d hd;obtain⟨e',he,hj⟩:=GQ hd;obtain⟨Y,rfl⟩:=N i e' he;obtain⟨hp,v,hv,hr⟩:=(u i Y).choose_spec.2.2.1 j d hj;rw[I3,I3]at hv;refine⟨hp,?_,v,hv,hr⟩
    show(w.cell? ⟨b,off+i*sz+j,none⟩).isSome=true
    rw[hv]; rfl
 ·grind
theorem kM{sp:Nat→Bool}{S:List TypeId}(hS:IU P S=true):∀ (fuel:Nat) (t:TypeId),t∈S→Xd enc P w sp fuel t
 |0,t,_=>by intro cs x u; simp[DataW.trod]at u
 |fuel+1,t,U=>by
  have V:=fun t U=>kM (sp:=sp) hS fuel t U;have E:NA P S t=true:=Ag.1 hS t U;unfold NA at E;intro cs x u
  split at E
  ·rename_i hu;simp only[beq_iff_eq]at E;unfold DataW.trod at u;rw[hu]at u
   split at u <;> simp_all
   exact⟨_,.bool t _ hu,RepL.one (.bool _) rfl,.inr rfl,by rw[← u]; simp[wt,blk]⟩
  ·rename_i k hu;simp only[beq_iff_eq]at E;unfold DataW.trod at u;rw[hu]at u
   split at u <;> simp_all
   rename_i k' m;obtain⟨⟨rfl,hw⟩,I⟩:=u;exact⟨_,.int t _ _ hu hw,RepL.one (.int _ _) rfl,.inr rfl,by rw[← I]; simp[wt,blk]⟩
  ·rename_i hu;simp only[beq_iff_eq]at E;unfold DataW.trod at u;rw[hu]at u
   split at u <;> simp_all
   rename_i s;exact⟨_,.str t s.data.toList hu (by simpa using u.1),RepL.one mF rfl,.inr rfl,by rw[← u.2]; simp[wt,blk]⟩
  ·rename_i e hu;simp only[Ac,A7,decide_eq_true_eq,beq_iff_eq]at E;obtain⟨⟨J,X⟩,N⟩:=E;rcases DataW.trod_slice hu u with⟨rfl,I⟩ | ⟨a,len,cap,elems,rest,m,hm,rfl,I,_,a0,a9,hlen,a1,_,_⟩
   ·refine⟨.slc (nz (P.cellsOf e) []) [] false,.slc t e [] hu (fun x h=>by cases h) (Ba _),RepL.one (.slcE _ false none 0 (fun h=>by cases h)) rfl,N.symm,.inr rfl,by rw[I]; simp[wt,Gm,blk]⟩
   ·obtain rfl:m=fuel:=by omega
    have Y:∀ i,i<len→∃ d,TyD P e d∧d.cells.length=P.cellsOf e∧(∀ (j:Nat) y,d.cells[j]?=some y→y.pure1=true∧∃ v,w.cell? ((a.add (i*P.cellsOf e)).add j)=some v∧RepV w (IF w) [] y v)∧wt d≤((elems[i]?).map fun y=>blk y.1).getD 0:=by
     intro i hi;have h1:=a1 i hi;rw[Af (by omega)]at h1 ⊢;simp only[Aw]at h1;obtain⟨cs',h2,h3⟩:=h1;obtain⟨d,d1,d2,d3,_,d5⟩:=V e J cs' _ h3;obtain⟨h4,h5⟩:=cells?_get h2;refine⟨d,d1,by rw[d2.1,h4],fun j y hy=>⟨d2.2.2 y (Ah hy),?_⟩,by simpa using d5⟩;have hj:j<cs'.length:=by rw[← d2.1]; exact(Ab.1 hy).1
     exact⟨cs'[j],h5 j _ (Af hj),d2.2.1 j y _ hy (Af hj)⟩
    obtain⟨els,e1,e2,e3,e4⟩:=xz X a0 Y;refine⟨_,.slc t e els hu e2 (by omega),e3,N.symm,.inr rfl,?_⟩;rw[I];simp only[wt,blk];refine Nat.succ_le_succ (Xy _ _ (by simp; omega) ?_);grind
  ·rename_i fs hu;simp only[Ac,Ag,A7]at E;obtain⟨J,ac⟩:=E;unfold DataW.trod at u;rw[hu]at u;simp only at u
   split at u
   case isFalse=>cases u
   rename_i hl;simp only[DA]at u;obtain⟨ys,M,rfl⟩:=u;obtain⟨xs,x1,x2,O,x4,x5⟩:=ck cs (P.cellsOf t) fs.toList 0 ys (fun f hf=>V f.type (J f hf)) ac M;refine⟨.agg (xs.flatMap D.cells),.agg t fs xs hu x1 x2,?_,hl,.inl ⟨_,rfl⟩,by simpa only[wt,blk]using x5⟩;rw[Bp,CE,AI (by omega)]at O;exact O
  ·rename_i m e hu;simp only[Ac,A7,beq_iff_eq]at E;obtain⟨J,ba⟩:=E;unfold DataW.trod at u;rw[hu]at u;simp only at u
   split at u
   case isFalse=>cases u
   rename_i hl;simp only[DA]at u;obtain⟨ys,M,rfl⟩:=u;rw[Bi]at M;obtain⟨xs,x1,x2,O,x5⟩:=bS (V e J) cs m 0 ys M;refine⟨.agg (xs.flatMap D.cells),.arr t m e xs hu x1 x2,?_,hl,.inl ⟨_,rfl⟩,by simpa only[wt,blk]using x5⟩;rw[Cr,Bp,AI (by omega)]at O;exact O
  ·cases E
theorem ij{sp:Nat→Bool}:∀ (n:Nat) (t:TypeId) (ty:Ty),FO P n t=some ty→ZT enc P w sp t ty
 |0,_,_,h=>by simp[FO]at h
 |n+1,t,ty,h=>by
  have ih:=ij (sp:=sp) n;intro fuel cs x u;unfold FO at h
  cases fuel with
  |zero=>simp[DataW.trod]at u
  |succ fuel=>
  split at h
  ·rename_i hu;simp only[C9]at h; subst h;unfold DataW.trod at u;rw[hu]at u
   split at u <;> simp_all
   exact⟨_,.bool _,RepL.one (.bool _) rfl,rfl,rfl,by rw[← u]; simp[wt,blk]⟩
  ·rename_i k hu;simp only[C9]at h; subst h;unfold DataW.trod at u;rw[hu]at u
   split at u <;> simp_all
   rename_i k' m;obtain⟨⟨rfl,hw⟩,M⟩:=u;exact⟨_,.int _ _ hw,RepL.one (.int _ _) rfl,rfl,rfl,by rw[← M]; simp[wt,blk]⟩
  ·rename_i hu;simp only[C9]at h; subst h;unfold DataW.trod at u;rw[hu]at u
   split at u <;> simp_all
   rename_i s;exact⟨_,.str s.data.toList (by simpa using u.1),RepL.one mF rfl,rfl,rfl,by rw[← u.2]; simp[wt,blk]⟩
  ·rename_i e hu
   split at h
   case h_2=>
    split at h
    case isFalse=>cases h
    rename_i N;simp only[Ac,A7]at N;simp only[C9]at h; subst h;obtain⟨d,d1,d2,d3,d4,d5⟩:=kM N.1 (fuel+1) t N.2 cs x u
    have ab:P.cellsOf t=1:=by
     have:=Ag.1 N.1 t N.2;unfold NA at this;grind
    rw[ab]at d3
    have:∃ sz els,d=.slc (nz sz els) els false:=by
     cases d1 with
     |slc _ e' els E V h3=>exact⟨_,_,rfl⟩
     |agg _ fs xs E=>rw[hu]at E; cases E
     |arr _ m e' xs E=>rw[hu]at E; cases E
     |bool _ b E=>rw[hu]at E; cases E
     |int _ k n E=>rw[hu]at E; cases E
     |str _ s E=>rw[hu]at E; cases E
    obtain⟨sz,els,rfl⟩:=this;exact⟨_,.opq _ sz els d1,d2,d3,.inr rfl,d5⟩
   rename_i ex hex
   split at h
   case isFalse=>cases h
   rename_i I;simp only[Ac,beq_iff_eq,decide_eq_true_eq]at I;simp only[C9]at h; subst h;rcases DataW.trod_slice hu u with⟨rfl,M⟩ | ⟨a,len,cap,elems,rest,m,_,rfl,M,_,a3,be,hlen,a4,_,_⟩
   ·exact⟨_,.slc ex [] (fun i x h=>by simp at h) (Ba _),RepL.one (.slcE _ false none 0 (fun h=>by cases h)) rfl,rfl,.inr rfl,by rw[M]; simp[wt,Gm,blk]⟩
   ·have J:∀ i (hi:i<len),∃ d,Has ex d∧d.cells.length=ex.size∧(∀ (j:Nat) y,d.cells[j]?=some y→y.pure1=true∧∃ v,w.cell? ((a.add (i*ex.size)).add j)=some v∧RepV w (IF w) [] y v)∧wt d≤blk (elems[i]'(by omega)).1:=by
     intro i hi;have E:=a4 i hi;rw[I.1,Af (by omega)]at E;simp only[Aw]at E;obtain⟨cs',V,h3⟩:=E;obtain⟨d,d1,d2,d3,_,d5⟩:=ih e ex hex m cs' _ h3;obtain⟨h4,h5⟩:=cells?_get V;refine⟨d,d1,by rw[d2.1,h4],fun j y hy=>⟨d2.2.2 y (Ah hy),?_⟩,d5⟩;have X:j<cs'.length:=by rw[← d2.1]; exact(Ab.1 hy).1
     exact⟨cs'[j],h5 j _ (Af X),d2.2.1 j y _ hy (Af X)⟩
    let f:Nat→D:=fun i=>if hi:i<len then(J i hi).choose else .junk
    have hf:∀ i (hi:i<len),f i=(J i hi).choose:=fun i hi=>by simp[f,hi]
    have ae:∀ (i:Nat) x,((CQ len).map f)[i]?=some x→∃ hi:i<len,x=(J i hi).choose:=by
     grind
    refine⟨.slc (nz ex.size ((CQ len).map f)) ((CQ len).map f) false,.slc ex _ (fun i x u=>?_) (by simp; omega),?_,rfl,.inr rfl,?_⟩
    ·grind
    ·refine RepL.one (RepV.nz (t:=false) ?_) rfl;rcases BN len with h0 | h0
     ·subst h0;exact .slcE _ false (some a) cap (fun h=>by cases h)
     ·have Y:a.spot=none:=by
       obtain⟨d1,d2,d3,_⟩:=(J 0 h0).choose_spec;obtain⟨_,v,E,_⟩:=d3 0 _ (Af (by rw[d2]; exact I.2));rw[Cr]at E;have V:(a.add 0).add 0=a:=by simp[Addr.add]
       rw[V]at E;unfold World.cell? at E
       split at E
       ·split at E
        ·cases E
        ·rename_i hs; simpa using hs
       ·cases E
      obtain⟨b,off,spot⟩:=a;simp only at Y;subst Y;have hl:len=((CQ len).map f).length:=by simp
      conv=>rhs; rw[hl]
      refine RepV.slc_mk I.2 ?_ (by simpa using a3) (fun h=>by cases h) ?_
      ·grind
      ·intro i j d hd;obtain⟨e',he,X⟩:=GQ hd;obtain⟨a5,rfl⟩:=ae i e' he;obtain⟨hp,v,hv,hr⟩:=(J i a5).choose_spec.2.2.1 j d X;rw[I3,I3]at hv;refine⟨hp,?_,v,hv,hr⟩
       show(w.cell? ⟨b,off+i*ex.size+j,none⟩).isSome=true
       rw[hv]; rfl
    ·rw[M];simp only[wt,blk];refine Nat.succ_le_succ (Xy _ _ (by simp; omega) ?_);grind
  ·rename_i fs hu
   split at h
   case h_2=>cases h
   rename_i ts a6
   split at h
   case isFalse=>cases h
   rename_i I;simp only[Ac,beq_iff_eq]at I;simp only[C9]at h; subst h;unfold DataW.trod at u;rw[hu]at u;simp only at u
   split at u
   case isFalse=>cases u
   rename_i hl;simp only[DA]at u;obtain⟨ys,O,rfl⟩:=u;obtain⟨xs,x1,x2,U,x4,x5⟩:=bO ih fuel cs fs.toList ts 0 ys a6 I.1 O;refine⟨.agg (xs.flatMap D.cells),.agg ts xs x1 x2,?_,by rw[hl,I.2]; rfl,.inl ⟨ts,rfl⟩,by simpa only[wt,blk]using x5⟩;rw[Bp,AI (by omega)]at U;exact U
  ·rename_i m e hu
   split at h
   case h_2=>cases h
   rename_i ex hex
   split at h
   case isFalse=>cases h
   rename_i I;simp only[Ac,beq_iff_eq]at I;simp only[C9]at h; subst h;unfold DataW.trod at u;rw[hu]at u;simp only at u
   split at u
   case isFalse=>cases u
   rename_i hl;simp only[DA]at u;obtain⟨ys,O,rfl⟩:=u;rw[Bi]at O;obtain⟨xs,x1,x2,U,x5⟩:=br (ih e ex hex) I.1 fuel cs m 0 ys O;refine⟨.agg (xs.flatMap D.cells),.agg _ xs (by simp[x1]) ?_,?_,by rw[hl,I.2]; exact(Ty.sizes_replicate ex m).symm,.inl ⟨_,rfl⟩,by simpa only[wt,blk]using x5⟩
   ·grind
   ·rw[Cr,Bp,AI (by omega)]at U;exact U
  ·cases h
end
end Go.Proofs.YtijnglngaogdjaaGreatDoor.PI
namespace Go.Proofs.YtijnglngaogdjaaGreatDoor.PI
open Go Go.RowKit Go.ChangeShapes
variable {v:Value}{a:Addr}{n:Nat}{before:List MemPlace}{args:Array Value}{s:ChangeSpec}{tys:List Ty}{sp:List D→Option D}{fn:Func}{G:Dh}
section
variable {H:Type} {enc:TypeId×Value→H} {P:Program} {W W':World}
theorem KD{α β:Type}{f g:α→Option β}:∀ {l:List α} {r:List β},l.mapM f=some r→(∀ x y,x∈l→y∈r→f x=some y→g x=some y)→l.mapM g=some r
 |[],r,h,_=>by simpa using h
 |a::l,r,h,u=>by
  simp only[Bv,Bo,Aw,BG,C9]at h ⊢;obtain⟨b,hb,I,E,rfl⟩:=h;exact⟨b,u a b (by simp) (by simp) hb,I,KD E (fun x y J M=>u x y (by simp[J]) (by simp[M])),rfl⟩
theorem cell?_below(hb:Below W.heap.size W W')(h:W.cell? a=some v):W'.cell? a=some v:=by
 have u:=World.block_lt_of_cell? W a h;rw[← h];simp only[World.cell?,hb.block a.block u]
theorem cells?_below(hb:Below W.heap.size W W'){b:Nat}{cs:List Value}(h:W.cells? b a n=some cs):W'.cells? b a n=some cs:=by
 unfold World.cells? at h ⊢
 split at h
 ·rename_i u;rw[if_pos u];exact KD h fun x y _ _ E=>cell?_below hb E
 ·cases h
theorem kL(hb:Below W.heap.size W W'){S:List TypeId}(hS:IU P S=true):∀ (fuel:Nat) (t:TypeId),t∈S→∀ (cs:List Value) (x:DataW H×List MemPlace),DataW.trod enc P W 0 (fun _=>true) true fuel t cs=some x→
  ∀ E:Nat→Bool,(∀ p∈x.2,E p.block=true)→DataW.trod enc P W' 0 E true fuel t cs=some x
 |0,t,_=>by intro cs x u; simp[DataW.trod]at u
 |fuel+1,t,ht=>by
  have ih:=kL hb hS fuel;intro cs x u E Y;have J:NA P S t=true:=Ag.1 hS t ht;unfold NA at J
  split at J
  ·rename_i hu;unfold DataW.trod at u ⊢;grind
  ·rename_i k hu;unfold DataW.trod at u ⊢;grind
  ·rename_i hu;unfold DataW.trod at u ⊢;grind
  ·rename_i e hu;simp only[Ac,A7,decide_eq_true_eq,beq_iff_eq]at J;obtain⟨⟨M,ae⟩,_⟩:=J
   have N:∀ (b:Addr) (y:DataW H×List MemPlace),(∀ p∈y.2,E p.block=true)→(W.cells? 0 b (P.cellsOf e)).bind (DataW.trod enc P W 0 (fun _=>true) true fuel e)=some y→(W'.cells? 0 b (P.cellsOf e)).bind (DataW.trod enc P W' 0 E true fuel e)=some y:=by
    intro b y I O;simp only[Aw]at O ⊢;obtain⟨cs',V,h3⟩:=O;exact⟨cs',cells?_below hb V,ih e M cs' y h3 E I⟩
   unfold DataW.trod at u ⊢;rw[hu]at u ⊢
   split at u
   all_goals try (first | (rename_i heq _; cases heq; done) | (rename_i heq; cases heq; done))
   all_goals try (simp_all; done)
   rename_i e' a len cap heq;cases heq;simp only[if_true]at u ⊢
   split at u
   case isFalse=>cases u
   rename_i X;rw[if_pos X];simp only[Aw,DA]at u ⊢;obtain⟨elems,O,rest,V,rfl⟩:=u;have hle:elems.length=len:=by simpa using Lib.mapM_length O
   have a0:rest.length=cap - len:=by simpa using Lib.mapM_length V
   have M:∀ y∈elems++rest,∀ p∈y.2,E p.block=true:=fun y I p hp=>Y p (by
    grind)
   refine⟨elems,KD O (fun i y _ I hi=>N _ y (M y (by simp[I])) hi),rest,?_,rfl⟩;rcases BN cap with h0 | h0
   ·grind
   ·have aa:E a.block=true:=Y (.cell a.block (a.off+0)) (by
     simp only[AF]
     left
     simp only[MemPlace.row,AS,AN];simp_all)
    rw[if_pos aa];exact KD V (fun i y _ I hi=>N _ y (M y (by simp[I])) hi)
  ·rename_i fs hu;simp only[Ac,Ag,A7]at J;unfold DataW.trod at u ⊢;rw[hu]at u ⊢;simp only at u ⊢
   split at u
   case isFalse=>cases u
   rename_i hl;rw[if_pos hl];simp only[DA]at u ⊢;obtain⟨ys,U,rfl⟩:=u;refine⟨ys,KD U (fun f y hf I hi=>?_),rfl⟩;grind
  ·rename_i m e hu;simp only[Ac,A7,beq_iff_eq]at J;unfold DataW.trod at u ⊢;rw[hu]at u ⊢;simp only at u ⊢
   split at u
   case isFalse=>cases u
   rename_i hl;rw[if_pos hl];simp only[DA]at u ⊢;obtain⟨ys,U,rfl⟩:=u;refine⟨ys,KD U (fun i y _ I hi=>?_),rfl⟩;grind
  ·cases J
theorem bm(hb:Below W.heap.size W W'):∀ (n:Nat) (t:TypeId) (ty:Ty),FO P n t=some ty→∀ (fuel:Nat) (cs:List Value) (x:DataW H×List MemPlace),DataW.trod enc P W 0 (fun _=>true) true fuel t cs=some x→
  ∀ E:Nat→Bool,(∀ p∈x.2,E p.block=true)→DataW.trod enc P W' 0 E true fuel t cs=some x
 |0,_,_,h=>by simp[FO]at h
 |n+1,t,ty,h=>by
  have ih:=bm hb n;intro fuel cs x u E M;unfold FO at h
  cases fuel with
  |zero=>simp[DataW.trod]at u
  |succ fuel=>
  split at h
  ·rename_i hu;unfold DataW.trod at u ⊢;grind
  ·rename_i k hu;unfold DataW.trod at u ⊢;grind
  ·rename_i hu;unfold DataW.trod at u ⊢;grind
  ·rename_i e hu
   split at h
   case h_2=>
    split at h
    case isFalse=>cases h
    rename_i N;simp only[Ac,A7]at N;exact kL hb N.1 (fuel+1) t N.2 cs x u E M
   rename_i ex hex
   split at h
   case isFalse=>cases h
   rename_i hc;simp only[Ac,beq_iff_eq,decide_eq_true_eq]at hc;have ae:0<P.cellsOf e:=by rw[hc.1]; exact hc.2
   have O:∀ (b:Addr) (y:DataW H×List MemPlace),(∀ p∈y.2,E p.block=true)→(W.cells? 0 b (P.cellsOf e)).bind (DataW.trod enc P W 0 (fun _=>true) true fuel e)=some y→(W'.cells? 0 b (P.cellsOf e)).bind (DataW.trod enc P W' 0 E true fuel e)=some y:=by
    intro b y I U;simp only[Aw]at U ⊢;obtain⟨cs',V,h3⟩:=U;exact⟨cs',cells?_below hb V,ih e ex hex fuel cs' y h3 E I⟩
   unfold DataW.trod at u ⊢;rw[hu]at u ⊢
   split at u
   all_goals try (first | (rename_i heq _; cases heq; done) | (rename_i heq; cases heq; done))
   all_goals try (simp_all; done)
   rename_i e' a len cap heq;cases heq;simp only[if_true]at u ⊢
   split at u
   case isFalse=>cases u
   rename_i X;rw[if_pos X];simp only[Aw,DA]at u ⊢;obtain⟨elems,U,rest,V,rfl⟩:=u;have hle:elems.length=len:=by simpa using Lib.mapM_length U
   have a2:rest.length=cap - len:=by simpa using Lib.mapM_length V
   have Y:∀ y∈elems++rest,∀ p∈y.2,E p.block=true:=fun y I p hp=>M p (by
    grind)
   refine⟨elems,KD U (fun i y _ I hi=>O _ y (Y y (by simp[I])) hi),rest,?_,rfl⟩;rcases BN cap with h0 | h0
   ·grind
   ·have ac:E a.block=true:=M (.cell a.block (a.off+0)) (by
     simp only[AF]
     left
     simp only[MemPlace.row,AS,AN];simp_all)
    rw[if_pos ac];exact KD V (fun i y _ I hi=>O _ y (Y y (by simp[I])) hi)
  ·rename_i fs hu
   split at h
   case h_2=>cases h
   rename_i ts aa;unfold DataW.trod at u ⊢;rw[hu]at u ⊢;simp only at u ⊢
   split at u
   case isFalse=>cases u
   rename_i hl;rw[if_pos hl];simp only[DA]at u ⊢;obtain⟨ys,J,rfl⟩:=u
   have a1:∀ f∈fs.toList,∃ ty,FO P n f.type=some ty:=by
    clear J hl hu h;generalize fs.toList=l at aa
    induction l generalizing ts with
    |nil=>intro f hf; cases hf
    |cons f0 l a3=>
     unfold N9 at aa;grind
   refine⟨ys,KD J (fun f y hf I hi=>?_),rfl⟩;grind
  ·rename_i m e hu
   split at h
   case h_2=>cases h
   rename_i ex hex;unfold DataW.trod at u ⊢;rw[hu]at u ⊢;simp only at u ⊢
   split at u
   case isFalse=>cases u
   rename_i hl;rw[if_pos hl];simp only[DA]at u ⊢;obtain⟨ys,J,rfl⟩:=u;refine⟨ys,KD J (fun i y _ I hi=>?_),rfl⟩;grind
  ·cases h
theorem cu(hb:Below W.heap.size W W'){n:Nat}:∀ (E:List TypeId) (tys:List Ty) (vs:List Value) (ds:List (DataW H)) (ps:List MemPlace),E.mapM (FO P n)=some tys→DataW.TrodAll enc P W 0 (fun _=>true) true E vs ds ps→
  ∀ u:Nat→Bool,(∀ p∈ps,u p.block=true)→DataW.TrodAll enc P W' 0 u true E vs ds ps
 |[],_,[],[],ps,_,h=>fun _ _=>h
 |t::E,tys,v::vs,d::ds,ps,N,h=>by
  intro u I;simp only[Bv,Bo,Aw,BG,C9]at N;obtain⟨ty,O,J,U,rfl⟩:=N;obtain⟨p,q,⟨fuel,V⟩,X,rfl⟩:=h;exact⟨p,q,⟨fuel,bm hb n t ty O fuel _ _ V u (fun x M=>I x (by simp[M]))⟩,cu hb E J vs ds q U X u (fun x M=>I x (by simp[M])),rfl⟩
 |[],_,_::_,_,_,_,h=>by cases h
 |[],_,[],_::_,_,_,h=>by cases h
 |_::_,_,[],_,_,_,h=>by cases h
 |_::_,_,_::_,[],_,_,h=>by cases h
theorem tS{sp:Nat→Bool}{t:TypeId}{ty:Ty}{d:DataW H}{ps:List MemPlace}(E:FO P n t=some ty)(hv:Value.okWide P W .any 0 t v)(h:DataW.Trod enc P W 0 sp true t v d ps) :
  ∃ x,Has ty x∧(RepV W (IF W) [] x v∧purA x=true)∧wt x≤blk d:=by
 obtain⟨fuel,h⟩:=h;obtain⟨x,J,M,h3,h4,X⟩:=ij n t ty E fuel _ _ h;refine⟨x,J,?_,X⟩
 have I:(∀ cs,v≠.agg cs)→x.pure1=true→RepV W (IF W) [] x v∧purA x=true:=by
  intro U O;have V:v.cells=#[v]:=by cases v <;> first | rfl | exact absurd rfl (U _)
  rw[SO O,V]at M;refine⟨M.2.1 0 x v rfl rfl,?_⟩;cases x <;> first | exact O | (simp[D.pure1]at O; done)
 have N:∀ cs l,v=.agg cs→x=.agg l→RepV W (IF W) [] x v∧purA x=true:=by
  intro cs l Y e2;subst Y; subst e2;refine⟨?_,?_⟩
  ·have:=RepV.agg (w:=W) (g:=IF W) (st:=[]) l cs.toList (by simpa[D.cells,Value.cells]using M.1) (fun i d u hd hu=>M.2.1 i d u hd (by simpa[Value.cells]using hu));omega
  ·simp only[purA,Ag];exact M.2.2
 unfold Value.okWide at hv
 cases n with
 |zero=>simp[FO]at E
 |succ n=>
 unfold FO at E
 split at E
 ·rename_i hu;simp only[C9]at E; subst E;cases J;exact I (fun cs e=>by subst e; simp[hu,Cell.okWide,Cell.ok]at hv) rfl
 ·rename_i k hu;simp only[C9]at E; subst E;cases J;exact I (fun cs e=>by subst e; simp[hu,Cell.okWide,Cell.ok]at hv) rfl
 ·rename_i hu;simp only[C9]at E; subst E;cases J;exact I (fun cs e=>by subst e; simp[hu,Cell.okWide,Cell.ok]at hv) rfl
 ·rename_i e hu
  split at E
  case h_2=>
   split at E
   case isFalse=>cases E
   simp only[C9]at E; subst E;cases J;exact I (fun cs e=>by subst e; simp[hu,Cell.okWide,Cell.ok]at hv) rfl
  split at E
  case isFalse=>cases E
  simp only[C9]at E; subst E;cases J;exact I (fun cs e=>by subst e; simp[hu,Cell.okWide,Cell.ok]at hv) rfl
 ·rename_i fs hu
  split at E
  case h_2=>cases E
  split at E
  case isFalse=>cases E
  simp only[C9]at E; subst E;simp only[hu]at hv;obtain⟨cs,rfl,_,_⟩:=hv
  cases J with
  |agg _ xs _ _=>exact N cs _ rfl rfl
 ·rename_i m e hu
  split at E
  case h_2=>cases E
  split at E
  case isFalse=>cases E
  simp only[C9]at E; subst E;simp only[hu]at hv;obtain⟨cs,rfl,_,_⟩:=hv
  cases J with
  |agg _ xs _ _=>exact N cs _ rfl rfl
 ·cases E
inductive HasAll:List Ty→List D→Prop
 |nil:HasAll [] []
 |cons {t:Ty} {ts:List Ty} {x:D} {xs:List D}:Has t x→HasAll ts xs→HasAll (t::ts) (x::xs)
theorem ki{sp:Nat→Bool}{n:Nat}:∀ (E:List TypeId) (tys:List Ty) (vs:List Value) (ds:List (DataW H)) (ps:List MemPlace),E.mapM (FO P n)=some tys→(∀ (j:Nat) t v,E[j]?=some t→vs[j]?=some v→Value.okWide P W .any 0 t v)→DataW.TrodAll enc P W 0 sp true E vs ds ps→
  ∃ xs,HasAll tys xs∧xs.length=vs.length∧(∀ (i:Nat) d v,xs[i]?=some d→vs[i]?=some v→RepV W (IF W) [] d v)∧(∀ d∈xs,purA d=true)∧Gm xs≤FV ds
 |[],tys,[],[],ps,u,_,_=>by
  simp at u; subst u;exact⟨[],.nil,rfl,fun i d v h=>by simp at h,(fun d h=>by cases h),by simp[Gm]⟩
 |t::E,tys,v::vs,d::ds,ps,u,hv,h=>by
  simp only[Bv,Bo,Aw,BG,C9]at u;obtain⟨ty,M,I,N,rfl⟩:=u;obtain⟨p,q,O,U,rfl⟩:=h;obtain⟨x,V,⟨x2,x3⟩,x5⟩:=tS M (hv 0 t v rfl rfl) O;obtain⟨xs,X,Y,y3,y4,y5⟩:=ki E I vs ds q N (fun j t v u J=>hv (j+1) t v (by simpa using u) (by simpa using J)) U;refine⟨x::xs,.cons V X,by simp[Y],?_,?_,?_⟩
  ·grind
  ·grind
  ·simp only[Gm,FV]; omega
 |[],_,_::_,_,_,_,_,h=>by cases h
 |[],_,[],_::_,_,_,_,h=>by cases h
 |_::_,_,[],_,_,_,_,h=>by cases h
 |_::_,_,_::_,[],_,_,_,h=>by cases h
theorem ym{K N:Nat}(hC:Contract P G K sp)(J:fn.params.toList.mapM (FO P n)=some tys)(u:s.vars=[])
  (E:∃ tb,fn.resultTypes=#[tb]∧P.underlying tb=some .bool)
  (Y:∀ (H:Type) (ds:List (DataW H)),ds.length=fn.params.size→(s.fn H ds).results=[.lit (.bool true)]∧(s.fn H ds).args=ds∧(s.fn H ds).vars=[])
  (aa:∀ xs,HasAll tys xs→Gm xs≤N→sp xs=some (.bool true))
   {ds O:List (DataW H)}  (hG:GlobOK G W (IF W)) (hN:FV ds≤N)
  (U:∀ (j:Nat) t v,fn.params[j]?=some t→args[j]?=some v→Value.okWide P W .any 0 t v)
  (hW:DataW.Whole enc P fn.params.toList s.vars false W args.toList ds O before) :
  Calls P K args W fun e W'=>∃ v,e=.returned v∧s.post enc P fn false true false false W args v W':=by
 obtain⟨tb,E,ac⟩:=E;have M:=hW;obtain⟨p,q,V,X,rfl,ba,bb⟩:=hW;rw[u]at X
 have ad:O=[]∧q=[]:=by
  cases O with
  |nil=>exact⟨rfl,X⟩
  |cons a l=>cases X
 obtain⟨rfl,rfl⟩:=ad;obtain⟨xs,x1,x2,x3,x4,x5⟩:=ki fn.params.toList tys args.toList ds p J (fun j t v ht hv=>U j t v (by simpa using ht) (by simpa using hv)) V
 have hlen:∀ (I:List TypeId) (vs:List Value) (ds:List (DataW H)) (ps:List MemPlace),DataW.TrodAll enc P W 0 (fun _=>true) true I vs ds ps→ds.length=I.length:=by
  intro I
  induction I with
  |nil=>intro vs ds ps h; cases vs <;> cases ds <;> first | rfl | cases h
  |cons t I ih=>
   intro vs ds ps h
   cases vs with
   |nil=>cases h
   |cons v vs=>
    cases ds with
    |nil=>cases h
    |cons d ds=>
     obtain⟨_,_,_,h4,_⟩:=h;grind
 have ae:ds.length=fn.params.size:=by simpa using hlen _ _ _ _ V
 have hc:=hC W (IF W) xs args.toList (.bool true) (aa xs x1 (AT x5 hN)) hG (fun b o h=>h) x2 x3 x4;rw[BE]at hc;refine hc.mono ?_;rintro e W' ⟨v,g',rfl,h1,_,_,_,_,hb⟩;have hv:=JN h1;subst hv;obtain⟨f1,f2,f3⟩:=Y H ds ae;refine⟨_,rfl,ds,[],p++[],[],p,[],M,?_,?_,?_,?_,fun h=>by cases h⟩
 ·rw[Av,f1,E];exact⟨[],[],⟨1,by unfold DataW.trod; simp[ac,Value.cells]⟩,rfl,rfl⟩
 ·rw[Av,f2];refine cu hb _ tys _ _ _ J V _ fun x hx=>?_;simpa using M.lt x (by simpa using hx)
 ·rw[Av,f3,u];rfl
 ·refine⟨hb.os,hb.output,fun i hi=>?_⟩;rw[hb.block i hi];grind
theorem law_contract{K:Nat}(U:Contract P G K sp)(I:fn.params.toList.mapM (FO P n)=some tys)(u:s.vars=[])
  (J:∃ tb,fn.resultTypes=#[tb]∧P.underlying tb=some .bool)
  (M:∀ (H:Type) (ds:List (DataW H)),ds.length=fn.params.size→(s.fn H ds).results=[.lit (.bool true)]∧(s.fn H ds).args=ds∧(s.fn H ds).vars=[])
  (O:∀ xs,HasAll tys xs→sp xs=some (.bool true))
   {ds V:List (DataW H)}  (X:GlobOK G W (IF W))
  (E:∀ (j:Nat) t v,fn.params[j]?=some t→args[j]?=some v→Value.okWide P W .any 0 t v)
  (Y:DataW.Whole enc P fn.params.toList s.vars false W args.toList ds V before) :
  Calls P K args W fun e W'=>∃ v,e=.returned v∧s.post enc P fn false true false false W args v W':=
 ym (N:=FV ds) U I u J M (fun xs h _=>O xs h) X (Az _) E Y
def MX(g:Nat)(k:IntKind)(zs:List Int):Dh:=fun n=>if n=g then some (.agg (zs.map fun z=>.int k z))else none
theorem Ykg{E:String}{k:IntKind}{zs:List Int}{g:Nat}(h:Lib.TabIs P W E k zs)(N:P.globalNamed E=some g):GlobOK (MX g k zs) W (IF W):=by
 intro n d u;simp only[MX,Am,C9]at u;obtain⟨rfl,rfl⟩:=u
 have I:∀ (j:Nat) (d:D),(D.agg (zs.map fun z=>D.int k z)).cells[j]?=some d→d=.int k (zs.getD j 0)∧W.cell? ⟨n,j,none⟩=some (.int k (zs.getD j 0)):=by
  intro j d u;simp only[D.cells,AG,DA]at u;obtain⟨z,J,rfl⟩:=u;have M:j<zs.length:=(Ab.1 J).1;exact⟨by simp[Aj,J],h.cell N j M⟩
 refine .eptr _ 0 n 0 (fun j=>.int k (zs.getD j 0)) (fun j d u=>?_) (fun j d u=>?_) (fun j d u=>?_)
 ·rw[(I j d u).1]; rfl
 ·have:=(I j d u).2;rw[Bb];exact⟨by show(W.cell? ⟨n,j,none⟩).isSome=true; rw[this]; rfl,this⟩
 ·rw[(I j d u).1]; exact .int _ _
end
end Go.Proofs.YtijnglngaogdjaaGreatDoor.PI
namespace Go.Proofs.YtijnglngaogdjaaGreatDoor.PI
open Go
def wD(x:UInt32):D:=.int .u32 (x.toNat:Int)
def qD(x:UInt64):D:=.int .u64 (x.toNat:Int)
theorem Yov{n:Nat}(m:Nat):CP n (m:Int)=BitVec.ofNat n m:=BitVec.ofInt_natCast ..
theorem NG(n:Nat):IntKind.wrap .u32 (n:Int)=((n % 2 ^ 32:Nat):Int):=by
 rfl
theorem OS(n:Nat):IntKind.wrap .u64 (n:Int)=((n % 2 ^ 64:Nat):Int):=by
 rfl
theorem Vu(n:Nat):IntKind.wrap .u8 (n:Int)=((n % 2 ^ 8:Nat):Int):=by
 rfl
theorem NY(x y:UInt32):Dj .add (wD x) (wD y)=some (wD (x+y)):=by
 rfl
theorem Rh(x:UInt32):CP 32 (x.toNat:Int)=x.toBitVec:=by
 simp_all
theorem VD(x:UInt32):x.toNat % 2 ^ 32=x.toNat:=AW x.toNat_lt
theorem lC(x y:UInt32):Dj .and (wD x) (wD y)=some (wD (x &&& y)):=by
 have h:(CP (IntKind.bits .u32) (x.toNat:Int) &&& CP (IntKind.bits .u32) (y.toNat:Int)).toNat=(x &&& y).toNat:=by
  show(CP 32 (x.toNat:Int) &&& CP 32 (y.toNat:Int)).toNat=_
  simp_all
 simp only[Dj,wD,if_true,Jd,Ae,h,NG,VD]
theorem Ld(x y:UInt32):Dj .or (wD x) (wD y)=some (wD (x ||| y)):=by
 have h:(CP (IntKind.bits .u32) (x.toNat:Int) ||| CP (IntKind.bits .u32) (y.toNat:Int)).toNat=(x ||| y).toNat:=by
  show(CP 32 (x.toNat:Int) ||| CP 32 (y.toNat:Int)).toNat=_
  simp_all
 simp only[Dj,wD,if_true,Jd,Ae,h,NG,VD]
theorem Uv(x y:UInt32):Dj .xor (wD x) (wD y)=some (wD (x ^^^ y)):=by
 have h:(CP (IntKind.bits .u32) (x.toNat:Int) ^^^ CP (IntKind.bits .u32) (y.toNat:Int)).toNat=(x ^^^ y).toNat:=by
  show(CP 32 (x.toNat:Int) ^^^ CP 32 (y.toNat:Int)).toNat=_
  simp_all
 simp only[Dj,wD,if_true,Jd,Ae,h,NG,VD]
theorem lK(x:UInt32):IS .xor (wD x)=some (wD (~~~x)):=by
 have u:(IntKind.max .u32)=((4294967295:UInt32).toNat:Int):=by decide
 have h:(CP (IntKind.bits .u32) ((4294967295:UInt32).toNat:Int) ^^^ CP (IntKind.bits .u32) (x.toNat:Int)).toNat=(~~~x).toNat:=by
  show(CP 32 ((4294967295:UInt32).toNat:Int) ^^^ CP 32 (x.toNat:Int)).toNat=_
  rw[Rh,Rh,show(4294967295:UInt32).toBitVec=BitVec.allOnes 32 from rfl,BitVec.allOnes_xor];rfl
 simp only[IS,wD,Jd,Ae,show IntKind.signed .u32=false from rfl,Ak,if_false,u,h,NG,VD]
theorem eO(st:St)(b:UInt8):E0 st (.int .u32) (Da b)=some (wD b.toUInt32):=by
 simp only[E0,Da,wD,NG,UInt8.toNat_toUInt32];simp_all
theorem eQ(st:St)(x:UInt32):E0 st (.int .u8) (wD x)=some (Da x.toUInt8):=by
 rfl
theorem eP(st:St)(x:UInt64):E0 st (.int .u8) (qD x)=some (Da x.toUInt8):=by
 rfl
theorem lQ(x:UInt32)(k:IntKind)(n:Nat)(h:n<32):Dj .shl (wD x) (.int k (n:Int))=some (wD (x <<< (UInt32.ofNat n))):=by
 have e:(x <<< (UInt32.ofNat n)).toNat=x.toNat*2 ^ n % 2 ^ 32:=by
  rw[UInt32.toNat_shiftLeft,Nat.shiftLeft_eq,UInt32.toNat_ofNat',AW (show n<2 ^ 32 by omega),AW h]
 have u:((x.toNat:Int)*2 ^ n)=((x.toNat*2 ^ n:Nat):Int):=by push_cast; rfl
 simp only[Dj,wD,J2,show ¬ ((n:Int)<0) by omega,if_false,Ae,AM,show IntKind.bits .u32=32 from rfl,By (B8 h),u,NG,e]
theorem lT(x:UInt32)(k:IntKind)(n:Nat)(h:n<32):Dj .shr (wD x) (.int k (n:Int))=some (wD (x >>> (UInt32.ofNat n))):=by
 have e:(x >>> (UInt32.ofNat n)).toNat=x.toNat / 2 ^ n:=by
  rw[UInt32.toNat_shiftRight,Nat.shiftRight_eq_div_pow,UInt32.toNat_ofNat',AW (show n<2 ^ 32 by omega),AW h]
 have u:(x.toNat:Int).fdiv (2 ^ n)=((x.toNat / 2 ^ n:Nat):Int):=by
  grind
 simp only[Dj,wD,J2,show ¬ ((n:Int)<0) by omega,if_false,Ae,AM,show IntKind.bits .u32=32 from rfl,By (B8 h),u,e]
theorem kZ(x:UInt64)(k:IntKind)(n:Nat)(h:n<64):Dj .shl (qD x) (.int k (n:Int))=some (qD (x <<< (CX n))):=by
 have e:(x <<< (CX n)).toNat=x.toNat*2 ^ n % 2 ^ 64:=by
  rw[UInt64.toNat_shiftLeft,Nat.shiftLeft_eq,UInt64.toNat_ofNat',AW (show n<2 ^ 64 by omega),AW h]
 have u:((x.toNat:Int)*2 ^ n)=((x.toNat*2 ^ n:Nat):Int):=by push_cast; rfl
 simp only[Dj,qD,J2,show ¬ ((n:Int)<0) by omega,if_false,Ae,AM,show IntKind.bits .u64=64 from rfl,By (B8 h),u,OS,e]
theorem Qp(x:UInt64)(k:IntKind)(n:Nat)(h:n<64):Dj .shr (qD x) (.int k (n:Int))=some (qD (x >>> (CX n))):=by
 have e:(x >>> (CX n)).toNat=x.toNat / 2 ^ n:=by
  rw[UInt64.toNat_shiftRight,Nat.shiftRight_eq_div_pow,UInt64.toNat_ofNat',AW (show n<2 ^ 64 by omega),AW h]
 have u:(x.toNat:Int).fdiv (2 ^ n)=((x.toNat / 2 ^ n:Nat):Int):=by
  grind
 simp only[Dj,qD,J2,show ¬ ((n:Int)<0) by omega,if_false,Ae,AM,show IntKind.bits .u64=64 from rfl,By (B8 h),u,e]
variable {n:Int}
theorem LL(u:-9223372036854775808≤n)(E:n<9223372036854775808):IntKind.wrap .i64 n=n:=by
 show(if(true && decide (n % (2 ^ 64:Int) ≥ (2 ^ (64 - 1):Int)))=true then n % (2 ^ 64:Int) - (2 ^ 64:Int)else n % (2 ^ 64:Int))=n
 grind
variable {a:Int}
theorem DL{b:Int}(u:-9223372036854775808≤a+b)(E:a+b<9223372036854775808):Dj .add (.int .i64 a) (.int .i64 b)=some (.int .i64 (a+b)):=by
 simp only[Dj,if_true,Ic,Ae,LL u E]
theorem Ez{b:Int}(u:-9223372036854775808≤a - b)(E:a - b<9223372036854775808):Dj .sub (.int .i64 a) (.int .i64 b)=some (.int .i64 (a - b)):=by
 simp only[Dj,if_true,Ic,Ae,LL u E]
theorem Jh{b:Int}(u:-9223372036854775808≤a*b)(E:a*b<9223372036854775808):Dj .mul (.int .i64 a) (.int .i64 b)=some (.int .i64 (a*b)):=by
 simp only[Dj,if_true,Ic,Ae,LL u E]
class Cont (α:Type):Type where
 mk::
 run:α→Prop
class Cont2 (α β:Type):Type where
 mk::
 run:α→β→Prop
class QC:Type where
 mk::
 run:Ex→Frame→St→Prop
class InvC:Type where
 mk::
 run:PS→Prop
class Br:Type where
 mk::
 run:Prop
def on{α:Type}(o:Option α)[k:Cont α]:Prop:=match o with
 |some a=>k.run a
 |none=>False
variable {α:Type}
theorem fm(a:α)(K:α→Prop):@on α (some a) ⟨K⟩=K a:=(rfl)
theorem Yil(k:Cont α):@on α none k=False:=(rfl)
def Of(d:D)[k:Cont Bool]:Prop:=match d with
 |.bool b=>k.run b
 |_=>False
theorem Ybw(b:Bool)(K:Bool→Prop):@Of (.bool b) ⟨K⟩=K b:=(rfl)
def Gt(b:Bool)[x:Br][y:Br]:Prop:=if b=true then x.run else y.run
theorem Yc1(x:Prop)(y:Br):@Gt true ⟨x⟩ y=x:=(rfl)
theorem sm(x:Br)(y:Prop):@Gt false x ⟨y⟩=y:=(rfl)
theorem Yjw(b:Bool)(x y:Br):@Gt (!b) x y=@Gt b y x:=by cases b <;> rfl
variable {y:Prop}
theorem Fg{p:Prop}[Decidable p]{x:Prop}(u:p→x)(E:¬ p→y):@Gt (decide p) ⟨x⟩ ⟨y⟩:=by
 by_cases h:p
 ·rw[show decide p=true by simpa using h]; exact u h
 ·rw[show decide p=false by simpa using h]; exact E h
def ev(d:D)[k:Cont D]:Prop:=k.run d
theorem Q5(d:D)(K:D→Prop):@ev d ⟨K⟩=K d:=(rfl)
def M4(d:D)(st:St)[k:Cont2 D St]:Prop:=k.run d st
theorem z4(d:D)(st:St)(K:D→St→Prop):@M4 d st ⟨K⟩=K d st:=(rfl)
def EX(T:Tbl)(op:POp)(ρ:PA→D)(st:St)(K:D→St→Prop):Prop:=@on _ (op.exec T ρ st) ⟨fun p=>K p.1 p.2⟩
def kG(fr:Frame)(g:Option (Nat×Bool))(x y:Prop):Prop:=match g with
 |none=>x
 |some (s,want)=>match fr s with
  |.bool b=>@Gt (b == want) ⟨x⟩ ⟨y⟩
  |.tup []=>y
  |_=>False
def FT(G:Dh)(T:Tbl):List PI→Frame→St→(Frame→St→Prop)→Prop
 |[],fr,st,K=>K fr st
 |i::l,fr,st,K=>kG fr i.guard (EX T i.op (Dn G fr) st fun d st'=>FT G T l (fr.put i.dst d) st' K) (FT G T l (fr.put i.dst (.tup [])) st K)
theorem SB{G:Dh}{T:Tbl}:∀ (l:List PI) (fr:Frame) (st:St) (K:Frame→St→Prop),FT G T l fr st K→∃ u st',Ft G T l ⟨fr,st⟩=some ⟨u,st'⟩∧K u st'
 |[],fr,st,K,h=>⟨fr,st,rfl,h⟩
 |i::l,fr,st,K,h=>by
  have yes:EX T i.op (Dn G fr) st (fun d st'=>FT G T l (fr.put i.dst d) st' K)→i.wanted fr=some true→∃ u st',Ft G T (i::l) ⟨fr,st⟩=some ⟨u,st'⟩∧K u st':=by
   intro h hw;unfold EX on at h
   split at h
   ·rename_i p N;obtain⟨u,st',J,M⟩:=SB l _ _ K h;exact⟨u,st',by simp only[Ft,PI.exec,hw,N,J],M⟩
   ·exact h.elim
  have no:FT G T l (fr.put i.dst (.tup [])) st K→i.wanted fr=some false→∃ u st',Ft G T (i::l) ⟨fr,st⟩=some ⟨u,st'⟩∧K u st':=by
   intro h hw;obtain⟨u,st',J,M⟩:=SB l _ _ K h;exact⟨u,st',by simp only[Ft,PI.exec,hw,J],M⟩
  rw[FT]at h;unfold kG at h
  split at h
  ·rename_i E;exact yes h (by simp[PI.wanted,E])
  ·rename_i s want E
   split at h
   ·rename_i b hb;have hw:i.wanted fr=some (b == want):=by simp[PI.wanted,E,hb]
    cases I:(b == want)with
    |true=>rw[I]at h hw; exact yes h hw
    |false=>rw[I]at h hw; exact no h hw
   ·rename_i hb;exact no h (by simp[PI.wanted,E,hb])
   ·exact h.elim
def Iy(T:Tbl)(op:POp)(ρ:PA→D)(st:St)(K:D→St→Prop)(X:Nat→D→St→Prop):Prop:=match op.exec T ρ st with
 |some p=>K p.1 p.2
 |none=>match op.execX T ρ st with
  |some r=>X r.1 r.2.1 r.2.2
  |none=>False
def JE(G:Dh)(T:Tbl):List PI→Frame→St→(Frame→St→Prop)→(Nat→D→Frame→St→Prop)→Prop
 |[],fr,st,K,_=>K fr st
 |i::l,fr,st,K,X=>kG fr i.guard (Iy T i.op (Dn G fr) st (fun d st'=>JE G T l (fr.put i.dst d) st' K X) (fun t d st'=>X t d fr st')) (JE G T l (fr.put i.dst (.tup [])) st K X)
theorem WQ{G:Dh}{T:Tbl}:∀ (l:List PI) (fr:Frame) (st:St) (K:Frame→St→Prop) (X:Nat→D→Frame→St→Prop),JE G T l fr st K X→
  (∃ u st',Ft G T l ⟨fr,st⟩=some ⟨u,st'⟩∧K u st')∨∃ t d u st',Ft G T l ⟨fr,st⟩=none∧HW G T l ⟨fr,st⟩=some (t,d,⟨u,st'⟩)∧X t d u st'
 |[],fr,st,K,X,h=>.inl ⟨fr,st,rfl,h⟩
 |i::l,fr,st,K,X,h=>by
  have yes:Iy T i.op (Dn G fr) st (fun d st'=>JE G T l (fr.put i.dst d) st' K X) (fun t d st'=>X t d fr st')→i.wanted fr=some true→
    (∃ u st',Ft G T (i::l) ⟨fr,st⟩=some ⟨u,st'⟩∧K u st')∨∃ t d u st',Ft G T (i::l) ⟨fr,st⟩=none∧HW G T (i::l) ⟨fr,st⟩=some (t,d,⟨u,st'⟩)∧X t d u st':=by
   intro h hw;unfold Iy at h
   split at h
   ·rename_i p N;rcases WQ l _ _ K X h with⟨u,st',E,I⟩ | ⟨t,d,u,st',E,I,O⟩
    ·exact .inl ⟨u,st',by simp only[Ft,PI.exec,hw,N,E],I⟩
    ·exact .inr ⟨t,d,u,st',by simp only[Ft,PI.exec,hw,N,E],by simp only[HW,PI.exec,hw,N,I],O⟩
   ·rename_i U
    split at h
    ·rename_i r V;exact .inr ⟨r.1,r.2.1,fr,r.2.2,by simp only[Ft,PI.exec,hw,U],by simp only[HW,PI.exec,PI.execX,hw,U,V,Ae],h⟩
    ·exact h.elim
  have no:JE G T l (fr.put i.dst (.tup [])) st K X→i.wanted fr=some false→
    (∃ u st',Ft G T (i::l) ⟨fr,st⟩=some ⟨u,st'⟩∧K u st')∨∃ t d u st',Ft G T (i::l) ⟨fr,st⟩=none∧HW G T (i::l) ⟨fr,st⟩=some (t,d,⟨u,st'⟩)∧X t d u st':=by
   intro h hw;rcases WQ l _ _ K X h with⟨u,st',E,I⟩ | ⟨t,d,u,st',E,I,O⟩
   ·exact .inl ⟨u,st',by simp only[Ft,PI.exec,hw,E],I⟩
   ·exact .inr ⟨t,d,u,st',by simp only[Ft,PI.exec,hw,E],by simp only[HW,PI.exec,hw,I],O⟩
  rw[JE]at h;unfold kG at h
  split at h
  ·rename_i J;exact yes h (by simp[PI.wanted,J])
  ·rename_i s want J
   split at h
   ·rename_i b hb;have hw:i.wanted fr=some (b == want):=by simp[PI.wanted,J,hb]
    cases M:(b == want)with
    |true=>rw[M]at h hw; exact yes h hw
    |false=>rw[M]at h hw; exact no h hw
   ·rename_i hb;exact no h (by simp[PI.wanted,J,hb])
   ·exact h.elim
variable {st:St}{T:Tbl}
theorem sB{op:POp}{ρ:PA→D}{K u:D→St→Prop}{X E:Nat→D→St→Prop}(h:Iy T op ρ st K X)(I:∀ d st,K d st→u d st)(J:∀ t d st,X t d st→E t d st):Iy T op ρ st u E:=by
 unfold Iy at h ⊢;grind
variable {fr:Frame}
theorem Yjn{g:Option (Nat×Bool)}{x u E:Prop}(h:kG fr g x y)(I:x→u)(J:y→E):kG fr g u E:=by
 unfold kG at h ⊢
 revert h
 split
 ·exact I
 ·split
  ·unfold Gt;grind
  ·exact J
  ·exact id
theorem Wy{G:Dh}{T:Tbl}:∀ (l:List PI) (fr:Frame) (st:St) (K u:Frame→St→Prop) (X E:Nat→D→Frame→St→Prop),JE G T l fr st K X→(∀ fr st,K fr st→u fr st)→(∀ t d fr st,X t d fr st→E t d fr st)→JE G T l fr st u E
 |[],_,_,_,_,_,_,h,hk,_=>hk _ _ h
 |i::l,fr,st,K,u,X,E,h,hk,I=>by
  rw[JE]at h ⊢;exact Yjn h (fun h=>sB h (fun _ _ h=>Wy l _ _ _ _ _ _ h hk I) fun _ _ _ h=>I _ _ _ _ h) fun h=>Wy l _ _ _ _ _ _ h hk I
class XC:Type where
 mk::
 run:Nat→D→Frame→St→Prop
class XC0:Type where
 mk::
 run:Nat→D→St→Prop
def L6(G:Dh)(T:Tbl)(l:List PI)(fr:Frame)(st:St)[K:Cont2 Frame St][X:XC]:Prop:=JE G T l fr st K.run X.run
def K8(T:Tbl)(op:POp)(ρ:PA→D)(st:St)[K:Cont2 D St][X:XC0]:Prop:=Iy T op ρ st K.run X.run
theorem tT(G:Dh)(T:Tbl)(fr:Frame)(st:St)(K:Frame→St→Prop)(X:XC):@L6 G T [] fr st ⟨K⟩ X=K fr st:=(rfl)
def Vw(o:Option (D×St))(p:Option (Nat×D×St))[K:Cont2 D St][X:XC0]:Prop:=match o with
 |some r=>K.run r.1 r.2
 |none=>match p with
  |some r=>X.run r.1 r.2.1 r.2.2
  |none=>False
theorem Ybv(d:D)(st:St)(p:Option (Nat×D×St))(K:D→St→Prop)(X:XC0):@Vw (some (d,st)) p ⟨K⟩ X=K d st:=(rfl)
theorem tt(t:Nat)(d:D)(st:St)(K:Cont2 D St)(X:Nat→D→St→Prop):@Vw none (some (t,d,st)) K ⟨X⟩=X t d st:=(rfl)
def ZY(o:Option (List D→St→Option (D×St)))(ds:List D)(st:St):Option (D×St):=match o with
 |some sp=>sp ds st
 |none=>none
theorem vr(sp:List D→St→Option (D×St))(ds:List D)(st:St):ZY (some sp) ds st=sp ds st:=(rfl)
theorem vq(ds:List D)(st:St):ZY none ds st=none:=(rfl)
def ZZ(o:Option (List D→St→Option (Nat×D×St)))(ds:List D)(st:St):Option (Nat×D×St):=match o with
 |some sp=>sp ds st
 |none=>none
theorem vu(sp:List D→St→Option (Nat×D×St))(ds:List D)(st:St):ZZ (some sp) ds st=sp ds st:=(rfl)
theorem vt(ds:List D)(st:St):ZZ none ds st=none:=(rfl)
theorem wi(T:Tbl)(f:Nat)(args:List PA)(ρ:PA→D)(st:St)(K:Cont2 D St)(X:XC0):@K8 T (.icall f args) ρ st K X=@Vw (ZY (T.i f) (args.map ρ) st) (ZZ (T.x f) (args.map ρ) st) K X:=by
 rfl
def yG(d:D)(ds:List D):Option (Nat×List D):=match d with
 |.clo f caps=>if f<5000000 then some (f,ds++caps)else if f<10000000 then some (f - 5000000,caps++ds)else none
 |_=>none
def kF(fs:List (Option Foot))(b:Bool)(cs:List Nat)(f:Option Foot)(K:List (Option Foot)→Prop):Prop:=@Gt (KH fs f cs) ⟨K (fs++[if b then f else none])⟩ ⟨False⟩
variable {f:Option Foot}{cs:List Nat}{fs:List (Option Foot)}
theorem X4{b:Bool}{K:List (Option Foot)→Prop}(h:kF fs b cs f K):KH fs f cs=true∧K (fs++[if b then f else none]):=by
 unfold kF Gt at h;grind
theorem fh{b:Bool}{K u:List (Option Foot)→Prop}(h:kF fs b cs f K)(E:∀ fs,K fs→u fs):kF fs b cs f u:=by
 obtain⟨I,J⟩:=X4 h;unfold kF Gt;grind
def FD(G:Dh)(T:Tbl):List (PI×Bool×List Nat)→List (Option Foot)→Frame→St→(Frame→St→Prop)→Prop
 |[],_,fr,st,K=>K fr st
 |i::l,fs,fr,st,K=>kG fr i.1.guard (kF fs i.2.1 i.2.2 (i.1.op.foot (Dn G fr) st) fun fs'=>EX T i.1.op (Dn G fr) st fun d st'=>FD G T l fs' (fr.put i.1.dst d) st' K)
   (kF fs i.2.1 i.2.2 (some Lk) fun fs'=>FD G T l fs' (fr.put i.1.dst (.tup [])) st K)
theorem Pa{G:Dh}{T:Tbl}:∀ (l:List (PI×Bool×List Nat)) (fs:List (Option Foot)) (fr:Frame) (st:St) (K:Frame→St→Prop),FD G T l fs fr st K→∃ u st',Gk G T l fs ⟨fr,st⟩=some ⟨u,st'⟩∧K u st'
 |[],_,fr,st,K,h=>⟨fr,st,rfl,h⟩
 |(i,b,cs)::l,fs,fr,st,K,h=>by
  have yes:kF fs b cs (i.op.foot (Dn G fr) st) (fun I=>EX T i.op (Dn G fr) st fun d st'=>FD G T l I (fr.put i.dst d) st' K)→i.wanted fr=some true→∃ u st',Gk G T ((i,b,cs)::l) fs ⟨fr,st⟩=some ⟨u,st'⟩∧K u st':=by
   intro h hw;obtain⟨M,h⟩:=X4 h;unfold EX on at h
   split at h
   ·rename_i p V;obtain⟨u,st',N,O⟩:=Pa l _ _ _ K h;have hf:i.foot G ⟨fr,st⟩=i.op.foot (Dn G fr) st:=by simp[PI.foot,hw]
    have U:i.exec G T ⟨fr,st⟩=some ⟨fr.put i.dst p.1,p.2⟩:=by simp only[PI.exec,hw,V]
    exact⟨u,st',by simp only[Gk,hf,M,if_true,U,N],O⟩
   ·exact h.elim
  have no:kF fs b cs (some Lk) (fun I=>FD G T l I (fr.put i.dst (.tup [])) st K)→i.wanted fr=some false→∃ u st',Gk G T ((i,b,cs)::l) fs ⟨fr,st⟩=some ⟨u,st'⟩∧K u st':=by
   intro h hw;obtain⟨M,h⟩:=X4 h;obtain⟨u,st',N,O⟩:=Pa l _ _ _ K h;have hf:i.foot G ⟨fr,st⟩=some Lk:=by simp[PI.foot,hw]
   have U:i.exec G T ⟨fr,st⟩=some ⟨fr.put i.dst (.tup []),st⟩:=by simp only[PI.exec,hw]
   exact⟨u,st',by simp only[Gk,hf,M,if_true,U,N],O⟩
  rw[FD]at h;unfold kG at h
  split at h
  ·rename_i E;exact yes h (by simp only at E; simp[PI.wanted,E])
  ·rename_i s want E;simp only at E
   split at h
   ·rename_i b hb;have hw:i.wanted fr=some (b == want):=by simp[PI.wanted,E,hb]
    cases J:(b == want)with
    |true=>rw[J]at h hw; exact yes h hw
    |false=>rw[J]at h hw; exact no h hw
   ·rename_i hb;exact no h (by simp[PI.wanted,E,hb])
   ·exact h.elim
theorem OV{G:Dh}{T:Tbl}:∀ (l:List (PI×Bool×List Nat)) (fs:List (Option Foot)) (fr:Frame) (st:St) (K E:Frame→St→Prop),FD G T l fs fr st K→(∀ fr st,K fr st→E fr st)→FD G T l fs fr st E
 |[],_,_,_,_,_,h,hk=>hk _ _ h
 |i::l,fs,fr,st,K,E,h,hk=>by
  have I:kF fs i.2.1 i.2.2 (i.1.op.foot (Dn G fr) st) (fun u=>EX T i.1.op (Dn G fr) st fun d st'=>FD G T l u (fr.put i.1.dst d) st' K)→kF fs i.2.1 i.2.2 (i.1.op.foot (Dn G fr) st) (fun u=>EX T i.1.op (Dn G fr) st fun d st'=>FD G T l u (fr.put i.1.dst d) st' E):=by
   refine fun h=>fh h fun u=>?_;unfold EX on
   split
   ·exact fun h=>OV l _ _ _ _ _ h hk
   ·exact id
  have J:kF fs i.2.1 i.2.2 (some Lk) (fun u=>FD G T l u (fr.put i.1.dst (.tup [])) st K)→kF fs i.2.1 i.2.2 (some Lk) (fun u=>FD G T l u (fr.put i.1.dst (.tup [])) st E):=fun h=>fh h fun u h=>OV l _ _ _ _ _ h hk;rw[FD]at h ⊢;unfold kG at h ⊢
  revert h
  split
  ·exact I
  ·split
   ·unfold Gt;grind
   ·exact J
   ·exact id
class FsC:Type where
 mk::
 run:List (Option Foot)→Prop
def wF(fs:List (Option Foot))(b:Bool)(cs:List Nat)(f:Option Foot)[K:FsC]:Prop:=kF fs b cs f K.run
theorem LC(fs:List (Option Foot))(f:Option Foot)(K:List (Option Foot)→Prop):@wF fs false [] f ⟨K⟩=K (fs++[none]):=(rfl)
def Vx(l:List (Option Foot))[K:FsC]:Prop:=K.run l
theorem Yqg(l:List (Option Foot))(K:List (Option Foot)→Prop):@Vx l ⟨K⟩=K l:=(rfl)
theorem Yg6(fs:List (Option Foot))(f:Foot)(K:FsC):@wF fs true [] (some f) K=@Vx (fs++[some f]) K:=(rfl)
theorem PX(fs:List (Option Foot))(b:Bool)(j:Nat)(cs:List Nat)(f:Foot)(K:FsC):@wF fs b (j::cs) (some f) K=@Gt (KH fs (some f) (j::cs)) ⟨@Vx (fs++[if b then some f else none]) K⟩ ⟨False⟩:=(rfl)
def Z7(a b:PS)[k:Cont PS]:Prop:=a=b∧k.run a
def W2(keep:List Nat)(n:Nat)(fr1:Frame)(st1:St)(fr2:Frame)(st2:St)(K:PS→Prop):Prop:=
 @Gt (st1.length == n+2 && st2.length == n+2) ⟨@Z7 (restrictAt keep n [n,n+1] ⟨fr1,st1⟩) (restrictAt keep n [n+1,n] ⟨fr2,st2⟩) ⟨K⟩⟩ ⟨False⟩
variable {st1 st2:St}{fr1 fr2:Frame}{keep:List Nat}
theorem Yl8{n:Nat}{K:PS→Prop}(h:W2 keep n fr1 st1 fr2 st2 K):VH keep n ⟨fr1,st1⟩ ⟨fr2,st2⟩=some (restrictAt keep n [n,n+1] ⟨fr1,st1⟩)∧K (restrictAt keep n [n,n+1] ⟨fr1,st1⟩):=by
 unfold W2 Gt at h
 split at h
 ·rename_i hl;simp only[Ac,beq_iff_eq]at hl;obtain⟨E,u⟩:=h;refine⟨?_,u⟩;unfold VH;grind
 ·exact h.elim
theorem Yl9{n:Nat}{K u:PS→Prop}(h:W2 keep n fr1 st1 fr2 st2 K)(E:∀ s,K s→u s):W2 keep n fr1 st1 fr2 st2 u:=by
 unfold W2 Gt at h ⊢
 split at h
 ·rename_i hl;rw[if_pos hl];exact⟨h.1,E _ h.2⟩
 ·exact h.elim
def Hg(G:Dh)(T:Tbl)(l:List (PI×Bool×List Nat))(fs:List (Option Foot))(fr:Frame)(st:St)[K:Cont2 Frame St]:Prop:=FD G T l fs fr st K.run
def GV(G:Dh)(T:Tbl)(l:List PI)(fr:Frame)(st:St)[K:Cont2 Frame St]:Prop:=FT G T l fr st K.run
def D8(T:Tbl)(op:POp)(ρ:PA→D)(st:St)[K:Cont2 D St]:Prop:=EX T op ρ st K.run
def kV(d:D)(want:Bool)[x:Br][y:Br]:Prop:=match d with
 |.bool b=>@Gt (b == want) x y
 |.tup []=>y.run
 |_=>False
theorem pw(G:Dh)(T:Tbl)(fr:Frame)(st:St)(K:Frame→St→Prop):@GV G T [] fr st ⟨K⟩=K fr st:=(rfl)
theorem wk(G:Dh)(T:Tbl)(dst:Option Nat)(op:POp)(l:List PI)(fr:Frame)(st:St)(K:Cont2 Frame St) :
  @GV G T ({dst,op,guard:=none}::l) fr st K=@D8 T op (Dn G fr) st ⟨fun d st'=>@GV G T l (fr.put dst d) st' K⟩:=(rfl)
theorem wj(G:Dh)(T:Tbl)(dst:Option Nat)(op:POp)(s:Nat)(u:Bool)(l:List PI)(fr:Frame)(st:St)(K:Cont2 Frame St) :
  @GV G T ({dst,op,guard:=some (s,u)}::l) fr st K=@kV (fr s) u ⟨@D8 T op (Dn G fr) st ⟨fun d st'=>@GV G T l (fr.put dst d) st' K⟩⟩ ⟨@GV G T l (fr.put dst (.tup [])) st K⟩:=(rfl)
theorem xG(G:Dh)(T:Tbl)(dst:Option Nat)(op:POp)(l:List PI)(fr:Frame)(st:St)(K:Cont2 Frame St)(X:XC) :
  @L6 G T ({dst,op,guard:=none}::l) fr st K X=@K8 T op (Dn G fr) st ⟨fun d st'=>@L6 G T l (fr.put dst d) st' K X⟩ ⟨fun t d st'=>X.run t d fr st'⟩:=(rfl)
theorem xF(G:Dh)(T:Tbl)(dst:Option Nat)(op:POp)(s:Nat)(u:Bool)(l:List PI)(fr:Frame)(st:St)(K:Cont2 Frame St)(X:XC) :
  @L6 G T ({dst,op,guard:=some (s,u)}::l) fr st K X=@kV (fr s) u ⟨@K8 T op (Dn G fr) st ⟨fun d st'=>@L6 G T l (fr.put dst d) st' K X⟩ ⟨fun t d st'=>X.run t d fr st'⟩⟩ ⟨@L6 G T l (fr.put dst (.tup [])) st K X⟩:=(rfl)
theorem pr(G:Dh)(T:Tbl)(fs:List (Option Foot))(fr:Frame)(st:St)(K:Frame→St→Prop):@Hg G T [] fs fr st ⟨K⟩=K fr st:=(rfl)
theorem wh(G:Dh)(T:Tbl)(dst:Option Nat)(op:POp)(b:Bool)(cs:List Nat)(l:List (PI×Bool×List Nat))(fs:List (Option Foot))(fr:Frame)(st:St)(K:Cont2 Frame St) :
  @Hg G T (({dst,op,guard:=none},b,cs)::l) fs fr st K=@wF fs b cs (op.foot (Dn G fr) st) ⟨fun u=>@D8 T op (Dn G fr) st ⟨fun d st'=>@Hg G T l u (fr.put dst d) st' K⟩⟩:=(rfl)
theorem we(G:Dh)(T:Tbl)(dst:Option Nat)(op:POp)(s:Nat)(u:Bool)(b:Bool)(cs:List Nat)(l:List (PI×Bool×List Nat))(fs:List (Option Foot))(fr:Frame)(st:St)(K:Cont2 Frame St) :
  @Hg G T (({dst,op,guard:=some (s,u)},b,cs)::l) fs fr st K=@kV (fr s) u ⟨@wF fs b cs (op.foot (Dn G fr) st) ⟨fun E=>@D8 T op (Dn G fr) st ⟨fun d st'=>@Hg G T l E (fr.put dst d) st' K⟩⟩⟩ ⟨@wF fs b cs (some Lk) ⟨fun E=>@Hg G T l E (fr.put dst (.tup [])) st K⟩⟩:=(rfl)
theorem Yjm(b:Bool)(x y:Br):@kV (.bool b) true x y=@Gt b x y:=by cases b <;> rfl
theorem Yco(b:Bool)(x y:Br):@kV (.bool b) false x y=@Gt b y x:=by cases b <;> rfl
theorem Ypt(u:Bool)(x:Br)(y:Prop):@kV (.tup []) u x ⟨y⟩=y:=(rfl)
section
variable (T:Tbl) (ρ:PA→D) (st:St) (K:D→St→Prop)
theorem HB{β:Type}(o:Option α)(f:α→β)(K:β→Prop):@on β (o.map f) ⟨K⟩=@on α o ⟨fun a=>K (f a)⟩:=by cases o <;> rfl
theorem QH(x:PA):@D8 T (.mov x) ρ st ⟨K⟩=@ev (ρ x) ⟨fun d=>K d st⟩:=(rfl)
def Pr(c x y:D):Option D:=match c with
 |.bool b=>some (if b then x else y)
 |_=>none
theorem vF(x y:D):Pr (.bool true) x y=some x:=(rfl)
theorem w7(x y:D):Pr (.bool false) x y=some y:=(rfl)
theorem vE(b c e:Bool):Pr (.bool b) (.bool c) (.bool e)=some (.bool (if b then c else e)):=by cases b <;> rfl
theorem Ypi(c x y:PA):@D8 T (.pick c x y) ρ st ⟨K⟩=@on _ (Pr (ρ c) (ρ x) (ρ y)) ⟨fun d=>K d st⟩:=by
 simp only[D8,EX,POp.exec,Pr];cases ρ c <;> rfl
def D0(d:D):Option (List D):=if d.cells.all D.isCell then some d.cells else none
theorem QN(x:PA):@D8 T (.box x) ρ st ⟨K⟩=@on _ (D0 (ρ x)) ⟨fun cs=>@M4 (.ptr st.length 0) (st++[{row:=false,sz:=1,els:=cs,lent:=false}]) ⟨K⟩⟩:=by
 simp only[D8,EX,POp.exec,D0]
 split <;> rfl
theorem QO(u:List D)(parts:List (Nat×Nat×PA)):@D8 T (.bld u parts) ρ st ⟨K⟩=@on _ (Fi u (parts.map fun p=>(p.1,p.2.1,ρ p.2.2))) ⟨fun cs=>K (.agg cs) st⟩:=by
 simp only[D8,EX,POp.exec,HB]
def ES(sz:Nat)(els:List D):Option D:=if(els.all fun e=>e.cells.length == sz) && decide (0<sz) && decide (els.length*sz≤16777216)then some (.slc sz els true)else none
theorem Yps(sz:Nat)(parts:List PA):@D8 T (.bslc sz parts) ρ st ⟨K⟩=@on _ (D2 st (parts.map ρ)) ⟨fun els=>@on _ (ES sz els) ⟨fun d=>@M4 d (lend ((parts.map ρ).flatMap keys) st) ⟨K⟩⟩⟩:=by
 simp only[D8,EX,POp.exec]
 cases D2 st (parts.map ρ)with
 |none=>rfl
 |some els=>
  simp only[on]
  by_cases h:((els.all fun e=>e.cells.length == sz) && decide (0<sz) && decide (els.length*sz≤16777216))=true
  ·simp only[ES,h,if_true]; rfl
  ·simp only[ES,h,Ak,if_false]
theorem Ypk(n:Nat)(ag:Bool)(p:PA):@D8 T (.load n ag p) ρ st ⟨K⟩=@on _ (EU st n ag (ρ p)) ⟨fun d=>K d st⟩:=by
 simp only[D8,EX,POp.exec,HB]
theorem Yph(n:Nat)(p x:PA):@D8 T (.stor n p x) ρ st ⟨K⟩=@on _ (JZ st n (ρ p) (ρ x)) ⟨fun st'=>K (.tup []) st'⟩:=by
 simp only[D8,EX,POp.exec,HB]
def Z0(st:St)(d:D):Option D:=match d with
 |.ptr _ _ | .eptr _ _=>some d
 |.rptr key tot _ _=>if Eu st key tot then some d else none
 |_=>none
theorem Ypj(x:PA):@D8 T (.nilc x) ρ st ⟨K⟩=@on _ (Z0 st (ρ x)) ⟨fun d=>K d st⟩:=by
 simp only[D8,EX,POp.exec,Z0]
 cases ρ x with
 |rptr key tot i off=>
  simp only
  split <;> rfl
 |_=>rfl
theorem QP(op:BinOp)(x y:PA):@D8 T (.bin op x y) ρ st ⟨K⟩=@on _ (Dj op (ρ x) (ρ y)) ⟨fun d=>K d st⟩:=by
 simp only[D8,EX,POp.exec,HB]
theorem QR(ks:List Nat)(u:Bool)(x y:PA):@D8 T (.aeq ks u x y) ρ st ⟨K⟩=@on _ (Iq ks u (ρ x) (ρ y)) ⟨fun d=>K d st⟩:=by
 simp only[D8,EX,POp.exec,HB]
theorem ZH(op:UnOp)(x:PA):@D8 T (.un op x) ρ st ⟨K⟩=@on _ (IS op (ρ x)) ⟨fun d=>K d st⟩:=by
 simp only[D8,EX,POp.exec,HB]
theorem Ypq(c:PConv)(x:PA):@D8 T (.conv c x) ρ st ⟨K⟩=@on _ (E0 st c (ρ x)) ⟨fun d=>K d st⟩:=by
 simp only[D8,EX,POp.exec,HB]
def Ni(sz bytes:Nat)(zero ln cp:D):Option (Nat×Obj):=match Fj ln,Fj cp with
 |some l,some c=>if l≤c∧c≤4294967296∧c*bytes≤140737488355328∧0<sz∧zero.cells.length=sz∧zero.cells.all D.pure1=true then
   some (l,{row:=true,sz,els:=CM l zero,lent:=false})else none
 |_,_=>none
theorem Yjg(sz bytes:Nat)(u:D)(E I:PA):@D8 T (.mkslc sz bytes u E I) ρ st ⟨K⟩=@on _ (Ni sz bytes u (ρ E) (ρ I)) ⟨fun r=>@M4 (.row st.length r.1 0 r.1) (st++[r.2]) ⟨K⟩⟩:=by
 simp only[D8,EX,POp.exec,Ni]
 cases Fj (ρ E)with
 |none=>rfl
 |some l=>
  cases Fj (ρ I)with
  |none=>rfl
  |some c=>
   simp only
   split <;> rfl
theorem Yje(sz:Nat)(x:PA)(lo hi u:Option PA):@D8 T (.slice sz x lo hi u) ρ st ⟨K⟩=@on _ (FX st sz (ρ x) (lo.map ρ) (hi.map ρ) (u.map ρ)) ⟨fun d=>K d st⟩:=by
 simp only[D8,EX,POp.exec,HB]
theorem Ycm(n sz:Nat)(ag:Bool)(x:PA)(lo hi:Option PA):@D8 T (.sliceA n sz ag x lo hi) ρ st ⟨K⟩=@on _ (Nu n sz ag (ρ x) (lo.map ρ) (hi.map ρ)) ⟨fun d=>K d st⟩:=by
 simp only[D8,EX,POp.exec,HB]
theorem QK(off:Nat)(p:PA):@D8 T (.fld off p) ρ st ⟨K⟩=@on _ (EK st off (ρ p)) ⟨fun d=>K d st⟩:=by
 simp only[D8,EX,POp.exec,HB]
theorem Ypp(off n:Nat)(ag:Bool)(x:PA):@D8 T (.fldv off n ag x) ρ st ⟨K⟩=@on _ (JY off n ag (ρ x)) ⟨fun d=>K d st⟩:=by
 simp only[D8,EX,POp.exec,HB]
theorem Ypn(sz:Nat)(x i:PA):@D8 T (.idxS sz x i) ρ st ⟨K⟩=@on _ (Fy st sz (ρ x) (ρ i)) ⟨fun d=>K d st⟩:=by
 simp only[D8,EX,POp.exec,HB]
theorem Ypo(n sz:Nat)(p i:PA):@D8 T (.idxA n sz p i) ρ st ⟨K⟩=@on _ (GS st n sz (ρ p) (ρ i)) ⟨fun d=>K d st⟩:=by
 simp only[D8,EX,POp.exec,HB]
theorem Ypm(u sz:Nat)(ag:Bool)(x i:PA):@D8 T (.idxV u sz ag x i) ρ st ⟨K⟩=@on _ (L1 u sz ag (ρ x) (ρ i)) ⟨fun d=>K d st⟩:=by
 simp only[D8,EX,POp.exec,HB]
def FC(st:St)(str:Bool)(d:D):Option D:=if I0 d == str then(Fa st d).map fun(n:Nat)=>D.int .i64 (n:Int)else none
theorem QJ(u:Bool)(x:PA):@D8 T (.len u x) ρ st ⟨K⟩=@on _ (FC st u (ρ x)) ⟨fun d=>K d st⟩:=by
 simp only[D8,EX,POp.exec,FC]
 split
 ·simp only[HB]
 ·rfl
theorem Ypl(n:Nat):@D8 T (.lenA n) ρ st ⟨K⟩=@ev (.int .i64 (n:Int)) ⟨fun d=>K d st⟩:=(rfl)
theorem QQ(sz bytes:Nat)(s x:PA):@D8 T (.app sz bytes s x) ρ st ⟨K⟩=@on _ (DR st sz bytes (ρ s) (ρ x)) ⟨fun r=>K r.1 r.2⟩:=(rfl)
def Xn(sz:Nat):Option Obj:=if 1<sz∧sz≠1000003 then some {row:=false,sz,els:=[],lent:=false} else none
theorem Yjh(sz:Nat):@D8 T (.mkmap sz) ρ st ⟨K⟩=@on _ (Xn sz) ⟨fun o=>@M4 (.mapv st.length) (st++[o]) ⟨K⟩⟩:=by
 simp only[D8,EX,POp.exec,Xn]
 split <;> rfl
theorem Yjj(sz:Nat)(ks:List Nat)(m k v:PA):@D8 T (.mapup sz ks m k v) ρ st ⟨K⟩=@on _ (Nj st sz ks (ρ m) (ρ k) (ρ v)) ⟨fun st'=>K (.tup []) st'⟩:=by
 simp only[D8,EX,POp.exec,HB]
theorem Ycn(sz:Nat)(ks:List Nat)(ok:Bool)(u:D)(m k:PA):@D8 T (.mapget sz ks ok u m k) ρ st ⟨K⟩=@on _ (Hw st sz ks ok u (ρ m) (ρ k)) ⟨fun d=>K d st⟩:=by
 simp only[D8,EX,POp.exec,HB]
theorem QM(sz:Nat)(d s:PA):@D8 T (.cpy sz d s) ρ st ⟨K⟩=@on _ (Ip st sz (ρ d) (ρ s)) ⟨fun r=>K r.1 r.2⟩:=(rfl)
def Og(isMax:Bool)(x y:D):Option D:=match x,y with
 |.int k a,.int _ b=>some (.int k (if isMax then(if b > a then b else a)else(if b<a then b else a)))
 |_,_=>none
theorem ZI(u:Bool)(x y:PA):@D8 T (.mm u x y) ρ st ⟨K⟩=@on _ (Og u (ρ x) (ρ y)) ⟨fun d=>K d st⟩:=by
 simp only[D8,EX,POp.exec,Og]
 cases ρ x with
 |int k a=>cases ρ y <;> rfl
 |_=>rfl
def Lf(isMax:Bool)(x y z:D):Option D:=match x,y,z with
 |.int k a,.int _ b,.int _ c=>some (.int k (Kh isMax (Kh isMax a b) c))
 |_,_,_=>none
theorem QI(u:Bool)(x y z:PA):@D8 T (.mm3 u x y z) ρ st ⟨K⟩=@on _ (Lf u (ρ x) (ρ y) (ρ z)) ⟨fun d=>K d st⟩:=by
 simp only[D8,EX,POp.exec,Lf]
 cases ρ x with
 |int k a=>cases ρ y <;> first | rfl | (cases ρ z <;> rfl)
 |_=>rfl
theorem Yjf(f:Nat)(args:List PA):@D8 T (.rcall f args) ρ st ⟨K⟩=@on _ (T.q f) ⟨fun sp=>@on _ (G8 sp (args.map ρ) st) ⟨fun d=>K d st⟩⟩:=by
 simp only[D8,EX,POp.exec]
 cases T.q f with
 |none=>rfl
 |some sp=>simp only[fm,HB]
theorem Yjk(f:Nat)(args:List PA):@D8 T (.icall f args) ρ st ⟨K⟩=@on _ (T.i f) ⟨fun sp=>@on _ (sp (args.map ρ) st) ⟨fun r=>K r.1 r.2⟩⟩:=by
 simp only[D8,EX,POp.exec];cases T.i f <;> rfl
def HP(T:Tbl)(d:D):Option ((List D→St→Option (D×St))×List D×List D):=match d with
 |.clo f caps=>if f<5000000 then(T.i f).map fun sp=>(sp,[],caps)else if f<10000000 then(T.i (f - 5000000)).map fun sp=>(sp,caps,[])else if caps.isEmpty then some (T.y (f - 10000000),[],[])else none
 |_=>none
theorem Yjl(x:PA)(args:List PA):@D8 T (.callv x args) ρ st ⟨K⟩=@on _ (HP T (ρ x)) ⟨fun p=>@on _ (p.1 (p.2.1++(args.map ρ++p.2.2)) st) ⟨fun r=>K r.1 r.2⟩⟩:=by
 simp only[D8,EX,POp.exec,HP]
 cases ρ x with
 |clo f u=>
  simp only
  by_cases E:f<5000000
  ·simp only[if_pos E];cases T.i f <;> rfl
  ·by_cases h:f<10000000
   ·simp only[if_neg E,if_pos h]
    cases T.i (f - 5000000)with
    |none=>rfl
    |some sp=>simp only[Ae,on,Av]
   ·simp only[if_neg E,if_neg h]
    cases u with
    |nil=>simp only[CB,if_true,on,Av,AH]
    |cons a l=>rfl
 |_=>rfl
theorem Yji(f:Nat)(u:List PA):@D8 T (.mkclo f u) ρ st ⟨K⟩=@ev (.clo f (u.map ρ)) ⟨fun d=>K d st⟩:=(rfl)
theorem Ypr(f:Nat)(args:List PA):@D8 T (.call f args) ρ st ⟨K⟩=@on _ (T.p f) ⟨fun sp=>@on _ (D2 st (args.map ρ)) ⟨fun vs=>@on _ (sp vs) ⟨fun r=>@M4 r (if r.noRef then st else lend ((args.map ρ).flatMap keys) st) ⟨K⟩⟩⟩⟩:=by
 simp only[D8,EX,POp.exec]
 cases T.p f with
 |none=>rfl
 |some sp=>
  cases D2 st (args.map ρ)with
  |none=>rfl
  |some vs=>
   simp only[on];cases sp vs <;> rfl
def Ki(d:D)(i:Nat):Option D:=match d with
 |.tup vs=>vs[i]?
 |_=>none
theorem QL(x:PA)(i:Nat):@D8 T (.ext x i) ρ st ⟨K⟩=@on _ (Ki (ρ x) i) ⟨fun d=>K d st⟩:=by
 simp only[D8,EX,POp.exec,Ki]
 cases ρ x with
 |tup vs=>simp only[HB]
 |_=>rfl
theorem Yql(a:D)(l:List D):Ki (.tup (a::l)) 0=some a:=(rfl)
theorem Yqk(a b:D)(l:List D):Ki (.tup (a::b::l)) 1=some b:=(rfl)
theorem Yqj(a b c:D)(l:List D):Ki (.tup (a::b::c::l)) 2=some c:=(rfl)
end
theorem Ybe(fr:Frame)(s:Nat)(d:D):fr.put (some s) d=fr.set s d:=(rfl)
theorem Ybf(fr:Frame)(d:D):fr.put none d=fr:=(rfl)
theorem Qq(G:Dh)(fr:Frame)(n:Nat):Dn G fr (.s n)=fr n:=(rfl)
theorem Qr(G:Dh)(fr:Frame)(d:D):Dn G fr (.c d)=d:=(rfl)
theorem HU(G:Dh)(fr:Frame)(n:Nat)(d:D)(h:G n=some d):Dn G fr (.g n)=.eptr d 0:=by simp[Dn,h]
theorem zi(a:D)(l:List D):Db (a::l) 0=a:=(rfl)
theorem zl(a b:D)(l:List D):Db (a::b::l) 1=b:=(rfl)
theorem yJ(a b c:D)(l:List D):Db (a::b::c::l) 2=c:=(rfl)
theorem yK(a b c d:D)(l:List D):Db (a::b::c::d::l) 3=d:=(rfl)
theorem yL(a b c d e:D)(l:List D):Db (a::b::c::d::e::l) 4=e:=(rfl)
theorem yM(a b c d e f:D)(l:List D):Db (a::b::c::d::e::f::l) 5=f:=(rfl)
theorem yN(a b c d e f g:D)(l:List D):Db (a::b::c::d::e::f::g::l) 6=g:=(rfl)
theorem yO(a b c d e f g h:D)(l:List D):Db (a::b::c::d::e::f::g::h::l) 7=h:=(rfl)
def Jc(B:Frame→St→(Ex→Frame→St→Prop)→Prop)(cut:PS→PS):Nat→PS→(Ex→Frame→St→Prop)→Prop
 |0,_,_=>False
 |n+1,s,Q=>B (cut s).fr (cut s).st fun e fr st=>match e with
  |.next=>Jc B cut n ⟨fr,st⟩ Q
  |e=>Q e fr st
def W(G:Dh)(T:Tbl):PC→Frame→St→(Ex→Frame→St→Prop)→Prop
 |.skip,fr,st,Q=>Q .next fr st
 |.ops l,fr,st,Q=>FT G T l fr st (Q .next)
 |.any l,fr,st,Q=>FD G T l [] fr st (Q .next)
 |.any2 keep l1 l2,fr,st,Q=>FD G T l1 [] fr st fun fr1 st1=>FD G T l2 [] fr st fun fr2 st2=>W2 keep st.length fr1 st1 fr2 st2 fun s=>Q .next s.fr s.st
 |.seq a b,fr,st,Q=>W G T a fr st fun e fr' st'=>match e with
  |.next=>W G T b fr' st' Q
  |e=>Q e fr' st'
 |.cond c a b,fr,st,Q=>@Of (Dn G fr c) ⟨fun v=>@Gt v ⟨W G T a fr st Q⟩ ⟨W G T b fr st Q⟩⟩
 |.block id c,fr,st,Q=>W G T c fr st fun e fr' st'=>match e with
  |.exit id'=>if id'=id then Q .next fr' st' else Q (.exit id') fr' st'
  |e=>Q e fr' st'
 |.loop keep c,fr,st,Q=>∃ n,Jc (W G T c) (restrict keep st.length) n ⟨fr,st⟩ Q
 |.loopA keep c,fr,st,Q=>∃ n,Jc (W G T c) (keepAll keep) n ⟨fr,st⟩ Q
 |.opsX l,fr,st,Q=>JE G T l fr st (Q .next) (fun t d=>Q (.panic t d))
 |.pan l d1 t x,fr,st,Q=>FT G T l fr st fun fr' st'=>@Gt (K7 (Dn G fr' x)) ⟨Q (.panic t (Dn G fr' x)) (fr'.set d1 .junk) st'⟩ ⟨False⟩
 |.alt a b,fr,st,Q=>W G T a fr st Q∨(a.exec G T 0 ⟨fr,st⟩=none∧(∀ m,a.exec G T m ⟨fr,st⟩=none)∧W G T b fr st Q)
 |.range x ps a b,fr,st,Q=>∃ (n:Nat) (st':St) (e:Ex),(∀ m,n≤m→OH T (Dn G fr x) (IJ (a.exec G T m) (b.exec G T m) fr ps st.length) (st++[recO 0])=some st')∧Pt st' st.length=some e∧Q e fr (st'.set st.length (recO 2))
 |.exit id,fr,st,Q=>Q (.exit id) fr st
 |.ret,fr,st,Q=>Q .ret fr st
 |.fail,_,_,_=>False
theorem Jn{G:Dh}{T:Tbl}:∀ (c:PC) (fr:Frame) (st:St) (Q:Ex→Frame→St→Prop),W G T c fr st Q→
  ∃ (n:Nat) (e:Ex) (u:Frame) (st':St),(∀ m,n≤m→c.exec G T m ⟨fr,st⟩=some (e,⟨u,st'⟩))∧Q e u st'
 |.skip,fr,st,Q,h=>⟨0,.next,fr,st,fun _ _=>rfl,h⟩
 |.ops l,fr,st,Q,h=>by
  obtain⟨u,st',I,E⟩:=SB l fr st _ h;exact⟨0,.next,u,st',fun m _=>by simp only[PC.exec,I],E⟩
 |.any l,fr,st,Q,h=>by
  obtain⟨u,st',I,E⟩:=Pa l [] fr st _ h;exact⟨0,.next,u,st',fun m _=>by simp only[PC.exec,I],E⟩
 |.any2 keep l1 l2,fr,st,Q,h=>by
  obtain⟨fr1,st1,I,E⟩:=Pa l1 [] fr st _ h;obtain⟨fr2,st2,N,V⟩:=Pa l2 [] fr st _ E;obtain⟨h5,h6⟩:=Yl8 V;exact⟨0,.next,_,_,fun m _=>by simp only[PC.exec,I,N,h5,Ae],h6⟩
 |.seq a b,fr,st,Q,h=>by
  obtain⟨n,e,u,st',I,E⟩:=Jn a fr st _ h
  cases e with
  |next=>
   obtain⟨Y,e',O,U,N,V⟩:=Jn b u st' _ E;exact⟨n+Y,e',O,U,fun m hm=>by simp only[PC.exec,I m (by omega),N m (by omega)],V⟩
  |exit id=>exact⟨n,.exit id,u,st',fun m hm=>by simp only[PC.exec,I m hm],E⟩
  |ret=>exact⟨n,.ret,u,st',fun m hm=>by simp only[PC.exec,I m hm],E⟩
  |panic t d=>exact⟨n,.panic t d,u,st',fun m hm=>by simp only[PC.exec,I m hm],E⟩
 |.cond c a b,fr,st,Q,h=>by
  simp only[W,Of]at h
  split at h
  ·rename_i v hv
   cases v with
   |true=>
    obtain⟨n,e,u,st',I,E⟩:=Jn a fr st _ h;exact⟨n,e,u,st',fun m hm=>by simp only[PC.exec,hv,I m hm],E⟩
   |false=>
    obtain⟨n,e,u,st',I,E⟩:=Jn b fr st _ h;exact⟨n,e,u,st',fun m hm=>by simp only[PC.exec,hv,I m hm],E⟩
  ·exact h.elim
 |.block id c,fr,st,Q,h=>by
  obtain⟨n,e,u,st',I,E⟩:=Jn c fr st _ h
  cases e with
  |next=>exact⟨n,.next,u,st',fun m hm=>by simp only[PC.exec,I m hm],E⟩
  |ret=>exact⟨n,.ret,u,st',fun m hm=>by simp only[PC.exec,I m hm],E⟩
  |panic t d=>exact⟨n,.panic t d,u,st',fun m hm=>by simp only[PC.exec,I m hm],E⟩
  |exit ac=>
   simp only at E
   split at E
   ·rename_i hi;exact⟨n,.next,u,st',fun m hm=>by simp only[PC.exec,I m hm,hi,if_true],E⟩
   ·rename_i hi;exact⟨n,.exit ac,u,st',fun m hm=>by simp only[PC.exec,I m hm,hi,if_false],E⟩
 |.loop keep c,fr,st,Q,h=>by
  obtain⟨k,h⟩:=h
  have key:∀ (k:Nat) (s:PS),Jc (W G T c) (restrict keep st.length) k s Q→∃ (n:Nat) (e:Ex) (u:Frame) (st':St),(∀ m q,n≤m→k≤q→H6 (c.exec G T m) (restrict keep st.length) q s=some (e,⟨u,st'⟩))∧Q e u st':=by
   intro k
   induction k with
   |zero=>intro s h; exact h.elim
   |succ k ih=>
    intro s h;obtain⟨n,e,u,st',I,E⟩:=Jn c _ _ _ h;have M:∀ m,n≤m→c.exec G T m (restrict keep st.length s)=some (e,⟨u,st'⟩):=I
    cases e with
    |next=>
     obtain⟨Y,e',O,U,N,V⟩:=ih _ E;refine⟨n+Y,e',O,U,fun m q hm X=>?_,V⟩;obtain⟨q,rfl⟩:∃ J,q=J+1:=⟨q - 1,by omega⟩;simp only[H6,M m (by omega)];grind
    |exit id=>
     refine⟨n,.exit id,u,st',fun m q hm X=>?_,E⟩;obtain⟨q,rfl⟩:∃ J,q=J+1:=⟨q - 1,by omega⟩;simp only[H6,M m hm]
    |ret=>
     refine⟨n,.ret,u,st',fun m q hm X=>?_,E⟩;obtain⟨q,rfl⟩:∃ J,q=J+1:=⟨q - 1,by omega⟩;simp only[H6,M m hm]
    |panic t d=>
     refine⟨n,.panic t d,u,st',fun m q hm X=>?_,E⟩;obtain⟨q,rfl⟩:∃ J,q=J+1:=⟨q - 1,by omega⟩;simp only[H6,M m hm]
  obtain⟨n,e,u,st',I,E⟩:=key k _ h;exact⟨n+k,e,u,st',fun m hm=>by simp only[PC.exec]; exact I m m (by omega) (by omega),E⟩
 |.loopA keep c,fr,st,Q,h=>by
  obtain⟨k,h⟩:=h
  have key:∀ (k:Nat) (s:PS),Jc (W G T c) (keepAll keep) k s Q→∃ (n:Nat) (e:Ex) (u:Frame) (st':St),(∀ m q,n≤m→k≤q→H6 (c.exec G T m) (keepAll keep) q s=some (e,⟨u,st'⟩))∧Q e u st':=by
   intro k
   induction k with
   |zero=>intro s h; exact h.elim
   |succ k ih=>
    intro s h;obtain⟨n,e,u,st',I,E⟩:=Jn c _ _ _ h;have M:∀ m,n≤m→c.exec G T m (keepAll keep s)=some (e,⟨u,st'⟩):=I
    cases e with
    |next=>
     obtain⟨Y,e',O,U,N,V⟩:=ih _ E;refine⟨n+Y,e',O,U,fun m q hm X=>?_,V⟩;obtain⟨q,rfl⟩:∃ J,q=J+1:=⟨q - 1,by omega⟩;simp only[H6,M m (by omega)];grind
    |exit id=>
     refine⟨n,.exit id,u,st',fun m q hm X=>?_,E⟩;obtain⟨q,rfl⟩:∃ J,q=J+1:=⟨q - 1,by omega⟩;simp only[H6,M m hm]
    |ret=>
     refine⟨n,.ret,u,st',fun m q hm X=>?_,E⟩;obtain⟨q,rfl⟩:∃ J,q=J+1:=⟨q - 1,by omega⟩;simp only[H6,M m hm]
    |panic t d=>
     refine⟨n,.panic t d,u,st',fun m q hm X=>?_,E⟩;obtain⟨q,rfl⟩:∃ J,q=J+1:=⟨q - 1,by omega⟩;simp only[H6,M m hm]
  obtain⟨n,e,u,st',I,E⟩:=key k _ h;exact⟨n+k,e,u,st',fun m hm=>by simp only[PC.exec]; exact I m m (by omega) (by omega),E⟩
 |.range x ps a b,fr,st,Q,h=>by
  obtain⟨n,st',e,I,N,E⟩:=h;exact⟨n,e,fr,_,fun m hm=>by simp only[PC.exec,I m hm,Bl,N,Ae],E⟩
 |.opsX l,fr,st,Q,h=>by
  rcases WQ l fr st _ _ h with⟨u,st',I,E⟩ | ⟨t,d,u,st',I,E,N⟩
  ·exact⟨0,.next,u,st',fun m _=>by simp only[PC.exec,I],E⟩
  ·exact⟨0,.panic t d,u,st',fun m _=>by simp only[PC.exec,I,E,Ae],N⟩
 |.pan l d1 t x,fr,st,Q,h=>by
  obtain⟨u,st',I,E⟩:=SB l fr st _ h;unfold Gt at E
  split at E
  ·rename_i hi;exact⟨0,.panic t (Dn G u x),u.set d1 .junk,st',fun m _=>by simp only[PC.exec,I,hi,if_true],E⟩
  ·grind
 |.alt a b,fr,st,Q,h=>by
  rcases h with h | ⟨_,I,h⟩
  ·obtain⟨n,e,u,st',I,E⟩:=Jn a fr st _ h;exact⟨n,e,u,st',fun m hm=>by simp only[PC.exec,I m hm],E⟩
  ·obtain⟨n,e,u,st',E,N⟩:=Jn b fr st _ h;exact⟨n,e,u,st',fun m hm=>by simp only[PC.exec,I m,E m hm],N⟩
 |.exit id,fr,st,Q,h=>⟨0,.exit id,fr,st,fun _ _=>rfl,h⟩
 |.ret,fr,st,Q,h=>⟨0,.ret,fr,st,fun _ _=>rfl,h⟩
 |.fail,_,_,_,h=>h.elim
theorem Sn{G:Dh}{T:Tbl}:∀ (l:List PI) (fr:Frame) (st:St) (K u:Frame→St→Prop),FT G T l fr st K→(∀ fr st,K fr st→u fr st)→FT G T l fr st u
 |[],_,_,_,_,h,hk=>hk _ _ h
 |i::l,fr,st,K,u,h,hk=>by
  have E:EX T i.op (Dn G fr) st (fun d st'=>FT G T l (fr.put i.dst d) st' K)→EX T i.op (Dn G fr) st (fun d st'=>FT G T l (fr.put i.dst d) st' u):=by
   unfold EX on
   split
   ·exact fun h=>Sn l _ _ _ _ h hk
   ·exact id
  have I:FT G T l (fr.put i.dst (.tup [])) st K→FT G T l (fr.put i.dst (.tup [])) st u:=fun h=>Sn l _ _ _ _ h hk;rw[FT]at h ⊢;unfold kG at h ⊢
  split
  ·simp_all
  ·simp_all
   split
   ·simp_all;rename_i b hb;rename_i want _ _
    revert h
    unfold Gt;grind
   ·simp_all
   ·simp_all
theorem I1{G:Dh}{T:Tbl}:∀ (c:PC) (fr:Frame) (st:St) (Q E:Ex→Frame→St→Prop),W G T c fr st Q→(∀ e fr st,Q e fr st→E e fr st)→W G T c fr st E
 |.skip,fr,st,Q,E,h,u=>u _ _ _ h
 |.ops l,fr,st,Q,E,h,u=>Sn l fr st _ _ h fun fr st h=>u _ _ _ h
 |.any l,fr,st,Q,E,h,u=>OV l [] fr st _ _ h fun fr st h=>u _ _ _ h
 |.any2 keep l1 J,fr,st,Q,E,h,u=>OV l1 [] fr st _ _ h fun fr1 st1 h=>OV J [] fr st _ _ h fun fr2 st2 h=>Yl9 h fun s h=>u _ _ _ h
 |.seq a b,fr,st,Q,E,h,u=>by
  refine I1 a fr st _ _ h fun e I st' h=>?_
  cases e with
  |next=>exact I1 b _ _ _ _ h u
  |exit id=>exact u _ _ _ h
  |ret=>exact u _ _ _ h
  |panic t d=>exact u _ _ _ h
 |.cond c a b,fr,st,Q,E,h,u=>by
  simp only[W,Of]at h ⊢
  split
  ·rename_i v hv;rw[hv]at h;simp only at h
   cases v with
   |true=>exact I1 a _ _ _ _ h u
   |false=>exact I1 b _ _ _ _ h u
  ·grind
 |.block id c,fr,st,Q,E,h,u=>by
  refine I1 c fr st _ _ h fun e I st' h=>?_;grind
 |.loop keep c,fr,st,Q,E,h,u=>by
  obtain⟨k,h⟩:=h;refine⟨k,?_⟩
  have key:∀ (k:Nat) (s:PS),Jc (W G T c) (restrict keep st.length) k s Q→Jc (W G T c) (restrict keep st.length) k s E:=by
   intro k
   induction k with
   |zero=>intro s h; exact h
   |succ k M=>
    intro s h;refine I1 c _ _ _ _ h fun e I st' h=>?_;grind
  grind
 |.loopA keep c,fr,st,Q,E,h,u=>by
  obtain⟨k,h⟩:=h;refine⟨k,?_⟩
  have key:∀ (k:Nat) (s:PS),Jc (W G T c) (keepAll keep) k s Q→Jc (W G T c) (keepAll keep) k s E:=by
   intro k
   induction k with
   |zero=>intro s h; exact h
   |succ k M=>
    intro s h;refine I1 c _ _ _ _ h fun e I st' h=>?_;grind
  grind
 |.range x ps a b,fr,st,Q,E,h,u=>by
  obtain⟨n,st',e,N,O,U⟩:=h;exact⟨n,st',e,N,O,u _ _ _ U⟩
 |.opsX l,fr,st,Q,E,h,u=>Wy l fr st _ _ _ _ h (fun _ _ h=>u _ _ _ h) fun _ _ _ _ h=>u _ _ _ h
 |.pan l d1 t x,fr,st,Q,E,h,u=>Sn l fr st _ _ h fun I st' h=>by
  unfold Gt at h ⊢;grind
 |.alt a b,fr,st,Q,E,h,u=>h.imp (fun h=>I1 a _ _ _ _ h u) fun h=>⟨h.1,h.2.1,I1 b _ _ _ _ h.2.2 u⟩
 |.exit id,fr,st,Q,E,h,u=>u _ _ _ h
 |.ret,fr,st,Q,E,h,u=>u _ _ _ h
 |.fail,_,_,_,_,h,_=>h.elim
variable {Q:Ex→Frame→St→Prop}{c:PC}{ι:Type}{G:Dh}
theorem zb(I:ι→List (Nat×D))(J:ι→St)(P:ι→Prop)(μ:ι→Nat)(u:ι)
  (O:restrict keep st.length ⟨fr,st⟩=⟨Fu (I u),J u⟩) (U:P u)
  (M:∀ i,P i→W G T c (Fu (I i)) (J i) fun e E st'=>match e with
   |.next=>∃ j,P j∧μ j<μ i∧restrict keep st.length ⟨E,st'⟩=⟨Fu (I j),J j⟩
   |e=>Q e E st'):W G T (.loop keep c) fr st Q:=by
 have key:∀ (n:Nat) (i:ι) (s:PS),μ i<n→P i→restrict keep st.length s=⟨Fu (I i),J i⟩→Jc (W G T c) (restrict keep st.length) n s Q:=by
  intro n
  induction n with
  |zero=>intro i s h _ _; exact absurd h (Nat.not_lt_zero _)
  |succ n X=>
   intro i s hi N V;simp only[Jc,V];refine I1 c _ _ _ _ (M i N) fun e E st' h=>?_;grind
 exact⟨μ u+1,key _ u _ (CA _) U O⟩
theorem Yl6(I:ι→List (Nat×D))(J:ι→St)(P:ι→Prop)(μ:ι→Nat)(u:ι)
  (O:keepAll keep ⟨fr,st⟩=⟨Fu (I u),J u⟩) (U:P u)
  (M:∀ i,P i→W G T c (Fu (I i)) (J i) fun e E st'=>match e with
   |.next=>∃ j,P j∧μ j<μ i∧keepAll keep ⟨E,st'⟩=⟨Fu (I j),J j⟩
   |e=>Q e E st'):W G T (.loopA keep c) fr st Q:=by
 have key:∀ (n:Nat) (i:ι) (s:PS),μ i<n→P i→keepAll keep s=⟨Fu (I i),J i⟩→Jc (W G T c) (keepAll keep) n s Q:=by
  intro n
  induction n with
  |zero=>intro i s h _ _; exact absurd h (Nat.not_lt_zero _)
  |succ n X=>
   intro i s hi N V;simp only[Jc,V];refine I1 c _ _ _ _ (M i N) fun e E st' h=>?_;grind
 exact⟨μ u+1,key _ u _ (CA _) U O⟩
variable {st':St}{ps:List Nat}
theorem Ye5{x:PA}{a b:PC}{e:Ex}(h:∀ m,OH T (Dn G fr x) (IJ (a.exec G T m) (b.exec G T m) fr ps st.length) (st++[recO 0])=some st')(u:Pt st' st.length=some e)(E:Q e fr (st'.set st.length (recO 2))):W G T (.range x ps a b) fr st Q:=
 ⟨0,st',e,fun m _=>h m,u,E⟩
def wW(G:Dh)(T:Tbl)(c:PC)(fr:Frame)(st:St)[Q:QC]:Prop:=W G T c fr st Q.run
theorem G2(h:@wW G T c fr st ⟨Q⟩):W G T c fr st Q:=h
theorem Uu(h:W G T c fr st Q):@wW G T c fr st ⟨Q⟩:=h
theorem ze(G:Dh)(T:Tbl)(fr:Frame)(st:St)(Q:Ex→Frame→St→Prop):@wW G T .skip fr st ⟨Q⟩=Q .next fr st:=(rfl)
theorem Rt(G:Dh)(T:Tbl)(l:List PI)(fr:Frame)(st:St)(Q:Ex→Frame→St→Prop):@wW G T (.ops l) fr st ⟨Q⟩=@GV G T l fr st ⟨Q .next⟩:=(rfl)
theorem Ru(G:Dh)(T:Tbl)(l:List (PI×Bool×List Nat))(fr:Frame)(st:St)(Q:Ex→Frame→St→Prop):@wW G T (.any l) fr st ⟨Q⟩=@Hg G T l [] fr st ⟨Q .next⟩:=(rfl)
theorem yH(G:Dh)(T:Tbl)(keep:List Nat)(u E:List (PI×Bool×List Nat))(fr:Frame)(st:St)(Q:Ex→Frame→St→Prop):@wW G T (.any2 keep u E) fr st ⟨Q⟩=
  @Hg G T u [] fr st ⟨fun fr1 st1=>@Hg G T E [] fr st ⟨fun fr2 st2=>@Gt (st1.length == st.length+2 && st2.length == st.length+2) ⟨@Z7 (restrictAt keep st.length [st.length,st.length+1] ⟨fr1,st1⟩) (restrictAt keep st.length [st.length+1,st.length] ⟨fr2,st2⟩) ⟨fun s=>Q .next s.fr s.st⟩⟩ ⟨False⟩⟩⟩:=(rfl)
def N8(G:Dh)(T:Tbl)(b:PC)[Q:QC](e:Ex)(fr:Frame)(st:St):Prop:=match e with
 |.next=>W G T b fr st Q.run
 |e=>Q.run e fr st
theorem Rq(G:Dh)(T:Tbl)(a b:PC)(fr:Frame)(st:St)(Q:QC):@wW G T (.seq a b) fr st Q=@wW G T a fr st ⟨@N8 G T b Q⟩:=(rfl)
theorem uu(G:Dh)(T:Tbl)(b:PC)(Q:QC)(fr:Frame)(st:St):@N8 G T b Q .next fr st=@wW G T b fr st Q:=(rfl)
theorem ur(G:Dh)(T:Tbl)(b:PC)(Q:Ex→Frame→St→Prop)(u:Nat)(fr:Frame)(st:St):@N8 G T b ⟨Q⟩ (.exit u) fr st=Q (.exit u) fr st:=(rfl)
theorem pR(G:Dh)(T:Tbl)(b:PC)(Q:Ex→Frame→St→Prop)(fr:Frame)(st:St):@N8 G T b ⟨Q⟩ .ret fr st=Q .ret fr st:=(rfl)
theorem wa(G:Dh)(T:Tbl)(b:PC)(Q:Ex→Frame→St→Prop)(t:Nat)(d:D)(fr:Frame)(st:St):@N8 G T b ⟨Q⟩ (.panic t d) fr st=Q (.panic t d) fr st:=(rfl)
theorem zc(G:Dh)(T:Tbl)(l:List PI)(fr:Frame)(st:St)(Q:Ex→Frame→St→Prop):@wW G T (.opsX l) fr st ⟨Q⟩=@L6 G T l fr st ⟨Q .next⟩ ⟨fun t d=>Q (.panic t d)⟩:=(rfl)
theorem Rs(G:Dh)(T:Tbl)(l:List PI)(d1 t:Nat)(x:PA)(fr:Frame)(st:St)(Q:Ex→Frame→St→Prop):@wW G T (.pan l d1 t x) fr st ⟨Q⟩=@GV G T l fr st ⟨fun u st'=>@Gt (K7 (Dn G u x)) ⟨Q (.panic t (Dn G u x)) (u.set d1 .junk) st'⟩ ⟨False⟩⟩:=(rfl)
theorem yI(G:Dh)(T:Tbl)(c:PA)(a b:PC)(fr:Frame)(st:St)(Q:QC):@wW G T (.cond c a b) fr st Q=@Of (Dn G fr c) ⟨fun v=>@Gt v ⟨@wW G T a fr st Q⟩ ⟨@wW G T b fr st Q⟩⟩:=(rfl)
def Jz(id:Nat)[Q:QC](e:Ex)(fr:Frame)(st:St):Prop:=match e with
 |.exit id'=>if id'=id then Q.run .next fr st else Q.run (.exit id') fr st
 |e=>Q.run e fr st
theorem Yl7(G:Dh)(T:Tbl)(u:Nat)(c:PC)(fr:Frame)(st:St)(Q:QC):@wW G T (.block u c) fr st Q=@wW G T c fr st ⟨@Jz u Q⟩:=(rfl)
theorem Ybt(u:Nat)(Q:Ex→Frame→St→Prop)(fr:Frame)(st:St):@Jz u ⟨Q⟩ .next fr st=Q .next fr st:=(rfl)
theorem Yij(u:Nat)(Q:Ex→Frame→St→Prop)(fr:Frame)(st:St):@Jz u ⟨Q⟩ .ret fr st=Q .ret fr st:=(rfl)
theorem tz(u:Nat)(Q:Ex→Frame→St→Prop)(t:Nat)(d:D)(fr:Frame)(st:St):@Jz u ⟨Q⟩ (.panic t d) fr st=Q (.panic t d) fr st:=(rfl)
theorem Yos(E u:Nat)(Q:Ex→Frame→St→Prop)(fr:Frame)(st:St):@Jz E ⟨Q⟩ (.exit u) fr st=if u=E then Q .next fr st else Q (.exit u) fr st:=(rfl)
theorem za(G:Dh)(T:Tbl)(u:Nat)(fr:Frame)(st:St)(Q:Ex→Frame→St→Prop):@wW G T (.exit u) fr st ⟨Q⟩=Q (.exit u) fr st:=(rfl)
theorem Rr(G:Dh)(T:Tbl)(fr:Frame)(st:St)(Q:Ex→Frame→St→Prop):@wW G T .ret fr st ⟨Q⟩=Q .ret fr st:=(rfl)
def De(res:List PRes)(r:D)(e:Ex)(fr:Frame)(st:St):Prop:=match e with
 |.exit _ | .panic _ _=>False
 |_=>(Fq ⟨fr,st⟩ res).map D1=some r
theorem Yar(u:List PRes)(r:D)(fr:Frame)(st:St):De u r .ret fr st=((Fq ⟨fr,st⟩ u).map D1=some r):=(rfl)
theorem tP(u:List PRes)(r:D)(fr:Frame)(st:St):De u r .next fr st=((Fq ⟨fr,st⟩ u).map D1=some r):=(rfl)
def Gh(res:List PRes)[R:Cont2 D St](e:Ex)(fr:Frame)(st:St):Prop:=match e with
 |.exit _ | .panic _ _=>False
 |_=>@on _ (Ea ⟨fr,st⟩ res) ⟨fun l=>R.run (D1 l) st⟩
theorem gZ(u:List PRes)(R:D→St→Prop)(fr:Frame)(st:St):@Gh u ⟨R⟩ .ret fr st=@on _ (Ea ⟨fr,st⟩ u) ⟨fun l=>R (D1 l) st⟩:=(rfl)
theorem jU(u:List PRes)(R:D→St→Prop)(fr:Frame)(st:St):@Gh u ⟨R⟩ .next fr st=@on _ (Ea ⟨fr,st⟩ u) ⟨fun l=>R (D1 l) st⟩:=(rfl)
variable {ds:List D}{F:PF}
theorem g6{r:D}(h:W G T F.code (Db ds) [] (De F.res r)):∃ fuel,F.run G T fuel ds=some r:=by
 obtain⟨n,e,I,st',E,u⟩:=Jn _ _ _ _ h;refine⟨n,?_⟩;unfold PF.run;rw[E n (Az _)]
 cases e with
 |next=>exact u
 |ret=>exact u
 |exit id=>exact u.elim
 |panic t d=>exact u.elim
theorem Si{R:D→St→Prop}(h:W G T F.code (Db ds) st (@Gh F.res ⟨R⟩)):∃ fuel r st',(∀ m,fuel≤m→F.runI G T m ds st=some (r,st'))∧R r st':=by
 obtain⟨n,e,E,st',I,u⟩:=Jn _ _ _ _ h
 have key:∀ (u:@on _ (Ea ⟨E,st'⟩ F.res) ⟨fun l=>R (D1 l) st'⟩) (he:e=.next∨e=.ret),∃ fuel r st',(∀ m,fuel≤m→F.runI G T m ds st=some (r,st'))∧R r st':=by
  intro u he;unfold on at u
  split at u
  ·rename_i l hl;refine⟨n,D1 l,st',fun m hm=>?_,u⟩;unfold PF.runI;grind
  ·grind
 cases e with
 |next=>exact key u (.inl rfl)
 |ret=>exact key u (.inr rfl)
 |exit id=>exact u.elim
 |panic t d=>exact u.elim
def Qs[X:XC0](e:Ex)(_:Frame)(st:St):Prop:=match e with
 |.panic t d=>X.run t d st
 |_=>False
theorem vW(X:Nat→D→St→Prop)(t:Nat)(d:D)(fr:Frame)(st:St):@Qs ⟨X⟩ (.panic t d) fr st=X t d st:=(rfl)
def Lb(h:Nat→D→List D→St→Option St)(das:List D)(res:List PRes)[R:Cont2 D St](e:Ex)(fr:Frame)(st:St):Prop:=match e with
 |.exit _=>False
 |.panic t d=>@on _ (h t d das st) ⟨fun st3=>@on _ (Ea ⟨fr,st3⟩ res) ⟨fun l=>R.run (D1 l) st3⟩⟩
 |_=>@on _ (Ea ⟨fr,st⟩ res) ⟨fun l=>R.run (D1 l) st⟩
theorem Yas(h:Nat→D→List D→St→Option St)(E:List D)(u:List PRes)(R:D→St→Prop)(fr:Frame)(st:St):@Lb h E u ⟨R⟩ .ret fr st=@on _ (Ea ⟨fr,st⟩ u) ⟨fun l=>R (D1 l) st⟩:=(rfl)
theorem tN(h:Nat→D→List D→St→Option St)(E:List D)(u:List PRes)(R:D→St→Prop)(fr:Frame)(st:St):@Lb h E u ⟨R⟩ .next fr st=@on _ (Ea ⟨fr,st⟩ u) ⟨fun l=>R (D1 l) st⟩:=(rfl)
theorem vV(h:Nat→D→List D→St→Option St)(u:List D)(E:List PRes)(R:D→St→Prop)(t:Nat)(d:D)(fr:Frame)(st:St) :
  @Lb h u E ⟨R⟩ (.panic t d) fr st=@on _ (h t d u st) ⟨fun I=>@on _ (Ea ⟨fr,I⟩ E) ⟨fun l=>R (D1 l) I⟩⟩:=(rfl)
def VG(h:Nat→D→List D→St→Option St)(das:List D)(res:List PRes)(r:D)(e:Ex)(fr:Frame)(st:St):Prop:=match e with
 |.exit _=>False
 |.panic t d=>@on _ (h t d das st) ⟨fun st3=>(Fq ⟨fr,st3⟩ res).map D1=some r⟩
 |_=>(Fq ⟨fr,st⟩ res).map D1=some r
theorem tM(h:Nat→D→List D→St→Option St)(E:List D)(u:List PRes)(r:D)(fr:Frame)(st:St):VG h E u r .ret fr st=((Fq ⟨fr,st⟩ u).map D1=some r):=(rfl)
theorem wB(h:Nat→D→List D→St→Option St)(E:List D)(u:List PRes)(r:D)(fr:Frame)(st:St):VG h E u r .next fr st=((Fq ⟨fr,st⟩ u).map D1=some r):=(rfl)
theorem xh(h:Nat→D→List D→St→Option St)(u:List D)(E:List PRes)(r:D)(t:Nat)(d:D)(fr:Frame)(st:St):VG h u E r (.panic t d) fr st=@on _ (h t d u st) ⟨fun I=>(Fq ⟨fr,I⟩ E).map D1=some r⟩:=(rfl)
theorem Yk7(fs:List (Option Foot))(g:Option Foot):KH fs g []=true:=(rfl)
theorem Ydz(fs:List (Option Foot))(g:Option Foot)(j:Nat)(r:List Nat):KH fs g (j::r)=(ZQ fs[j]? g && KH fs g r):=(rfl)
theorem Yq9(f g:Foot):ZQ (some (some f)) (some g)=f.ok g:=(rfl)
theorem Qw(r w E w':List Nat)(m u:Option Nat):Foot.ok ⟨r,w,m⟩ ⟨E,w',u⟩=(GM w' r && GM w' w && GM w E && IY m E && IY m w' && IY u r && IY u w && (m.isNone || u.isNone)):=(rfl)
theorem Yer(b:List Nat):GM [] b=true:=(rfl)
theorem qC(k:Nat)(a b:List Nat):GM (k::a) b=(!b.contains k && GM a b):=by simp[GM]
theorem ua(a:List Nat):IY none a=true:=(rfl)
theorem ub(n:Nat):IY (some n) []=true:=(rfl)
theorem wC(n k:Nat)(a:List Nat):IY (some n) (k::a)=(decide (k<n) && IY (some n) a):=(rfl)
theorem rJ:Lk=⟨[],[],none⟩:=(rfl)
theorem tu:Gj (none:Option α)=[]:=(rfl)
theorem tv(x:α):Gj (some x)=[x]:=(rfl)
section
variable (ρ:PA→D) (st:St)
theorem r6(n:Nat)(p x:PA):POp.foot ρ st (.stor n p x)=some ⟨hk (ρ x),hk (ρ p),none⟩:=(rfl)
theorem Ydi(x:PA):POp.foot ρ st (.box x)=some ⟨[],[],some st.length⟩:=(rfl)
theorem uG(a b:Nat)(z:D)(l c:PA):POp.foot ρ st (.mkslc a b z l c)=some ⟨[],[],some st.length⟩:=(rfl)
theorem uF(f:Nat)(l:List PA):POp.foot ρ st (.mcall f l)=some ⟨[],[],some st.length⟩:=(rfl)
def M9(st:St)(s x:D):Option Foot:=match s with
 |.row key _ _ _=>some ⟨hk x,[key],none⟩
 |_=>some ⟨hk x,[],FF x st.length⟩
theorem Yey(key tot off len:Nat)(x:D):M9 st (.row key tot off len) x=some ⟨hk x,[key],none⟩:=(rfl)
theorem Yex(sz:Nat)(els:List D)(t:Bool)(x:D):M9 st (.slc sz els t) x=some ⟨hk x,[],FF x st.length⟩:=(rfl)
theorem Yev(sz:Nat)(t:Bool)(n:Nat):FF (.slc sz [] t) n=none:=(rfl)
theorem qu(sz:Nat)(a:D)(l:List D)(t:Bool)(n:Nat):FF (.slc sz (a::l) t) n=some n:=(rfl)
theorem Yeu(key tot off len n:Nat):FF (.row key tot off len) n=some n:=(rfl)
theorem Yew(key off m sz:Nat)(ag:Bool)(n:Nat):FF (.bsl key off m sz ag) n=some n:=(rfl)
theorem Yet(s:List UInt8)(n:Nat):FF (.str s) n=some n:=(rfl)
theorem Ydj(a b:Nat)(s x:PA):POp.foot ρ st (.app a b s x)=M9 st (ρ s) (ρ x):=(rfl)
theorem rY(n:Nat)(ag:Bool)(x:PA):POp.foot ρ st (.load n ag x)=some ⟨hk (ρ x),[],none⟩:=by simp[POp.foot,POp.args]
theorem rZ(x:PA):POp.foot ρ st (.nilc x)=some ⟨Jy (ρ x),[],none⟩:=(rfl)
theorem Yhz(key off:Nat):Jy (.ptr key off)=[]:=(rfl)
theorem Yap(u:D)(off:Nat):Jy (.eptr u off)=[]:=(rfl)
theorem Yao(key tot i off:Nat):Jy (.rptr key tot i off)=[key]:=(rfl)
theorem Ydh(n:Nat)(x:PA):POp.foot ρ st (.fld n x)=some ⟨Jy (ρ x),[],none⟩:=(rfl)
theorem rX(n m:Nat)(x i:PA):POp.foot ρ st (.idxA n m x i)=some ⟨Jy (ρ x),[],none⟩:=(rfl)
theorem uH(n:Nat)(x:PA)(a b c:Option PA):POp.foot ρ st (.slice n x a b c)=some ⟨((x::(Gj a++Gj b++Gj c)).map ρ).flatMap hk,[],none⟩:=(rfl)
theorem rW(f:Nat)(l:List PA):POp.foot ρ st (.call f l)=some ⟨(l.map ρ).flatMap hk,[],none⟩:=(rfl)
theorem rV(n:Nat)(l:List PA):POp.foot ρ st (.bslc n l)=some ⟨(l.map ρ).flatMap hk,[],none⟩:=(rfl)
end
attribute [irreducible] kF FD wF Hg Vx Z7 on Of Gt ev M4 EX kG kV FT W N8 Jz De Gh wW GV D8 Iy JE L6 K8 Vw Qs Lb VG
def E7:D→Bool
 |.int _ _ | .bool _ | .str _ | .clo _ [] | .nilf | .nilp=>true
 |.slc sz els t=>!t && nz sz els == sz
 |_=>false
def Ha:D→Bool
 |.agg l=>l.all E7
 |d=>E7 d
variable {d:D}
theorem WE(st:St)(h:E7 d=true):DD st d=some d:=by
 cases d with
 |clo f l=>cases l <;> simp_all [E7,DD,D.pure1]
 |slc sz els t=>simp_all [E7,DD]
 |_=>simp_all [E7,DD,D.pure1]
theorem NT(st:St):∀ {l:List D},l.all E7=true→D3 st l=some l
 |[],_=>rfl
 |d::l,h=>by
  simp only[AU,Ac]at h;simp only[D3,WE st h.1,NT st h.2]
theorem Sj(st:St)(h:Ha d=true):D4 st d=some d:=by
 cases d with
 |agg l=>simp only[D4,NT st h,Ae]
 |tup l=>simp[Ha,E7]at h
 |_=>exact WE st (by simpa only[Ha]using h)
theorem aL(h:E7 d=true):Fp d=[]:=by
 cases d <;> simp_all [E7,Fp]
theorem Pe(h:Ha d=true):keys d=[]:=by
 cases d with
 |agg l=>
  simp only[keys,List.flatMap_eq_nil_iff];simp only[Ha,Ag]at h;exact fun d u=>aL (h d u)
 |_=>exact aL (by simpa only[Ha]using h)
theorem jY(h:E7 d=true):Dt d=[]:=by
 cases d with
 |clo f l=>cases l <;> simp_all [E7,Dt]
 |_=>simp_all [E7,Dt,FU]
theorem Zj(h:Ha d=true):hk d=[]:=by
 cases d with
 |agg l=>
  simp only[hk,List.flatMap_eq_nil_iff];simp only[Ha,Ag]at h;exact fun d u=>jY (h d u)
 |_=>exact jY (by simpa only[Ha]using h)
theorem aM(n:Nat)(σ:List Nat)(h:E7 d=true):Ep n σ d=d:=by
 cases d with
 |clo f l=>cases l <;> simp_all [E7,Ep]
 |_=>simp_all [E7,Ep,Gi]
theorem NM(n:Nat)(σ:List Nat)(h:Ha d=true):Eo n σ d=d:=by
 cases d with
 |agg l=>
  simp only[Eo,D.agg.injEq];simp only[Ha,Ag]at h
  have:∀ l:List D,(∀ d∈l,E7 d=true)→l.map (Ep n σ)=l:=by
   intro l
   induction l with
   |nil=>intro _; rfl
   |cons a l u=>intro h; simp only[Aq,aM n σ (h a (by simp)),u fun d E=>h d (by simp[E])]
  grind
 |tup l=>simp[Ha,E7]at h
 |_=>exact aM n σ (by simpa only[Ha]using h)
structure Dig where
 bs:List UInt8
 len:bs.length=32
 deriving DecidableEq
def DF:Dig:=⟨CM 32 0,by simp⟩
instance:Inhabited Dig:=⟨DF⟩
theorem Dig.ext'{a b:Dig}(h:a.bs=b.bs):a=b:=by
 cases a; cases b; simp_all
def C6(d:Dig):List D:=d.bs.map Da
def C7(d:Dig):D:=.agg (C6 d)
theorem Fh(d:Dig):(C6 d).length=32:=by simp[C6,d.len]
theorem qg{a b:UInt8}(h:Da a=Da b):a=b:=by
 simp only[Da,D.int.injEq,true_and]at h;exact Cm.1 (by omega)
theorem Lx{α β:Type}{f:α→β}(E:∀ a b,f a=f b→a=b):∀ {l u:List α},l.map f=u.map f→l=u
 |[],[],_=>rfl
 |[],_::_,h=>by cases h
 |_::_,[],h=>by cases h
 |a::l,b::u,h=>by
  simp only[Aq,Aa]at h;rw[E _ _ h.1,Lx E h.2]
variable {b:List UInt8}
theorem Mz{a:List UInt8}(h:a.map Da=b.map Da):a=b:=Lx (fun _ _=>qg) h
theorem fU{a b:Dig}(h:C7 a=C7 b):a=b:=by
 simp only[C7,C6,D.agg.injEq]at h;exact Dig.ext' (Mz h)
theorem Yds{a b:Dig}(h:C6 a=C6 b):a=b:=Dig.ext' (Mz h)
theorem I4{p:D→Bool}(u:∀ b,p (Da b)=true)(d:Dig):(C6 d).all p=true:=by
 simp only[C6,Ag,AS];grind
theorem O8(d:Dig):(C6 d).all D.isCell=true:=I4 (fun _=>rfl) d
theorem Sz(d:Dig):(C6 d).all E7=true:=I4 (fun _=>rfl) d
theorem NO(d:Dig):Ha (C7 d)=true:=Sz d
theorem O9(d:Dig):(C7 d).cells=C6 d:=(rfl)
theorem kR(d:Dig):(C7 d).noRef=true:=I4 (fun _=>rfl) d
theorem Xm(d:Dig):D.mk true (C6 d)=C7 d:=(rfl)
theorem Yir(x:D)(l:List D):D.mk true (x::l)=.agg (x::l):=(rfl)
theorem Yo3(x:D)(l:List D):D.mk false (x::l)=x:=(rfl)
theorem Yl1(d:Dig):D.agg (C6 d)=C7 d:=(rfl)
theorem pL:[D.int .u8 0,.int .u8 0,.int .u8 0,.int .u8 0,.int .u8 0,.int .u8 0,.int .u8 0,.int .u8 0,.int .u8 0,.int .u8 0,.int .u8 0,.int .u8 0,.int .u8 0,.int .u8 0,.int .u8 0,.int .u8 0,.int .u8 0,.int .u8 0,.int .u8 0,.int .u8 0,.int .u8 0,.int .u8 0,.int .u8 0,.int .u8 0,.int .u8 0,.int .u8 0,.int .u8 0,.int .u8 0,.int .u8 0,.int .u8 0,.int .u8 0,.int .u8 0]=C6 DF:=(rfl)
theorem R5(d:Dig):(C6 d).take 32=C6 d:=AI (by rw[Fh]; exact Az _)
theorem W1(h:E7 d=true):Ha d=true:=by
 cases d with
 |agg l=>simp[E7]at h
 |_=>exact h
theorem Pd(n:Nat)(σ:List Nat):∀ {l:List D},l.all E7=true→l.map (Eo n σ)=l
 |[],_=>rfl
 |d::l,h=>by
  simp only[AU,Ac]at h;simp only[Aq,NM n σ (W1 h.1),Pd n σ h.2]
theorem OT:∀ {l:List D},l.all E7=true→l.flatMap hk=[]
 |[],_=>rfl
 |d::l,h=>by
  simp only[AU,Ac]at h;simp only[An,Zj (W1 h.1),OT h.2,Av]
theorem Ya4(n:Nat)(σ:List Nat)(d:Dig):(C6 d).map (Eo n σ)=C6 d:=Pd n σ (Sz d)
theorem Yc3(d:Dig):(C6 d).flatMap hk=[]:=OT (Sz d)
theorem Yjs(st:St)(d:Dig):D4 st (C7 d)=some (C7 d):=Sj st (NO d)
theorem gz(d:Dig):keys (C7 d)=[]:=Pe (NO d)
theorem gX(n:Nat)(σ:List Nat)(d:Dig):Eo n σ (C7 d)=C7 d:=NM n σ (NO d)
theorem Ylr(d:Dig):D0 (C7 d)=some (C6 d):=by
 simp only[D0,O9,O8,if_true]
theorem bR:∀ (n:Nat) (a b:List UInt8),a.length=n→b.length=n→E1 (CM n 0) (a.map Da) (b.map Da)=some (decide (a=b))
 |0,[],[],_,_=>rfl
 |0,_::_,_,h,_=>by cases h
 |0,[],_::_,_,h=>by cases h
 |n+1,[],_,h,_=>by cases h
 |n+1,_::_,[],_,h=>by cases h
 |n+1,a::l,b::E,h,u=>by
  simp only[Al,Nat.add_right_cancel_iff]at h u;simp only[BI,Aq,E1,bR n l E h u];simp only[Hc,Da,if_true]
  congr 1
  by_cases e:a=b
  ·grind
  ·have:¬ ((a.toNat:Int)=(b.toNat:Int)):=fun h=>e (Cm.1 (by omega));grind
theorem aO(a b:Dig):E1 (CM 32 0) (C6 a) (C6 b)=some (decide (a=b)):=by
 rw[C6,C6,bR 32 a.bs b.bs a.len b.len]
 congr 1
 by_cases e:a=b
 ·grind
 ·have u:¬ a.bs=b.bs:=fun h=>e (Dig.ext' h);simp[e,u]
theorem KX(u:Bool)(a b:Dig):Iq [0,0,0,0,0,0,0,0,0,0,0,0,0,0,0,0,0,0,0,0,0,0,0,0,0,0,0,0,0,0,0,0] u (C7 a) (C7 b)=some (.bool (decide (a=b) != u)):=by
 show(E1 (CM 32 0) (C6 a) (C6 b)).map _=_
 rw[aO]; rfl
theorem getElem?_getD[Inhabited α](l:List α)(i:Nat)(h:i<l.length):l[i]?=some (l.getD i default):=by
 grind
theorem uo[Inhabited α](l:List α)(i:Nat)(h:i<l.length):l.take (i+1)=l.take i++[l.getD i default]:=by
 simp_all
theorem rI[Inhabited α](l:List α)(i:Nat)(h:i<l.length):l.drop i=l.getD i default::l.drop (i+1):=by
 simp_all
theorem aN(l xs:List D)(h:l.length=xs.length):F0 l 0 xs=xs:=by
 simp[F0,h]
theorem v5(a b:Dig):F0 (C6 a) 0 (C6 b)=C6 b:=aN _ _ (by rw[Fh,Fh])
def DY(o:Option Obj)(n:Nat)(ag:Bool)(off:Nat):Option D:=if !ag && n != 1 then none else o.bind fun o=>if !o.row && decide (off+n≤o.els.length)then some (.mk ag ((o.els.drop off).take n))else none
def Eh(o:Option Obj)(n:Nat)(off:Nat)(x:D):Option Obj:=o.bind fun o=>if !o.row && !o.lent && decide (off+n≤o.els.length) && x.cells.length == n && x.cells.all D.isCell then some {o with els:=F0 o.els off x.cells} else none
theorem th(st:St)(n:Nat)(ag:Bool)(key off:Nat):EU st n ag (.ptr key off)=DY st[key]? n ag off:=by
 simp only[EU,DY];grind
theorem ti(st:St)(n:Nat)(key off:Nat)(x:D):JZ st n (.ptr key off) x=(Eh st[key]? n off x).map fun o=>st.set key o:=by
 simp only[JZ,Eh];grind
section
variable {α:Type} (sz:Nat) (lent:Bool)
theorem Yja(x:D)(l:List D):DY (some ⟨false,sz,x::l,lent⟩) 1 false 0=some x:=by
 rfl
theorem Ycg(x:D)(l:List D)(n:Nat)(ag:Bool)(off:Nat):DY (some ⟨false,sz,x::l,lent⟩) n ag (off+1)=DY (some ⟨false,sz,l,lent⟩) n ag off:=by
 simp only[DY,Bl,List.drop_succ_cons,Al];grind
theorem Yjb(d:Dig):DY (some ⟨false,sz,C6 d,lent⟩) 32 true 0=some (C7 d):=by
 simp[DY,Fh,R5,Xm]
theorem vR(x:D)(d:Dig):DY (some ⟨false,sz,x::C6 d,lent⟩) 33 true 0=some (.agg (x::C6 d)):=by
 simp[DY,Fh,R5,D.mk]
theorem e9{α:Type}[Inhabited α](f:α→D)(u:List α)(i:Nat)(h:i<u.length):DY (some ⟨false,sz,u.map f,lent⟩) 1 false i=some (f (u.getD i default)):=by
 have E:i+1≤u.length:=h
 have:(u.map f).drop i=f (u.getD i default)::(u.map f).drop (i+1):=by
  rw[← Ci,rI u i h,Aq,Ci]
 simp[DY,this,D.mk,E]
theorem Lw(cs:List D)(n:Nat)(h:cs.length=n):DY (some ⟨false,sz,cs,lent⟩) n true 0=some (.agg cs):=by
 subst h; simp[DY,D.mk]
theorem vS{α:Type}(f:α→D)(u:List α)(n:Nat)(h:u.length=n):DY (some ⟨false,sz,u.map f,lent⟩) n true 0=some (.agg (u.map f)):=
 Lw sz lent _ n (by simpa using h)
theorem Yhp(x v:D)(l:List D)(hv:v.isCell=true):Eh (some ⟨false,sz,x::l,false⟩) 1 0 v=some ⟨false,sz,v::l,false⟩:=by
 simp[Eh,ML hv,hv,F0]
theorem Yhq(x:D)(k:IntKind)(n:Int)(l:List D):Eh (some ⟨false,sz,x::l,false⟩) 1 0 (.int k n)=some ⟨false,sz,.int k n::l,false⟩:=Yhp sz _ _ _ rfl
theorem Yhr(d e:Dig):Eh (some ⟨false,sz,C6 d,false⟩) 32 0 (C7 e)=some ⟨false,sz,C6 e,false⟩:=by
 simp[Eh,Fh,O9,O8,v5]
theorem Ly(cs ds:List D)(n:Nat)(h:cs.length=n)(u:ds.length=n)(E:ds.all D.isCell=true):Eh (some ⟨false,sz,cs,false⟩) n 0 (.agg ds)=some ⟨false,sz,ds,false⟩:=by
 subst h;simp[Eh,D.cells,u,E,aN _ _ u.symm]
theorem v8(x:D)(k:IntKind)(m:Int)(d e:Dig):Eh (some ⟨false,sz,x::C6 d,false⟩) 33 0 (.agg (.int k m::C6 e))=some ⟨false,sz,.int k m::C6 e,false⟩:=
 Ly sz _ _ 33 (by simp[Fh]) (by simp[Fh]) (by simp[O8,D.isCell])
theorem fu(f:α→D)(E:∀ a,(f a).isCell=true)(u:List α)(i:Nat)(v:α)(h:i<u.length):Eh (some ⟨false,sz,u.map f,false⟩) 1 i (f v)=some ⟨false,sz,(u.set i v).map f,false⟩:=by
 have I:i+1≤u.length:=h
 have J:F0 (u.map f) i [f v]=(u.set i v).map f:=by
  rw[List.map_set,F0,B1];simp[h]
 simp[Eh,ML (E v),E v,I,J]
theorem pN(u:List UInt8)(i:Nat)(v:UInt8)(h:i<u.length):Eh (some ⟨false,sz,u.map Da,false⟩) 1 i (Da v)=some ⟨false,sz,(u.set i v).map Da,false⟩:=fu sz Da (fun _=>rfl) u i v h
theorem pO(u:List UInt32)(i:Nat)(v:UInt32)(h:i<u.length):Eh (some ⟨false,sz,u.map wD,false⟩) 1 i (wD v)=some ⟨false,sz,(u.set i v).map wD,false⟩:=fu sz wD (fun _=>rfl) u i v h
theorem So{α:Type}(f:α→D)(E:∀ a,(f a).isCell=true)(u:List α):(u.map f).all D.isCell=true:=by
 grind
theorem Yaa(u vs:List UInt32)(n:Nat)(h:u.length=n)(E:vs.length=n):Eh (some ⟨false,sz,u.map wD,false⟩) n 0 (.agg (vs.map wD))=some ⟨false,sz,vs.map wD,false⟩:=
 Ly sz _ _ n (by simpa using h) (by simpa using E) (So wD (fun _=>rfl) vs)
theorem Yab(u vs:List UInt8)(n:Nat)(h:u.length=n)(E:vs.length=n):Eh (some ⟨false,sz,u.map Da,false⟩) n 0 (.agg (vs.map Da))=some ⟨false,sz,vs.map Da,false⟩:=
 Ly sz _ _ n (by simpa using h) (by simpa using E) (So Da (fun _=>rfl) vs)
end
theorem wv(st:St)(n:Nat)(ag:Bool)(key tot i off:Nat):EU st n ag (.rptr key tot i off)=if !ag && n != 1 then none else(st[key]?).bind fun o=>if o.row && o.els.length == tot then(o.els[i]?).bind fun el=>if off+n≤el.cells.length then some (.mk ag ((el.cells.drop off).take n))else none else none:=by
 simp only[EU];grind
theorem vM(st:St)(d:Dig):EU st 32 true (.eptr (C7 d) 0)=some (C7 d):=by
 simp[EU,O9,Fh,R5,Xm]
theorem K2(k:IntKind)(n:Int)(h:0≤n):Fj (.int k n)=some n.toNat:=by simp[Fj,h]
theorem IL(st:St)(n key off:Nat)(k:IntKind)(i:Int)(u:0≤i)(I:i<(n:Int)):GS st n 1 (.ptr key off) (.int k i)=some (.ptr key (off+i.toNat)):=by
 have E:i.toNat<n:=by omega
 simp[GS,K2 k i u,E,EK]
theorem sk(st:St)(n off:Nat)(u:D)(k:IntKind)(i:Int)(E:0≤i)(J:i<(n:Int)):GS st n 1 (.eptr u off) (.int k i)=some (.eptr u (off+i.toNat)):=by
 have I:i.toNat<n:=by omega
 simp[GS,K2 k i E,I,EK]
theorem wo[Inhabited α](st:St)(f:α→D)(u:List α)(i:Nat)(h:i<u.length):EU st 1 false (.eptr (.agg (u.map f)) i)=some (f (u.getD i default)):=by
 have:=e9 1 false f u i h;simpa[EU,DY,D.cells]using this
theorem Y4(st:St)(x:D)(h:x.isCell=true):EU st 1 false (.eptr x 0)=some x:=by
 simp[EU,ML h,D.mk]
theorem MI(st:St)(b:UInt8):EU st 1 false (.eptr (Da b) 0)=some (Da b):=Y4 st _ rfl
theorem vN(st:St)(k:IntKind)(n:Int):EU st 1 false (.eptr (.int k n) 0)=some (.int k n):=Y4 st _ rfl
theorem Yc2[Inhabited α](st:St)(sz:Nat)(f:α→D)(l:List α)(t:Bool)(k:IntKind)(i:Int)(u:0≤i)(I:i<(l.length:Int)) :
  Fy st sz (.slc sz (l.map f) t) (.int k i)=some (.eptr (f (l.getD i.toNat default)) 0):=by
 have E:i.toNat<l.length:=by omega
 simp only[Fy,K2 k i u,AG,getElem?_getD l i.toNat E,Ae,beq_self_eq_true,if_true]
theorem Ycc(st:St)(sz:Nat)(els:List D)(t:Bool):FC st false (.slc sz els t)=some (.int .i64 (els.length:Int)):=(rfl)
theorem Ycb(st:St)(s:List UInt8):FC st true (.str s)=some (.int .i64 (s.length:Int)):=(rfl)
theorem Ycd(st:St)(key tot off len:Nat):FC st false (.row key tot off len)=if Eu st key tot then some (.int .i64 (len:Int))else none:=by
 simp only[FC,I0,Fa,beq_self_eq_true,if_true];grind
theorem Ybn(st:St)(sz bytes key tot:Nat)(x:D)(o:Obj)(xs:List D)(u:Nat)(E:st[key]?=some o)(I:o.row=true)(J:o.sz=sz)(M:o.els.length=tot)
  (N:Gc st x=some (u,xs)) (O:u=sz∨xs=[]) (U:sz≠0) (hb:(tot+xs.length)*bytes≤140737488355328) (hl:tot+xs.length≤4294967296) :
  DR st sz bytes (.row key tot 0 tot) x=some (.row key (tot+xs.length) 0 (tot+xs.length),st.set key {o with els:=o.els++xs}):=by
 have e:(!(u == sz || xs.isEmpty) || sz == 0)=false:=by
  grind
 simp only[DR,N,e,E,I,J,M,hb,hl,beq_self_eq_true,Bd,decide_true,if_true,Ak,if_false]
theorem Y2(st:St)(sz bytes u:Nat)(els:List D)(x:D)(xs:List D)(E:Nat)(I:Gc st x=some (E,xs))(U:E=sz∨xs=[])(N:u=sz∨els=[])(V:sz≠0)(O:xs≠[])
  (hb:(els.length+xs.length)*bytes≤140737488355328) (hl:els.length+xs.length≤4294967296) :
  DR st sz bytes (.slc u els true) x=some (.row st.length (els.length+xs.length) 0 (els.length+xs.length),st++[{row:=true,sz,els:=els++xs,lent:=false}]):=by
 have J:xs.isEmpty=false:=by cases xs <;> simp_all
 have e:(!(E == sz || false) || sz == 0)=false:=by
  grind
 have M:(u == sz || els.isEmpty)=true:=by
  grind
 simp only[DR,I,e,J,M,hb,hl,Bd,decide_true,if_true,Ak,if_false]
theorem ix(st:St)(sz bytes u:Nat)(els:List D)(x:D)(E:Nat)(I:Gc st x=some (E,[]))(J:sz≠0) :
  DR st sz bytes (.slc u els true) x=some (.slc u els true,st):=by
 simp[DR,I,J]
theorem bl:∀ (l:List D),Hy 1 false l l.length=l
 |[]=>rfl
 |a::l=>by simp[Hy,D.mk,bl l]
def DC(sz key:Nat)(els:List D):D:=if els.isEmpty then .slc sz [] true else .row key els.length 0 els.length
def Di(sz:Nat)(els:List D):St:=if els.isEmpty then []else [{row:=true,sz,els,lent:=false}]
theorem gi(sz key:Nat):DC sz key []=.slc sz [] true:=(rfl)
theorem Ybo(st:St)(sz sz0 bytes:Nat)(els xs:List D)(x:D)(u:Nat)(E:Gc (st++Di sz els) x=some (u,xs))(I:u=sz∨xs=[])(hs0:sz≠0)
  (hb:(els.length+xs.length)*bytes≤140737488355328) (hl:els.length+xs.length≤4294967296) :
  DR (st++Di sz els) sz bytes (DC sz0 st.length els) x=some (DC sz0 st.length (els++xs),st++Di sz (els++xs)):=by
 cases els with
 |nil=>
  cases xs with
  |nil=>
   rw[gi,ix _ _ _ _ _ _ u E hs0];rfl
  |cons a l=>
   rw[gi,Y2 _ _ _ _ _ _ (a::l) u E I (.inr rfl) hs0 (by simp) (by simpa using hb) (by simpa using hl)];simp[DC,Di]
 |cons e r=>
  have J:(st++Di sz (e::r))[st.length]?=some {row:=true,sz,els:=e::r,lent:=false}:=by simp[Di]
  have:=Ybn (st++Di sz (e::r)) sz bytes st.length (e::r).length x _ xs u J rfl rfl rfl E I hs0 hb hl;simp only[DC,List.isEmpty_cons,Ak,if_false,At]at this ⊢;rw[this];simp[Di,Nat.add_right_comm]
theorem Yoi(fr:Frame)(s t:Nat)(d:D):(fr.set s d) t=if t=s then d else fr t:=(rfl)
theorem Yo4(s t:Nat)(d:D)(r:List (Nat×D)):Fu ((s,d)::r) t=if t=s then d else Fu r t:=(rfl)
attribute [push_cast] yH Ru pr wh we LC Yg6 PX Yqg Yk7 Ydz Yq9 Qw Yer qC ua ub wC rJ tu tv r6 Ydi uG uF Yey Yex Yev qu Yeu Yew Yet Ydj rY rZ Ydh rX uH rW rV Yhz Yap Yao Option.isNone_none Option.isNone_some
attribute [push_cast] fm Yil Ybw Yc1 sm pw wk wj Yjm Yco Ypt Yjh Yjj Ycn QM QH Ypi QN QO Yps Ypk Yph Ypj QP QR ZH Ypq Yjg Yje Ycm QK Ypp Ypn Ypo Ypm QJ Ypl QQ ZI QI Yjf Yjk Yjl Yji Ypr QL Ybe Ybf Yoi Qq Qr Yo4 zi zl yJ yK yL yM yN yO ze Rt Rq uu ur pR yI Yl7 Ybt Yij Yos za Rr Yar tP gZ jU pL
attribute [push_cast] Yjw Q5 z4 vF w7 vE Yql Yqk Yqj Yjs gz gX Fh O8 O9 kR Xm Yl1 Yir Yo3 R5 Ylr KX vM th ti Yja Ycg Yjb vR e9 vS Yhq Yhr v8 pN pO Yaa Yab MI vN wo Ycc Ycb
theorem fc(st:St)(k:IntKind)(n:Int):D4 st (.int k n)=some (.int k n):=(rfl)
theorem Ycy(st:St)(b:Bool):D4 st (.bool b)=some (.bool b):=(rfl)
theorem Yjp(st:St)(s:List UInt8):D4 st (.str s)=some (.str s):=(rfl)
theorem Yjq(st:St)(sz:Nat)(els:List D)(t:Bool):D4 st (.slc sz els t)=some (.slc (nz sz els) els false):=(rfl)
theorem Yjr(st:St)(key tot off len:Nat):D4 st (.row key tot off len)=(Gy st key tot off len).map fun p=>.slc (nz p.1 p.2) p.2 false:=(rfl)
theorem Yju(st:St)(l:List D):D4 st (.agg l)=(D3 st l).map .agg:=(rfl)
theorem Ycz(st:St):D3 st []=some []:=(rfl)
theorem jO(st:St)(d:D)(l:List D):D3 st (d::l)=(DD st d).bind fun x=>(D3 st l).map (x::·):=by
 simp only[D3]
 cases DD st d with
 |none=>rfl
 |some x=>cases D3 st l <;> rfl
theorem Yct(st:St):D2 st []=some []:=(rfl)
theorem sX(st:St)(d:D)(l:List D):D2 st (d::l)=(D4 st d).bind fun x=>(D2 st l).map (x::·):=by
 simp only[D2]
 cases D4 st d with
 |none=>rfl
 |some x=>cases D2 st l <;> rfl
theorem gq(st:St)(d:Dig):D3 st (C6 d)=some (C6 d):=NT st (Sz d)
theorem Yc9(s:PS):Fq s []=some []:=(rfl)
theorem se(s:PS)(r:PRes)(l:List PRes):Fq s (r::l)=(r.get s).bind fun x=>(Fq s l).map (x::·):=by
 simp only[Fq]
 cases r.get s with
 |none=>rfl
 |some x=>cases Fq s l <;> rfl
theorem Yki(fr:Frame)(st:St)(t:Nat):PRes.get ⟨fr,st⟩ (.tmp t)=D4 st (fr t):=(rfl)
theorem Ydc(fr:Frame)(st:St)(t n:Nat)(ag:Bool):PRes.get ⟨fr,st⟩ (.cell t n ag)=(EU st n ag (fr t)).bind fun d=>D4 st d:=by
 simp only[PRes.get];grind
theorem Ybd(s:PS):Ea s []=some []:=(rfl)
theorem Ybc(fr:Frame)(st:St)(t:Nat)(l:List PRes):Ea ⟨fr,st⟩ (.tmp t::l)=(Ea ⟨fr,st⟩ l).map (fr t::·):=(rfl)
theorem Ybr(d:D):D1 [d]=d:=(rfl)
theorem Ybq(a b:D)(l:List D):D1 (a::b::l)=.tup (a::b::l):=(rfl)
theorem Ybs:D1 []=.tup []:=(rfl)
theorem sV(k:IntKind)(n:Int):(D.int k n).noRef=true:=(rfl)
theorem vw(b:Bool):(D.bool b).noRef=true:=(rfl)
theorem tr(sz:Nat)(els:List D)(t:Bool):(D.slc sz els t).noRef=false:=(rfl)
theorem gA(k:IntKind)(n:Int):keys (.int k n)=[]:=(rfl)
theorem sE(b:Bool):keys (.bool b)=[]:=(rfl)
theorem Ych(s:List UInt8):keys (.str s)=[]:=(rfl)
theorem Yci(sz:Nat)(els:List D)(t:Bool):keys (.slc sz els t)=[]:=(rfl)
theorem Ycj(key tot off len:Nat):keys (.row key tot off len)=[key]:=(rfl)
theorem Yp8(k:IntKind)(n:Int):hk (.int k n)=[]:=(rfl)
theorem Yj6(b:Bool):hk (.bool b)=[]:=(rfl)
theorem Yp3(s:List UInt8):hk (.str s)=[]:=(rfl)
theorem Yp4(sz:Nat)(els:List D)(t:Bool):hk (.slc sz els t)=[]:=(rfl)
theorem Yp5(key tot off len:Nat):hk (.row key tot off len)=[key]:=(rfl)
theorem Yp6(key off:Nat):hk (.ptr key off)=[key]:=(rfl)
theorem Yp2(l:List D):hk (.tup l)=[]:=(rfl)
theorem Yj3:hk .junk=[]:=(rfl)
theorem Yh4(n:Nat)(σ:List Nat)(k:IntKind)(m:Int):Eo n σ (.int k m)=.int k m:=(rfl)
theorem Ya0(n:Nat)(σ:List Nat)(b:Bool):Eo n σ (.bool b)=.bool b:=(rfl)
theorem Yh0(n:Nat)(σ:List Nat)(s:List UInt8):Eo n σ (.str s)=.str s:=(rfl)
theorem Yh1(n:Nat)(σ:List Nat)(sz:Nat)(els:List D)(t:Bool):Eo n σ (.slc sz els t)=.slc sz els t:=(rfl)
theorem Yh2(n:Nat)(σ:List Nat)(key tot off len:Nat):Eo n σ (.row key tot off len)=HX (fun k=>.row k tot off len) (ED n σ key):=(rfl)
theorem Yh3(n:Nat)(σ:List Nat)(key off:Nat):Eo n σ (.ptr key off)=HX (fun k=>.ptr k off) (ED n σ key):=(rfl)
theorem wZ(f:Nat→D)(k:Nat):HX f (some k)=f k:=(rfl)
theorem Yen(k:IntKind)(n:Int):D0 (.int k n)=some [.int k n]:=(rfl)
theorem pW(b:Bool):D0 (.bool b)=some [.bool b]:=(rfl)
theorem Yem(sz:Nat)(els:List D)(t:Bool):D0 (.slc sz els t)=some [.slc sz els t]:=(rfl)
theorem ry(k:IntKind)(n:Int):(D.int k n).cells=[.int k n]:=(rfl)
theorem u5(b:Bool):(D.bool b).cells=[.bool b]:=(rfl)
theorem rB(sz:Nat)(els:List D)(t:Bool):(D.slc sz els t).cells=[.slc sz els t]:=(rfl)
theorem rA(key tot off len:Nat):(D.row key tot off len).cells=[.row key tot off len]:=(rfl)
theorem rv(l:List D):(D.agg l).cells=l:=(rfl)
theorem Wx(k:IntKind)(n:Int):(D.int k n).isCell=true:=(rfl)
theorem wU(b:Bool):(D.bool b).isCell=true:=(rfl)
theorem uS(sz:Nat)(els:List D)(t:Bool):(D.slc sz els t).isCell=true:=(rfl)
theorem uR(key tot off len:Nat):(D.row key tot off len).isCell=true:=(rfl)
theorem Yn5(b:Bool):IS .not (.bool b)=some (.bool !b):=(rfl)
theorem Ylt(k:IntKind)(a b:Int):Dj .lss (.int k a) (.int k b)=some (.bool (decide (a<b))):=by simp only[Dj,if_true,HK,Ae]
theorem Ylu(k:IntKind)(a b:Int):Dj .leq (.int k a) (.int k b)=some (.bool (decide (a≤b))):=by simp only[Dj,if_true,HK,Ae]
theorem Ylv(k:IntKind)(a b:Int):Dj .gtr (.int k a) (.int k b)=some (.bool (decide (b<a))):=by simp only[Dj,if_true,HK,Ae,gt_iff_lt]
theorem Ylw(k:IntKind)(a b:Int):Dj .geq (.int k a) (.int k b)=some (.bool (decide (b≤a))):=by simp only[Dj,if_true,HK,Ae,ge_iff_le]
theorem XF(k:IntKind)(a b:Int):Dj .eql (.int k a) (.int k b)=some (.bool (decide (a=b))):=by
 simp only[Dj,if_true,HK,Ae];rfl
theorem eg(k:IntKind)(a b:Int):Dj .neq (.int k a) (.int k b)=some (.bool (!decide (a=b))):=by
 simp only[Dj,if_true,HK,Ae];rfl
theorem Yeq(u a b:Bool):Lc u (.bool a) (.bool b)=some (.bool ((a == b) != u)):=(rfl)
theorem Yo2(k k':IntKind)(a b:Int):Og true (.int k a) (.int k' b)=some (.int k (max a b)):=by
 simp only[Og,if_true]
 congr 2
 omega
theorem Yo1(k k':IntKind)(a b:Int):Og false (.int k a) (.int k' b)=some (.int k (min a b)):=by
 simp only[Og,Ak,if_false]
 congr 2
 omega
theorem Yiq(k k' u:IntKind)(a b c:Int):Lf true (.int k a) (.int k' b) (.int u c)=some (.int k (max (max a b) c)):=by
 simp only[Lf,Kh,if_true]
 congr 2
 omega
theorem Ybj(st:St)(off key o:Nat):EK st off (.ptr key o)=some (.ptr key (o+off)):=(rfl)
theorem s5(st:St)(off:Nat)(u:D)(o:Nat):EK st off (.eptr u o)=some (.eptr u (o+off)):=(rfl)
theorem Yca(st:St):lend [] st=st:=(rfl)
theorem sG(k:Nat)(r:List Nat)(st:St):lend (k::r) st=lend r (st.modify k fun o=>{o with lent:=true}):=(rfl)
theorem xi(b:Bool)(x:St):(if b=true then x else x)=x:=by cases b <;> rfl
theorem aK(n sz:Nat)(ag:Bool)(key off:Nat)(h:0<n):Nu n sz ag (.ptr key off) none none=some (.bsl key off n sz ag):=by
 have:¬ 0=n:=by omega
 simp[Nu,FJ,this]
attribute [push_cast] fc Ycy Yjp Yjq Yjr Yju Ycz jO Yct sX gq Yc9 se Yki Ydc Ybd Ybc Ybr Ybq Ybs sV vw tr gA sE Ych Yci Ycj Yp8 Yj6 Yp3 Yp4 Yp5 Yp6 Yp2 Yj3 Yh4 Ya0 Yh0 Yh1 Yh2 Yh3 wZ Yen pW Yem ry u5 rB rA rv Wx wU uS uR Yn5 Ylt Ylu Ylv Ylw XF eg Yeq Yo2 Yo1 Yiq Ybj s5 Yca sG xi Option.map_some Option.map_none Option.bind_some Option.bind_none List.map_cons List.map_nil List.flatMap_cons List.flatMap_nil List.append_nil List.nil_append List.cons_append List.getElem?_cons_zero List.getElem?_cons_succ List.set_cons_zero List.set_cons_succ List.modify_zero_cons List.modify_succ_cons List.length_cons List.length_nil List.length_map List.take_zero List.take_succ_cons List.all_cons List.all_nil Nat.zero_add Nat.add_zero Bool.not_true Bool.not_false Bool.and_self Bool.true_and Bool.and_true Bool.false_and Bool.and_false Bool.or_false Bool.false_or Bool.true_or Bool.or_true Bool.not_not if_true if_false decide_true decide_false beq_self_eq_true Bool.false_eq_true Bool.true_eq_false ne_eq bne_self_eq_false Bool.bne_false Bool.bne_true Nat.lt_irrefl Nat.le_refl
def JV(fr:Frame):List Nat→List Nat
 |[]=>[]
 |k::r=>hk (fr k)++JV fr r
def HV(fr:Frame)(n:Nat)(σ:List Nat):List Nat→List (Nat×D)
 |[]=>[]
 |k::r=>(k,Eo n σ (fr k))::HV fr n σ r
def Hq:St→List Nat
 |[]=>[]
 |o::r=>(if o.row then []else o.els.flatMap hk)++Hq r
def Ji(n:Nat)(σ:List Nat)(st:St):List Nat→St
 |[]=>[]
 |k::r=>EJ n σ (st.getD k default)::Ji n σ st r
def Io(n:Nat)(σ:List Nat):St→St
 |[]=>[]
 |o::r=>EJ n σ o::Io n σ r
def OY(keep:List Nat)(n m:Nat)(l:List Nat)(fr:Frame)(st:St):PS:=restrictAt keep n (Et n m l []) ⟨fr,st⟩
theorem Y9(fr:Frame):∀ keep:List Nat,JV fr keep=keep.flatMap fun k=>hk (fr k)
 |[]=>rfl
 |k::r=>by rw[JV,An,Y9 fr r]
theorem eh:∀ st:St,Hq st=st.flatMap fun o=>if o.row then []else o.els.flatMap hk
 |[]=>rfl
 |k::r=>by rw[Hq,An,eh r]
theorem RH(fr:Frame)(n:Nat)(σ:List Nat):∀ keep:List Nat,HV fr n σ keep=keep.map fun k=>(k,Eo n σ (fr k))
 |[]=>rfl
 |k::r=>by rw[HV,Aq,RH fr n σ r]
theorem iA(n:Nat)(σ:List Nat)(st:St):∀ l:List Nat,Ji n σ st l=l.map fun k=>EJ n σ (st.getD k default)
 |[]=>rfl
 |k::r=>by rw[Ji,Aq,iA n σ st r]
theorem fk(n:Nat)(σ:List Nat):∀ st:St,Io n σ st=st.map (EJ n σ)
 |[]=>rfl
 |k::r=>by rw[Io,Aq,fk n σ r]
def Wd(keep:List Nat)(n:Nat)(fr:Frame)(st:St):PS:=OY keep n st.length (JV fr keep++Hq (st.take n)) fr st
theorem xg(keep:List Nat)(n:Nat)(fr:Frame)(st:St):restrict keep n ⟨fr,st⟩=Wd keep (if n≤st.length then n else st.length) fr st:=by
 simp only[restrict,Wd,OY,PE,Y9,eh]
theorem xW(keep:List Nat)(n:Nat)(fr:Frame)(st:St):Wd keep n fr st=OY keep n st.length (JV fr keep++Hq (st.take n)) fr st:=(rfl)
def We(keep:List Nat)(n:Nat)(σ:List Nat)(fr:Frame)(st:St):PS:=⟨Fu (HV fr n σ keep),Io n σ (st.take n)++Ji n σ st σ⟩
theorem xV(keep:List Nat)(n m:Nat)(l:List Nat)(fr:Frame)(st:St):OY keep n m l fr st=We keep n (Et n m l []) fr st:=by
 simp only[OY,restrictAt,We,RH,picked,fk,iA]
theorem xX(keep:List Nat)(n:Nat)(σ:List Nat)(fr:Frame)(st:St):We keep n σ fr st=⟨Fu (HV fr n σ keep),Io n σ (st.take n)++Ji n σ st σ⟩:=(rfl)
theorem sh(fr:Frame):JV fr []=[]:=(rfl)
theorem uM(fr:Frame)(k:Nat)(r:List Nat):JV fr (k::r)=hk (fr k)++JV fr r:=(rfl)
theorem sg(fr:Frame)(n:Nat)(σ:List Nat):HV fr n σ []=[]:=(rfl)
theorem uL(fr:Frame)(n:Nat)(σ:List Nat)(k:Nat)(r:List Nat):HV fr n σ (k::r)=(k,Eo n σ (fr k))::HV fr n σ r:=(rfl)
theorem Yek:Hq []=[]:=(rfl)
theorem Yej(sz:Nat)(els:List D)(lent:Bool)(r:St):Hq ({row:=true,sz,els,lent}::r)=Hq r:=(rfl)
theorem Yel(sz:Nat)(els:List D)(lent:Bool)(r:St):Hq ({row:=false,sz,els,lent}::r)=els.flatMap hk++Hq r:=(rfl)
theorem s7(n:Nat)(σ:List Nat)(st:St):Ji n σ st []=[]:=(rfl)
theorem vG(n:Nat)(σ:List Nat)(st:St)(k:Nat)(r:List Nat):Ji n σ st (k::r)=EJ n σ (st.getD k default)::Ji n σ st r:=(rfl)
theorem Ya1(n:Nat)(σ:List Nat):Io n σ []=[]:=(rfl)
theorem tq(n:Nat)(σ:List Nat)(o:Obj)(r:St):Io n σ (o::r)=EJ n σ o::Io n σ r:=(rfl)
theorem po(lo hi:Nat)(u:List Nat):Et lo hi [] u=u:=(rfl)
theorem tQ(lo hi k:Nat)(r u:List Nat):Et lo hi (k::r) u=Et lo hi r (if lo≤k∧k<hi∧u.contains k=false then u++[k]else u):=(rfl)
theorem Yh7(n:Nat)(σ:List Nat)(key:Nat):ED n σ key=if key<n then some key else L2 σ n key:=(rfl)
theorem Ybg(k k':Nat)(r:List Nat)(b:Nat):L2 (k::r) b k'=if k'=k then some b else L2 r (b+1) k':=(rfl)
theorem Ya2(n:Nat)(σ:List Nat)(sz:Nat)(els:List D)(lent:Bool):EJ n σ {row:=true,sz,els,lent}={row:=true,sz,els,lent}:=(rfl)
theorem Ya3(n:Nat)(σ:List Nat)(sz:Nat)(els:List D)(lent:Bool):EJ n σ {row:=false,sz,els,lent}={row:=false,sz,els:=els.map (Eo n σ),lent}:=(rfl)
theorem Ya8(n:Nat)(σ:List Nat)(k:IntKind)(m:Int):Ep n σ (.int k m)=.int k m:=(rfl)
theorem tp(n:Nat)(σ:List Nat)(b:Bool):Ep n σ (.bool b)=.bool b:=(rfl)
theorem Ya6(n:Nat)(σ:List Nat)(sz:Nat)(els:List D)(t:Bool):Ep n σ (.slc sz els t)=.slc sz els t:=(rfl)
theorem Ya5(n:Nat)(σ:List Nat)(s:List UInt8):Ep n σ (.str s)=.str s:=(rfl)
theorem Ya7(n:Nat)(σ:List Nat)(key tot off len:Nat):Ep n σ (.row key tot off len)=HX (fun k=>.row k tot off len) (ED n σ key):=(rfl)
theorem Yka(k:IntKind)(m:Int):Dt (.int k m)=[]:=(rfl)
theorem Yc4(b:Bool):Dt (.bool b)=[]:=(rfl)
theorem Yj8(sz:Nat)(els:List D)(t:Bool):Dt (.slc sz els t)=[]:=(rfl)
theorem Yj7(s:List UInt8):Dt (.str s)=[]:=(rfl)
theorem Yj9(key tot off len:Nat):Dt (.row key tot off len)=[key]:=(rfl)
theorem Yqb(key off m sz:Nat)(ag:Bool):hk (.bsl key off m sz ag)=[key]:=(rfl)
theorem Yjy(key tot i off:Nat):hk (.rptr key tot i off)=[key]:=(rfl)
theorem Yj2(key:Nat):hk (.mapv key)=[key]:=(rfl)
theorem Yj1:hk .nilf=[]:=(rfl)
theorem Yjz:hk .nilp=[]:=(rfl)
theorem Yj0:hk .nilm=[]:=(rfl)
theorem Yj4(l:List (Int×Nat)):hk (.gmap l)=[]:=(rfl)
theorem Yaz(n:Nat)(σ:List Nat)(l:List (Int×Nat)):Eo n σ (.gmap l)=.gmap l:=(rfl)
theorem Yav(n:Nat)(σ:List Nat):Eo n σ .nilm=.nilm:=(rfl)
theorem Yay(n:Nat)(σ:List Nat)(key:Nat):Eo n σ (.mapv key)=HX .mapv (ED n σ key):=(rfl)
theorem Yaw(n:Nat)(σ:List Nat):Eo n σ .nilf=.nilf:=(rfl)
theorem Yau(n:Nat)(σ:List Nat):Eo n σ .nilp=.nilp:=(rfl)
def N0(keep:List Nat)(n:Nat)[Inv:InvC][Q:QC](e:Ex)(fr:Frame)(st:St):Prop:=match e with
 |.next=>Inv.run (restrict keep n ⟨fr,st⟩)
 |e=>Q.run e fr st
def UD(s:PS)[Inv:InvC]:Prop:=Inv.run s
theorem vj(keep:List Nat)(n:Nat)(u:PS→Prop)(Q:QC)(fr:Frame)(st:St):@N0 keep n ⟨u⟩ Q .next fr st=@UD (restrict keep n ⟨fr,st⟩) ⟨u⟩:=(rfl)
theorem vg(keep:List Nat)(n:Nat)(u:InvC)(Q:Ex→Frame→St→Prop)(E:Nat)(fr:Frame)(st:St):@N0 keep n u ⟨Q⟩ (.exit E) fr st=Q (.exit E) fr st:=(rfl)
theorem sN(keep:List Nat)(n:Nat)(u:InvC)(Q:Ex→Frame→St→Prop)(fr:Frame)(st:St):@N0 keep n u ⟨Q⟩ .ret fr st=Q .ret fr st:=(rfl)
theorem xq(keep:List Nat)(n:Nat)(u:InvC)(Q:Ex→Frame→St→Prop)(t:Nat)(d:D)(fr:Frame)(st:St):@N0 keep n u ⟨Q⟩ (.panic t d) fr st=Q (.panic t d) fr st:=(rfl)
theorem EP(u:ι→List (Nat×D))(E:ι→St)(P:ι→Prop)(μ:ι→Nat)(I:ι)
  (M:restrict keep st.length ⟨fr,st⟩=⟨Fu (u I),E I⟩) (N:P I)
  (J:∀ i,P i→@wW G T c (Fu (u i)) (E i) ⟨@N0 keep st.length ⟨fun s=>∃ j,(P j∧μ j<μ i)∧s=⟨Fu (u j),E j⟩⟩ ⟨Q⟩⟩):@wW G T (.loop keep c) fr st ⟨Q⟩:=by
 refine Uu (zb u E P μ I M N fun i hi=>I1 c _ _ _ _ (G2 (J i hi)) fun e O st' h=>?_)
 cases e with
 |next=>
  obtain⟨j,⟨U,V⟩,X⟩:=h;grind
 |exit id=>exact h
 |ret=>exact h
 |panic t d=>exact h
theorem El{u:ι→List (Nat×D)}{E:ι→St}{P m:ι→Prop}{s:PS}(j:ι)(I:P j)(J:m j)(M:s=⟨Fu (u j),E j⟩):@UD s ⟨fun s=>∃ j,(P j∧m j)∧s=⟨Fu (u j),E j⟩⟩:=⟨j,⟨I,J⟩,M⟩
def Nh(keep:List Nat)[Inv:InvC][Q:QC](e:Ex)(fr:Frame)(st:St):Prop:=match e with
 |.next=>Inv.run (keepAll keep ⟨fr,st⟩)
 |e=>Q.run e fr st
theorem xp(keep:List Nat)(u:PS→Prop)(Q:QC)(fr:Frame)(st:St):@Nh keep ⟨u⟩ Q .next fr st=@UD (keepAll keep ⟨fr,st⟩) ⟨u⟩:=(rfl)
theorem xn(keep:List Nat)(u:InvC)(Q:Ex→Frame→St→Prop)(E:Nat)(fr:Frame)(st:St):@Nh keep u ⟨Q⟩ (.exit E) fr st=Q (.exit E) fr st:=(rfl)
theorem vf(keep:List Nat)(u:InvC)(Q:Ex→Frame→St→Prop)(fr:Frame)(st:St):@Nh keep u ⟨Q⟩ .ret fr st=Q .ret fr st:=(rfl)
theorem xQ(keep:List Nat)(u:InvC)(Q:Ex→Frame→St→Prop)(t:Nat)(d:D)(fr:Frame)(st:St):@Nh keep u ⟨Q⟩ (.panic t d) fr st=Q (.panic t d) fr st:=(rfl)
def N1(fr:Frame):List Nat→List (Nat×D)
 |[]=>[]
 |k::l=>(k,fr k)::N1 fr l
theorem sC(fr:Frame):N1 fr []=[]:=(rfl)
theorem vO(fr:Frame)(k:Nat)(l:List Nat):N1 fr (k::l)=(k,fr k)::N1 fr l:=(rfl)
theorem gx(fr:Frame):∀ l,l.map (fun k=>(k,fr k))=N1 fr l
 |[]=>rfl
 |k::l=>by rw[Aq,gx fr l]; rfl
theorem uU(keep:List Nat)(fr:Frame)(st:St):keepAll keep ⟨fr,st⟩=⟨Fu (N1 fr keep),st⟩:=by
 rw[← gx]; rfl
theorem Ye4(u:ι→List (Nat×D))(E:ι→St)(P:ι→Prop)(μ:ι→Nat)(I:ι)
  (M:keepAll keep ⟨fr,st⟩=⟨Fu (u I),E I⟩) (N:P I)
  (J:∀ i,P i→@wW G T c (Fu (u i)) (E i) ⟨@Nh keep ⟨fun s=>∃ j,(P j∧μ j<μ i)∧s=⟨Fu (u j),E j⟩⟩ ⟨Q⟩⟩):@wW G T (.loopA keep c) fr st ⟨Q⟩:=by
 refine Uu (Yl6 u E P μ I M N fun i hi=>I1 c _ _ _ _ (G2 (J i hi)) fun e O st' h=>?_)
 cases e with
 |next=>
  obtain⟨j,⟨U,V⟩,X⟩:=h;grind
 |exit id=>exact h
 |ret=>exact h
 |panic t d=>exact h
def Jl:PC→Bool
 |.seq a b | .cond _ a b=>Jl a && Jl b
 |.block _ c=>Jl c
 |.loop _ _ | .loopA _ _ | .range _ _ _ _ | .alt _ _=>false
 |_=>true
theorem bz(m I:Nat):∀ (c:PC),Jl c=true→∀ s,c.exec G T m s=c.exec G T I s:=by
 intro c
 induction c with
 |seq a b u E=>
  intro h s;simp only[Jl,Ac]at h;simp only[PC.exec,u h.1 s];grind
 |cond x a b u E=>
  intro h s;simp only[Jl,Ac]at h;simp only[PC.exec,u h.1 s,E h.2 s]
 |block id c J=>
  intro h s;simp only[Jl]at h;simp only[PC.exec,J h s]
 |loop=>intro h; simp[Jl]at h
 |loopA=>intro h; simp[Jl]at h
 |range=>intro h; simp[Jl]at h
 |alt=>intro h; simp[Jl]at h
 |_=>intro _ s; rfl
def PN(k:Nat)(r:D)(st':St):Ex→St→Prop
 |.next,st2=>r=.bool true∧st'=st2.set k (recO 0)
 |.ret,st2=>r=.bool false∧st'=st2.set k (recO 1)
 |_,_=>False
theorem RO{a b:PC}(I:Jl a=true)(hb:Jl b=true){k:Nat}{r:D}(hl:ds.length=ps.length)
  (h:@wW G T a (HG fr ps ds) st ⟨fun e fr1 st1=>e=.next∧recAt st1 k=some 0∧@wW G T b fr1 (st1.set k (recO 2)) ⟨fun e _ st2=>PN k r st' e st2⟩⟩) (m:Nat) :
  IJ (a.exec G T m) (b.exec G T m) fr ps k ds st=some (r,st'):=by
 obtain⟨n,e,fr1,st1,J,rfl,M,N⟩:=Jn _ _ _ _ (G2 h);obtain⟨E,O,fr2,st2,U,u⟩:=Jn _ _ _ _ (G2 N);unfold IJ;rw[if_pos hl,bz m n a I,J n (Az _)];simp only;rw[if_pos M,bz m E b hb,U E (Az _)]
 cases O with
 |next=>obtain⟨rfl,rfl⟩:=u; rfl
 |ret=>obtain⟨rfl,rfl⟩:=u; rfl
 |exit id=>exact u.elim
 |panic t d=>exact u.elim
theorem XP{x:PA}{a b:PC}{f:Nat}{u:List D}{sp:(List D→St→Option (D×St))→List D→St→Option (D×St)}{e:Ex}
  (E:Dn G fr x=.clo f u) (I:f<5000000) (J:T.r f=some sp) (h:∀ m,sp (IJ (a.exec G T m) (b.exec G T m) fr ps st.length) u (st++[recO 0])=some (d,st')) (M:Pt st' st.length=some e) (N:Q e fr (st'.set st.length (recO 2))):@wW G T (.range x ps a b) fr st ⟨Q⟩:=by
 refine Uu (Ye5 (fun m=>?_) M N);simp only[OH,E,if_pos I,J,h m,Ae]
theorem Zq(T:Tbl)(l:Nat)(y:List D→St→Option (D×St)):(L7 T l y).p=T.p:=(rfl)
theorem Zs(T:Tbl)(l:Nat)(y:List D→St→Option (D×St)):(L7 T l y).i=T.i:=(rfl)
theorem Zr(T:Tbl)(l:Nat)(y:List D→St→Option (D×St)):(L7 T l y).m=T.m:=(rfl)
theorem eN(T:Tbl)(f:Nat)(u:List D)(h:f<5000000):HP T (.clo f u)=(T.i f).map fun sp=>(sp,[],u):=by
 simp only[HP,if_pos h]
theorem LP(T:Tbl)(f f':Nat)(u:List D)(h:f=f'+5000000)(E:f'<5000000):HP T (.clo f u)=(T.i f').map fun sp=>(sp,u,[]):=by
 subst h;simp only[HP,if_neg (show ¬ f'+5000000<5000000 by omega),if_pos (show f'+5000000<10000000 by omega),Co]
theorem u9(T:Tbl)(l:Nat)(y:List D→St→Option (D×St)):HP (L7 T l y) (.clo (10000000+l) [])=some (y,[],[]):=by
 unfold HP;have u:¬ 10000000+l<5000000:=by omega
 simp only[u,Nat.not_lt.2 (Nat.le_add_right 10000000 l),if_false,CB,if_true,Nat.add_sub_cancel_left,L7]
theorem sZ(k:IntKind)(n:Int):K7 (.int k n)=true:=(rfl)
theorem uQ(k:IntKind)(n:Int):K7 (.agg [.int k n])=true:=(rfl)
attribute [push_cast] wa zc Rs tz tT xG xF wi Ybv tt vr vq vu vt vW Yas tN vV tM wB xh sZ uQ
attribute [irreducible] Nh
attribute [push_cast] xp xn vf sC vO uU Zq Zs Zr eN LP u9
attribute [irreducible] N0 UD
attribute [push_cast] vj vg sN xq xQ
attribute [push_cast] Yqb Yjy Yj2 Yj1 Yjz Yj0 Yj4 Yaz Yav Yay Yaw Yau Ya4 Yc3
attribute [push_cast] xg xW xV xX sh uM sg uL Yek Yej Yel s7 vG Ya1 tq po tQ Yh7 Ybg Ya2 Ya3 Ya8 tp Ya6 Ya5 Ya7 Yka Yc4 Yj8 Yj7 Yj9 List.getD_cons_zero List.getD_cons_succ List.contains_nil List.contains_cons false_and and_false and_true true_and and_self Int.toNat_natCast Int.cast_ofNat_Int Int.toNat_zero Int.toNat_one
noncomputable def Dd{α:Type}(enc:α→List D)(pre:α→Prop)(f:α→D):List D→Option D:=
 fun ds=>@dite _ (∃ a,enc a=ds∧pre a) (Classical.propDecidable _) (fun h=>some (f h.choose)) (fun _=>none)
theorem OL{enc:α→List D}{u:α→Prop}{f:α→D}(h:Dd enc u f ds=some d):∃ a,enc a=ds∧u a∧f a=d:=by
 unfold Dd at h
 split at h
 ·grind
 ·cases h
theorem DG{enc:α→List D}{u:α→Prop}{f:α→D}(E:∀ a b,enc a=enc b→a=b)(a:α)(I:u a):Dd enc u f (enc a)=some (f a):=by
 have J:∃ b,enc b=enc a∧u b:=⟨a,rfl,I⟩;unfold Dd;grind
def Ej{α:Type}:List (Nat×α)→Nat→Option α
 |[],_=>none
 |(k,a)::r,n=>if n=k then some a else Ej r n
def tb(l:List (Nat×(List D→Option D)))(li:List (Nat×(List D→St→Option (D×St))))(lm:List (Nat×(List D→Option ((Nat→D)×(Nat→List Obj)))):=[]):Tbl:={p:=Ej l,i:=Ej li,m:=Ej lm}
theorem ZA(l:List (Nat×(List D→Option D)))(li:List (Nat×(List D→St→Option (D×St))))(u:List (Nat×(List D→Option ((Nat→D)×(Nat→List Obj)))))(n:Nat):(tb l li u).p n=Ej l n:=(rfl)
theorem Qb(l:List (Nat×(List D→Option D)))(li:List (Nat×(List D→St→Option (D×St))))(u:List (Nat×(List D→Option ((Nat→D)×(Nat→List Obj)))))(n:Nat):(tb l li u).i n=Ej li n:=(rfl)
theorem ZB(l:List (Nat×(List D→Option D)))(li:List (Nat×(List D→St→Option (D×St))))(u:List (Nat×(List D→Option ((Nat→D)×(Nat→List Obj)))))(n:Nat):(tb l li u).m n=Ej u n:=(rfl)
theorem Yb8(n:Nat):Ej ([]:List (Nat×α)) n=none:=(rfl)
theorem jC(k:Nat)(a:α)(r:List (Nat×α))(n:Nat):Ej ((k,a)::r) n=if n=k then some a else Ej r n:=(rfl)
theorem JO{α:Type}:∀ {l:List (Nat×α)} {n:Nat} {a:α},Ej l n=some a→(n,a)∈l
 |[],_,_,h=>by cases h
 |(k,b)::r,n,a,h=>by
  simp only[Ej]at h
  split at h
  ·grind
  ·exact Ai _ (JO h)
variable {li:List (Nat×(List D→St→Option (D×St)))}{l:List (Nat×(List D→Option D))}{P:Program}
theorem Dy(h:∀ x∈l,Contract P G x.1 x.2)(hi:∀ x∈li,IContract P G x.1 x.2)(E:l.all (fun x=>decide (x.1<50000000))=true:=by rfl):TblOK P G (tb l li):=
 ⟨fun _ _ u=>.inl ⟨of_decide_eq_true (Ag.1 E _ (JO u)),h _ (JO u)⟩,fun _ _ u=>hi _ (JO u),fun _ _ u=>(by cases u),fun _ _ u=>(by cases u),fun _ _ u=>(by cases u),fun _ _ u=>(by cases u)⟩
def Od(l:List (Nat×(List D→Option D)))(li:List (Nat×(List D→St→Option (D×St))))(lr:List (Nat×((List D→St→Option (D×St))→List D→St→Option (D×St)))):Tbl:={p:=Ej l,i:=Ej li,m:=fun _=>none,r:=Ej lr}
theorem P6(l:List (Nat×(List D→Option D)))(li:List (Nat×(List D→St→Option (D×St))))(u:List (Nat×((List D→St→Option (D×St))→List D→St→Option (D×St))))(n:Nat):(Od l li u).p n=Ej l n:=(rfl)
theorem P7(l:List (Nat×(List D→Option D)))(li:List (Nat×(List D→St→Option (D×St))))(u:List (Nat×((List D→St→Option (D×St))→List D→St→Option (D×St))))(n:Nat):(Od l li u).i n=Ej li n:=(rfl)
theorem P5(l:List (Nat×(List D→Option D)))(li:List (Nat×(List D→St→Option (D×St))))(u:List (Nat×((List D→St→Option (D×St))→List D→St→Option (D×St))))(n:Nat):(Od l li u).r n=Ej u n:=(rfl)
theorem mG{E:List (Nat×((List D→St→Option (D×St))→List D→St→Option (D×St)))}(h:∀ x∈l,Contract P G x.1 x.2)(hi:∀ x∈li,IContract P G x.1 x.2)
  (J:∀ x∈E,O5 P G x.1 x.2) (I:l.all (fun x=>decide (x.1<50000000))=true:=by rfl):TblOK P G (Od l li E):=
 ⟨fun _ _ u=>.inl ⟨of_decide_eq_true (Ag.1 I _ (JO u)),h _ (JO u)⟩,fun _ _ u=>hi _ (JO u),fun _ _ u=>(by cases u),fun _ _ u=>J _ (JO u),fun _ _ u=>(by cases u),fun _ _ u=>(by cases u)⟩
def Zz(l:List (Nat×(List D→Option D)))(li:List (Nat×(List D→St→Option (D×St))))(lx:List (Nat×(List D→St→Option (Nat×D×St)))):Tbl:={p:=Ej l,i:=Ej li,m:=fun _=>none,x:=Ej lx}
theorem P3(l:List (Nat×(List D→Option D)))(li:List (Nat×(List D→St→Option (D×St))))(u:List (Nat×(List D→St→Option (Nat×D×St))))(n:Nat):(Zz l li u).p n=Ej l n:=(rfl)
theorem P4(l:List (Nat×(List D→Option D)))(li:List (Nat×(List D→St→Option (D×St))))(u:List (Nat×(List D→St→Option (Nat×D×St))))(n:Nat):(Zz l li u).i n=Ej li n:=(rfl)
theorem P2(l:List (Nat×(List D→Option D)))(li:List (Nat×(List D→St→Option (D×St))))(u:List (Nat×(List D→St→Option (Nat×D×St))))(n:Nat):(Zz l li u).x n=Ej u n:=(rfl)
def MW(l:List (Nat×(List D→Option D)))(li:List (Nat×(List D→St→Option (D×St))))(lq:List (Nat×(List D→List (Option (Bool×Nat×List D))→Option D))):Tbl:={p:=Ej l,i:=Ej li,m:=fun _=>none,q:=Ej lq}
theorem P9(l:List (Nat×(List D→Option D)))(li:List (Nat×(List D→St→Option (D×St))))(u:List (Nat×(List D→List (Option (Bool×Nat×List D))→Option D)))(n:Nat):(MW l li u).p n=Ej l n:=(rfl)
theorem Qa(l:List (Nat×(List D→Option D)))(li:List (Nat×(List D→St→Option (D×St))))(u:List (Nat×(List D→List (Option (Bool×Nat×List D))→Option D)))(n:Nat):(MW l li u).i n=Ej li n:=(rfl)
theorem P8(l:List (Nat×(List D→Option D)))(li:List (Nat×(List D→St→Option (D×St))))(u:List (Nat×(List D→List (Option (Bool×Nat×List D))→Option D)))(n:Nat):(MW l li u).q n=Ej u n:=(rfl)
theorem XE{E:List (Nat×(List D→List (Option (Bool×Nat×List D))→Option D))}(h:∀ x∈l,Contract P G x.1 x.2)(hi:∀ x∈li,IContract P G x.1 x.2)
  (J:∀ x∈E,IContract P G x.1 (fun ds st=>(G8 x.2 ds st).map (·,st))) (I:l.all (fun x=>decide (x.1<50000000))=true:=by rfl):TblOK P G (MW l li E):=
 ⟨fun _ _ u=>.inl ⟨of_decide_eq_true (Ag.1 I _ (JO u)),h _ (JO u)⟩,fun _ _ u=>hi _ (JO u),fun _ _ u=>(by cases u),fun _ _ u=>(by cases u),fun _ _ u=>(by cases u),fun _ _ u=>J _ (JO u)⟩
theorem all_nil{p:α→Prop}:∀ x∈([]:List α),p x:=fun _ h=>by cases h
theorem all_cons{p:α→Prop}{a:α}{l:List α}(h:p a)(hl:∀ x∈l,p x):∀ x∈a::l,p x:=by
 grind
theorem DH{il:List Nat}{f:Nat}{hints:List (List Nat)}(E:Ds P il f hints=some F)(I:TblOK P G T){enc:α→List D}{u:α→Prop}{r:α→D}
  (h:∀ a,u a→@wW G T F.code (Db (enc a)) [] ⟨De F.res (r a)⟩) (J:T.y=fun _ _ _=>none:=by rfl):Contract P G f (Dd enc u r):=by
 refine gR I J E fun ds d M=>?_;obtain⟨a,rfl,N,rfl⟩:=OL M;exact g6 (G2 (h a N))
theorem Ydr{a b:List Dig}:a.map C7=b.map C7↔a=b:=⟨Lx fun _ _=>fU,fun h=>by rw[h]⟩
theorem KR{a b:Dig}:C7 a=C7 b↔a=b:=⟨fU,fun h=>by rw[h]⟩
theorem RA{a b:Dig}:C6 a=C6 b↔a=b:=⟨Yds,fun h=>by rw[h]⟩
theorem LN{a:List UInt8}:a.map Da=b.map Da↔a=b:=⟨Mz,fun h=>by rw[h]⟩
theorem JX(sz:Nat)(els:List D):nz (nz sz els) els=nz sz els:=by cases els <;> rfl
theorem Yow(sz:Nat):nz sz []=0:=(rfl)
theorem Yim(sz:Nat)(a:D)(l:List D):nz sz (a::l)=sz:=(rfl)
theorem L5(sz:Nat)(els:List D):nz sz els=sz∨els=[]:=by cases els <;> simp[nz]
theorem KA[Inhabited α](st:St)(sz:Nat)(f:α→D)(l:List α)(t:Bool)(k:IntKind)(i:Int)(u:0≤i)(E:i<(l.length:Int)) :
  Fy st sz (.slc (nz sz (l.map f)) (l.map f) t) (.int k i)=some (.eptr (f (l.getD i.toNat default)) 0):=by
 have:nz sz (l.map f)=sz:=by
  rcases L5 sz (l.map f)with h | h
  ·exact h
  ·have:l.length=0:=by simpa using congrArg List.length h
   omega
 rw[this];exact Yc2 st sz f l t k i u E
attribute [push_cast] JX Yow Yim ZA Qb ZB P6 P7 P5 P3 P4 P2 P9 Qa P8 Yb8 jC List.map_nil
theorem Yb0(h:n≤64):min n.toNat 64=n.toNat:=by omega
variable {x:Int}{k k':IntKind}
theorem lR(u:k=.i64∨k=.u64)(I:0≤n)(E:n≤64):Dj .shr (.int k x) (.int k' n)=some (.int k (x / 2 ^ n.toNat)):=by
 have hb:k.bits=64:=by rcases u with rfl | rfl <;> rfl
 simp only[Dj,J2,show ¬ n<0 by omega,if_false,Ae,hb,Yb0 E];grind
theorem Z8(u:0≤n)(E:n≤64):Dj .shr (.int .u64 x) (.int k' n)=some (.int .u64 (x / 2 ^ n.toNat)):=lR (.inr rfl) u E
theorem lS(u:0≤n)(E:n≤64):Dj .shr (.int .i64 x) (.int k' n)=some (.int .i64 (x / 2 ^ n.toNat)):=lR (.inl rfl) u E
theorem lO{b:Int}(hb:0<b)(u:0≤a)(I:a<9223372036854775808):Dj .quo (.int .i64 a) (.int .i64 b)=some (.int .i64 (a / b)):=by
 have E:a.tdiv b=a / b:=Bz u;have J:a / b≤a:=CC b u;have M:0≤a / b:=Int.ediv_nonneg u (by omega);simp only[Dj,if_true,Ic,show ¬ b=0 by omega,if_false,Ae,E,LL (show -9223372036854775808≤a / b by omega) (show a / b<9223372036854775808 by omega)]
theorem VE{b:Int}(hb:0<b)(u:0≤a):Dj .rem (.int .i64 a) (.int .i64 b)=some (.int .i64 (a % b)):=by
 have E:a.tmod b=a % b:=Int.tmod_eq_emod_of_nonneg u;simp only[Dj,if_true,Ic,show ¬ b=0 by omega,if_false,Ae,E]
theorem toNat_ofInt(u:0≤a)(E:a<9223372036854775808):(CP 64 a).toNat=a.toNat:=by
 grind
theorem UZ(st:St)(u:0≤a)(E:a<9223372036854775808):E0 st (.int .u64) (.int .i64 a)=some (.int .u64 a):=by
 obtain⟨n,rfl⟩:=Bf u;simp only[E0,OS]
 congr 2
 omega
theorem Yk5(st:St)(E:0≤a)(u:a<9223372036854775808):E0 st (.int .i64) (.int k a)=some (.int .i64 a):=by
 simp only[E0,LL (show -9223372036854775808≤a by omega) u]
theorem XI(st:St)(u:0≤a):E0 st (.int .u8) (.int k a)=some (Da (UInt8.ofNat a.toNat)):=by
 obtain⟨n,rfl⟩:=Bf u;rfl
theorem aE{s:List UInt8}{h:Int}(u:0≤h)(E:h≤(s.length:Int)):FX st 0 (.str s) none (some (.int k h)) none=some (.str (s.take h.toNat)):=by
 simp[FX,FJ,K2 k h u];omega
theorem qd(st:St)(b:UInt8):D4 st (Da b)=some (Da b):=(rfl)
theorem ug(b:UInt8):keys (Da b)=[]:=(rfl)
theorem Yeh(b:UInt8):hk (Da b)=[]:=(rfl)
theorem qh(n:Nat)(σ:List Nat)(b:UInt8):Eo n σ (Da b)=Da b:=(rfl)
theorem wH(b:UInt8):(Da b).cells=[Da b]:=(rfl)
theorem xI(b:UInt8):(Da b).isCell=true:=(rfl)
theorem wI(b:UInt8):(Da b).noRef=true:=(rfl)
theorem p9(b:UInt8):D0 (Da b)=some [Da b]:=(rfl)
theorem yn(b:UInt8):ES 1 [Da b]=some (.slc 1 [Da b] true):=(rfl)
theorem xP(d:Dig):ES 32 [C7 d]=some (.slc 32 [C7 d] true):=by
 simp[ES,O9,Fh]
theorem uw(st:St)(s:List UInt8):E0 st .bytes (.str s)=some (.slc 1 (s.map Da) false):=(rfl)
theorem sK(a:Nat)(l:List D)(t:Bool):ES 1 [.slc a l t]=some (.slc 1 [.slc a l t] true):=(rfl)
theorem sL(a b:Nat)(l m:List D)(t u:Bool):ES 1 [.slc a l t,.slc b m u]=some (.slc 1 [.slc a l t,.slc b m u] true):=(rfl)
theorem sM(a b c:Nat)(l m n:List D)(t u v:Bool):ES 1 [.slc a l t,.slc b m u,.slc c n v]=some (.slc 1 [.slc a l t,.slc b m u,.slc c n v] true):=(rfl)
theorem sJ:ES 1 []=some (.slc 1 [] true):=(rfl)
theorem vU:ES 32 []=some (.slc 32 [] true):=(rfl)
theorem ud(k:IntKind)(n:Int)(d:Dig):D0 (.agg (.int k n::C6 d))=some (.int k n::C6 d):=by
 simp[D0,D.cells,O8,D.isCell]
theorem xK(k:IntKind)(n:Int)(d:Dig):(D.agg (.int k n::C6 d)).noRef=true:=by
 have:=kR d;simp only[C7,D.noRef]at this;simp[D.noRef,D.noRef1,this]
theorem wS(q:Nat)(u:List Nat)(x y:D)(xs ys:List D):E1 (q::u) (x::xs) (y::ys)=match Hc q x y,E1 u xs ys with | some a,some b=>some (a && b) | _,_=>none:=(rfl)
theorem kX(u:Bool)(k:IntKind)(m n:Int)(a b:Dig):Iq [0,0,0,0,0,0,0,0,0,0,0,0,0,0,0,0,0,0,0,0,0,0,0,0,0,0,0,0,0,0,0,0,0] u (.agg (.int k m::C6 a)) (.agg (.int k n::C6 b))=some (.bool ((decide (m=n) && decide (a=b)) != u)):=by
 show(E1 (0::CM 32 0) _ _).map _=_
 rw[wS,aO];simp only[Hc,if_true,Ae];rfl
attribute [push_cast] ud xK kX
theorem Zb(st:St)(k:IntKind)(n:Int):DD st (.int k n)=some (.int k n):=(rfl)
theorem sn(st:St)(b:Bool):DD st (.bool b)=some (.bool b):=(rfl)
theorem Yc0(st:St)(s:List UInt8):DD st (.str s)=some (.str s):=(rfl)
theorem Zc(st:St)(sz:Nat)(els:List D)(t:Bool):DD st (.slc sz els t)=some (.slc (nz sz els) els false):=(rfl)
attribute [push_cast] Zb sn Yc0 Zc Nat.zero_le
attribute [push_cast] sJ vU uw sK sL sM
theorem jF(f:α→D)(u:∀ a,E7 (f a)=true)(l:List α):(l.map f).all E7=true:=by
 grind
theorem WK(l:List UInt8):(l.map Da).all E7=true:=jF Da (fun _=>rfl) l
theorem WX(l:List UInt32):(l.map wD).all E7=true:=jF wD (fun _=>rfl) l
theorem uP(st:St)(l:List UInt32):D3 st (l.map wD)=some (l.map wD):=NT st (WX l)
theorem uO(st:St)(l:List UInt8):D3 st (l.map Da)=some (l.map Da):=NT st (WK l)
theorem wA(n:Nat)(σ:List Nat)(l:List UInt32):(l.map wD).map (Eo n σ)=l.map wD:=Pd n σ (WX l)
theorem wz(n:Nat)(σ:List Nat)(l:List UInt8):(l.map Da).map (Eo n σ)=l.map Da:=Pd n σ (WK l)
theorem sj(l:List UInt32):(l.map wD).flatMap hk=[]:=OT (WX l)
theorem si(l:List UInt8):(l.map Da).flatMap hk=[]:=OT (WK l)
attribute [push_cast] wA wz sj si
theorem wY(l:List UInt32):(D.agg (l.map wD)).noRef=true:=by
 simp only[D.noRef,Ag,AS];rintro x ⟨a,_,rfl⟩;rfl
theorem pX(l:List UInt32):D0 (.agg (l.map wD))=some (l.map wD):=by
 simp only[D0,D.cells,So wD (fun _=>rfl),if_true]
theorem mU{a b:UInt32}(h:wD a=wD b):a=b:=by
 simp only[wD,D.int.injEq,true_and]at h;exact UInt32.toNat_inj.1 (by omega)
theorem iH{a b:UInt32}:wD a=wD b↔a=b:=⟨mU,fun h=>by rw[h]⟩
theorem kj{a b:List UInt32}:a.map wD=b.map wD↔a=b:=⟨Lx fun _ _=>mU,fun h=>by rw[h]⟩
theorem Yn1(st:St)(b:UInt32):D4 st (wD b)=some (wD b):=(rfl)
theorem Yg7(b:UInt32):keys (wD b)=[]:=(rfl)
theorem pv(b:UInt32):(wD b).noRef=true:=(rfl)
theorem PY(b:UInt32):hk (wD b)=[]:=(rfl)
theorem Yn0(n:Nat)(σ:List Nat)(b:UInt32):Eo n σ (wD b)=wD b:=(rfl)
def zW(n:Nat):List UInt32:=CM n 0
theorem Ygj(n:Nat):D.int .u32 0::(zW n).map wD=(zW (n+1)).map wD:=(rfl)
theorem Ygk:[D.int .u32 0,.int .u32 0,.int .u32 0,.int .u32 0,.int .u32 0,.int .u32 0,.int .u32 0,.int .u32 0]=(zW 8).map wD:=(rfl)
theorem LO(f:α→D)(E:∀ a,(f a).isCell=true)(u:List α)(i:Nat)(v:α)(r:List (Nat×Nat×D))(h:i<u.length):Fi (u.map f) ((i,1,f v)::r)=Fi ((u.set i v).map f) r:=by
 have I:i+1≤u.length:=h
 have J:F0 (u.map f) i [f v]=(u.set i v).map f:=by
  rw[List.map_set,F0,B1];simp[h]
 simp[Fi,ML (E v),E v,I,J]
theorem ga(cs:List D):Fi cs []=some cs:=(rfl)
theorem Q0(a b c d e f g h:UInt32):Fi ((zW 8).map wD) [(0,1,wD a),(1,1,wD b),(2,1,wD c),(3,1,wD d),(4,1,wD e),(5,1,wD f),(6,1,wD g),(7,1,wD h)]=some ([a,b,c,d,e,f,g,h].map wD):=by
 have hf:∀ a,(wD a).isCell=true:=fun _=>rfl;rw[LO wD hf _ _ _ _ (by simp[zW]),LO wD hf _ _ _ _ (by simp[zW]),LO wD hf _ _ _ _ (by simp[zW]),LO wD hf _ _ _ _ (by simp[zW]),LO wD hf _ _ _ _ (by simp[zW]),LO wD hf _ _ _ _ (by simp[zW]),LO wD hf _ _ _ _ (by simp[zW]),LO wD hf _ _ _ _ (by simp[zW]),ga];rfl
theorem Xr(x:UInt32)(k:IntKind)(z:Int)(u:0≤z)(h:z<32):Dj .shl (wD x) (.int k z)=some (wD (x <<< UInt32.ofNat z.toNat)):=by
 obtain⟨n,rfl⟩:=Bf u;exact lQ x k n (by omega)
theorem PO(x:UInt32)(k:IntKind)(z:Int)(u:0≤z)(h:z<32):Dj .shr (wD x) (.int k z)=some (wD (x >>> UInt32.ofNat z.toNat)):=by
 obtain⟨n,rfl⟩:=Bf u;exact lT x k n (by omega)
theorem mC(x:UInt64)(k:IntKind)(z:Int)(u:0≤z)(h:z<64):Dj .shr (qD x) (.int k z)=some (qD (x >>> CX z.toNat)):=by
 obtain⟨n,rfl⟩:=Bf u;exact Qp x k n (by omega)
def Jb(s:List UInt8):D:=.slc (nz 1 (s.map Da)) (s.map Da) false
theorem Ylq{a:List UInt8}(h:Jb a=Jb b):a=b:=by
 simp only[Jb,D.slc.injEq]at h;exact Mz h.2.1
theorem Ylp{a b:List (List UInt8)}:a.map Jb=b.map Jb↔a=b:=⟨Lx fun _ _=>Ylq,fun h=>by rw[h]⟩
theorem te(st:St)(s:List UInt8):EU st 1 false (.eptr (Jb s) 0)=some (.slc (nz 1 (s.map Da)) (s.map Da) false):=Y4 st _ rfl
theorem Qk(sz:Nat)(u E I J M N O U:D)(a b c d e f g h:UInt32):Eh (some ⟨false,sz,[u,E,I,J,M,N,O,U],false⟩) 8 0 (.agg [wD a,wD b,wD c,wD d,wD e,wD f,wD g,wD h])=some ⟨false,sz,[wD a,wD b,wD c,wD d,wD e,wD f,wD g,wD h],false⟩:=Ly sz _ _ 8 rfl rfl rfl
attribute [push_cast] Qk uP uO wY pX Yn1 Yg7 pv PY Yn0 Ygj Ygk Q0 ga te
attribute [push_cast] qd ug Yeh qh wH xI wI p9 yn xP
set_option linter.unusedSimpArgs false
def Ey(n:Nat)(els:List D):List Nat:=if els.isEmpty then []else [n]
theorem J8(sz key:Nat)(els:List D)(h:els≠[]):DC sz key els=.row key els.length 0 els.length:=by
 cases els with
 |nil=>exact absurd rfl h
 |cons a l=>rfl
theorem JK(sz:Nat)(els:List D)(h:els≠[]):Di sz els=[{row:=true,sz,els,lent:=false}]:=by
 cases els with
 |nil=>exact absurd rfl h
 |cons a l=>rfl
theorem Yqa(sz n:Nat)(els:List D):hk (DC sz n els)=Ey n els:=by cases els <;> rfl
theorem Yh6(sz n:Nat)(els:List D):Eo n (Ey n els) (DC sz n els)=DC sz n els:=by
 cases els with
 |nil=>rfl
 |cons a l=>simp[Ey,DC,Eo,Ep,Gi,ED,L2,HX]
theorem Zl(n hi sz:Nat)(els:List D)(r:List Nat)(h:hi=(Di sz els).length+n):Et n hi (Ey n els++r) []=Et n hi r (Ey n els):=by
 cases els with
 |nil=>rfl
 |cons a l=>
  have:n<hi:=by rw[h]; simp[Di]
  simp[Ey,Et,this]
theorem fF(sz:Nat)(els:List D)(r:List Nat):Et 0 ((Di sz els).length) (Ey 0 els++r) []=Et 0 ((Di sz els).length) r (Ey 0 els):=Zl 0 _ sz els r (by simp)
theorem Yhb(sz:Nat)(els:List D):Et 0 ((Di sz els).length) (Ey 0 els) []=Ey 0 els:=by
 have:=fF sz els [];rwa [Av]at this
theorem fG(sz:Nat)(els:List D)(r:List Nat):Et 1 ((Di sz els).length+1) (Ey 1 els++r) []=Et 1 ((Di sz els).length+1) r (Ey 1 els):=Zl 1 _ sz els r (by simp)
theorem Yha(sz:Nat)(els:List D):Et 1 ((Di sz els).length+1) (Ey 1 els) []=Ey 1 els:=by
 have:=fG sz els [];rwa [Av]at this
theorem fC(sz:Nat)(els:List D)(r:List Nat):Et 2 ((Di sz els).length+1+1) (Ey 2 els++r) []=Et 2 ((Di sz els).length+1+1) r (Ey 2 els):=Zl 2 _ sz els r (by simp)
theorem Yg9(sz:Nat)(els:List D):Et 2 ((Di sz els).length+1+1) (Ey 2 els) []=Ey 2 els:=by
 have:=fC sz els [];rwa [Av]at this
theorem Y3(l:St)(sz:Nat)(els:List D):Ji l.length (Ey l.length els) (l++Di sz els) (Ey l.length els)=Di sz els:=by
 cases els with
 |nil=>rfl
 |cons a r=>simp[Ey,Di,Ji,EJ]
theorem s8(sz:Nat)(els:List D):Ji 0 (Ey 0 els) (Di sz els) (Ey 0 els)=Di sz els:=Y3 [] sz els
theorem s9(a:Obj)(sz:Nat)(els:List D):Ji 1 (Ey 1 els) (a::Di sz els) (Ey 1 els)=Di sz els:=Y3 [a] sz els
theorem ta(a b:Obj)(sz:Nat)(els:List D):Ji 2 (Ey 2 els) (a::b::Di sz els) (Ey 2 els)=Di sz els:=Y3 [a,b] sz els
theorem s4(l:St)(sz sz0 u bytes:Nat)(els xs:List D)(t:Bool)(E:u=sz∨xs=[])(hs0:sz≠0)(hb:(els.length+xs.length)*bytes≤140737488355328)(hl:els.length+xs.length≤4294967296) :
  DR (l++Di sz els) sz bytes (DC sz0 l.length els) (.slc u xs t)=some (DC sz0 l.length (els++xs),l++Di sz (els++xs)):=
 Ybo l sz sz0 bytes els xs _ u rfl E hs0 hb hl
section
variable {α:Type} (f:α→D) (a b c d:Obj) (sz sz0 bytes:Nat) (A B:List α) (t:Bool) (hs0:sz≠0) (hb:(A.length+B.length)*bytes≤140737488355328) (hl:A.length+B.length≤4294967296)
include hs0 hb hl
theorem NK(l:St)(u:Nat)(E:u=sz∨B.map f=[]):DR (l++Di sz (A.map f)) sz bytes (DC sz0 l.length (A.map f)) (.slc u (B.map f) t)=some (DC sz0 l.length ((A++B).map f),l++Di sz ((A++B).map f)):=by
 rw[s4 l sz sz0 u bytes (A.map f) (B.map f) t E hs0 (by simpa using hb) (by simpa using hl),A4]
theorem Yig:DR (a::Di sz (A.map f)) sz bytes (DC sz0 1 (A.map f)) (.slc (nz sz (B.map f)) (B.map f) t)=some (DC sz0 1 ((A++B).map f),a::Di sz ((A++B).map f)):=NK f sz sz0 bytes A B t hs0 hb hl [a] _ (L5 _ _)
end
section
variable {α:Type} (f:α→D) (a b c d:Obj) (sz sz0 bytes:Nat) (A:List α) (x:α) (t:Bool) (hs0:sz≠0) (hb:(A.length+1)*bytes≤140737488355328) (hl:A.length+1≤4294967296)
include hs0 hb hl
theorem RK(l:St):DR (l++Di sz (A.map f)) sz bytes (DC sz0 l.length (A.map f)) (.slc sz [f x] t)=some (DC sz0 l.length ((A++[x]).map f),l++Di sz ((A++[x]).map f)):=
 NK f sz sz0 bytes A [x] t hs0 hb hl l sz (.inl rfl)
theorem Yif:DR (Di sz (A.map f)) sz bytes (DC sz0 0 (A.map f)) (.slc sz [f x] t)=some (DC sz0 0 ((A++[x]).map f),Di sz ((A++[x]).map f)):=RK f sz sz0 bytes A x t hs0 hb hl []
theorem Yie:DR (a::Di sz (A.map f)) sz bytes (DC sz0 1 (A.map f)) (.slc sz [f x] t)=some (DC sz0 1 ((A++[x]).map f),a::Di sz ((A++[x]).map f)):=RK f sz sz0 bytes A x t hs0 hb hl [a]
theorem XW:DR (a::b::Di sz (A.map f)) sz bytes (DC sz0 2 (A.map f)) (.slc sz [f x] t)=some (DC sz0 2 ((A++[x]).map f),a::b::Di sz ((A++[x]).map f)):=RK f sz sz0 bytes A x t hs0 hb hl [a,b]
end
theorem WC(f:α→D)(st:St)(sz sz0 bytes:Nat)(B:List α)(t:Bool)(hs0:sz≠0)(hb:B.length*bytes≤140737488355328)(hl:B.length≤4294967296) :
  DR st sz bytes (.slc sz0 [] true) (.slc (nz sz (B.map f)) (B.map f) t)=some (DC sz0 st.length (B.map f),st++Di sz (B.map f)):=by
 have:=NK f sz sz0 bytes [] B t hs0 (by simpa using hb) (by simpa using hl) st _ (L5 _ _);simpa[Di,DC]using this
theorem bI(f:α→D)(st:St)(sz sz0 bytes:Nat)(x:α)(t:Bool)(hs0:sz≠0)(hb:bytes≤140737488355328) :
  DR st sz bytes (.slc sz0 [] true) (.slc sz [f x] t)=some (.row st.length 1 0 1,st++[⟨true,sz,[f x],false⟩]):=by
 have:=NK f sz sz0 bytes [] [x] t hs0 (by simpa using hb) (by simp) st sz (.inl rfl);simpa[Di,DC]using this
theorem p5(f:α→D)(sz key:Nat)(A:List α)(x:α):DC sz key ((A++[x]).map f)=.row key (A++[x]).length 0 (A++[x]).length:=by
 rw[J8 _ _ _ (by simp),A2]
theorem p6(f:α→D)(sz:Nat)(A:List α)(x:α):Di sz ((A++[x]).map f)=[⟨true,sz,(A++[x]).map f,false⟩]:=JK _ _ (by simp)
theorem XU(f:α→D)(sz:Nat)(A:List α)(h:Nat):nz (nz sz (A.map f)) ((A.take h).map f)=nz sz ((A.take h).map f):=by
 cases A with
 |nil=>simp[nz]
 |cons a r=>rfl
theorem XT(f:α→D)(sz:Nat)(A:List α)(l:Nat):nz (nz sz (A.map f)) ((A.drop l).map f)=nz sz ((A.drop l).map f):=by
 cases A with
 |nil=>simp[nz]
 |cons a r=>rfl
theorem Qx(f:α→D)(sz:Nat)(A:List α)(h l:Nat):nz (nz sz (A.map f)) (((A.drop l).take h).map f)=nz sz (((A.drop l).take h).map f):=by
 cases A with
 |nil=>simp[nz]
 |cons a r=>rfl
theorem Sh(f:α→D)(st:St)(sz bytes:Nat)(A B:List α)(t:Bool)(u:Nat)(E:B≠[])(I:u=sz∨B.map f=[])(hs0:sz≠0)(hb:(A.length+B.length)*bytes≤140737488355328)(hl:A.length+B.length≤4294967296) :
  DR st sz bytes (.slc sz (A.map f) true) (.slc u (B.map f) t)=some (.row st.length (A++B).length 0 (A++B).length,st++[⟨true,sz,(A++B).map f,false⟩]):=by
 have:=Y2 st sz bytes sz (A.map f) (.slc u (B.map f) t) (B.map f) u rfl I (.inl rfl) hs0 (by simpa using E) (by simpa using hb) (by simpa using hl);grind
theorem Sf(st:St)(sz bytes u E:Nat)(els:List D)(t:Bool)(hs0:sz≠0):DR st sz bytes (.slc u els true) (.slc E [] t)=some (.slc u els true,st):=ix st sz bytes u els _ E rfl hs0
attribute [push_cast] XU XT Qx
theorem fb(l:St)(sz sz0:Nat)(els:List D):D4 (l++Di sz els) (DC sz0 l.length els)=some (.slc (nz sz els) els false):=by
 cases els with
 |nil=>rfl
 |cons a r=>simp[DC,Di,D4,DD,Gy]
theorem Ypy(sz sz0:Nat)(els:List D):D4 (Di sz els) (DC sz0 0 els)=some (.slc (nz sz els) els false):=fb [] sz sz0 els
theorem Xl(a b:Obj)(sz sz0:Nat)(els:List D):D4 (a::b::Di sz els) (DC sz0 2 els)=some (.slc (nz sz els) els false):=fb [a,b] sz sz0 els
theorem gC(l:St)(sz sz0:Nat)(els:List D):FC (l++Di sz els) false (DC sz0 l.length els)=some (.int .i64 (els.length:Int)):=by
 cases els with
 |nil=>rfl
 |cons a r=>simp[DC,Di,FC,I0,Fa,Eu]
theorem Yi3(sz sz0:Nat)(els:List D):FC (Di sz els) false (DC sz0 0 els)=some (.int .i64 (els.length:Int)):=gC [] sz sz0 els
theorem Yi2(a:Obj)(sz sz0:Nat)(els:List D):FC (a::Di sz els) false (DC sz0 1 els)=some (.int .i64 (els.length:Int)):=gC [a] sz sz0 els
theorem Ypa(n m:Nat):n≤m+n:=Nat.le_add_left n m
theorem Ybx(key:Nat):D.slc 0 [] true=DC 0 key []:=(rfl)
theorem j2(sz key:Nat):D.slc sz [] true=DC sz key []:=(rfl)
def Na(o:Option Obj)(sz bytes tot:Nat)(xs:Option (Nat×List D)):Option Obj:=match o,xs with
 |some o,some (szx,xs)=>if !(szx == sz || xs.isEmpty) || sz == 0 then none
  else if o.row && o.sz == sz && o.els.length == tot && decide ((tot+xs.length)*bytes≤140737488355328) && decide (tot+xs.length≤4294967296)then some {o with els:=o.els++xs} else none
 |_,_=>none
theorem Wo(st:St)(sz bytes key tot:Nat)(x:D):DR st sz bytes (.row key tot 0 tot) x=(Na st[key]? sz bytes tot (Gc st x)).map fun o=>(.row key o.els.length 0 o.els.length,st.set key o):=by
 simp only[DR,Na];grind
theorem XQ(f:α→D)(sz bytes:Nat)(A B:List α)(lent:Bool)(hs0:sz≠0)(hb:(A.length+B.length)*bytes≤140737488355328)(hl:A.length+B.length≤4294967296)(u:Nat)(E:u=sz∨B.map f=[]) :
  Na (some ⟨true,sz,A.map f,lent⟩) sz bytes A.length (some (u,B.map f))=some ⟨true,sz,(A++B).map f,lent⟩:=by
 have e:(!(u == sz || (B.map f).isEmpty) || sz == 0)=false:=by
  grind
 simp only[Na,e,Ak,if_false];grind
theorem zh(f:α→D)(sz bytes:Nat)(A B:List α)(lent t:Bool)(st:St)(hs0:sz≠0)(hb:(A.length+B.length)*bytes≤140737488355328)(hl:A.length+B.length≤4294967296) :
  Na (some ⟨true,sz,A.map f,lent⟩) sz bytes A.length (Gc st (.slc (nz sz (B.map f)) (B.map f) t))=some ⟨true,sz,(A++B).map f,lent⟩:=XQ f sz bytes A B lent hs0 hb hl _ (L5 _ _)
theorem ez(f:α→D)(sz bytes:Nat)(A:List α)(x:α)(lent t:Bool)(st:St)(hs0:sz≠0)(hb:(A.length+1)*bytes≤140737488355328)(hl:A.length+1≤4294967296) :
  Na (some ⟨true,sz,A.map f,lent⟩) sz bytes A.length (Gc st (.slc sz [f x] t))=some ⟨true,sz,(A++[x]).map f,lent⟩:=XQ f sz bytes A [x] lent hs0 hb hl _ (.inl rfl)
def Oe(o:Option Obj)(tot off len:Nat):Option (Nat×List D):=o.bind fun o=>if o.row && o.els.length == tot && decide (off+len≤tot)then some (o.sz,(o.els.drop off).take len)else none
theorem jV(st:St)(key tot off len:Nat):Gy st key tot off len=Oe st[key]? tot off len:=by
 unfold Gy Oe; cases st[key]? <;> rfl
theorem fj(f:α→D)(sz:Nat)(A:List α)(lent:Bool):Oe (some ⟨true,sz,A.map f,lent⟩) A.length 0 A.length=some (sz,A.map f):=by
 simp[Oe];rw[AI (by simp)]
theorem Ybb(f:α→D)(sz:Nat)(A:List α)(lent:Bool)(off len:Nat)(h:off+len≤A.length):Oe (some ⟨true,sz,A.map f,lent⟩) A.length off len=some (sz,((A.drop off).take len).map f):=by
 simp[Oe,h,Ci,B0]
def M3(o:Option Obj)(tot:Nat):Bool:=match o with
 |some o=>o.row && o.els.length == tot
 |none=>false
theorem Yi0(st:St)(key tot:Nat):Eu st key tot=M3 st[key]? tot:=(rfl)
theorem Yi1(f:α→D)(sz:Nat)(A:List α)(lent:Bool):M3 (some ⟨true,sz,A.map f,lent⟩) A.length=true:=by simp[M3]
def KF(o:Option Obj)(sz key tot off len:Nat)(j:Int):Option D:=if 0≤j then o.bind fun o=>if o.row && o.sz == sz && o.els.length == tot && decide (j.toNat<len)then some (.rptr key tot (off+j.toNat) 0)else none else none
theorem gU(st:St)(sz key tot off len:Nat)(k:IntKind)(j:Int):Fy st sz (.row key tot off len) (.int k j)=KF st[key]? sz key tot off len j:=by
 simp only[Fy,KF,Fj];grind
theorem fg(f:α→D)(sz:Nat)(A:List α)(lent:Bool)(key off len:Nat)(j:Int)(u:0≤j)(E:j<(len:Int)):KF (some ⟨true,sz,A.map f,lent⟩) sz key A.length off len j=some (.rptr key A.length (off+j.toNat) 0):=by
 have:j.toNat<len:=by omega
 simp[KF,u,this]
def QG(o:Option Obj)(n:Nat)(ag:Bool)(tot i off:Nat):Option D:=if !ag && n != 1 then none else o.bind fun o=>if o.row && o.els.length == tot then(o.els[i]?).bind fun el=>if off+n≤el.cells.length then some (.mk ag ((el.cells.drop off).take n))else none else none
theorem bJ(st:St)(n:Nat)(ag:Bool)(key tot i off:Nat):EU st n ag (.rptr key tot i off)=QG st[key]? n ag tot i off:=wv st n ag key tot i off
theorem Ycf[Inhabited α](f:α→D)(u:∀ a,(f a).isCell=true)(sz:Nat)(A:List α)(lent:Bool)(i:Nat)(h:i<A.length):QG (some ⟨true,sz,A.map f,lent⟩) 1 false A.length i 0=some (f (A.getD i default)):=by
 have:(f A[i]).cells=[f A[i]]:=ML (u _);simp[QG,h,this,D.mk,Aj]
theorem Yad(f:α→D)(st:St)(sz u:Nat)(A:List α)(t:Bool)(k k':IntKind)(l h:Int)(I:(u=sz∨A.map f=[])∧sz≠0)(E:0≤l)(J:l≤h)(M:h≤(A.length:Int)) :
  FX st sz (.slc u (A.map f) t) (some (.int k l)) (some (.int k' h)) none=some (.slc u (((A.take h.toNat).drop l.toNat).map f) (t && h.toNat == A.length)):=by
 have e:((u == sz || (A.map f).isEmpty) && sz != 0)=true:=by
  grind
 have N:l.toNat≤h.toNat∧h.toNat≤A.length:=by omega
 simp only[FX,e,if_true,FJ,K2 k l E,K2 k' h (by omega)];simp_all
def L9(o:Option Obj)(sz:Nat)(x:D)(key tot off len l h:Nat):Option D:=o.bind fun o=>if o.row && o.sz == sz && o.els.length == tot && sz != 0 then(if l≤h∧h≤len then(if l=0∧h=len then some x else if l=h then some (.slc sz [] false)else some (.row key tot (off+l) (h - l)))else none)else none
theorem wx(st:St)(sz key tot off len:Nat)(lo hi:Option D):FX st sz (.row key tot off len) lo hi none=(FJ lo 0).bind fun l=>(FJ hi len).bind fun h=>L9 st[key]? sz (.row key tot off len) key tot off len l h:=by
 simp only[FX,L9]
 cases st[key]? with
 |none=>cases FJ lo 0 <;> cases FJ hi len <;> rfl
 |some o=>
  simp only[Bl]
  split
  ·cases FJ lo 0 <;> cases FJ hi len <;> rfl
  ·simp_all
theorem ft(f:α→D)(sz:Nat)(A:List α)(lent:Bool)(x:D)(key off len l h:Nat)(u:sz≠0)(E:l≤h)(I:h≤len):L9 (some ⟨true,sz,A.map f,lent⟩) sz x key A.length off len l h=(if l=0∧h=len then some x else if l=h then some (.slc sz [] false)else some (.row key A.length (off+l) (h - l))):=by
 simp[L9,u,E,I]
theorem Yeo(d:Nat):FJ none d=some d:=(rfl)
theorem Yls(k:IntKind)(n:Int)(d:Nat)(h:0≤n):FJ (some (.int k n)) d=some n.toNat:=by simp[FJ,Fj,h]
theorem ZU(A B:List UInt8)(lent:Bool)(hl:A.length+B.length≤4294967296):Na (some ⟨true,1,A.map Da,lent⟩) 1 1 A.length (some (1,B.map Da))=some ⟨true,1,(A++B).map Da,lent⟩:=XQ Da 1 1 A B lent (by decide) (by omega) hl 1 (.inl rfl)
def Q6(o:Option Obj):Option (Nat×List D):=o.bind fun o=>if !o.row && decide (32≤o.els.length) && (Hy 1 false o.els 32).all purA then some (1,Hy 1 false o.els 32)else none
theorem bt(st:St)(key:Nat):Gc st (.bsl key 0 32 1 false)=Q6 st[key]?:=by
 simp only[Gc,JI,Q6];grind
theorem Yk0(sz:Nat)(d:Dig)(lent:Bool):Q6 (some ⟨false,sz,C6 d,lent⟩)=some (1,d.bs.map Da):=by
 have u:Hy 1 false (C6 d) 32=C6 d:=by
  have:=bl (C6 d);rwa [Fh]at this
 have E:(C6 d).all purA=true:=I4 (fun _=>rfl) d;simp only[Q6,Bl,Fh,u,E];rfl
attribute [push_cast] bt Yk0 ZU
attribute [push_cast] List.drop_zero List.take_length
attribute [push_cast] Wo zh ez jV fj Ybb Ycd Yi0 Yi1 gU fg bJ wx Yeo Yls
attribute [push_cast] Yqa Yh6 fF Yhb fG Yha fC Yg9 s8 s9 ta Yig Yif Yie XW Ypy Xl Yi3 Yi2 Ypa
end Go.Proofs.YtijnglngaogdjaaGreatDoor.PI
