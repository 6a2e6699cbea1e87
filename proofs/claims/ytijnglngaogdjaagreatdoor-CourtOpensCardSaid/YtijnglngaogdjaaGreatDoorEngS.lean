/-
  The rewriting rules by which pure code is carried out.
  Conditions: none; these are lemmas.
-/
import Derived.Test.YtijnglngaogdjaaGreatDoorEngR
import Derived.ChangeArms
import Derived.Lib.LaidTab
import Derived.ChangeSame
set_option linter.unusedVariables false
set_option linter.unusedSimpArgs false
namespace Go.Proofs.YtijnglngaogdjaaGreatDoor.PI
open Go Go.RowKit
inductive Ty where
 |bool
 |int (k:IntKind)
 |str
 |slc (e:Ty)
 |agg (fs:List Ty)
 /-- a slice whose elements' type is told of in another way -/
 |opq (Q:D→Prop)
 deriving Inhabited
mutual
def Ty.size:Ty→Nat
 |.agg fs=>Ty.sizes fs
 |_=>1
def Ty.sizes:List Ty→Nat
 |[]=>0
 |f::r=>f.size+Ty.sizes r
end
inductive Has:Ty→D→Prop
 |bool (b:Bool):Has .bool (.bool b)
 |int (k:IntKind) (n:Int):(Lit.int k n).wf=true→Has (.int k) (.int k n)
 |str (s:List UInt8):s.length≤maxLen→Has .str (.str s)
 |slc (e:Ty) (els:List D):(∀ (i:Nat) x,els[i]?=some x→Has e x)→els.length≤maxLen→Has (.slc e) (.slc (nz e.size els) els false)
 |opq (Q:D→Prop) (sz:Nat) (els:List D):Q (.slc (nz sz els) els false)→Has (.opq Q) (.slc (nz sz els) els false)
 |agg (fs:List Ty) (xs:List D):fs.length=xs.length→(∀ (i:Nat) f x,fs[i]?=some f→xs[i]?=some x→Has f x)→Has (.agg fs) (.agg (xs.flatMap D.cells))
def yO3(P:Program):Nat→List Field→List Ty→Bool
 |_,[],[]=>true
 |o,f::fs,t::ts=>f.offset == o && P.cellsOf f.type == t.size && yO3 P (o+t.size) fs ts
 |_,_,_=>false
def yQ5(tf:TypeId→Option Ty):List Field→Option (List Ty)
 |[]=>some []
 |f::fs=>match tf f.type,yQ5 tf fs with
  |some t,some ts=>some (t::ts)
  |_,_=>none
inductive TyD (P:Program):TypeId→D→Prop
 |bool (t:TypeId) (b:Bool):P.underlying t=some .bool→TyD P t (.bool b)
 |int (t:TypeId) (k:IntKind) (n:Int):P.underlying t=some (.int k)→(Lit.int k n).wf=true→TyD P t (.int k n)
 |str (t:TypeId) (s:List UInt8):P.underlying t=some .string→s.length≤maxLen→TyD P t (.str s)
 |slc (t e:TypeId) (els:List D):P.underlying t=some (.slice e)→(∀ x∈els,TyD P e x)→els.length≤maxLen→TyD P t (.slc (nz (P.cellsOf e) els) els false)
 |agg (t:TypeId) (fs:Array Field) (xs:List D):P.underlying t=some (.struct fs)→fs.toList.length=xs.length→(∀ (i:Nat) f x,fs.toList[i]?=some f→xs[i]?=some x→TyD P f.type x)→TyD P t (.agg (xs.flatMap D.cells))
 |arr (t:TypeId) (m:Nat) (e:TypeId) (xs:List D):P.underlying t=some (.array m e)→xs.length=m→(∀ x∈xs,TyD P e x)→TyD P t (.agg (xs.flatMap D.cells))
def yXp(P:Program):Nat→Nat→List Field→Bool
 |o,n,[]=>o == n
 |o,n,f::fs=>f.offset == o && yXp P (o+P.cellsOf f.type) n fs
def yrb(P:Program)(S:List TypeId)(t:TypeId):Bool:=match P.underlying t with
 |some .bool | some (.int _) | some .string=>P.cellsOf t == 1
 |some (.slice e)=>S.contains e && decide (0<P.cellsOf e) && P.cellsOf t == 1
 |some (.struct fs)=>fs.toList.all (fun f=>S.contains f.type) && yXp P 0 (P.cellsOf t) fs.toList
 |some (.array m e)=>S.contains e && P.cellsOf t == m*P.cellsOf e
 |_=>false
def closed(P:Program)(S:List TypeId):Bool:=S.all (yrb P S)
def Yvw(P:Program)(t:TypeId):List TypeId:=match P.underlying t with
 |some (.slice e) | some (.array _ e)=>[e]
 |some (.struct fs)=>fs.toList.map (·.type)
 |_=>[]
def clos(P:Program):Nat→List TypeId→List TypeId
 |0,S=>S
 |n+1,S=>clos P n ((S++S.flatMap (Yvw P)).eraseDups)
def tyOf(P:Program):Nat→TypeId→Option Ty
 |0,_=>none
 |n+1,t=>match P.underlying t with
  |some .bool=>some .bool
  |some (.int k)=>some (.int k)
  |some .string=>some .str
  |some (.slice e)=>match tyOf P n e with
   |some x=>if P.cellsOf e == x.size && decide (0<x.size)then some (.slc x)else none
   |none=>if closed P (clos P 6 [t]) && (clos P 6 [t]).contains t then some (.opq (TyD P t))else none
  |some (.struct fs)=>match yQ5 (tyOf P n) fs.toList with
   |some ts=>if yO3 P 0 fs.toList ts && P.cellsOf t == Ty.sizes ts then some (.agg ts)else none
   |none=>none
  |some (.array m e)=>match tyOf P n e with
   |some x=>if P.cellsOf e == x.size && P.cellsOf t == m*x.size then some (.agg (List.replicate m x))else none
   |none=>none
  |_=>none
def allIm(w:World):Nat→Nat→Prop:=fun b o=>(w.cell? ⟨b,o,none⟩).isSome=true
def yja(w:World):Ghost:={β:=id,γ:=id,Im:=allIm w}
section
variable {H:Type} {enc:TypeId×Value→H} {P:Program} {w:World}
def RepL(w:World)(xs:List D)(cs:List Value):Prop:=xs.length=cs.length∧(∀ (j:Nat) y v,xs[j]?=some y→cs[j]?=some v→RepV w (yja w) [] y v)∧∀ y∈xs,y.pure1=true
theorem RepL.nil:RepL w [] []:=⟨rfl,fun j y v h=>by simp at h,fun y h=>by cases h⟩
theorem RepL.append{xs ys:List D}{cs ds:List Value}(h:RepL w xs cs)(h':RepL w ys ds):RepL w (xs++ys) (cs++ds):=by
 refine⟨by simp[h.1,h'.1],fun j y v hy hv=>?_,fun y hy=>?_⟩
 ·rcases Nat.lt_or_ge j xs.length with hj | hj
  ·rw[List.getElem?_append_left hj]at hy
   rw[List.getElem?_append_left (by rw[← h.1]; exact hj)]at hv
   exact h.2.1 j y v hy hv
  ·rw[List.getElem?_append_right hj]at hy
   rw[List.getElem?_append_right (by rw[← h.1]; exact hj),← h.1]at hv
   exact h'.2.1 _ y v hy hv
 ·rcases List.mem_append.1 hy with hy | hy
  ·exact h.2.2 y hy
  ·exact h'.2.2 y hy
theorem RepL.one{x:D}{v:Value}(h:RepV w (yja w) [] x v)(hp:x.pure1=true):RepL w x.cells [v]:=by
 rw[yns hp]
 refine⟨rfl,fun j y u hy hu=>?_,fun y hy=>?_⟩
 ·cases j with
  |zero=>simp at hy hu; subst hy; subst hu; exact h
  |succ j=>simp at hy
 ·simp at hy; subst hy; exact hp
theorem Yi3{s:ByteArray}:RepV w (yja w) [] (.str s.data.toList) (.string s):=yK4 s _ rfl
mutual
def wt:D→Nat
 |.slc _ els _=>wts els+1
 |.agg l=>wts l
 |.str s=>s.length+1
 |.int _ _=>1
 |.bool _=>1
 |_=>0
def wts:List D→Nat
 |[]=>0
 |d::l=>wt d+wts l
end
mutual
def blk{H:Type}:DataW H→Nat
 |.lit (.string s)=>s.length+1
 |.lit _=>1
 |.nil=>1
 |.slice e _=>blks e+1
 |.agg p=>blks p
 |_=>0
def blks{H:Type}:List (DataW H)→Nat
 |[]=>0
 |d::l=>blk d+blks l
end
theorem ymb:∀ (a b:List D),wts (a++b)=wts a+wts b
 |[],b=>by simp[wts]
 |x::a,b=>by rw[List.cons_append,wts,wts,ymb a b]; omega
theorem yta(d:D):wts d.cells=wt d:=by
 cases d <;> simp[D.cells,wts,wt]
theorem yUs:∀ (a:List D) (b:List (DataW H)),a.length=b.length→(∀ (i:Nat) x y,a[i]?=some x→b[i]?=some y→wt x≤blk y)→wts a≤blks b
 |[],b,_,_=>by simp[wts]
 |x::a,[],h,_=>by simp at h
 |x::a,y::b,h,hle=>by
  have h1:=hle 0 x y rfl rfl
  have h2:=yUs a b (by simpa using h) (fun i x y hx hy=>hle (i+1) x y (by simpa using hx) (by simpa using hy))
  simp only[wts,blks]
  omega
def Yqr(enc:TypeId×Value→H)(P:Program)(w:World)(sp:Nat→Bool)(t:TypeId)(ty:Ty):Prop:=
 ∀ (fuel:Nat) (cs:List Value) (x:DataW H×List MemPlace),DataW.trod enc P w 0 sp true fuel t cs=some x→∃ d,Has ty d∧RepL w d.cells cs∧cs.length=ty.size∧((∃ fs,ty=.agg fs)∨d.pure1=true)∧wt d≤blk x.1
theorem yw0{sp:Nat→Bool}{tf:TypeId→Option Ty}(htf:∀ t ty,tf t=some ty→Yqr enc P w sp t ty)(fuel:Nat)(cs:List Value):∀ (fs:List Field) (ts:List Ty) (o:Nat) (ys:List (DataW H×List MemPlace)),
  yQ5 tf fs=some ts→yO3 P o fs ts=true→fs.mapM (fun f=>DataW.trod enc P w 0 sp true fuel f.type ((cs.drop f.offset).take (P.cellsOf f.type)))=some ys→
  ∃ xs:List D,ts.length=xs.length∧(∀ (i:Nat) f x,ts[i]?=some f→xs[i]?=some x→Has f x)∧RepL w (xs.flatMap D.cells) ((cs.drop o).take (Ty.sizes ts))∧(o≤cs.length→o+Ty.sizes ts≤cs.length)∧wts (xs.flatMap D.cells)≤blks (ys.map (·.1))
 |[],ts,o,ys,h1,h2,h3=>by
  simp[yQ5]at h1; subst h1
  exact⟨[],rfl,fun i f x h=>by simp at h,by simpa[Ty.sizes]using RepL.nil,fun h=>by simpa[Ty.sizes]using h,by simp[wts]⟩
 |f::fs,ts,o,ys,h1,h2,h3=>by
  unfold yQ5 at h1
  split at h1
  case h_2=>cases h1
  rename_i t ts' ht hts
  simp only[Ywh]at h1; subst h1
  simp only[yO3,Bool.and_eq_true,beq_iff_eq]at h2
  obtain⟨⟨e1,e2⟩,e3⟩:=h2
  simp only[List.mapM_cons,Option.bind_eq_bind,Option.bind_eq_some_iff,Option.pure_def,Ywh]at h3
  obtain⟨y,hy,ys',hys,rfl⟩:=h3
  rw[e1,e2]at hy
  obtain⟨d,d1,d2,d3,_,d5⟩:=htf _ _ ht fuel _ _ hy
  obtain⟨xs,x1,x2,x3,x4,x5⟩:=yw0 htf fuel cs fs ts' (o+t.size) ys' hts e3 hys
  have hlen:o+t.size≤cs.length∨t.size=0:=by
   simp only[List.length_take,List.length_drop]at d3
   omega
  refine⟨d::xs,by simp[x1],?_,?_,?_,?_⟩
  ·intro i f' x hf hx
   cases i with
   |zero=>simp at hf hx; subst hf; subst hx; exact d1
   |succ i=>simp at hf hx; exact x2 i f' x hf hx
  ·have:=d2.append x3
   simp only[List.flatMap_cons,Ty.sizes]
   rw[List.take_add,List.drop_drop]
   exact this
  ·intro ho
   simp only[Ty.sizes]
   have:=x4 (by omega)
   omega
  ·simp only[List.flatMap_cons,ymb,yta,List.map_cons,blks]
   omega
theorem yz3{sp:Nat→Bool}{e:TypeId}{x:Ty}(hr:Yqr enc P w sp e x)(hc:P.cellsOf e=x.size)(fuel:Nat)(cs:List Value):∀ (n k:Nat) (ys:List (DataW H×List MemPlace)),
  (List.range' k n).mapM (fun i=>DataW.trod enc P w 0 sp true fuel e ((cs.drop (i*P.cellsOf e)).take (P.cellsOf e)))=some ys→
  ∃ xs:List D,xs.length=n∧(∀ (i:Nat) y,xs[i]?=some y→Has x y)∧RepL w (xs.flatMap D.cells) ((cs.drop (k*x.size)).take (n*x.size))∧wts (xs.flatMap D.cells)≤blks (ys.map (·.1))
 |0,k,ys,h=>⟨[],rfl,fun i y h=>by simp at h,by simpa using RepL.nil,by simp[wts]⟩
 |n+1,k,ys,h=>by
  simp only[List.range'_succ,List.mapM_cons,Option.bind_eq_bind,Option.bind_eq_some_iff,Option.pure_def,Ywh]at h
  obtain⟨y,hy,ys',hys,rfl⟩:=h
  rw[hc]at hy
  obtain⟨d,d1,d2,d3,_,d5⟩:=hr fuel _ _ hy
  obtain⟨xs,x1,x2,x3,x5⟩:=yz3 hr hc fuel cs n (k+1) ys' hys
  refine⟨d::xs,by simp[x1],?_,?_,?_⟩
  ·intro i y hy
   cases i with
   |zero=>simp at hy; subst hy; exact d1
   |succ i=>simp at hy; exact x2 i y hy
  ·have:=d2.append x3
   simp only[List.flatMap_cons]
   rw[Nat.add_mul,Nat.one_mul,Nat.add_comm (n*x.size),List.take_add,List.drop_drop]
   rw[Nat.add_mul,Nat.one_mul]at this
   exact this
  ·simp only[List.flatMap_cons,ymb,yta,List.map_cons,blks]
   omega
theorem Ty.sizes_replicate(x:Ty):∀ m,Ty.sizes (List.replicate m x)=m*x.size
 |0=>by simp[Ty.sizes]
 |m+1=>by rw[List.replicate_succ,Ty.sizes,Ty.sizes_replicate x m,Nat.add_mul,Nat.one_mul,Nat.add_comm]
theorem cells?_get{base:Nat}{a:Addr}{n:Nat}{cs:List Value}(h:w.cells? base a n=some cs):cs.length=n∧∀ (j:Nat) v,cs[j]?=some v→w.cell? (a.add j)=some v:=by
 unfold World.cells? at h
 split at h
 ·have hl:cs.length=n:=by simpa using Lib.mapM_length h
  refine⟨hl,fun j v hv=>?_⟩
  have hj:j<n:=by rw[← hl]; exact(List.getElem?_eq_some_iff.1 hv).1
  obtain⟨b,hb,hf⟩:=Lib.mapM_at h j j (by simp[hj])
  rw[hv]at hb
  rw[hf,Option.some.inj hb]
 ·cases h
def Ycm(enc:TypeId×Value→H)(P:Program)(w:World)(sp:Nat→Bool)(fuel:Nat)(t:TypeId):Prop:=
 ∀ (cs:List Value) (x:DataW H×List MemPlace),DataW.trod enc P w 0 sp true fuel t cs=some x→∃ d,TyD P t d∧RepL w d.cells cs∧cs.length=P.cellsOf t∧((∃ l,d=.agg l)∨d.pure1=true)∧wt d≤blk x.1
theorem yuv{sp:Nat→Bool}{fuel:Nat}(cs:List Value)(n:Nat):∀ (fs:List Field) (o:Nat) (ys:List (DataW H×List MemPlace)),(∀ f∈fs,Ycm enc P w sp fuel f.type)→yXp P o n fs=true→
  fs.mapM (fun f=>DataW.trod enc P w 0 sp true fuel f.type ((cs.drop f.offset).take (P.cellsOf f.type)))=some ys→
  ∃ xs:List D,fs.length=xs.length∧(∀ (i:Nat) f x,fs[i]?=some f→xs[i]?=some x→TyD P f.type x)∧RepL w (xs.flatMap D.cells) ((cs.drop o).take (n - o))∧o≤n∧wts (xs.flatMap D.cells)≤blks (ys.map (·.1))
 |[],o,ys,_,h2,h3=>by
  simp only[yXp,beq_iff_eq]at h2
  subst h2
  exact⟨[],rfl,fun i f x h=>by simp at h,by simpa using RepL.nil,Nat.le_refl _,by simp[wts]⟩
 |f::fs,o,ys,htf,h2,h3=>by
  simp only[yXp,Bool.and_eq_true,beq_iff_eq]at h2
  obtain⟨e1,e3⟩:=h2
  simp only[List.mapM_cons,Option.bind_eq_bind,Option.bind_eq_some_iff,Option.pure_def,Ywh]at h3
  obtain⟨y,hy,ys',hys,rfl⟩:=h3
  rw[e1]at hy
  obtain⟨d,d1,d2,d3,_,d5⟩:=htf f (by simp) _ _ hy
  obtain⟨xs,x1,x2,x3,x4,x5⟩:=yuv cs n fs (o+P.cellsOf f.type) ys' (fun g hg=>htf g (by simp[hg])) e3 hys
  refine⟨d::xs,by simp[x1],?_,?_,by omega,?_⟩
  ·intro i f' x hf hx
   cases i with
   |zero=>simp at hf hx; subst hf; subst hx; exact d1
   |succ i=>simp at hf hx; exact x2 i f' x hf hx
  ·have:=d2.append x3
   simp only[List.flatMap_cons]
   rw[show n - o=P.cellsOf f.type+(n - (o+P.cellsOf f.type)) by omega,List.take_add,List.drop_drop]
   exact this
  ·simp only[List.flatMap_cons,ymb,yta,List.map_cons,blks]
   omega
theorem ywu{sp:Nat→Bool}{fuel:Nat}{e:TypeId}(hr:Ycm enc P w sp fuel e)(cs:List Value):∀ (n k:Nat) (ys:List (DataW H×List MemPlace)),
  (List.range' k n).mapM (fun i=>DataW.trod enc P w 0 sp true fuel e ((cs.drop (i*P.cellsOf e)).take (P.cellsOf e)))=some ys→
  ∃ xs:List D,xs.length=n∧(∀ y∈xs,TyD P e y)∧RepL w (xs.flatMap D.cells) ((cs.drop (k*P.cellsOf e)).take (n*P.cellsOf e))∧wts (xs.flatMap D.cells)≤blks (ys.map (·.1))
 |0,k,ys,h=>⟨[],rfl,(fun y h=>by cases h),by simpa using RepL.nil,by simp[wts]⟩
 |n+1,k,ys,h=>by
  simp only[List.range'_succ,List.mapM_cons,Option.bind_eq_bind,Option.bind_eq_some_iff,Option.pure_def,Ywh]at h
  obtain⟨y,hy,ys',hys,rfl⟩:=h
  obtain⟨d,d1,d2,d3,_,d5⟩:=hr _ _ hy
  obtain⟨xs,x1,x2,x3,x5⟩:=ywu hr cs n (k+1) ys' hys
  refine⟨d::xs,by simp[x1],?_,?_,?_⟩
  ·intro y hy
   rcases List.mem_cons.1 hy with rfl | hy
   ·exact d1
   ·exact x2 y hy
  ·have:=d2.append x3
   simp only[List.flatMap_cons]
   rw[Nat.add_mul,Nat.one_mul,Nat.add_comm (n*P.cellsOf e),List.take_add,List.drop_drop]
   rw[Nat.add_mul,Nat.one_mul]at this
   exact this
  ·simp only[List.flatMap_cons,ymb,yta,List.map_cons,blks]
   omega
theorem yLi{Q:D→Prop}{sz:Nat}{a:Addr}{len cap:Nat}{bs:Nat→Nat}(hpos:0<sz)(hlc:len≤cap)
  (hall:∀ i,i<len→∃ d,Q d∧d.cells.length=sz∧(∀ (j:Nat) y,d.cells[j]?=some y→y.pure1=true∧∃ v,w.cell? ((a.add (i*sz)).add j)=some v∧RepV w (yja w) [] y v)∧wt d≤bs i) :
  ∃ els:List D,els.length=len∧(∀ x∈els,Q x)∧RepL w (D.slc (nz sz els) els false).cells [.slice (some a) len cap]∧∀ (i:Nat) x,els[i]?=some x→wt x≤bs i:=by
 let f:Nat→D:=fun i=>if hi:i<len then(hall i hi).choose else .junk
 have hf:∀ i (hi:i<len),f i=(hall i hi).choose:=fun i hi=>by simp[f,hi]
 have hget:∀ (i:Nat) x,((List.range len).map f)[i]?=some x→∃ hi:i<len,x=(hall i hi).choose:=by
  intro i x hx
  simp only[List.getElem?_map,Ywi]at hx
  obtain⟨i',h1,rfl⟩:=hx
  rw[List.getElem?_eq_some_iff]at h1
  obtain⟨h2,h3⟩:=h1
  simp at h2 h3
  subst h3
  exact⟨h2,hf i h2⟩
 refine⟨(List.range len).map f,by simp,fun x hx=>?_,?_,fun i x hx=>?_⟩
 ·obtain⟨i,hi⟩:=List.getElem?_of_mem hx
  obtain⟨hi',rfl⟩:=hget i x hi
  exact(hall i hi').choose_spec.1
 ·refine RepL.one (RepV.nz (t:=false) ?_) rfl
  rcases Nat.eq_zero_or_pos len with h0 | h0
  ·subst h0
   exact .slcE _ false (some a) cap (fun h=>by cases h)
  ·have hsp:a.spot=none:=by
    obtain⟨d1,d2,d3,_⟩:=(hall 0 h0).choose_spec
    obtain⟨_,v,h1,_⟩:=d3 0 _ (List.getElem?_eq_getElem (by rw[d2]; exact hpos))
    rw[Nat.zero_mul]at h1
    have h2:(a.add 0).add 0=a:=by simp[Addr.add]
    rw[h2]at h1
    unfold World.cell? at h1
    split at h1
    ·split at h1
     ·cases h1
     ·rename_i hs; simpa using hs
    ·cases h1
   obtain⟨b,off,spot⟩:=a
   simp only at hsp
   subst hsp
   have hl:len=((List.range len).map f).length:=by simp
   conv=>rhs; rw[hl]
   refine RepV.slc_mk hpos ?_ (by simpa using hlc) (fun h=>by cases h) ?_
   ·intro e' he'
    obtain⟨i,hi⟩:=List.getElem?_of_mem he'
    obtain⟨hi',rfl⟩:=hget i e' hi
    exact(hall i hi').choose_spec.2.1
   ·intro i j d hd
    obtain⟨e',he,hj⟩:=yap hd
    obtain⟨hi',rfl⟩:=hget i e' he
    obtain⟨hp,v,hv,hr⟩:=(hall i hi').choose_spec.2.2.1 j d hj
    rw[yg9,yg9]at hv
    refine⟨hp,?_,v,hv,hr⟩
    show(w.cell? ⟨b,off+i*sz+j,none⟩).isSome=true
    rw[hv]; rfl
 ·obtain⟨hi',rfl⟩:=hget i x hx
  exact(hall i hi').choose_spec.2.2.2
theorem yC7{sp:Nat→Bool}{S:List TypeId}(hS:closed P S=true):∀ (fuel:Nat) (t:TypeId),t∈S→Ycm enc P w sp fuel t
 |0,t,_=>by intro cs x hx; simp[DataW.trod]at hx
 |fuel+1,t,ht=>by
  have ih:=fun t ht=>yC7 (sp:=sp) hS fuel t ht
  have hc:yrb P S t=true:=List.all_eq_true.1 hS t ht
  unfold yrb at hc
  intro cs x hx
  split at hc
  ·rename_i hu
   simp only[beq_iff_eq]at hc
   unfold DataW.trod at hx
   rw[hu]at hx
   split at hx <;> simp_all
   exact⟨_,.bool t _ hu,RepL.one (.bool _) rfl,.inr rfl,by rw[← hx]; simp[wt,blk]⟩
  ·rename_i k hu
   simp only[beq_iff_eq]at hc
   unfold DataW.trod at hx
   rw[hu]at hx
   split at hx <;> simp_all
   rename_i k' m
   obtain⟨⟨rfl,hw⟩,hx2⟩:=hx
   exact⟨_,.int t _ _ hu hw,RepL.one (.int _ _) rfl,.inr rfl,by rw[← hx2]; simp[wt,blk]⟩
  ·rename_i hu
   simp only[beq_iff_eq]at hc
   unfold DataW.trod at hx
   rw[hu]at hx
   split at hx <;> simp_all
   rename_i s
   exact⟨_,.str t s.data.toList hu (by simpa using hx.1),RepL.one Yi3 rfl,.inr rfl,by rw[← hx.2]; simp[wt,blk]⟩
  ·rename_i e hu
   simp only[Bool.and_eq_true,List.contains_iff_mem,decide_eq_true_eq,beq_iff_eq]at hc
   obtain⟨⟨hin,hpos⟩,hone⟩:=hc
   rcases DataW.trod_slice hu hx with⟨rfl,hx2⟩ | ⟨a,len,cap,elems,rest,m,hm,rfl,hx2,_,hlc,hcm,hlen,hel,_,_⟩
   ·refine⟨.slc (nz (P.cellsOf e) []) [] false,.slc t e [] hu (fun x h=>by cases h) (Nat.zero_le _),RepL.one (.slcE _ false none 0 (fun h=>by cases h)) rfl,hone.symm,.inr rfl,by rw[hx2]; simp[wt,wts,blk]⟩
   ·obtain rfl:m=fuel:=by omega
    have hall:∀ i,i<len→∃ d,TyD P e d∧d.cells.length=P.cellsOf e∧(∀ (j:Nat) y,d.cells[j]?=some y→y.pure1=true∧∃ v,w.cell? ((a.add (i*P.cellsOf e)).add j)=some v∧RepV w (yja w) [] y v)∧wt d≤((elems[i]?).map fun y=>blk y.1).getD 0:=by
     intro i hi
     have h1:=hel i hi
     rw[List.getElem?_eq_getElem (by omega)]at h1 ⊢
     simp only[Option.bind_eq_some_iff]at h1
     obtain⟨cs',h2,h3⟩:=h1
     obtain⟨d,d1,d2,d3,_,d5⟩:=ih e hin cs' _ h3
     obtain⟨h4,h5⟩:=cells?_get h2
     refine⟨d,d1,by rw[d2.1,h4],fun j y hy=>⟨d2.2.2 y (List.mem_of_getElem? hy),?_⟩,by simpa using d5⟩
     have hj:j<cs'.length:=by rw[← d2.1]; exact(List.getElem?_eq_some_iff.1 hy).1
     exact⟨cs'[j],h5 j _ (List.getElem?_eq_getElem hj),d2.2.1 j y _ hy (List.getElem?_eq_getElem hj)⟩
    obtain⟨els,e1,e2,e3,e4⟩:=yLi hpos hlc hall
    refine⟨_,.slc t e els hu e2 (by omega),e3,hone.symm,.inr rfl,?_⟩
    rw[hx2]
    simp only[wt,blk]
    refine Nat.succ_le_succ (yUs _ _ (by simp; omega) ?_)
    intro i x y hx hy
    have h1:=e4 i x hx
    simp only[List.getElem?_map,Ywi]at hy
    obtain⟨z,hz,rfl⟩:=hy
    rw[hz]at h1
    simpa using h1
  ·rename_i fs hu
   simp only[Bool.and_eq_true,List.all_eq_true,List.contains_iff_mem]at hc
   obtain⟨hin,hoff⟩:=hc
   unfold DataW.trod at hx
   rw[hu]at hx
   simp only at hx
   split at hx
   case isFalse=>cases hx
   rename_i hl
   simp only[Ywi]at hx
   obtain⟨ys,hys,rfl⟩:=hx
   obtain⟨xs,x1,x2,x3,x4,x5⟩:=yuv cs (P.cellsOf t) fs.toList 0 ys (fun f hf=>ih f.type (hin f hf)) hoff hys
   refine⟨.agg (xs.flatMap D.cells),.agg t fs xs hu x1 x2,?_,hl,.inl ⟨_,rfl⟩,by simpa only[wt,blk]using x5⟩
   rw[List.drop_zero,Nat.sub_zero,List.take_of_length_le (by omega)]at x3
   exact x3
  ·rename_i m e hu
   simp only[Bool.and_eq_true,List.contains_iff_mem,beq_iff_eq]at hc
   obtain⟨hin,hsz⟩:=hc
   unfold DataW.trod at hx
   rw[hu]at hx
   simp only at hx
   split at hx
   case isFalse=>cases hx
   rename_i hl
   simp only[Ywi]at hx
   obtain⟨ys,hys,rfl⟩:=hx
   rw[List.range_eq_range']at hys
   obtain⟨xs,x1,x2,x3,x5⟩:=ywu (ih e hin) cs m 0 ys hys
   refine⟨.agg (xs.flatMap D.cells),.arr t m e xs hu x1 x2,?_,hl,.inl ⟨_,rfl⟩,by simpa only[wt,blk]using x5⟩
   rw[Nat.zero_mul,List.drop_zero,List.take_of_length_le (by omega)]at x3
   exact x3
  ·cases hc
theorem yN1{sp:Nat→Bool}:∀ (n:Nat) (t:TypeId) (ty:Ty),tyOf P n t=some ty→Yqr enc P w sp t ty
 |0,_,_,h=>by simp[tyOf]at h
 |n+1,t,ty,h=>by
  have ih:=yN1 (sp:=sp) n
  intro fuel cs x hx
  unfold tyOf at h
  cases fuel with
  |zero=>simp[DataW.trod]at hx
  |succ fuel=>
  split at h
  ·rename_i hu
   simp only[Ywh]at h; subst h
   unfold DataW.trod at hx
   rw[hu]at hx
   split at hx <;> simp_all
   exact⟨_,.bool _,RepL.one (.bool _) rfl,rfl,rfl,by rw[← hx]; simp[wt,blk]⟩
  ·rename_i k hu
   simp only[Ywh]at h; subst h
   unfold DataW.trod at hx
   rw[hu]at hx
   split at hx <;> simp_all
   rename_i k' m
   obtain⟨⟨rfl,hw⟩,hx2⟩:=hx
   exact⟨_,.int _ _ hw,RepL.one (.int _ _) rfl,rfl,rfl,by rw[← hx2]; simp[wt,blk]⟩
  ·rename_i hu
   simp only[Ywh]at h; subst h
   unfold DataW.trod at hx
   rw[hu]at hx
   split at hx <;> simp_all
   rename_i s
   exact⟨_,.str s.data.toList (by simpa using hx.1),RepL.one Yi3 rfl,rfl,rfl,by rw[← hx.2]; simp[wt,blk]⟩
  ·rename_i e hu
   split at h
   case h_2=>
    split at h
    case isFalse=>cases h
    rename_i hcl
    simp only[Bool.and_eq_true,List.contains_iff_mem]at hcl
    simp only[Ywh]at h; subst h
    obtain⟨d,d1,d2,d3,d4,d5⟩:=yC7 hcl.1 (fuel+1) t hcl.2 cs x hx
    have hone:P.cellsOf t=1:=by
     have:=List.all_eq_true.1 hcl.1 t hcl.2
     unfold yrb at this
     rw[hu]at this
     simp only[Bool.and_eq_true,beq_iff_eq]at this
     exact this.2
    rw[hone]at d3
    have:∃ sz els,d=.slc (nz sz els) els false:=by
     cases d1 with
     |slc _ e' els h1 h2 h3=>exact⟨_,_,rfl⟩
     |agg _ fs xs h1=>rw[hu]at h1; cases h1
     |arr _ m e' xs h1=>rw[hu]at h1; cases h1
     |bool _ b h1=>rw[hu]at h1; cases h1
     |int _ k n h1=>rw[hu]at h1; cases h1
     |str _ s h1=>rw[hu]at h1; cases h1
    obtain⟨sz,els,rfl⟩:=this
    exact⟨_,.opq _ sz els d1,d2,d3,.inr rfl,d5⟩
   rename_i ex hex
   split at h
   case isFalse=>cases h
   rename_i hc
   simp only[Bool.and_eq_true,beq_iff_eq,decide_eq_true_eq]at hc
   simp only[Ywh]at h; subst h
   rcases DataW.trod_slice hu hx with⟨rfl,hx2⟩ | ⟨a,len,cap,elems,rest,m,_,rfl,hx2,_,hlc,hcm,hlen,hel,_,_⟩
   ·exact⟨_,.slc ex [] (fun i x h=>by simp at h) (Nat.zero_le _),RepL.one (.slcE _ false none 0 (fun h=>by cases h)) rfl,rfl,.inr rfl,by rw[hx2]; simp[wt,wts,blk]⟩
   ·have hall:∀ i (hi:i<len),∃ d,Has ex d∧d.cells.length=ex.size∧(∀ (j:Nat) y,d.cells[j]?=some y→y.pure1=true∧∃ v,w.cell? ((a.add (i*ex.size)).add j)=some v∧RepV w (yja w) [] y v)∧wt d≤blk (elems[i]'(by omega)).1:=by
     intro i hi
     have h1:=hel i hi
     rw[hc.1,List.getElem?_eq_getElem (by omega)]at h1
     simp only[Option.bind_eq_some_iff]at h1
     obtain⟨cs',h2,h3⟩:=h1
     obtain⟨d,d1,d2,d3,_,d5⟩:=ih e ex hex m cs' _ h3
     obtain⟨h4,h5⟩:=cells?_get h2
     refine⟨d,d1,by rw[d2.1,h4],fun j y hy=>⟨d2.2.2 y (List.mem_of_getElem? hy),?_⟩,d5⟩
     have hj:j<cs'.length:=by rw[← d2.1]; exact(List.getElem?_eq_some_iff.1 hy).1
     exact⟨cs'[j],h5 j _ (List.getElem?_eq_getElem hj),d2.2.1 j y _ hy (List.getElem?_eq_getElem hj)⟩
    let f:Nat→D:=fun i=>if hi:i<len then(hall i hi).choose else .junk
    have hf:∀ i (hi:i<len),f i=(hall i hi).choose:=fun i hi=>by simp[f,hi]
    have hget:∀ (i:Nat) x,((List.range len).map f)[i]?=some x→∃ hi:i<len,x=(hall i hi).choose:=by
     intro i x hx
     simp only[List.getElem?_map,Ywi]at hx
     obtain⟨i',h1,rfl⟩:=hx
     rw[List.getElem?_eq_some_iff]at h1
     obtain⟨h2,h3⟩:=h1
     simp at h2 h3
     subst h3
     exact⟨h2,hf i h2⟩
    refine⟨.slc (nz ex.size ((List.range len).map f)) ((List.range len).map f) false,.slc ex _ (fun i x hx=>?_) (by simp; omega),?_,rfl,.inr rfl,?_⟩
    ·obtain⟨hi,rfl⟩:=hget i x hx
     exact(hall i hi).choose_spec.1
    ·refine RepL.one (RepV.nz (t:=false) ?_) rfl
     rcases Nat.eq_zero_or_pos len with h0 | h0
     ·subst h0
      exact .slcE _ false (some a) cap (fun h=>by cases h)
     ·have hsp:a.spot=none:=by
       obtain⟨d1,d2,d3,_⟩:=(hall 0 h0).choose_spec
       obtain⟨_,v,h1,_⟩:=d3 0 _ (List.getElem?_eq_getElem (by rw[d2]; exact hc.2))
       rw[Nat.zero_mul]at h1
       have h2:(a.add 0).add 0=a:=by simp[Addr.add]
       rw[h2]at h1
       unfold World.cell? at h1
       split at h1
       ·split at h1
        ·cases h1
        ·rename_i hs; simpa using hs
       ·cases h1
      obtain⟨b,off,spot⟩:=a
      simp only at hsp
      subst hsp
      have hl:len=((List.range len).map f).length:=by simp
      conv=>rhs; rw[hl]
      refine RepV.slc_mk hc.2 ?_ (by simpa using hlc) (fun h=>by cases h) ?_
      ·intro e' he'
       obtain⟨i,hi⟩:=List.getElem?_of_mem he'
       obtain⟨hi',rfl⟩:=hget i e' hi
       exact(hall i hi').choose_spec.2.1
      ·intro i j d hd
       obtain⟨e',he,hj⟩:=yap hd
       obtain⟨hi',rfl⟩:=hget i e' he
       obtain⟨hp,v,hv,hr⟩:=(hall i hi').choose_spec.2.2.1 j d hj
       rw[yg9,yg9]at hv
       refine⟨hp,?_,v,hv,hr⟩
       show(w.cell? ⟨b,off+i*ex.size+j,none⟩).isSome=true
       rw[hv]; rfl
    ·rw[hx2]
     simp only[wt,blk]
     refine Nat.succ_le_succ (yUs _ _ (by simp; omega) ?_)
     intro i x y hx hy
     obtain⟨hi,rfl⟩:=hget i x hx
     simp only[List.getElem?_map,Ywi]at hy
     obtain⟨z,hz,rfl⟩:=hy
     obtain⟨hz1,rfl⟩:=List.getElem?_eq_some_iff.1 hz
     exact(hall i hi).choose_spec.2.2.2
  ·rename_i fs hu
   split at h
   case h_2=>cases h
   rename_i ts hts
   split at h
   case isFalse=>cases h
   rename_i hc
   simp only[Bool.and_eq_true,beq_iff_eq]at hc
   simp only[Ywh]at h; subst h
   unfold DataW.trod at hx
   rw[hu]at hx
   simp only at hx
   split at hx
   case isFalse=>cases hx
   rename_i hl
   simp only[Ywi]at hx
   obtain⟨ys,hys,rfl⟩:=hx
   obtain⟨xs,x1,x2,x3,x4,x5⟩:=yw0 ih fuel cs fs.toList ts 0 ys hts hc.1 hys
   refine⟨.agg (xs.flatMap D.cells),.agg ts xs x1 x2,?_,by rw[hl,hc.2]; rfl,.inl ⟨ts,rfl⟩,by simpa only[wt,blk]using x5⟩
   rw[List.drop_zero,List.take_of_length_le (by omega)]at x3
   exact x3
  ·rename_i m e hu
   split at h
   case h_2=>cases h
   rename_i ex hex
   split at h
   case isFalse=>cases h
   rename_i hc
   simp only[Bool.and_eq_true,beq_iff_eq]at hc
   simp only[Ywh]at h; subst h
   unfold DataW.trod at hx
   rw[hu]at hx
   simp only at hx
   split at hx
   case isFalse=>cases hx
   rename_i hl
   simp only[Ywi]at hx
   obtain⟨ys,hys,rfl⟩:=hx
   rw[List.range_eq_range']at hys
   obtain⟨xs,x1,x2,x3,x5⟩:=yz3 (ih e ex hex) hc.1 fuel cs m 0 ys hys
   refine⟨.agg (xs.flatMap D.cells),.agg _ xs (by simp[x1]) ?_,?_,by rw[hl,hc.2]; exact(Ty.sizes_replicate ex m).symm,.inl ⟨_,rfl⟩,by simpa only[wt,blk]using x5⟩
   ·intro i f x hf hx
    rw[List.getElem?_replicate]at hf
    split at hf
    ·cases hf; exact x2 i x hx
    ·cases hf
   ·rw[Nat.zero_mul,List.drop_zero,List.take_of_length_le (by omega)]at x3
    exact x3
  ·cases h
end
end Go.Proofs.YtijnglngaogdjaaGreatDoor.PI
namespace Go.Proofs.YtijnglngaogdjaaGreatDoor.PI
open Go Go.RowKit Go.ChangeShapes
section
variable {H:Type} {enc:TypeId×Value→H} {P:Program} {W W':World}
theorem yf5{α β:Type}{f g:α→Option β}:∀ {l:List α} {r:List β},l.mapM f=some r→(∀ x y,x∈l→y∈r→f x=some y→g x=some y)→l.mapM g=some r
 |[],r,h,_=>by simpa using h
 |a::l,r,h,hg=>by
  simp only[List.mapM_cons,Option.bind_eq_bind,Option.bind_eq_some_iff,Option.pure_def,Ywh]at h ⊢
  obtain⟨b,hb,r',hr',rfl⟩:=h
  exact⟨b,hg a b (by simp) (by simp) hb,r',yf5 hr' (fun x y hx hy=>hg x y (by simp[hx]) (by simp[hy])),rfl⟩
theorem cell?_below(hb:Below W.heap.size W W'){a:Addr}{v:Value}(h:W.cell? a=some v):W'.cell? a=some v:=by
 have hlt:=World.block_lt_of_cell? W a h
 rw[← h]
 simp only[World.cell?,hb.block a.block hlt]
theorem cells?_below(hb:Below W.heap.size W W'){b:Nat}{a:Addr}{n:Nat}{cs:List Value}(h:W.cells? b a n=some cs):W'.cells? b a n=some cs:=by
 unfold World.cells? at h ⊢
 split at h
 ·rename_i h0
  rw[if_pos h0]
  exact yf5 h fun x y _ _ hx=>cell?_below hb hx
 ·cases h
theorem yC8(hb:Below W.heap.size W W'){S:List TypeId}(hS:closed P S=true):∀ (fuel:Nat) (t:TypeId),t∈S→∀ (cs:List Value) (x:DataW H×List MemPlace),DataW.trod enc P W 0 (fun _=>true) true fuel t cs=some x→
  ∀ sp':Nat→Bool,(∀ p∈x.2,sp' p.block=true)→DataW.trod enc P W' 0 sp' true fuel t cs=some x
 |0,t,_=>by intro cs x hx; simp[DataW.trod]at hx
 |fuel+1,t,ht=>by
  have ih:=yC8 hb hS fuel
  intro cs x hx sp' hsp
  have hc:yrb P S t=true:=List.all_eq_true.1 hS t ht
  unfold yrb at hc
  split at hc
  ·rename_i hu
   unfold DataW.trod at hx ⊢
   rw[hu]at hx ⊢
   split at hx <;> simp_all
  ·rename_i k hu
   unfold DataW.trod at hx ⊢
   rw[hu]at hx ⊢
   split at hx <;> simp_all
  ·rename_i hu
   unfold DataW.trod at hx ⊢
   rw[hu]at hx ⊢
   split at hx <;> simp_all
  ·rename_i e hu
   simp only[Bool.and_eq_true,List.contains_iff_mem,decide_eq_true_eq,beq_iff_eq]at hc
   obtain⟨⟨hin,hpos⟩,_⟩:=hc
   have hone:∀ (b:Addr) (y:DataW H×List MemPlace),(∀ p∈y.2,sp' p.block=true)→(W.cells? 0 b (P.cellsOf e)).bind (DataW.trod enc P W 0 (fun _=>true) true fuel e)=some y→(W'.cells? 0 b (P.cellsOf e)).bind (DataW.trod enc P W' 0 sp' true fuel e)=some y:=by
    intro b y hy h1
    simp only[Option.bind_eq_some_iff]at h1 ⊢
    obtain⟨cs',h2,h3⟩:=h1
    exact⟨cs',cells?_below hb h2,ih e hin cs' y h3 sp' hy⟩
   unfold DataW.trod at hx ⊢
   rw[hu]at hx ⊢
   split at hx
   all_goals try (first | (rename_i heq _; cases heq; done) | (rename_i heq; cases heq; done))
   all_goals try (simp_all; done)
   rename_i e' a len cap heq
   cases heq
   simp only[if_true]at hx ⊢
   split at hx
   case isFalse=>cases hx
   rename_i hbase
   rw[if_pos hbase]
   simp only[Option.bind_eq_some_iff,Ywi]at hx ⊢
   obtain⟨elems,h1,rest,h2,rfl⟩:=hx
   have hle:elems.length=len:=by simpa using Lib.mapM_length h1
   have hlr:rest.length=cap - len:=by simpa using Lib.mapM_length h2
   have hin:∀ y∈elems++rest,∀ p∈y.2,sp' p.block=true:=fun y hy p hp=>hsp p (by
    simp only[List.mem_append,List.mem_flatMap]
    refine .inr ⟨y,?_,hp⟩
    simpa using hy)
   refine⟨elems,yf5 h1 (fun i y _ hy hi=>hone _ y (hin y (by simp[hy])) hi),rest,?_,rfl⟩
   rcases Nat.eq_zero_or_pos cap with h0 | h0
   ·have:cap - len=0:=by omega
    have hr0:rest=[]:=List.eq_nil_of_length_eq_zero (by omega)
    rw[this,hr0]
    split <;> rfl
   ·have hblk:sp' a.block=true:=hsp (.cell a.block (a.off+0)) (by
     simp only[List.mem_append]
     left
     simp only[MemPlace.row,List.mem_map,List.mem_range]
     refine⟨0,?_,rfl⟩
     have:elems.length+rest.length=cap:=by omega
     rw[this]
     exact Nat.mul_pos h0 hpos)
    rw[if_pos hblk]
    exact yf5 h2 (fun i y _ hy hi=>hone _ y (hin y (by simp[hy])) hi)
  ·rename_i fs hu
   simp only[Bool.and_eq_true,List.all_eq_true,List.contains_iff_mem]at hc
   unfold DataW.trod at hx ⊢
   rw[hu]at hx ⊢
   simp only at hx ⊢
   split at hx
   case isFalse=>cases hx
   rename_i hl
   rw[if_pos hl]
   simp only[Ywi]at hx ⊢
   obtain⟨ys,hys,rfl⟩:=hx
   refine⟨ys,yf5 hys (fun f y hf hy hi=>?_),rfl⟩
   exact ih f.type (hc.1 f hf) _ y hi sp' fun p hp=>hsp p (by simp only[List.mem_flatMap]; exact⟨y,hy,hp⟩)
  ·rename_i m e hu
   simp only[Bool.and_eq_true,List.contains_iff_mem,beq_iff_eq]at hc
   unfold DataW.trod at hx ⊢
   rw[hu]at hx ⊢
   simp only at hx ⊢
   split at hx
   case isFalse=>cases hx
   rename_i hl
   rw[if_pos hl]
   simp only[Ywi]at hx ⊢
   obtain⟨ys,hys,rfl⟩:=hx
   refine⟨ys,yf5 hys (fun i y _ hy hi=>?_),rfl⟩
   exact ih e hc.1 _ y hi sp' fun p hp=>hsp p (by simp only[List.mem_flatMap]; exact⟨y,hy,hp⟩)
  ·cases hc
theorem yB0(hb:Below W.heap.size W W'):∀ (n:Nat) (t:TypeId) (ty:Ty),tyOf P n t=some ty→∀ (fuel:Nat) (cs:List Value) (x:DataW H×List MemPlace),DataW.trod enc P W 0 (fun _=>true) true fuel t cs=some x→
  ∀ sp':Nat→Bool,(∀ p∈x.2,sp' p.block=true)→DataW.trod enc P W' 0 sp' true fuel t cs=some x
 |0,_,_,h=>by simp[tyOf]at h
 |n+1,t,ty,h=>by
  have ih:=yB0 hb n
  intro fuel cs x hx sp' hsp
  unfold tyOf at h
  cases fuel with
  |zero=>simp[DataW.trod]at hx
  |succ fuel=>
  split at h
  ·rename_i hu
   unfold DataW.trod at hx ⊢
   rw[hu]at hx ⊢
   split at hx <;> simp_all
  ·rename_i k hu
   unfold DataW.trod at hx ⊢
   rw[hu]at hx ⊢
   split at hx <;> simp_all
  ·rename_i hu
   unfold DataW.trod at hx ⊢
   rw[hu]at hx ⊢
   split at hx <;> simp_all
  ·rename_i e hu
   split at h
   case h_2=>
    split at h
    case isFalse=>cases h
    rename_i hcl
    simp only[Bool.and_eq_true,List.contains_iff_mem]at hcl
    exact yC8 hb hcl.1 (fuel+1) t hcl.2 cs x hx sp' hsp
   rename_i ex hex
   split at h
   case isFalse=>cases h
   rename_i hc
   simp only[Bool.and_eq_true,beq_iff_eq,decide_eq_true_eq]at hc
   have hpos:0<P.cellsOf e:=by rw[hc.1]; exact hc.2
   have hone:∀ (b:Addr) (y:DataW H×List MemPlace),(∀ p∈y.2,sp' p.block=true)→(W.cells? 0 b (P.cellsOf e)).bind (DataW.trod enc P W 0 (fun _=>true) true fuel e)=some y→(W'.cells? 0 b (P.cellsOf e)).bind (DataW.trod enc P W' 0 sp' true fuel e)=some y:=by
    intro b y hy h1
    simp only[Option.bind_eq_some_iff]at h1 ⊢
    obtain⟨cs',h2,h3⟩:=h1
    exact⟨cs',cells?_below hb h2,ih e ex hex fuel cs' y h3 sp' hy⟩
   unfold DataW.trod at hx ⊢
   rw[hu]at hx ⊢
   split at hx
   all_goals try (first | (rename_i heq _; cases heq; done) | (rename_i heq; cases heq; done))
   all_goals try (simp_all; done)
   rename_i e' a len cap heq
   cases heq
   simp only[if_true]at hx ⊢
   split at hx
   case isFalse=>cases hx
   rename_i hbase
   rw[if_pos hbase]
   simp only[Option.bind_eq_some_iff,Ywi]at hx ⊢
   obtain⟨elems,h1,rest,h2,rfl⟩:=hx
   have hle:elems.length=len:=by simpa using Lib.mapM_length h1
   have hlr:rest.length=cap - len:=by simpa using Lib.mapM_length h2
   have hin:∀ y∈elems++rest,∀ p∈y.2,sp' p.block=true:=fun y hy p hp=>hsp p (by
    simp only[List.mem_append,List.mem_flatMap]
    refine .inr ⟨y,?_,hp⟩
    simpa using hy)
   refine⟨elems,yf5 h1 (fun i y _ hy hi=>hone _ y (hin y (by simp[hy])) hi),rest,?_,rfl⟩
   rcases Nat.eq_zero_or_pos cap with h0 | h0
   ·have:cap - len=0:=by omega
    have hr0:rest=[]:=List.eq_nil_of_length_eq_zero (by omega)
    rw[this,hr0]
    split <;> rfl
   ·have hblk:sp' a.block=true:=hsp (.cell a.block (a.off+0)) (by
     simp only[List.mem_append]
     left
     simp only[MemPlace.row,List.mem_map,List.mem_range]
     refine⟨0,?_,rfl⟩
     have:elems.length+rest.length=cap:=by omega
     rw[this]
     exact Nat.mul_pos h0 hpos)
    rw[if_pos hblk]
    exact yf5 h2 (fun i y _ hy hi=>hone _ y (hin y (by simp[hy])) hi)
  ·rename_i fs hu
   split at h
   case h_2=>cases h
   rename_i ts hts
   unfold DataW.trod at hx ⊢
   rw[hu]at hx ⊢
   simp only at hx ⊢
   split at hx
   case isFalse=>cases hx
   rename_i hl
   rw[if_pos hl]
   simp only[Ywi]at hx ⊢
   obtain⟨ys,hys,rfl⟩:=hx
   have hall:∀ f∈fs.toList,∃ ty,tyOf P n f.type=some ty:=by
    clear hys hl hu h
    generalize fs.toList=l at hts
    induction l generalizing ts with
    |nil=>intro f hf; cases hf
    |cons f0 l ihl=>
     unfold yQ5 at hts
     split at hts
     ·rename_i t0 ts0 h0 h1
      intro f hf
      rcases List.mem_cons.1 hf with rfl | hf
      ·exact⟨_,h0⟩
      ·exact ihl _ h1 f hf
     ·cases hts
   refine⟨ys,yf5 hys (fun f y hf hy hi=>?_),rfl⟩
   obtain⟨ty',hty⟩:=hall f hf
   exact ih f.type ty' hty fuel _ y hi sp' fun p hp=>hsp p (by simp only[List.mem_flatMap]; exact⟨y,hy,hp⟩)
  ·rename_i m e hu
   split at h
   case h_2=>cases h
   rename_i ex hex
   unfold DataW.trod at hx ⊢
   rw[hu]at hx ⊢
   simp only at hx ⊢
   split at hx
   case isFalse=>cases hx
   rename_i hl
   rw[if_pos hl]
   simp only[Ywi]at hx ⊢
   obtain⟨ys,hys,rfl⟩:=hx
   refine⟨ys,yf5 hys (fun i y _ hy hi=>?_),rfl⟩
   exact ih e ex hex fuel _ y hi sp' fun p hp=>hsp p (by simp only[List.mem_flatMap]; exact⟨y,hy,hp⟩)
  ·cases h
theorem yte(hb:Below W.heap.size W W'){n:Nat}:∀ (ts:List TypeId) (tys:List Ty) (vs:List Value) (ds:List (DataW H)) (ps:List MemPlace),ts.mapM (tyOf P n)=some tys→DataW.TrodAll enc P W 0 (fun _=>true) true ts vs ds ps→
  ∀ sp':Nat→Bool,(∀ p∈ps,sp' p.block=true)→DataW.TrodAll enc P W' 0 sp' true ts vs ds ps
 |[],_,[],[],ps,_,h=>fun _ _=>h
 |t::ts,tys,v::vs,d::ds,ps,ht,h=>by
  intro sp' hsp
  simp only[List.mapM_cons,Option.bind_eq_bind,Option.bind_eq_some_iff,Option.pure_def,Ywh]at ht
  obtain⟨ty,h1,tys',h2,rfl⟩:=ht
  obtain⟨p,q,⟨fuel,h3⟩,h4,rfl⟩:=h
  exact⟨p,q,⟨fuel,yB0 hb n t ty h1 fuel _ _ h3 sp' (fun x hx=>hsp x (by simp[hx]))⟩,yte hb ts tys' vs ds q h2 h4 sp' (fun x hx=>hsp x (by simp[hx])),rfl⟩
 |[],_,_::_,_,_,_,h=>by cases h
 |[],_,[],_::_,_,_,h=>by cases h
 |_::_,_,[],_,_,_,h=>by cases h
 |_::_,_,_::_,[],_,_,h=>by cases h
theorem yU2{sp:Nat→Bool}{n:Nat}{t:TypeId}{ty:Ty}{v:Value}{d:DataW H}{ps:List MemPlace}(ht:tyOf P n t=some ty)(hv:Value.okWide P W .any 0 t v)(h:DataW.Trod enc P W 0 sp true t v d ps) :
  ∃ x,Has ty x∧(RepV W (yja W) [] x v∧purA x=true)∧wt x≤blk d:=by
 obtain⟨fuel,h⟩:=h
 obtain⟨x,h1,h2,h3,h4,h5⟩:=yN1 n t ty ht fuel _ _ h
 refine⟨x,h1,?_,h5⟩
 have hcell:(∀ cs,v≠.agg cs)→x.pure1=true→RepV W (yja W) [] x v∧purA x=true:=by
  intro hna hp
  have hvc:v.cells=#[v]:=by cases v <;> first | rfl | exact absurd rfl (hna _)
  rw[yns hp,hvc]at h2
  refine⟨h2.2.1 0 x v rfl rfl,?_⟩
  cases x <;> first | exact hp | (simp[D.pure1]at hp; done)
 have hagg:∀ cs l,v=.agg cs→x=.agg l→RepV W (yja W) [] x v∧purA x=true:=by
  intro cs l e1 e2
  subst e1; subst e2
  refine⟨?_,?_⟩
  ·have:=RepV.agg (w:=W) (g:=yja W) (st:=[]) l cs.toList (by simpa[D.cells,Value.cells]using h2.1) (fun i d u hd hu=>h2.2.1 i d u hd (by simpa[Value.cells]using hu))
   rwa [Array.toArray_toList]at this
  ·simp only[purA,List.all_eq_true]
   exact h2.2.2
 unfold Value.okWide at hv
 cases n with
 |zero=>simp[tyOf]at ht
 |succ n=>
 unfold tyOf at ht
 split at ht
 ·rename_i hu
  simp only[Ywh]at ht; subst ht
  cases h1
  exact hcell (fun cs e=>by subst e; simp[hu,Cell.okWide,Cell.ok]at hv) rfl
 ·rename_i k hu
  simp only[Ywh]at ht; subst ht
  cases h1
  exact hcell (fun cs e=>by subst e; simp[hu,Cell.okWide,Cell.ok]at hv) rfl
 ·rename_i hu
  simp only[Ywh]at ht; subst ht
  cases h1
  exact hcell (fun cs e=>by subst e; simp[hu,Cell.okWide,Cell.ok]at hv) rfl
 ·rename_i e hu
  split at ht
  case h_2=>
   split at ht
   case isFalse=>cases ht
   simp only[Ywh]at ht; subst ht
   cases h1
   exact hcell (fun cs e=>by subst e; simp[hu,Cell.okWide,Cell.ok]at hv) rfl
  split at ht
  case isFalse=>cases ht
  simp only[Ywh]at ht; subst ht
  cases h1
  exact hcell (fun cs e=>by subst e; simp[hu,Cell.okWide,Cell.ok]at hv) rfl
 ·rename_i fs hu
  split at ht
  case h_2=>cases ht
  split at ht
  case isFalse=>cases ht
  simp only[Ywh]at ht; subst ht
  simp only[hu]at hv
  obtain⟨cs,rfl,_,_⟩:=hv
  cases h1 with
  |agg _ xs _ _=>exact hagg cs _ rfl rfl
 ·rename_i m e hu
  split at ht
  case h_2=>cases ht
  split at ht
  case isFalse=>cases ht
  simp only[Ywh]at ht; subst ht
  simp only[hu]at hv
  obtain⟨cs,rfl,_,_⟩:=hv
  cases h1 with
  |agg _ xs _ _=>exact hagg cs _ rfl rfl
 ·cases ht
inductive HasAll:List Ty→List D→Prop
 |nil:HasAll [] []
 |cons {t:Ty} {ts:List Ty} {x:D} {xs:List D}:Has t x→HasAll ts xs→HasAll (t::ts) (x::xs)
theorem yG2{sp:Nat→Bool}{n:Nat}:∀ (ts:List TypeId) (tys:List Ty) (vs:List Value) (ds:List (DataW H)) (ps:List MemPlace),ts.mapM (tyOf P n)=some tys→(∀ (j:Nat) t v,ts[j]?=some t→vs[j]?=some v→Value.okWide P W .any 0 t v)→DataW.TrodAll enc P W 0 sp true ts vs ds ps→
  ∃ xs,HasAll tys xs∧xs.length=vs.length∧(∀ (i:Nat) d v,xs[i]?=some d→vs[i]?=some v→RepV W (yja W) [] d v)∧(∀ d∈xs,purA d=true)∧wts xs≤blks ds
 |[],tys,[],[],ps,ht,_,_=>by
  simp at ht; subst ht
  exact⟨[],.nil,rfl,fun i d v h=>by simp at h,(fun d h=>by cases h),by simp[wts]⟩
 |t::ts,tys,v::vs,d::ds,ps,ht,hv,h=>by
  simp only[List.mapM_cons,Option.bind_eq_bind,Option.bind_eq_some_iff,Option.pure_def,Ywh]at ht
  obtain⟨ty,h1,tys',h2,rfl⟩:=ht
  obtain⟨p,q,h3,h4,rfl⟩:=h
  obtain⟨x,x1,⟨x2,x3⟩,x5⟩:=yU2 h1 (hv 0 t v rfl rfl) h3
  obtain⟨xs,y1,y2,y3,y4,y5⟩:=yG2 ts tys' vs ds q h2 (fun j t v ht hv'=>hv (j+1) t v (by simpa using ht) (by simpa using hv')) h4
  refine⟨x::xs,.cons x1 y1,by simp[y2],?_,?_,?_⟩
  ·intro i d v hd hv'
   cases i with
   |zero=>simp at hd hv'; subst hd; subst hv'; exact x2
   |succ i=>simp at hd hv'; exact y3 i d v hd hv'
  ·intro d hd
   rcases List.mem_cons.1 hd with rfl | hd
   ·exact x3
   ·exact y4 d hd
  ·simp only[wts,blks]; omega
 |[],_,_::_,_,_,_,_,h=>by cases h
 |[],_,[],_::_,_,_,_,h=>by cases h
 |_::_,_,[],_,_,_,_,h=>by cases h
 |_::_,_,_::_,[],_,_,_,h=>by cases h
theorem yFv{G:Glob}{K n N:Nat}{fn:Func}{sp:List D→Option D}{tys:List Ty}{s:ChangeSpec}(hC:Contract P G K sp)(hty:fn.params.toList.mapM (tyOf P n)=some tys)(hvars:s.vars=[])
  (hrt:∃ tb,fn.resultTypes=#[tb]∧P.underlying tb=some .bool)
  (hfn:∀ (H:Type) (ds:List (DataW H)),ds.length=fn.params.size→(s.fn H ds).results=[.lit (.bool true)]∧(s.fn H ds).args=ds∧(s.fn H ds).vars=[])
  (hsp:∀ xs,HasAll tys xs→wts xs≤N→sp xs=some (.bool true))
  {args:Array Value} {ds gs:List (DataW H)} {before:List MemPlace} (hG:GlobOK G W (yja W)) (hN:blks ds≤N)
  (hval:∀ (j:Nat) t v,fn.params[j]?=some t→args[j]?=some v→Value.okWide P W .any 0 t v)
  (hW:DataW.Whole enc P fn.params.toList s.vars false W args.toList ds gs before) :
  Calls P K args W fun e W'=>∃ v,e=.returned v∧s.post enc P fn false true false false W args v W':=by
 obtain⟨tb,hrt,hub⟩:=hrt
 have hW':=hW
 obtain⟨p,q,hA,hV,rfl,hfz,hnd⟩:=hW
 rw[hvars]at hV
 have hV':gs=[]∧q=[]:=by
  cases gs with
  |nil=>exact⟨rfl,hV⟩
  |cons a l=>cases hV
 obtain⟨rfl,rfl⟩:=hV'
 obtain⟨xs,x1,x2,x3,x4,x5⟩:=yG2 fn.params.toList tys args.toList ds p hty (fun j t v ht hv=>hval j t v (by simpa using ht) (by simpa using hv)) hA
 have hlen:∀ (ts:List TypeId) (vs:List Value) (ds:List (DataW H)) (ps:List MemPlace),DataW.TrodAll enc P W 0 (fun _=>true) true ts vs ds ps→ds.length=ts.length:=by
  intro ts
  induction ts with
  |nil=>intro vs ds ps h; cases vs <;> cases ds <;> first | rfl | cases h
  |cons t ts ih=>
   intro vs ds ps h
   cases vs with
   |nil=>cases h
   |cons v vs=>
    cases ds with
    |nil=>cases h
    |cons d ds=>
     obtain⟨_,_,_,h4,_⟩:=h
     simp[ih vs ds _ h4]
 have hdl:ds.length=fn.params.size:=by simpa using hlen _ _ _ _ hA
 have hc:=hC W (yja W) xs args.toList (.bool true) (hsp xs x1 (Nat.le_trans x5 hN)) hG (fun b o h=>h) x2 x3 x4
 rw[Array.toArray_toList]at hc
 refine hc.mono ?_
 rintro e W' ⟨v,g',rfl,h1,_,_,_,_,hb⟩
 have hv:=yfl h1
 subst hv
 obtain⟨f1,f2,f3⟩:=hfn H ds hdl
 refine⟨_,rfl,ds,[],p++[],[],p,[],hW',?_,?_,?_,?_,fun h=>by cases h⟩
 ·rw[List.append_nil,f1,hrt]
  exact⟨[],[],⟨1,by unfold DataW.trod; simp[hub,Value.cells]⟩,rfl,rfl⟩
 ·rw[List.append_nil,f2]
  refine yte hb _ tys _ _ _ hty hA _ fun x hx=>?_
  simpa using hW'.lt x (by simpa using hx)
 ·rw[List.append_nil,f3,hvars]
  rfl
 ·refine⟨hb.os,hb.output,fun i hi=>?_⟩
  rw[hb.block i hi]
  cases W.heap[i]? with
  |none=>rfl
  |some o=>cases o <;> simp
theorem law_contract{G:Glob}{K n:Nat}{fn:Func}{sp:List D→Option D}{tys:List Ty}{s:ChangeSpec}(hC:Contract P G K sp)(hty:fn.params.toList.mapM (tyOf P n)=some tys)(hvars:s.vars=[])
  (hrt:∃ tb,fn.resultTypes=#[tb]∧P.underlying tb=some .bool)
  (hfn:∀ (H:Type) (ds:List (DataW H)),ds.length=fn.params.size→(s.fn H ds).results=[.lit (.bool true)]∧(s.fn H ds).args=ds∧(s.fn H ds).vars=[])
  (hsp:∀ xs,HasAll tys xs→sp xs=some (.bool true))
  {args:Array Value} {ds gs:List (DataW H)} {before:List MemPlace} (hG:GlobOK G W (yja W))
  (hval:∀ (j:Nat) t v,fn.params[j]?=some t→args[j]?=some v→Value.okWide P W .any 0 t v)
  (hW:DataW.Whole enc P fn.params.toList s.vars false W args.toList ds gs before) :
  Calls P K args W fun e W'=>∃ v,e=.returned v∧s.post enc P fn false true false false W args v W':=
 yFv (N:=blks ds) hC hty hvars hrt hfn (fun xs h _=>hsp xs h) hG (Nat.le_refl _) hval hW
def tabG(g:Nat)(k:IntKind)(zs:List Int):Glob:=fun n=>if n=g then some (.agg (zs.map fun z=>.int k z))else none
theorem Yoj{name:String}{k:IntKind}{zs:List Int}{g:Nat}(h:Lib.TabIs P W name k zs)(hg:P.globalNamed name=some g):GlobOK (tabG g k zs) W (yja W):=by
 intro n d hd
 simp only[tabG,Option.ite_none_right_eq_some,Ywh]at hd
 obtain⟨rfl,rfl⟩:=hd
 have hj:∀ (j:Nat) (d:D),(D.agg (zs.map fun z=>D.int k z)).cells[j]?=some d→d=.int k (zs.getD j 0)∧W.cell? ⟨n,j,none⟩=some (.int k (zs.getD j 0)):=by
  intro j d hd
  simp only[D.cells,List.getElem?_map,Ywi]at hd
  obtain⟨z,hz,rfl⟩:=hd
  have hlt:j<zs.length:=(List.getElem?_eq_some_iff.1 hz).1
  exact⟨by simp[List.getD_eq_getElem?_getD,hz],h.cell hg j hlt⟩
 refine .eptr _ 0 n 0 (fun j=>.int k (zs.getD j 0)) (fun j d hd=>?_) (fun j d hd=>?_) (fun j d hd=>?_)
 ·rw[(hj j d hd).1]; rfl
 ·have:=(hj j d hd).2
  rw[Nat.zero_add]
  exact⟨by show(W.cell? ⟨n,j,none⟩).isSome=true; rw[this]; rfl,this⟩
 ·rw[(hj j d hd).1]; exact .int _ _
end
end Go.Proofs.YtijnglngaogdjaaGreatDoor.PI
namespace Go.Proofs.YtijnglngaogdjaaGreatDoor.PI
open Go
def wD(x:UInt32):D:=.int .u32 (x.toNat:Int)
def qD(x:UInt64):D:=.int .u64 (x.toNat:Int)
theorem yXq{n:Nat}(m:Nat):BitVec.ofInt n (m:Int)=BitVec.ofNat n m:=BitVec.ofInt_natCast ..
theorem ynh(n:Nat):IntKind.wrap .u32 (n:Int)=((n % 2 ^ 32:Nat):Int):=by
 simp[IntKind.wrap,IntKind.signed,IntKind.bits]
theorem ytb(n:Nat):IntKind.wrap .u64 (n:Int)=((n % 2 ^ 64:Nat):Int):=by
 simp[IntKind.wrap,IntKind.signed,IntKind.bits]
theorem yKv(n:Nat):IntKind.wrap .u8 (n:Int)=((n % 2 ^ 8:Nat):Int):=by
 simp[IntKind.wrap,IntKind.signed,IntKind.bits]
theorem Yqm(x y:UInt32):pbin .add (wD x) (wD y)=some (wD (x+y)):=by
 simp only[pbin,wD,if_true,yhm,Option.map_some]
 rw[← Int.natCast_add,ynh]
 simp[UInt32.toNat_add]
theorem bv_w(x:UInt32):BitVec.ofInt 32 (x.toNat:Int)=x.toBitVec:=by
 rw[yXq]; simp
theorem Yfi(x:UInt32):x.toNat % 2 ^ 32=x.toNat:=Nat.mod_eq_of_lt x.toNat_lt
theorem and_w(x y:UInt32):pbin .and (wD x) (wD y)=some (wD (x &&& y)):=by
 have h:(BitVec.ofInt (IntKind.bits .u32) (x.toNat:Int) &&& BitVec.ofInt (IntKind.bits .u32) (y.toNat:Int)).toNat=(x &&& y).toNat:=by
  show(BitVec.ofInt 32 (x.toNat:Int) &&& BitVec.ofInt 32 (y.toNat:Int)).toNat=_
  rw[bv_w,bv_w]; rfl
 simp only[pbin,wD,if_true,yut,Option.map_some,h,ynh,Yfi]
theorem or_w(x y:UInt32):pbin .or (wD x) (wD y)=some (wD (x ||| y)):=by
 have h:(BitVec.ofInt (IntKind.bits .u32) (x.toNat:Int) ||| BitVec.ofInt (IntKind.bits .u32) (y.toNat:Int)).toNat=(x ||| y).toNat:=by
  show(BitVec.ofInt 32 (x.toNat:Int) ||| BitVec.ofInt 32 (y.toNat:Int)).toNat=_
  rw[bv_w,bv_w]; rfl
 simp only[pbin,wD,if_true,yut,Option.map_some,h,ynh,Yfi]
theorem Yqy(x y:UInt32):pbin .xor (wD x) (wD y)=some (wD (x ^^^ y)):=by
 have h:(BitVec.ofInt (IntKind.bits .u32) (x.toNat:Int) ^^^ BitVec.ofInt (IntKind.bits .u32) (y.toNat:Int)).toNat=(x ^^^ y).toNat:=by
  show(BitVec.ofInt 32 (x.toNat:Int) ^^^ BitVec.ofInt 32 (y.toNat:Int)).toNat=_
  rw[bv_w,bv_w]; rfl
 simp only[pbin,wD,if_true,yut,Option.map_some,h,ynh,Yfi]
theorem not_w(x:UInt32):pun .xor (wD x)=some (wD (~~~x)):=by
 have h1:(IntKind.max .u32)=((4294967295:UInt32).toNat:Int):=by decide
 have h:(BitVec.ofInt (IntKind.bits .u32) ((4294967295:UInt32).toNat:Int) ^^^ BitVec.ofInt (IntKind.bits .u32) (x.toNat:Int)).toNat=(~~~x).toNat:=by
  show(BitVec.ofInt 32 ((4294967295:UInt32).toNat:Int) ^^^ BitVec.ofInt 32 (x.toNat:Int)).toNat=_
  rw[bv_w,bv_w,show(4294967295:UInt32).toBitVec=BitVec.allOnes 32 from rfl,BitVec.allOnes_xor]
  rfl
 simp only[pun,wD,yut,Option.map_some,show IntKind.signed .u32=false from rfl,Bool.false_eq_true,if_false,h1,h,ynh,Yfi]
theorem Yo9(st:St)(b:UInt8):yde st (.int .u32) (yaf b)=some (wD b.toUInt32):=by
 simp only[yde,yaf,wD,ynh,UInt8.toNat_toUInt32]
 have:=b.toNat_lt
 rw[Nat.mod_eq_of_lt (by omega)]
theorem Yo7(st:St)(x:UInt32):yde st (.int .u8) (wD x)=some (yaf x.toUInt8):=by
 simp only[yde,yaf,wD,yKv,UInt32.toNat_toUInt8]
theorem Yo8(st:St)(x:UInt64):yde st (.int .u8) (qD x)=some (yaf x.toUInt8):=by
 simp only[yde,yaf,qD,yKv,UInt64.toNat_toUInt8]
theorem Ysl(x:UInt32)(k:IntKind)(n:Nat)(h:n<32):pbin .shl (wD x) (.int k (n:Int))=some (wD (x <<< (UInt32.ofNat n))):=by
 have e:(x <<< (UInt32.ofNat n)).toNat=x.toNat*2 ^ n % 2 ^ 32:=by
  rw[UInt32.toNat_shiftLeft,Nat.shiftLeft_eq,UInt32.toNat_ofNat',Nat.mod_eq_of_lt (show n<2 ^ 32 by omega),Nat.mod_eq_of_lt h]
 have e2:((x.toNat:Int)*2 ^ n)=((x.toNat*2 ^ n:Nat):Int):=by push_cast; rfl
 simp only[pbin,wD,yov,show ¬ ((n:Int)<0) by omega,if_false,Option.map_some,Int.toNat_natCast,show IntKind.bits .u32=32 from rfl,Nat.min_eq_left (Nat.le_of_lt h),e2,ynh,e]
theorem Ysh(x:UInt32)(k:IntKind)(n:Nat)(h:n<32):pbin .shr (wD x) (.int k (n:Int))=some (wD (x >>> (UInt32.ofNat n))):=by
 have e:(x >>> (UInt32.ofNat n)).toNat=x.toNat / 2 ^ n:=by
  rw[UInt32.toNat_shiftRight,Nat.shiftRight_eq_div_pow,UInt32.toNat_ofNat',Nat.mod_eq_of_lt (show n<2 ^ 32 by omega),Nat.mod_eq_of_lt h]
 have e2:(x.toNat:Int).fdiv (2 ^ n)=((x.toNat / 2 ^ n:Nat):Int):=by
  have:(2 ^ n:Int)=((2 ^ n:Nat):Int):=by push_cast; rfl
  rw[this,Int.fdiv_eq_ediv_of_nonneg _ (Int.natCast_nonneg _)]; rfl
 simp only[pbin,wD,yov,show ¬ ((n:Int)<0) by omega,if_false,Option.map_some,Int.toNat_natCast,show IntKind.bits .u32=32 from rfl,Nat.min_eq_left (Nat.le_of_lt h),e2,e]
theorem shl_q(x:UInt64)(k:IntKind)(n:Nat)(h:n<64):pbin .shl (qD x) (.int k (n:Int))=some (qD (x <<< (UInt64.ofNat n))):=by
 have e:(x <<< (UInt64.ofNat n)).toNat=x.toNat*2 ^ n % 2 ^ 64:=by
  rw[UInt64.toNat_shiftLeft,Nat.shiftLeft_eq,UInt64.toNat_ofNat',Nat.mod_eq_of_lt (show n<2 ^ 64 by omega),Nat.mod_eq_of_lt h]
 have e2:((x.toNat:Int)*2 ^ n)=((x.toNat*2 ^ n:Nat):Int):=by push_cast; rfl
 simp only[pbin,qD,yov,show ¬ ((n:Int)<0) by omega,if_false,Option.map_some,Int.toNat_natCast,show IntKind.bits .u64=64 from rfl,Nat.min_eq_left (Nat.le_of_lt h),e2,ytb,e]
theorem shr_q(x:UInt64)(k:IntKind)(n:Nat)(h:n<64):pbin .shr (qD x) (.int k (n:Int))=some (qD (x >>> (UInt64.ofNat n))):=by
 have e:(x >>> (UInt64.ofNat n)).toNat=x.toNat / 2 ^ n:=by
  rw[UInt64.toNat_shiftRight,Nat.shiftRight_eq_div_pow,UInt64.toNat_ofNat',Nat.mod_eq_of_lt (show n<2 ^ 64 by omega),Nat.mod_eq_of_lt h]
 have e2:(x.toNat:Int).fdiv (2 ^ n)=((x.toNat / 2 ^ n:Nat):Int):=by
  have:(2 ^ n:Int)=((2 ^ n:Nat):Int):=by push_cast; rfl
  rw[this,Int.fdiv_eq_ediv_of_nonneg _ (Int.natCast_nonneg _)]; rfl
 simp only[pbin,qD,yov,show ¬ ((n:Int)<0) by omega,if_false,Option.map_some,Int.toNat_natCast,show IntKind.bits .u64=64 from rfl,Nat.min_eq_left (Nat.le_of_lt h),e2,e]
theorem ykv{n:Int}(h1:-9223372036854775808≤n)(h2:n<9223372036854775808):IntKind.wrap .i64 n=n:=by
 show(if(true && decide (n % (2 ^ 64:Int) ≥ (2 ^ (64 - 1):Int)))=true then n % (2 ^ 64:Int) - (2 ^ 64:Int)else n % (2 ^ 64:Int))=n
 by_cases h:n % (2 ^ 64:Int) ≥ (2 ^ (64 - 1):Int)
 ·rw[if_pos (by simpa using h)]; omega
 ·rw[if_neg (by simpa using h)]; omega
theorem yaz{a b:Int}(h1:-9223372036854775808≤a+b)(h2:a+b<9223372036854775808):pbin .add (.int .i64 a) (.int .i64 b)=some (.int .i64 (a+b)):=by
 simp only[pbin,if_true,yhm,Option.map_some,ykv h1 h2]
theorem ydy{a b:Int}(h1:-9223372036854775808≤a - b)(h2:a - b<9223372036854775808):pbin .sub (.int .i64 a) (.int .i64 b)=some (.int .i64 (a - b)):=by
 simp only[pbin,if_true,yhm,Option.map_some,ykv h1 h2]
theorem yBt{a b:Int}(h1:-9223372036854775808≤a*b)(h2:a*b<9223372036854775808):pbin .mul (.int .i64 a) (.int .i64 b)=some (.int .i64 (a*b)):=by
 simp only[pbin,if_true,yhm,Option.map_some,ykv h1 h2]
class Cont (α:Type):Type where
 mk::
 run:α→Prop
class Cont2 (α β:Type):Type where
 mk::
 run:α→β→Prop
class QC:Type where
 mk::
 run:Ex→Frame→St→Prop
class InvC:Type where
 mk::
 run:PS→Prop
class Br:Type where
 mk::
 run:Prop
def on{α:Type}(o:Option α)[k:Cont α]:Prop:=match o with
 |some a=>k.run a
 |none=>False
theorem yXm{α:Type}(a:α)(K:α→Prop):@on α (some a) ⟨K⟩=K a:=(rfl)
theorem Ymj{α:Type}(k:Cont α):@on α none k=False:=(rfl)
def onB(d:D)[k:Cont Bool]:Prop:=match d with
 |.bool b=>k.run b
 |_=>False
theorem Yff(b:Bool)(K:Bool→Prop):@onB (.bool b) ⟨K⟩=K b:=(rfl)
def ifB(b:Bool)[x:Br][y:Br]:Prop:=if b=true then x.run else y.run
theorem Ygo(x:Prop)(y:Br):@ifB true ⟨x⟩ y=x:=(rfl)
theorem yZd(x:Br)(y:Prop):@ifB false x ⟨y⟩=y:=(rfl)
theorem Ynz(b:Bool)(x y:Br):@ifB (!b) x y=@ifB b y x:=by cases b <;> rfl
theorem yai{p:Prop}[Decidable p]{x y:Prop}(h1:p→x)(h2:¬ p→y):@ifB (decide p) ⟨x⟩ ⟨y⟩:=by
 by_cases h:p
 ·rw[show decide p=true by simpa using h]; exact h1 h
 ·rw[show decide p=false by simpa using h]; exact h2 h
def ev(d:D)[k:Cont D]:Prop:=k.run d
theorem ev_eq(d:D)(K:D→Prop):@ev d ⟨K⟩=K d:=(rfl)
def ev2(d:D)(st:St)[k:Cont2 D St]:Prop:=k.run d st
theorem Yu1(d:D)(st:St)(K:D→St→Prop):@ev2 d st ⟨K⟩=K d st:=(rfl)
def kOp(T:Tbl)(op:POp)(ρ:PA→D)(st:St)(K:D→St→Prop):Prop:=@on _ (op.exec T ρ st) ⟨fun p=>K p.1 p.2⟩
def kG(fr:Frame)(g:Option (Nat×Bool))(x y:Prop):Prop:=match g with
 |none=>x
 |some (s,want)=>match fr s with
  |.bool b=>@ifB (b == want) ⟨x⟩ ⟨y⟩
  |.tup []=>y
  |_=>False
def kOps(G:Glob)(T:Tbl):List PI→Frame→St→(Frame→St→Prop)→Prop
 |[],fr,st,K=>K fr st
 |i::l,fr,st,K=>kG fr i.guard (kOp T i.op (rho G fr) st fun d st'=>kOps G T l (fr.put i.dst d) st' K) (kOps G T l (fr.put i.dst (.tup [])) st K)
theorem ymr{G:Glob}{T:Tbl}:∀ (l:List PI) (fr:Frame) (st:St) (K:Frame→St→Prop),kOps G T l fr st K→∃ fr' st',ycg G T l ⟨fr,st⟩=some ⟨fr',st'⟩∧K fr' st'
 |[],fr,st,K,h=>⟨fr,st,rfl,h⟩
 |i::l,fr,st,K,h=>by
  have yes:kOp T i.op (rho G fr) st (fun d st'=>kOps G T l (fr.put i.dst d) st' K)→i.wanted fr=some true→∃ fr' st',ycg G T (i::l) ⟨fr,st⟩=some ⟨fr',st'⟩∧K fr' st':=by
   intro h hw
   unfold kOp on at h
   split at h
   ·rename_i p hp
    obtain⟨fr',st',h1,h2⟩:=ymr l _ _ K h
    exact⟨fr',st',by simp only[ycg,PI.exec,hw,hp,h1],h2⟩
   ·exact h.elim
  have no:kOps G T l (fr.put i.dst (.tup [])) st K→i.wanted fr=some false→∃ fr' st',ycg G T (i::l) ⟨fr,st⟩=some ⟨fr',st'⟩∧K fr' st':=by
   intro h hw
   obtain⟨fr',st',h1,h2⟩:=ymr l _ _ K h
   exact⟨fr',st',by simp only[ycg,PI.exec,hw,h1],h2⟩
  rw[kOps]at h
  unfold kG at h
  split at h
  ·rename_i hg
   exact yes h (by simp[PI.wanted,hg])
  ·rename_i s want hg
   split at h
   ·rename_i b hb
    have hw:i.wanted fr=some (b == want):=by simp[PI.wanted,hg,hb]
    cases hbw:(b == want)with
    |true=>rw[hbw]at h hw; exact yes h hw
    |false=>rw[hbw]at h hw; exact no h hw
   ·rename_i hb
    exact no h (by simp[PI.wanted,hg,hb])
   ·exact h.elim
def kOpX(T:Tbl)(op:POp)(ρ:PA→D)(st:St)(K:D→St→Prop)(X:Nat→D→St→Prop):Prop:=match op.exec T ρ st with
 |some p=>K p.1 p.2
 |none=>match op.execX T ρ st with
  |some r=>X r.1 r.2.1 r.2.2
  |none=>False
def yxj(G:Glob)(T:Tbl):List PI→Frame→St→(Frame→St→Prop)→(Nat→D→Frame→St→Prop)→Prop
 |[],fr,st,K,_=>K fr st
 |i::l,fr,st,K,X=>kG fr i.guard (kOpX T i.op (rho G fr) st (fun d st'=>yxj G T l (fr.put i.dst d) st' K X) (fun t d st'=>X t d fr st')) (yxj G T l (fr.put i.dst (.tup [])) st K X)
theorem yss{G:Glob}{T:Tbl}:∀ (l:List PI) (fr:Frame) (st:St) (K:Frame→St→Prop) (X:Nat→D→Frame→St→Prop),yxj G T l fr st K X→
  (∃ fr' st',ycg G T l ⟨fr,st⟩=some ⟨fr',st'⟩∧K fr' st')∨∃ t d fr' st',ycg G T l ⟨fr,st⟩=none∧yhn G T l ⟨fr,st⟩=some (t,d,⟨fr',st'⟩)∧X t d fr' st'
 |[],fr,st,K,X,h=>.inl ⟨fr,st,rfl,h⟩
 |i::l,fr,st,K,X,h=>by
  have yes:kOpX T i.op (rho G fr) st (fun d st'=>yxj G T l (fr.put i.dst d) st' K X) (fun t d st'=>X t d fr st')→i.wanted fr=some true→
    (∃ fr' st',ycg G T (i::l) ⟨fr,st⟩=some ⟨fr',st'⟩∧K fr' st')∨∃ t d fr' st',ycg G T (i::l) ⟨fr,st⟩=none∧yhn G T (i::l) ⟨fr,st⟩=some (t,d,⟨fr',st'⟩)∧X t d fr' st':=by
   intro h hw
   unfold kOpX at h
   split at h
   ·rename_i p hp
    rcases yss l _ _ K X h with⟨fr',st',h1,h2⟩ | ⟨t,d,fr',st',h1,h2,h3⟩
    ·exact .inl ⟨fr',st',by simp only[ycg,PI.exec,hw,hp,h1],h2⟩
    ·exact .inr ⟨t,d,fr',st',by simp only[ycg,PI.exec,hw,hp,h1],by simp only[yhn,PI.exec,hw,hp,h2],h3⟩
   ·rename_i hn
    split at h
    ·rename_i r hr
     exact .inr ⟨r.1,r.2.1,fr,r.2.2,by simp only[ycg,PI.exec,hw,hn],by simp only[yhn,PI.exec,PI.execX,hw,hn,hr,Option.map_some],h⟩
    ·exact h.elim
  have no:yxj G T l (fr.put i.dst (.tup [])) st K X→i.wanted fr=some false→
    (∃ fr' st',ycg G T (i::l) ⟨fr,st⟩=some ⟨fr',st'⟩∧K fr' st')∨∃ t d fr' st',ycg G T (i::l) ⟨fr,st⟩=none∧yhn G T (i::l) ⟨fr,st⟩=some (t,d,⟨fr',st'⟩)∧X t d fr' st':=by
   intro h hw
   rcases yss l _ _ K X h with⟨fr',st',h1,h2⟩ | ⟨t,d,fr',st',h1,h2,h3⟩
   ·exact .inl ⟨fr',st',by simp only[ycg,PI.exec,hw,h1],h2⟩
   ·exact .inr ⟨t,d,fr',st',by simp only[ycg,PI.exec,hw,h1],by simp only[yhn,PI.exec,hw,h2],h3⟩
  rw[yxj]at h
  unfold kG at h
  split at h
  ·rename_i hg
   exact yes h (by simp[PI.wanted,hg])
  ·rename_i s want hg
   split at h
   ·rename_i b hb
    have hw:i.wanted fr=some (b == want):=by simp[PI.wanted,hg,hb]
    cases hbw:(b == want)with
    |true=>rw[hbw]at h hw; exact yes h hw
    |false=>rw[hbw]at h hw; exact no h hw
   ·rename_i hb
    exact no h (by simp[PI.wanted,hg,hb])
   ·exact h.elim
theorem yYv{T:Tbl}{op:POp}{ρ:PA→D}{st:St}{K K':D→St→Prop}{X X':Nat→D→St→Prop}(h:kOpX T op ρ st K X)(hk:∀ d st,K d st→K' d st)(hx:∀ t d st,X t d st→X' t d st):kOpX T op ρ st K' X':=by
 unfold kOpX at h ⊢
 cases h1:op.exec T ρ st with
 |some p=>rw[h1]at h; exact hk _ _ h
 |none=>
  rw[h1]at h
  cases h2:op.execX T ρ st with
  |some r=>rw[h2]at h; exact hx _ _ _ h
  |none=>rw[h2]at h; exact h
theorem Ynp{fr:Frame}{g:Option (Nat×Bool)}{x y x' y':Prop}(h:kG fr g x y)(hx:x→x')(hy:y→y'):kG fr g x' y':=by
 unfold kG at h ⊢
 revert h
 split
 ·exact hx
 ·split
  ·unfold ifB
   split
   ·exact hx
   ·exact hy
  ·exact hy
  ·exact id
theorem yv5{G:Glob}{T:Tbl}:∀ (l:List PI) (fr:Frame) (st:St) (K K':Frame→St→Prop) (X X':Nat→D→Frame→St→Prop),yxj G T l fr st K X→(∀ fr st,K fr st→K' fr st)→(∀ t d fr st,X t d fr st→X' t d fr st)→yxj G T l fr st K' X'
 |[],_,_,_,_,_,_,h,hk,_=>hk _ _ h
 |i::l,fr,st,K,K',X,X',h,hk,hx=>by
  rw[yxj]at h ⊢
  exact Ynp h (fun h=>yYv h (fun _ _ h=>yv5 l _ _ _ _ _ _ h hk hx) fun _ _ _ h=>hx _ _ _ _ h) fun h=>yv5 l _ _ _ _ _ _ h hk hx
class XC:Type where
 mk::
 run:Nat→D→Frame→St→Prop
class XC0:Type where
 mk::
 run:Nat→D→St→Prop
def yG0(G:Glob)(T:Tbl)(l:List PI)(fr:Frame)(st:St)[K:Cont2 Frame St][X:XC]:Prop:=yxj G T l fr st K.run X.run
def wOpX(T:Tbl)(op:POp)(ρ:PA→D)(st:St)[K:Cont2 D St][X:XC0]:Prop:=kOpX T op ρ st K.run X.run
theorem yU0(G:Glob)(T:Tbl)(fr:Frame)(st:St)(K:Frame→St→Prop)(X:XC):@yG0 G T [] fr st ⟨K⟩ X=K fr st:=(rfl)
def onX(o:Option (D×St))(p:Option (Nat×D×St))[K:Cont2 D St][X:XC0]:Prop:=match o with
 |some r=>K.run r.1 r.2
 |none=>match p with
  |some r=>X.run r.1 r.2.1 r.2.2
  |none=>False
theorem Yfe(d:D)(st:St)(p:Option (Nat×D×St))(K:D→St→Prop)(X:XC0):@onX (some (d,st)) p ⟨K⟩ X=K d st:=(rfl)
theorem yXn(t:Nat)(d:D)(st:St)(K:Cont2 D St)(X:Nat→D→St→Prop):@onX none (some (t,d,st)) K ⟨X⟩=X t d st:=(rfl)
def ySp(o:Option (List D→St→Option (D×St)))(ds:List D)(st:St):Option (D×St):=match o with
 |some sp=>sp ds st
 |none=>none
theorem ySn(sp:List D→St→Option (D×St))(ds:List D)(st:St):ySp (some sp) ds st=sp ds st:=(rfl)
theorem ySo(ds:List D)(st:St):ySp none ds st=none:=(rfl)
def ySm(o:Option (List D→St→Option (Nat×D×St)))(ds:List D)(st:St):Option (Nat×D×St):=match o with
 |some sp=>sp ds st
 |none=>none
theorem ySk(sp:List D→St→Option (Nat×D×St))(ds:List D)(st:St):ySm (some sp) ds st=sp ds st:=(rfl)
theorem ySl(ds:List D)(st:St):ySm none ds st=none:=(rfl)
theorem yQ1(T:Tbl)(f:Nat)(args:List PA)(ρ:PA→D)(st:St)(K:Cont2 D St)(X:XC0):@wOpX T (.icall f args) ρ st K X=@onX (ySp (T.i f) (args.map ρ) st) (ySm (T.x f) (args.map ρ) st) K X:=by
 simp only[wOpX,kOpX,POp.exec,onX,ySp,ySm,POp.execX,POp.callee]
 cases T.i f <;> cases T.x f <;> rfl
def calD(d:D)(ds:List D):Option (Nat×List D):=match d with
 |.clo f caps=>if f<5000000 then some (f,ds++caps)else if f<10000000 then some (f - 5000000,caps++ds)else none
 |_=>none
theorem yqs(T:Tbl)(x:PA)(args:List PA)(ρ:PA→D)(st:St)(K:Cont2 D St)(X:XC0)(f:Nat)(ds:List D)(h:calD (ρ x) (args.map ρ)=some (f,ds)):@wOpX T (.callv x args) ρ st K X=@onX (ySp (T.i f) ds st) (ySm (T.x f) ds st) K X:=by
 simp only[wOpX,kOpX,POp.exec,onX,ySp,ySm,POp.execX,POp.callee]
 unfold calD at h
 split at h
 case h_2=>cases h
 rename_i f' caps hx
 rw[hx]
 simp only
 split at h
 ·rename_i h5
  simp only[Ywh,Ywj]at h
  obtain⟨rfl,rfl⟩:=h
  simp only[if_pos h5]
  cases T.i f' <;> cases T.x f' <;> rfl
 ·rename_i h5
  split at h
  case isFalse=>cases h
  rename_i h10
  simp only[Ywh,Ywj]at h
  obtain⟨rfl,rfl⟩:=h
  simp only[if_neg h5,if_pos h10]
  cases T.i (f' - 5000000) <;> cases T.x (f' - 5000000) <;> rfl
def POp.tame:POp→Bool
 |.icall _ _ | .callv _ _=>false
 |_=>true
theorem yU1(T:Tbl)(op:POp)(ρ:PA→D)(st:St)(K:Cont2 D St)(X:XC0)(h:op.tame=true):@wOpX T op ρ st K X=kOp T op ρ st K.run:=by
 have:op.execX T ρ st=none:=by
  cases op <;> first | rfl | (simp[POp.tame]at h; done)
 simp only[wOpX,kOpX,kOp,on,this]
 cases op.exec T ρ st <;> rfl
def kF(fs:List (Option Foot))(b:Bool)(cs:List Nat)(f:Option Foot)(K:List (Option Foot)→Prop):Prop:=@ifB (ckF fs f cs) ⟨K (fs++[if b then f else none])⟩ ⟨False⟩
theorem yMu{fs:List (Option Foot)}{b:Bool}{cs:List Nat}{f:Option Foot}{K:List (Option Foot)→Prop}(h:kF fs b cs f K):ckF fs f cs=true∧K (fs++[if b then f else none]):=by
 unfold kF ifB at h
 split at h
 ·exact⟨by assumption,h⟩
 ·exact h.elim
theorem yYw{fs:List (Option Foot)}{b:Bool}{cs:List Nat}{f:Option Foot}{K K':List (Option Foot)→Prop}(h:kF fs b cs f K)(hk:∀ fs,K fs→K' fs):kF fs b cs f K':=by
 obtain⟨h1,h2⟩:=yMu h
 unfold kF ifB
 rw[if_pos h1]
 exact hk _ h2
def kAny(G:Glob)(T:Tbl):List (PI×Bool×List Nat)→List (Option Foot)→Frame→St→(Frame→St→Prop)→Prop
 |[],_,fr,st,K=>K fr st
 |i::l,fs,fr,st,K=>kG fr i.1.guard (kF fs i.2.1 i.2.2 (i.1.op.foot (rho G fr) st) fun fs'=>kOp T i.1.op (rho G fr) st fun d st'=>kAny G T l fs' (fr.put i.1.dst d) st' K)
   (kF fs i.2.1 i.2.2 (some yw2) fun fs'=>kAny G T l fs' (fr.put i.1.dst (.tup [])) st K)
theorem yms{G:Glob}{T:Tbl}:∀ (l:List (PI×Bool×List Nat)) (fs:List (Option Foot)) (fr:Frame) (st:St) (K:Frame→St→Prop),kAny G T l fs fr st K→∃ fr' st',anys G T l fs ⟨fr,st⟩=some ⟨fr',st'⟩∧K fr' st'
 |[],_,fr,st,K,h=>⟨fr,st,rfl,h⟩
 |(i,b,cs)::l,fs,fr,st,K,h=>by
  have yes:kF fs b cs (i.op.foot (rho G fr) st) (fun fs'=>kOp T i.op (rho G fr) st fun d st'=>kAny G T l fs' (fr.put i.dst d) st' K)→i.wanted fr=some true→∃ fr' st',anys G T ((i,b,cs)::l) fs ⟨fr,st⟩=some ⟨fr',st'⟩∧K fr' st':=by
   intro h hw
   obtain⟨h1,h⟩:=yMu h
   unfold kOp on at h
   split at h
   ·rename_i p hp
    obtain⟨fr',st',h2,h3⟩:=yms l _ _ _ K h
    have hf:i.foot G ⟨fr,st⟩=i.op.foot (rho G fr) st:=by simp[PI.foot,hw]
    have hx:i.exec G T ⟨fr,st⟩=some ⟨fr.put i.dst p.1,p.2⟩:=by simp only[PI.exec,hw,hp]
    exact⟨fr',st',by simp only[anys,hf,h1,if_true,hx,h2],h3⟩
   ·exact h.elim
  have no:kF fs b cs (some yw2) (fun fs'=>kAny G T l fs' (fr.put i.dst (.tup [])) st K)→i.wanted fr=some false→∃ fr' st',anys G T ((i,b,cs)::l) fs ⟨fr,st⟩=some ⟨fr',st'⟩∧K fr' st':=by
   intro h hw
   obtain⟨h1,h⟩:=yMu h
   obtain⟨fr',st',h2,h3⟩:=yms l _ _ _ K h
   have hf:i.foot G ⟨fr,st⟩=some yw2:=by simp[PI.foot,hw]
   have hx:i.exec G T ⟨fr,st⟩=some ⟨fr.put i.dst (.tup []),st⟩:=by simp only[PI.exec,hw]
   exact⟨fr',st',by simp only[anys,hf,h1,if_true,hx,h2],h3⟩
  rw[kAny]at h
  unfold kG at h
  split at h
  ·rename_i hg
   exact yes h (by simp only at hg; simp[PI.wanted,hg])
  ·rename_i s want hg
   simp only at hg
   split at h
   ·rename_i b hb
    have hw:i.wanted fr=some (b == want):=by simp[PI.wanted,hg,hb]
    cases hbw:(b == want)with
    |true=>rw[hbw]at h hw; exact yes h hw
    |false=>rw[hbw]at h hw; exact no h hw
   ·rename_i hb
    exact no h (by simp[PI.wanted,hg,hb])
   ·exact h.elim
theorem yp0{G:Glob}{T:Tbl}:∀ (l:List (PI×Bool×List Nat)) (fs:List (Option Foot)) (fr:Frame) (st:St) (K K':Frame→St→Prop),kAny G T l fs fr st K→(∀ fr st,K fr st→K' fr st)→kAny G T l fs fr st K'
 |[],_,_,_,_,_,h,hk=>hk _ _ h
 |i::l,fs,fr,st,K,K',h,hk=>by
  have h1:kF fs i.2.1 i.2.2 (i.1.op.foot (rho G fr) st) (fun fs'=>kOp T i.1.op (rho G fr) st fun d st'=>kAny G T l fs' (fr.put i.1.dst d) st' K)→kF fs i.2.1 i.2.2 (i.1.op.foot (rho G fr) st) (fun fs'=>kOp T i.1.op (rho G fr) st fun d st'=>kAny G T l fs' (fr.put i.1.dst d) st' K'):=by
   refine fun h=>yYw h fun fs'=>?_
   unfold kOp on
   split
   ·exact fun h=>yp0 l _ _ _ _ _ h hk
   ·exact id
  have h2:kF fs i.2.1 i.2.2 (some yw2) (fun fs'=>kAny G T l fs' (fr.put i.1.dst (.tup [])) st K)→kF fs i.2.1 i.2.2 (some yw2) (fun fs'=>kAny G T l fs' (fr.put i.1.dst (.tup [])) st K'):=fun h=>yYw h fun fs' h=>yp0 l _ _ _ _ _ h hk
  rw[kAny]at h ⊢
  unfold kG at h ⊢
  revert h
  split
  ·exact h1
  ·split
   ·unfold ifB
    split
    ·exact fun h=>h1 h
    ·exact fun h=>h2 h
   ·exact h2
   ·exact id
class FsC:Type where
 mk::
 run:List (Option Foot)→Prop
def wF(fs:List (Option Foot))(b:Bool)(cs:List Nat)(f:Option Foot)[K:FsC]:Prop:=kF fs b cs f K.run
theorem yal(fs:List (Option Foot))(f:Option Foot)(K:List (Option Foot)→Prop):@wF fs false [] f ⟨K⟩=K (fs++[none]):=(rfl)
def fsE(l:List (Option Foot))[K:FsC]:Prop:=K.run l
theorem Yuu(l:List (Option Foot))(K:List (Option Foot)→Prop):@fsE l ⟨K⟩=K l:=(rfl)
theorem Ykx(fs:List (Option Foot))(f:Foot)(K:FsC):@wF fs true [] (some f) K=@fsE (fs++[some f]) K:=(rfl)
theorem wF_ck(fs:List (Option Foot))(b:Bool)(j:Nat)(cs:List Nat)(f:Foot)(K:FsC):@wF fs b (j::cs) (some f) K=@ifB (ckF fs (some f) (j::cs)) ⟨@fsE (fs++[if b then some f else none]) K⟩ ⟨False⟩:=(rfl)
def yV7(a b:PS)[k:Cont PS]:Prop:=a=b∧k.run a
theorem yRh(a:PS)(K:PS→Prop):@yV7 a a ⟨K⟩=K a:=by simp[yV7]
def W2(keep:List Nat)(n:Nat)(fr1:Frame)(st1:St)(fr2:Frame)(st2:St)(K:PS→Prop):Prop:=
 @ifB (st1.length == n+2 && st2.length == n+2) ⟨@yV7 (restrictAt keep n [n,n+1] ⟨fr1,st1⟩) (restrictAt keep n [n+1,n] ⟨fr2,st2⟩) ⟨K⟩⟩ ⟨False⟩
theorem Yqp{keep:List Nat}{n:Nat}{fr1 fr2:Frame}{st1 st2:St}{K:PS→Prop}(h:W2 keep n fr1 st1 fr2 st2 K):Yd0 keep n ⟨fr1,st1⟩ ⟨fr2,st2⟩=some (restrictAt keep n [n,n+1] ⟨fr1,st1⟩)∧K (restrictAt keep n [n,n+1] ⟨fr1,st1⟩):=by
 unfold W2 ifB at h
 split at h
 ·rename_i hl
  simp only[Bool.and_eq_true,beq_iff_eq]at hl
  obtain⟨h1,h2⟩:=h
  refine⟨?_,h2⟩
  unfold Yd0
  rw[if_pos ⟨hl.1,hl.2,h1.symm⟩]
 ·exact h.elim
theorem Yqq{keep:List Nat}{n:Nat}{fr1 fr2:Frame}{st1 st2:St}{K K':PS→Prop}(h:W2 keep n fr1 st1 fr2 st2 K)(hk:∀ s,K s→K' s):W2 keep n fr1 st1 fr2 st2 K':=by
 unfold W2 ifB at h ⊢
 split at h
 ·rename_i hl
  rw[if_pos hl]
  exact⟨h.1,hk _ h.2⟩
 ·exact h.elim
def wAny(G:Glob)(T:Tbl)(l:List (PI×Bool×List Nat))(fs:List (Option Foot))(fr:Frame)(st:St)[K:Cont2 Frame St]:Prop:=kAny G T l fs fr st K.run
def wOps(G:Glob)(T:Tbl)(l:List PI)(fr:Frame)(st:St)[K:Cont2 Frame St]:Prop:=kOps G T l fr st K.run
def wOp(T:Tbl)(op:POp)(ρ:PA→D)(st:St)[K:Cont2 D St]:Prop:=kOp T op ρ st K.run
def kV(d:D)(want:Bool)[x:Br][y:Br]:Prop:=match d with
 |.bool b=>@ifB (b == want) x y
 |.tup []=>y.run
 |_=>False
theorem Yc2(G:Glob)(T:Tbl)(fr:Frame)(st:St)(K:Frame→St→Prop):@wOps G T [] fr st ⟨K⟩=K fr st:=(rfl)
theorem yQz(G:Glob)(T:Tbl)(dst:Option Nat)(op:POp)(l:List PI)(fr:Frame)(st:St)(K:Cont2 Frame St) :
  @wOps G T ({dst,op,guard:=none}::l) fr st K=@wOp T op (rho G fr) st ⟨fun d st'=>@wOps G T l (fr.put dst d) st' K⟩:=(rfl)
theorem yQ0(G:Glob)(T:Tbl)(dst:Option Nat)(op:POp)(s:Nat)(want:Bool)(l:List PI)(fr:Frame)(st:St)(K:Cont2 Frame St) :
  @wOps G T ({dst,op,guard:=some (s,want)}::l) fr st K=@kV (fr s) want ⟨@wOp T op (rho G fr) st ⟨fun d st'=>@wOps G T l (fr.put dst d) st' K⟩⟩ ⟨@wOps G T l (fr.put dst (.tup [])) st K⟩:=(rfl)
theorem yKx(G:Glob)(T:Tbl)(dst:Option Nat)(op:POp)(l:List PI)(fr:Frame)(st:St)(K:Cont2 Frame St)(X:XC) :
  @yG0 G T ({dst,op,guard:=none}::l) fr st K X=@wOpX T op (rho G fr) st ⟨fun d st'=>@yG0 G T l (fr.put dst d) st' K X⟩ ⟨fun t d st'=>X.run t d fr st'⟩:=(rfl)
theorem yKy(G:Glob)(T:Tbl)(dst:Option Nat)(op:POp)(s:Nat)(want:Bool)(l:List PI)(fr:Frame)(st:St)(K:Cont2 Frame St)(X:XC) :
  @yG0 G T ({dst,op,guard:=some (s,want)}::l) fr st K X=@kV (fr s) want ⟨@wOpX T op (rho G fr) st ⟨fun d st'=>@yG0 G T l (fr.put dst d) st' K X⟩ ⟨fun t d st'=>X.run t d fr st'⟩⟩ ⟨@yG0 G T l (fr.put dst (.tup [])) st K X⟩:=(rfl)
theorem Ykw(T:Tbl)(op:POp)(ρ:PA→D)(st:St)(K:D→St→Prop)(X:XC0)(h:op.tame=true):@wOpX T op ρ st ⟨K⟩ X=@wOp T op ρ st ⟨K⟩:=yU1 T op ρ st ⟨K⟩ X h
theorem Yc4(G:Glob)(T:Tbl)(fs:List (Option Foot))(fr:Frame)(st:St)(K:Frame→St→Prop):@wAny G T [] fs fr st ⟨K⟩=K fr st:=(rfl)
theorem yQ2(G:Glob)(T:Tbl)(dst:Option Nat)(op:POp)(b:Bool)(cs:List Nat)(l:List (PI×Bool×List Nat))(fs:List (Option Foot))(fr:Frame)(st:St)(K:Cont2 Frame St) :
  @wAny G T (({dst,op,guard:=none},b,cs)::l) fs fr st K=@wF fs b cs (op.foot (rho G fr) st) ⟨fun fs'=>@wOp T op (rho G fr) st ⟨fun d st'=>@wAny G T l fs' (fr.put dst d) st' K⟩⟩:=(rfl)
theorem yQ3(G:Glob)(T:Tbl)(dst:Option Nat)(op:POp)(s:Nat)(want:Bool)(b:Bool)(cs:List Nat)(l:List (PI×Bool×List Nat))(fs:List (Option Foot))(fr:Frame)(st:St)(K:Cont2 Frame St) :
  @wAny G T (({dst,op,guard:=some (s,want)},b,cs)::l) fs fr st K=@kV (fr s) want ⟨@wF fs b cs (op.foot (rho G fr) st) ⟨fun fs'=>@wOp T op (rho G fr) st ⟨fun d st'=>@wAny G T l fs' (fr.put dst d) st' K⟩⟩⟩ ⟨@wF fs b cs (some yw2) ⟨fun fs'=>@wAny G T l fs' (fr.put dst (.tup [])) st K⟩⟩:=(rfl)
theorem Yno(b:Bool)(x y:Br):@kV (.bool b) true x y=@ifB b x y:=by cases b <;> rfl
theorem Yge(b:Bool)(x y:Br):@kV (.bool b) false x y=@ifB b y x:=by cases b <;> rfl
theorem Yt9(want:Bool)(x:Br)(y:Prop):@kV (.tup []) want x ⟨y⟩=y:=(rfl)
section
variable (T:Tbl) (ρ:PA→D) (st:St) (K:D→St→Prop)
theorem yf3{α β:Type}(o:Option α)(f:α→β)(K:β→Prop):@on β (o.map f) ⟨K⟩=@on α o ⟨fun a=>K (f a)⟩:=by cases o <;> rfl
theorem k_mov(x:PA):@wOp T (.mov x) ρ st ⟨K⟩=@ev (ρ x) ⟨fun d=>K d st⟩:=(rfl)
def yW8(c x y:D):Option D:=match c with
 |.bool b=>some (if b then x else y)
 |_=>none
theorem yR7(x y:D):yW8 (.bool true) x y=some x:=(rfl)
theorem yL9(x y:D):yW8 (.bool false) x y=some y:=(rfl)
theorem yR8(b c e:Bool):yW8 (.bool b) (.bool c) (.bool e)=some (.bool (if b then c else e)):=by cases b <;> rfl
theorem Yty(c x y:PA):@wOp T (.pick c x y) ρ st ⟨K⟩=@on _ (yW8 (ρ c) (ρ x) (ρ y)) ⟨fun d=>K d st⟩:=by
 simp only[wOp,kOp,POp.exec,yW8]
 cases ρ c <;> rfl
def boxD(d:D):Option (List D):=if d.cells.all D.isCell then some d.cells else none
theorem k_box(x:PA):@wOp T (.box x) ρ st ⟨K⟩=@on _ (boxD (ρ x)) ⟨fun cs=>@ev2 (.ptr st.length 0) (st++[{row:=false,sz:=1,els:=cs,lent:=false}]) ⟨K⟩⟩:=by
 simp only[wOp,kOp,POp.exec,boxD]
 split <;> rfl
theorem k_bld(zero:List D)(parts:List (Nat×Nat×PA)):@wOp T (.bld zero parts) ρ st ⟨K⟩=@on _ (yar zero (parts.map fun p=>(p.1,p.2.1,ρ p.2.2))) ⟨fun cs=>K (.agg cs) st⟩:=by
 simp only[wOp,kOp,POp.exec,yf3]
def litD(sz:Nat)(els:List D):Option D:=if(els.all fun e=>e.cells.length == sz) && decide (0<sz) && decide (els.length*sz≤16777216)then some (.slc sz els true)else none
theorem Yt8(sz:Nat)(parts:List PA):@wOp T (.bslc sz parts) ρ st ⟨K⟩=@on _ (imms st (parts.map ρ)) ⟨fun els=>@on _ (litD sz els) ⟨fun d=>@ev2 d (lend ((parts.map ρ).flatMap keys) st) ⟨K⟩⟩⟩:=by
 simp only[wOp,kOp,POp.exec]
 cases imms st (parts.map ρ)with
 |none=>rfl
 |some els=>
  simp only[on]
  by_cases h:((els.all fun e=>e.cells.length == sz) && decide (0<sz) && decide (els.length*sz≤16777216))=true
  ·simp only[litD,h,if_true]; rfl
  ·simp only[litD,h,Bool.false_eq_true,if_false]
theorem Yt0(n:Nat)(ag:Bool)(p:PA):@wOp T (.load n ag p) ρ st ⟨K⟩=@on _ (ydd st n ag (ρ p)) ⟨fun d=>K d st⟩:=by
 simp only[wOp,kOp,POp.exec,yf3]
theorem Ytx(n:Nat)(p x:PA):@wOp T (.stor n p x) ρ st ⟨K⟩=@on _ (yxh st n (ρ p) (ρ x)) ⟨fun st'=>K (.tup []) st'⟩:=by
 simp only[wOp,kOp,POp.exec,yf3]
def Ymm(st:St)(d:D):Option D:=match d with
 |.ptr _ _ | .eptr _ _=>some d
 |.rptr key tot _ _=>if live st key tot then some d else none
 |_=>none
theorem Ytz(x:PA):@wOp T (.nilc x) ρ st ⟨K⟩=@on _ (Ymm st (ρ x)) ⟨fun d=>K d st⟩:=by
 simp only[wOp,kOp,POp.exec,Ymm]
 cases ρ x with
 |rptr key tot i off=>
  simp only
  split <;> rfl
 |_=>rfl
theorem k_bin(op:BinOp)(x y:PA):@wOp T (.bin op x y) ρ st ⟨K⟩=@on _ (pbin op (ρ x) (ρ y)) ⟨fun d=>K d st⟩:=by
 simp only[wOp,kOp,POp.exec,yf3]
theorem k_beq(neg:Bool)(x y:PA):@wOp T (.beq neg x y) ρ st ⟨K⟩=@on _ (pbeq neg (ρ x) (ρ y)) ⟨fun d=>K d st⟩:=by
 simp only[wOp,kOp,POp.exec,yf3]
theorem k_aeq(ks:List Nat)(neg:Bool)(x y:PA):@wOp T (.aeq ks neg x y) ρ st ⟨K⟩=@on _ (paeq ks neg (ρ x) (ρ y)) ⟨fun d=>K d st⟩:=by
 simp only[wOp,kOp,POp.exec,yf3]
theorem k_un(op:UnOp)(x:PA):@wOp T (.un op x) ρ st ⟨K⟩=@on _ (pun op (ρ x)) ⟨fun d=>K d st⟩:=by
 simp only[wOp,kOp,POp.exec,yf3]
theorem Yt6(c:PConv)(x:PA):@wOp T (.conv c x) ρ st ⟨K⟩=@on _ (yde st c (ρ x)) ⟨fun d=>K d st⟩:=by
 simp only[wOp,kOp,POp.exec,yf3]
def yzr(sz bytes:Nat)(zero ln cp:D):Option (Nat×Obj):=match yd5 ln,yd5 cp with
 |some l,some c=>if l≤c∧c≤4294967296∧c*bytes≤140737488355328∧0<sz∧zero.cells.length=sz∧zero.cells.all D.pure1=true then
   some (l,{row:=true,sz,els:=List.replicate l zero,lent:=false})else none
 |_,_=>none
theorem Ynh(sz bytes:Nat)(zero:D)(ln cp:PA):@wOp T (.mkslc sz bytes zero ln cp) ρ st ⟨K⟩=@on _ (yzr sz bytes zero (ρ ln) (ρ cp)) ⟨fun r=>@ev2 (.row st.length r.1 0 r.1) (st++[r.2]) ⟨K⟩⟩:=by
 simp only[wOp,kOp,POp.exec,yzr]
 cases yd5 (ρ ln)with
 |none=>rfl
 |some l=>
  cases yd5 (ρ cp)with
  |none=>rfl
  |some c=>
   simp only
   split <;> rfl
theorem Ynf(sz:Nat)(x:PA)(lo hi mx:Option PA):@wOp T (.slice sz x lo hi mx) ρ st ⟨K⟩=@on _ (yc6 st sz (ρ x) (lo.map ρ) (hi.map ρ) (mx.map ρ)) ⟨fun d=>K d st⟩:=by
 simp only[wOp,kOp,POp.exec,yf3]
theorem Ygc(n sz:Nat)(ag:Bool)(x:PA)(lo hi:Option PA):@wOp T (.sliceA n sz ag x lo hi) ρ st ⟨K⟩=@on _ (ypt n sz ag (ρ x) (lo.map ρ) (hi.map ρ)) ⟨fun d=>K d st⟩:=by
 simp only[wOp,kOp,POp.exec,yf3]
theorem k_fld(off:Nat)(p:PA):@wOp T (.fld off p) ρ st ⟨K⟩=@on _ (pfld st off (ρ p)) ⟨fun d=>K d st⟩:=by
 simp only[wOp,kOp,POp.exec,yf3]
theorem Yt5(off n:Nat)(ag:Bool)(x:PA):@wOp T (.fldv off n ag x) ρ st ⟨K⟩=@on _ (yzj off n ag (ρ x)) ⟨fun d=>K d st⟩:=by
 simp only[wOp,kOp,POp.exec,yf3]
theorem Yt3(sz:Nat)(x i:PA):@wOp T (.idxS sz x i) ρ st ⟨K⟩=@on _ (yfw st sz (ρ x) (ρ i)) ⟨fun d=>K d st⟩:=by
 simp only[wOp,kOp,POp.exec,yf3]
theorem Yt4(n sz:Nat)(p i:PA):@wOp T (.idxA n sz p i) ρ st ⟨K⟩=@on _ (ymn st n sz (ρ p) (ρ i)) ⟨fun d=>K d st⟩:=by
 simp only[wOp,kOp,POp.exec,yf3]
theorem k_idx(x i:PA):@wOp T (.idx x i) ρ st ⟨K⟩=@on _ (pidx (ρ x) (ρ i)) ⟨fun d=>K d st⟩:=by
 simp only[wOp,kOp,POp.exec,yf3]
theorem Yt2(ln sz:Nat)(ag:Bool)(x i:PA):@wOp T (.idxV ln sz ag x i) ρ st ⟨K⟩=@on _ (yIf ln sz ag (ρ x) (ρ i)) ⟨fun d=>K d st⟩:=by
 simp only[wOp,kOp,POp.exec,yf3]
def lenD(st:St)(str:Bool)(d:D):Option D:=if yp1 d == str then(sLen st d).map fun(n:Nat)=>D.int .i64 (n:Int)else none
theorem k_len(str:Bool)(x:PA):@wOp T (.len str x) ρ st ⟨K⟩=@on _ (lenD st str (ρ x)) ⟨fun d=>K d st⟩:=by
 simp only[wOp,kOp,POp.exec,lenD]
 split
 ·simp only[yf3]
 ·rfl
theorem Yt1(n:Nat):@wOp T (.lenA n) ρ st ⟨K⟩=@ev (.int .i64 (n:Int)) ⟨fun d=>K d st⟩:=(rfl)
theorem k_app(sz bytes:Nat)(s x:PA):@wOp T (.app sz bytes s x) ρ st ⟨K⟩=@on _ (papp st sz bytes (ρ s) (ρ x)) ⟨fun r=>K r.1 r.2⟩:=(rfl)
def yX2(sz:Nat):Option Obj:=if 1<sz∧sz≠1000003 then some {row:=false,sz,els:=[],lent:=false} else none
theorem Yni(sz:Nat):@wOp T (.mkmap sz) ρ st ⟨K⟩=@on _ (yX2 sz) ⟨fun o=>@ev2 (.mapv st.length) (st++[o]) ⟨K⟩⟩:=by
 simp only[wOp,kOp,POp.exec,yX2]
 split <;> rfl
theorem Ynl(sz:Nat)(ks:List Nat)(m k v:PA):@wOp T (.mapup sz ks m k v) ρ st ⟨K⟩=@on _ (yCg st sz ks (ρ m) (ρ k) (ρ v)) ⟨fun st'=>K (.tup []) st'⟩:=by
 simp only[wOp,kOp,POp.exec,yf3]
theorem Ygd(sz:Nat)(ks:List Nat)(ok:Bool)(zero:D)(m k:PA):@wOp T (.mapget sz ks ok zero m k) ρ st ⟨K⟩=@on _ (ydz st sz ks ok zero (ρ m) (ρ k)) ⟨fun d=>K d st⟩:=by
 simp only[wOp,kOp,POp.exec,yf3]
theorem k_cpy(sz:Nat)(d s:PA):@wOp T (.cpy sz d s) ρ st ⟨K⟩=@on _ (pcpy st sz (ρ d) (ρ s)) ⟨fun r=>K r.1 r.2⟩:=(rfl)
def mmD(isMax:Bool)(x y:D):Option D:=match x,y with
 |.int k a,.int _ b=>some (.int k (if isMax then(if b > a then b else a)else(if b<a then b else a)))
 |_,_=>none
theorem k_mm(isMax:Bool)(x y:PA):@wOp T (.mm isMax x y) ρ st ⟨K⟩=@on _ (mmD isMax (ρ x) (ρ y)) ⟨fun d=>K d st⟩:=by
 simp only[wOp,kOp,POp.exec,mmD]
 cases ρ x with
 |int k a=>cases ρ y <;> rfl
 |_=>rfl
def mm3D(isMax:Bool)(x y z:D):Option D:=match x,y,z with
 |.int k a,.int _ b,.int _ c=>some (.int k (mm1 isMax (mm1 isMax a b) c))
 |_,_,_=>none
theorem k_mm3(isMax:Bool)(x y z:PA):@wOp T (.mm3 isMax x y z) ρ st ⟨K⟩=@on _ (mm3D isMax (ρ x) (ρ y) (ρ z)) ⟨fun d=>K d st⟩:=by
 simp only[wOp,kOp,POp.exec,mm3D]
 cases ρ x with
 |int k a=>cases ρ y <;> first | rfl | (cases ρ z <;> rfl)
 |_=>rfl
theorem Yng(f:Nat)(args:List PA):@wOp T (.rcall f args) ρ st ⟨K⟩=@on _ (T.q f) ⟨fun sp=>@on _ (yfr sp (args.map ρ) st) ⟨fun d=>K d st⟩⟩:=by
 simp only[wOp,kOp,POp.exec]
 cases T.q f with
 |none=>rfl
 |some sp=>simp only[yXm,yf3]
theorem Ynm(f:Nat)(args:List PA):@wOp T (.icall f args) ρ st ⟨K⟩=@on _ (T.i f) ⟨fun sp=>@on _ (sp (args.map ρ) st) ⟨fun r=>K r.1 r.2⟩⟩:=by
 simp only[wOp,kOp,POp.exec]
 cases T.i f <;> rfl
def cloD(T:Tbl)(d:D):Option ((List D→St→Option (D×St))×List D×List D):=match d with
 |.clo f caps=>if f<5000000 then(T.i f).map fun sp=>(sp,[],caps)else if f<10000000 then(T.i (f - 5000000)).map fun sp=>(sp,caps,[])else if caps.isEmpty then some (T.y (f - 10000000),[],[])else none
 |_=>none
theorem Ynk(f:Nat)(args:List PA):@wOp T (.mcall f args) ρ st ⟨K⟩=@on _ (T.m f) ⟨fun sp=>@on _ (sp (args.map ρ)) ⟨fun r=>@ev2 (r.1 st.length) (st++r.2 st.length) ⟨K⟩⟩⟩:=by
 simp only[wOp,kOp,POp.exec]
 cases T.m f with
 |none=>rfl
 |some sp=>
  simp only[on]
  cases sp (args.map ρ) <;> rfl
theorem Ynn(x:PA)(args:List PA):@wOp T (.callv x args) ρ st ⟨K⟩=@on _ (cloD T (ρ x)) ⟨fun p=>@on _ (p.1 (p.2.1++(args.map ρ++p.2.2)) st) ⟨fun r=>K r.1 r.2⟩⟩:=by
 simp only[wOp,kOp,POp.exec,cloD]
 cases ρ x with
 |clo f caps=>
  simp only
  by_cases h5:f<5000000
  ·simp only[if_pos h5]
   cases T.i f <;> rfl
  ·by_cases h:f<10000000
   ·simp only[if_neg h5,if_pos h]
    cases T.i (f - 5000000)with
    |none=>rfl
    |some sp=>simp only[Option.map_some,on,List.append_nil]
   ·simp only[if_neg h5,if_neg h]
    cases caps with
    |nil=>simp only[List.isEmpty_nil,if_true,on,List.append_nil,List.nil_append]
    |cons a l=>rfl
 |_=>rfl
theorem Ynj(f:Nat)(caps:List PA):@wOp T (.mkclo f caps) ρ st ⟨K⟩=@ev (.clo f (caps.map ρ)) ⟨fun d=>K d st⟩:=(rfl)
theorem Yt7(f:Nat)(args:List PA):@wOp T (.call f args) ρ st ⟨K⟩=@on _ (T.p f) ⟨fun sp=>@on _ (imms st (args.map ρ)) ⟨fun vs=>@on _ (sp vs) ⟨fun r=>@ev2 r (if r.noRef then st else lend ((args.map ρ).flatMap keys) st) ⟨K⟩⟩⟩⟩:=by
 simp only[wOp,kOp,POp.exec]
 cases T.p f with
 |none=>rfl
 |some sp=>
  cases imms st (args.map ρ)with
  |none=>rfl
  |some vs=>
   simp only[on]
   cases sp vs <;> rfl
def extD(d:D)(i:Nat):Option D:=match d with
 |.tup vs=>vs[i]?
 |_=>none
theorem k_ext(x:PA)(i:Nat):@wOp T (.ext x i) ρ st ⟨K⟩=@on _ (extD (ρ x) i) ⟨fun d=>K d st⟩:=by
 simp only[wOp,kOp,POp.exec,extD]
 cases ρ x with
 |tup vs=>simp only[yf3]
 |_=>rfl
theorem Yu0(a:D)(l:List D):extD (.tup (a::l)) 0=some a:=(rfl)
theorem Yuz(a b:D)(l:List D):extD (.tup (a::b::l)) 1=some b:=(rfl)
theorem Yuy(a b c:D)(l:List D):extD (.tup (a::b::c::l)) 2=some c:=(rfl)
end
theorem Yeo(fr:Frame)(s:Nat)(d:D):fr.put (some s) d=fr.set s d:=(rfl)
theorem Yep(fr:Frame)(d:D):fr.put none d=fr:=(rfl)
theorem rho_s(G:Glob)(fr:Frame)(n:Nat):rho G fr (.s n)=fr n:=(rfl)
theorem rho_c(G:Glob)(fr:Frame)(d:D):rho G fr (.c d)=d:=(rfl)
theorem ypb(G:Glob)(fr:Frame)(n:Nat)(d:D)(h:G n=some d):rho G fr (.g n)=.eptr d 0:=by simp[rho,h]
theorem Yv4(a:D)(l:List D):argF (a::l) 0=a:=(rfl)
theorem Yv3(a b:D)(l:List D):argF (a::b::l) 1=b:=(rfl)
theorem Yv2(a b c:D)(l:List D):argF (a::b::c::l) 2=c:=(rfl)
theorem Yv1(a b c d:D)(l:List D):argF (a::b::c::d::l) 3=d:=(rfl)
theorem Yv0(a b c d e:D)(l:List D):argF (a::b::c::d::e::l) 4=e:=(rfl)
theorem Yvz(a b c d e f:D)(l:List D):argF (a::b::c::d::e::f::l) 5=f:=(rfl)
theorem Yvy(a b c d e f g:D)(l:List D):argF (a::b::c::d::e::f::g::l) 6=g:=(rfl)
theorem Yvx(a b c d e f g h:D)(l:List D):argF (a::b::c::d::e::f::g::h::l) 7=h:=(rfl)
def yBl(B:Frame→St→(Ex→Frame→St→Prop)→Prop)(cut:PS→PS):Nat→PS→(Ex→Frame→St→Prop)→Prop
 |0,_,_=>False
 |n+1,s,Q=>B (cut s).fr (cut s).st fun e fr st=>match e with
  |.next=>yBl B cut n ⟨fr,st⟩ Q
  |e=>Q e fr st
def W(G:Glob)(T:Tbl):PC→Frame→St→(Ex→Frame→St→Prop)→Prop
 |.skip,fr,st,Q=>Q .next fr st
 |.ops l,fr,st,Q=>kOps G T l fr st (Q .next)
 |.any l,fr,st,Q=>kAny G T l [] fr st (Q .next)
 |.any2 keep l1 l2,fr,st,Q=>kAny G T l1 [] fr st fun fr1 st1=>kAny G T l2 [] fr st fun fr2 st2=>W2 keep st.length fr1 st1 fr2 st2 fun s=>Q .next s.fr s.st
 |.seq a b,fr,st,Q=>W G T a fr st fun e fr' st'=>match e with
  |.next=>W G T b fr' st' Q
  |e=>Q e fr' st'
 |.cond c a b,fr,st,Q=>@onB (rho G fr c) ⟨fun v=>@ifB v ⟨W G T a fr st Q⟩ ⟨W G T b fr st Q⟩⟩
 |.block id c,fr,st,Q=>W G T c fr st fun e fr' st'=>match e with
  |.exit id'=>if id'=id then Q .next fr' st' else Q (.exit id') fr' st'
  |e=>Q e fr' st'
 |.loop keep c,fr,st,Q=>∃ n,yBl (W G T c) (restrict keep st.length) n ⟨fr,st⟩ Q
 |.loopA keep c,fr,st,Q=>∃ n,yBl (W G T c) (keepAll keep) n ⟨fr,st⟩ Q
 |.opsX l,fr,st,Q=>yxj G T l fr st (Q .next) (fun t d=>Q (.panic t d))
 |.pan l d1 t x,fr,st,Q=>kOps G T l fr st fun fr' st'=>@ifB (yv6 (rho G fr' x)) ⟨Q (.panic t (rho G fr' x)) (fr'.set d1 .junk) st'⟩ ⟨False⟩
 |.alt a b,fr,st,Q=>W G T a fr st Q∨(a.exec G T 0 ⟨fr,st⟩=none∧(∀ m,a.exec G T m ⟨fr,st⟩=none)∧W G T b fr st Q)
 |.range x ps a b,fr,st,Q=>∃ (n:Nat) (st':St) (e:Ex),(∀ m,n≤m→yE6 T (rho G fr x) (yOh (a.exec G T m) (b.exec G T m) fr ps st.length) (st++[recO 0])=some st')∧Yl7 st' st.length=some e∧Q e fr (st'.set st.length (recO 2))
 |.exit id,fr,st,Q=>Q (.exit id) fr st
 |.ret,fr,st,Q=>Q .ret fr st
 |.fail,_,_,_=>False
theorem yh7{G:Glob}{T:Tbl}:∀ (c:PC) (fr:Frame) (st:St) (Q:Ex→Frame→St→Prop),W G T c fr st Q→
  ∃ (n:Nat) (e:Ex) (fr':Frame) (st':St),(∀ m,n≤m→c.exec G T m ⟨fr,st⟩=some (e,⟨fr',st'⟩))∧Q e fr' st'
 |.skip,fr,st,Q,h=>⟨0,.next,fr,st,fun _ _=>rfl,h⟩
 |.ops l,fr,st,Q,h=>by
  obtain⟨fr',st',h1,h2⟩:=ymr l fr st _ h
  exact⟨0,.next,fr',st',fun m _=>by simp only[PC.exec,h1],h2⟩
 |.any l,fr,st,Q,h=>by
  obtain⟨fr',st',h1,h2⟩:=yms l [] fr st _ h
  exact⟨0,.next,fr',st',fun m _=>by simp only[PC.exec,h1],h2⟩
 |.any2 keep l1 l2,fr,st,Q,h=>by
  obtain⟨fr1,st1,h1,h2⟩:=yms l1 [] fr st _ h
  obtain⟨fr2,st2,h3,h4⟩:=yms l2 [] fr st _ h2
  obtain⟨h5,h6⟩:=Yqp h4
  exact⟨0,.next,_,_,fun m _=>by simp only[PC.exec,h1,h3,h5,Option.map_some],h6⟩
 |.seq a b,fr,st,Q,h=>by
  obtain⟨n,e,fr',st',h1,h2⟩:=yh7 a fr st _ h
  cases e with
  |next=>
   obtain⟨n',e',fr'',st'',h3,h4⟩:=yh7 b fr' st' _ h2
   exact⟨n+n',e',fr'',st'',fun m hm=>by simp only[PC.exec,h1 m (by omega),h3 m (by omega)],h4⟩
  |exit id=>exact⟨n,.exit id,fr',st',fun m hm=>by simp only[PC.exec,h1 m hm],h2⟩
  |ret=>exact⟨n,.ret,fr',st',fun m hm=>by simp only[PC.exec,h1 m hm],h2⟩
  |panic t d=>exact⟨n,.panic t d,fr',st',fun m hm=>by simp only[PC.exec,h1 m hm],h2⟩
 |.cond c a b,fr,st,Q,h=>by
  simp only[W,onB]at h
  split at h
  ·rename_i v hv
   cases v with
   |true=>
    obtain⟨n,e,fr',st',h1,h2⟩:=yh7 a fr st _ h
    exact⟨n,e,fr',st',fun m hm=>by simp only[PC.exec,hv,h1 m hm],h2⟩
   |false=>
    obtain⟨n,e,fr',st',h1,h2⟩:=yh7 b fr st _ h
    exact⟨n,e,fr',st',fun m hm=>by simp only[PC.exec,hv,h1 m hm],h2⟩
  ·exact h.elim
 |.block id c,fr,st,Q,h=>by
  obtain⟨n,e,fr',st',h1,h2⟩:=yh7 c fr st _ h
  cases e with
  |next=>exact⟨n,.next,fr',st',fun m hm=>by simp only[PC.exec,h1 m hm],h2⟩
  |ret=>exact⟨n,.ret,fr',st',fun m hm=>by simp only[PC.exec,h1 m hm],h2⟩
  |panic t d=>exact⟨n,.panic t d,fr',st',fun m hm=>by simp only[PC.exec,h1 m hm],h2⟩
  |exit id'=>
   simp only at h2
   split at h2
   ·rename_i hi
    exact⟨n,.next,fr',st',fun m hm=>by simp only[PC.exec,h1 m hm,hi,if_true],h2⟩
   ·rename_i hi
    exact⟨n,.exit id',fr',st',fun m hm=>by simp only[PC.exec,h1 m hm,hi,if_false],h2⟩
 |.loop keep c,fr,st,Q,h=>by
  obtain⟨k,h⟩:=h
  have key:∀ (k:Nat) (s:PS),yBl (W G T c) (restrict keep st.length) k s Q→∃ (n:Nat) (e:Ex) (fr':Frame) (st':St),(∀ m q,n≤m→k≤q→ypx (c.exec G T m) (restrict keep st.length) q s=some (e,⟨fr',st'⟩))∧Q e fr' st':=by
   intro k
   induction k with
   |zero=>intro s h; exact h.elim
   |succ k ih=>
    intro s h
    obtain⟨n,e,fr',st',h1,h2⟩:=yh7 c _ _ _ h
    have h1':∀ m,n≤m→c.exec G T m (restrict keep st.length s)=some (e,⟨fr',st'⟩):=h1
    cases e with
    |next=>
     obtain⟨n',e',fr'',st'',h3,h4⟩:=ih _ h2
     refine⟨n+n',e',fr'',st'',fun m q hm hq=>?_,h4⟩
     obtain⟨q,rfl⟩:∃ q',q=q'+1:=⟨q - 1,by omega⟩
     simp only[ypx,h1' m (by omega)]
     exact h3 m q (by omega) (by omega)
    |exit id=>
     refine⟨n,.exit id,fr',st',fun m q hm hq=>?_,h2⟩
     obtain⟨q,rfl⟩:∃ q',q=q'+1:=⟨q - 1,by omega⟩
     simp only[ypx,h1' m hm]
    |ret=>
     refine⟨n,.ret,fr',st',fun m q hm hq=>?_,h2⟩
     obtain⟨q,rfl⟩:∃ q',q=q'+1:=⟨q - 1,by omega⟩
     simp only[ypx,h1' m hm]
    |panic t d=>
     refine⟨n,.panic t d,fr',st',fun m q hm hq=>?_,h2⟩
     obtain⟨q,rfl⟩:∃ q',q=q'+1:=⟨q - 1,by omega⟩
     simp only[ypx,h1' m hm]
  obtain⟨n,e,fr',st',h1,h2⟩:=key k _ h
  exact⟨n+k,e,fr',st',fun m hm=>by simp only[PC.exec]; exact h1 m m (by omega) (by omega),h2⟩
 |.loopA keep c,fr,st,Q,h=>by
  obtain⟨k,h⟩:=h
  have key:∀ (k:Nat) (s:PS),yBl (W G T c) (keepAll keep) k s Q→∃ (n:Nat) (e:Ex) (fr':Frame) (st':St),(∀ m q,n≤m→k≤q→ypx (c.exec G T m) (keepAll keep) q s=some (e,⟨fr',st'⟩))∧Q e fr' st':=by
   intro k
   induction k with
   |zero=>intro s h; exact h.elim
   |succ k ih=>
    intro s h
    obtain⟨n,e,fr',st',h1,h2⟩:=yh7 c _ _ _ h
    have h1':∀ m,n≤m→c.exec G T m (keepAll keep s)=some (e,⟨fr',st'⟩):=h1
    cases e with
    |next=>
     obtain⟨n',e',fr'',st'',h3,h4⟩:=ih _ h2
     refine⟨n+n',e',fr'',st'',fun m q hm hq=>?_,h4⟩
     obtain⟨q,rfl⟩:∃ q',q=q'+1:=⟨q - 1,by omega⟩
     simp only[ypx,h1' m (by omega)]
     exact h3 m q (by omega) (by omega)
    |exit id=>
     refine⟨n,.exit id,fr',st',fun m q hm hq=>?_,h2⟩
     obtain⟨q,rfl⟩:∃ q',q=q'+1:=⟨q - 1,by omega⟩
     simp only[ypx,h1' m hm]
    |ret=>
     refine⟨n,.ret,fr',st',fun m q hm hq=>?_,h2⟩
     obtain⟨q,rfl⟩:∃ q',q=q'+1:=⟨q - 1,by omega⟩
     simp only[ypx,h1' m hm]
    |panic t d=>
     refine⟨n,.panic t d,fr',st',fun m q hm hq=>?_,h2⟩
     obtain⟨q,rfl⟩:∃ q',q=q'+1:=⟨q - 1,by omega⟩
     simp only[ypx,h1' m hm]
  obtain⟨n,e,fr',st',h1,h2⟩:=key k _ h
  exact⟨n+k,e,fr',st',fun m hm=>by simp only[PC.exec]; exact h1 m m (by omega) (by omega),h2⟩
 |.range x ps a b,fr,st,Q,h=>by
  obtain⟨n,st',e,h1,h3,h2⟩:=h
  exact⟨n,e,fr,_,fun m hm=>by simp only[PC.exec,h1 m hm,Option.bind_some,h3,Option.map_some],h2⟩
 |.opsX l,fr,st,Q,h=>by
  rcases yss l fr st _ _ h with⟨fr',st',h1,h2⟩ | ⟨t,d,fr',st',h1,h2,h3⟩
  ·exact⟨0,.next,fr',st',fun m _=>by simp only[PC.exec,h1],h2⟩
  ·exact⟨0,.panic t d,fr',st',fun m _=>by simp only[PC.exec,h1,h2,Option.map_some],h3⟩
 |.pan l d1 t x,fr,st,Q,h=>by
  obtain⟨fr',st',h1,h2⟩:=ymr l fr st _ h
  unfold ifB at h2
  split at h2
  ·rename_i hi
   exact⟨0,.panic t (rho G fr' x),fr'.set d1 .junk,st',fun m _=>by simp only[PC.exec,h1,hi,if_true],h2⟩
  ·exact h2.elim
 |.alt a b,fr,st,Q,h=>by
  rcases h with h | ⟨_,h1,h⟩
  ·obtain⟨n,e,fr',st',h1,h2⟩:=yh7 a fr st _ h
   exact⟨n,e,fr',st',fun m hm=>by simp only[PC.exec,h1 m hm],h2⟩
  ·obtain⟨n,e,fr',st',h2,h3⟩:=yh7 b fr st _ h
   exact⟨n,e,fr',st',fun m hm=>by simp only[PC.exec,h1 m,h2 m hm],h3⟩
 |.exit id,fr,st,Q,h=>⟨0,.exit id,fr,st,fun _ _=>rfl,h⟩
 |.ret,fr,st,Q,h=>⟨0,.ret,fr,st,fun _ _=>rfl,h⟩
 |.fail,_,_,_,h=>h.elim
theorem yur{G:Glob}{T:Tbl}:∀ (l:List PI) (fr:Frame) (st:St) (K K':Frame→St→Prop),kOps G T l fr st K→(∀ fr st,K fr st→K' fr st)→kOps G T l fr st K'
 |[],_,_,_,_,h,hk=>hk _ _ h
 |i::l,fr,st,K,K',h,hk=>by
  have h1:kOp T i.op (rho G fr) st (fun d st'=>kOps G T l (fr.put i.dst d) st' K)→kOp T i.op (rho G fr) st (fun d st'=>kOps G T l (fr.put i.dst d) st' K'):=by
   unfold kOp on
   split
   ·exact fun h=>yur l _ _ _ _ h hk
   ·exact id
  have h2:kOps G T l (fr.put i.dst (.tup [])) st K→kOps G T l (fr.put i.dst (.tup [])) st K':=fun h=>yur l _ _ _ _ h hk
  rw[kOps]at h ⊢
  unfold kG at h ⊢
  split
  ·simp_all
  ·simp_all
   split
   ·simp_all
    rename_i b hb
    rename_i want _ _
    revert h
    unfold ifB
    split
    ·exact fun h=>h1 h
    ·exact fun h=>h2 h
   ·simp_all
   ·simp_all
theorem ylh{G:Glob}{T:Tbl}:∀ (c:PC) (fr:Frame) (st:St) (Q Q':Ex→Frame→St→Prop),W G T c fr st Q→(∀ e fr st,Q e fr st→Q' e fr st)→W G T c fr st Q'
 |.skip,fr,st,Q,Q',h,hq=>hq _ _ _ h
 |.ops l,fr,st,Q,Q',h,hq=>yur l fr st _ _ h fun fr st h=>hq _ _ _ h
 |.any l,fr,st,Q,Q',h,hq=>yp0 l [] fr st _ _ h fun fr st h=>hq _ _ _ h
 |.any2 keep l1 l2,fr,st,Q,Q',h,hq=>yp0 l1 [] fr st _ _ h fun fr1 st1 h=>yp0 l2 [] fr st _ _ h fun fr2 st2 h=>Yqq h fun s h=>hq _ _ _ h
 |.seq a b,fr,st,Q,Q',h,hq=>by
  refine ylh a fr st _ _ h fun e fr' st' h=>?_
  cases e with
  |next=>exact ylh b _ _ _ _ h hq
  |exit id=>exact hq _ _ _ h
  |ret=>exact hq _ _ _ h
  |panic t d=>exact hq _ _ _ h
 |.cond c a b,fr,st,Q,Q',h,hq=>by
  simp only[W,onB]at h ⊢
  split
  ·rename_i v hv
   rw[hv]at h
   simp only at h
   cases v with
   |true=>exact ylh a _ _ _ _ h hq
   |false=>exact ylh b _ _ _ _ h hq
  ·rename_i hv
   split at h
   ·rename_i v hv'; exact absurd hv' (hv v)
   ·exact h
 |.block id c,fr,st,Q,Q',h,hq=>by
  refine ylh c fr st _ _ h fun e fr' st' h=>?_
  cases e with
  |next=>exact hq _ _ _ h
  |ret=>exact hq _ _ _ h
  |panic t d=>exact hq _ _ _ h
  |exit id'=>
   simp only at h ⊢
   split at h
   ·rename_i hi; simp only[hi,if_true]; exact hq _ _ _ h
   ·rename_i hi; simp only[hi,if_false]; exact hq _ _ _ h
 |.loop keep c,fr,st,Q,Q',h,hq=>by
  obtain⟨k,h⟩:=h
  refine⟨k,?_⟩
  have key:∀ (k:Nat) (s:PS),yBl (W G T c) (restrict keep st.length) k s Q→yBl (W G T c) (restrict keep st.length) k s Q':=by
   intro k
   induction k with
   |zero=>intro s h; exact h
   |succ k ih=>
    intro s h
    refine ylh c _ _ _ _ h fun e fr' st' h=>?_
    cases e with
    |next=>exact ih _ h
    |exit id=>exact hq _ _ _ h
    |ret=>exact hq _ _ _ h
    |panic t d=>exact hq _ _ _ h
  exact key k _ h
 |.loopA keep c,fr,st,Q,Q',h,hq=>by
  obtain⟨k,h⟩:=h
  refine⟨k,?_⟩
  have key:∀ (k:Nat) (s:PS),yBl (W G T c) (keepAll keep) k s Q→yBl (W G T c) (keepAll keep) k s Q':=by
   intro k
   induction k with
   |zero=>intro s h; exact h
   |succ k ih=>
    intro s h
    refine ylh c _ _ _ _ h fun e fr' st' h=>?_
    cases e with
    |next=>exact ih _ h
    |exit id=>exact hq _ _ _ h
    |ret=>exact hq _ _ _ h
    |panic t d=>exact hq _ _ _ h
  exact key k _ h
 |.range x ps a b,fr,st,Q,Q',h,hq=>by
  obtain⟨n,st',e,h1,h3,h2⟩:=h
  exact⟨n,st',e,h1,h3,hq _ _ _ h2⟩
 |.opsX l,fr,st,Q,Q',h,hq=>yv5 l fr st _ _ _ _ h (fun _ _ h=>hq _ _ _ h) fun _ _ _ _ h=>hq _ _ _ h
 |.pan l d1 t x,fr,st,Q,Q',h,hq=>yur l fr st _ _ h fun fr' st' h=>by
  unfold ifB at h ⊢
  split
  ·rename_i hi
   rw[if_pos hi]at h
   exact hq _ _ _ h
  ·rename_i hi
   rw[if_neg hi]at h
   exact h
 |.alt a b,fr,st,Q,Q',h,hq=>h.imp (fun h=>ylh a _ _ _ _ h hq) fun h=>⟨h.1,h.2.1,ylh b _ _ _ _ h.2.2 hq⟩
 |.exit id,fr,st,Q,Q',h,hq=>hq _ _ _ h
 |.ret,fr,st,Q,Q',h,hq=>hq _ _ _ h
 |.fail,_,_,_,_,h,_=>h.elim
theorem Ywb{G:Glob}{T:Tbl}{ι:Type}(hd:ι→List (Nat×D))(hs:ι→St)(P:ι→Prop)(μ:ι→Nat)(i0:ι){keep:List Nat}{c:PC}{fr:Frame}{st:St}{Q:Ex→Frame→St→Prop}
  (h0:restrict keep st.length ⟨fr,st⟩=⟨mkF (hd i0),hs i0⟩) (hP:P i0)
  (hstep:∀ i,P i→W G T c (mkF (hd i)) (hs i) fun e fr' st'=>match e with
   |.next=>∃ j,P j∧μ j<μ i∧restrict keep st.length ⟨fr',st'⟩=⟨mkF (hd j),hs j⟩
   |e=>Q e fr' st'):W G T (.loop keep c) fr st Q:=by
 have key:∀ (n:Nat) (i:ι) (s:PS),μ i<n→P i→restrict keep st.length s=⟨mkF (hd i),hs i⟩→yBl (W G T c) (restrict keep st.length) n s Q:=by
  intro n
  induction n with
  |zero=>intro i s h _ _; exact absurd h (Nat.not_lt_zero _)
  |succ n ih=>
   intro i s hi hPi hr
   simp only[yBl,hr]
   refine ylh c _ _ _ _ (hstep i hPi) fun e fr' st' h=>?_
   cases e with
   |next=>
    obtain⟨j,h1,h2,h3⟩:=h
    exact ih j _ (by omega) h1 h3
   |exit id=>exact h
   |ret=>exact h
   |panic t d=>exact h
 exact⟨μ i0+1,key _ i0 _ (Nat.lt_succ_self _) hP h0⟩
def wW(G:Glob)(T:Tbl)(c:PC)(fr:Frame)(st:St)[Q:QC]:Prop:=W G T c fr st Q.run
theorem W_of{G:Glob}{T:Tbl}{c:PC}{fr:Frame}{st:St}{Q:Ex→Frame→St→Prop}(h:@wW G T c fr st ⟨Q⟩):W G T c fr st Q:=h
theorem Yc1{G:Glob}{T:Tbl}{c:PC}{fr:Frame}{st:St}{Q:Ex→Frame→St→Prop}(h:W G T c fr st Q):@wW G T c fr st ⟨Q⟩:=h
theorem Yv9(G:Glob)(T:Tbl)(fr:Frame)(st:St)(Q:Ex→Frame→St→Prop):@wW G T .skip fr st ⟨Q⟩=Q .next fr st:=(rfl)
theorem W_ops(G:Glob)(T:Tbl)(l:List PI)(fr:Frame)(st:St)(Q:Ex→Frame→St→Prop):@wW G T (.ops l) fr st ⟨Q⟩=@wOps G T l fr st ⟨Q .next⟩:=(rfl)
theorem W_any(G:Glob)(T:Tbl)(l:List (PI×Bool×List Nat))(fr:Frame)(st:St)(Q:Ex→Frame→St→Prop):@wW G T (.any l) fr st ⟨Q⟩=@wAny G T l [] fr st ⟨Q .next⟩:=(rfl)
theorem Ywe(G:Glob)(T:Tbl)(keep:List Nat)(l1 l2:List (PI×Bool×List Nat))(fr:Frame)(st:St)(Q:Ex→Frame→St→Prop):@wW G T (.any2 keep l1 l2) fr st ⟨Q⟩=
  @wAny G T l1 [] fr st ⟨fun fr1 st1=>@wAny G T l2 [] fr st ⟨fun fr2 st2=>@ifB (st1.length == st.length+2 && st2.length == st.length+2) ⟨@yV7 (restrictAt keep st.length [st.length,st.length+1] ⟨fr1,st1⟩) (restrictAt keep st.length [st.length+1,st.length] ⟨fr2,st2⟩) ⟨fun s=>Q .next s.fr s.st⟩⟩ ⟨False⟩⟩⟩:=(rfl)
def yQ8(G:Glob)(T:Tbl)(b:PC)[Q:QC](e:Ex)(fr:Frame)(st:St):Prop:=match e with
 |.next=>W G T b fr st Q.run
 |e=>Q.run e fr st
theorem W_seq(G:Glob)(T:Tbl)(a b:PC)(fr:Frame)(st:St)(Q:QC):@wW G T (.seq a b) fr st Q=@wW G T a fr st ⟨@yQ8 G T b Q⟩:=(rfl)
theorem yVa(G:Glob)(T:Tbl)(b:PC)(Q:QC)(fr:Frame)(st:St):@yQ8 G T b Q .next fr st=@wW G T b fr st Q:=(rfl)
theorem yVb(G:Glob)(T:Tbl)(b:PC)(Q:Ex→Frame→St→Prop)(id:Nat)(fr:Frame)(st:St):@yQ8 G T b ⟨Q⟩ (.exit id) fr st=Q (.exit id) fr st:=(rfl)
theorem Yde(G:Glob)(T:Tbl)(b:PC)(Q:Ex→Frame→St→Prop)(fr:Frame)(st:St):@yQ8 G T b ⟨Q⟩ .ret fr st=Q .ret fr st:=(rfl)
theorem yQ7(G:Glob)(T:Tbl)(b:PC)(Q:Ex→Frame→St→Prop)(t:Nat)(d:D)(fr:Frame)(st:St):@yQ8 G T b ⟨Q⟩ (.panic t d) fr st=Q (.panic t d) fr st:=(rfl)
theorem Ywa(G:Glob)(T:Tbl)(l:List PI)(fr:Frame)(st:St)(Q:Ex→Frame→St→Prop):@wW G T (.opsX l) fr st ⟨Q⟩=@yG0 G T l fr st ⟨Q .next⟩ ⟨fun t d=>Q (.panic t d)⟩:=(rfl)
theorem W_pan(G:Glob)(T:Tbl)(l:List PI)(d1 t:Nat)(x:PA)(fr:Frame)(st:St)(Q:Ex→Frame→St→Prop):@wW G T (.pan l d1 t x) fr st ⟨Q⟩=@wOps G T l fr st ⟨fun fr' st'=>@ifB (yv6 (rho G fr' x)) ⟨Q (.panic t (rho G fr' x)) (fr'.set d1 .junk) st'⟩ ⟨False⟩⟩:=(rfl)
theorem Ywd(G:Glob)(T:Tbl)(c:PA)(a b:PC)(fr:Frame)(st:St)(Q:QC):@wW G T (.cond c a b) fr st Q=@onB (rho G fr c) ⟨fun v=>@ifB v ⟨@wW G T a fr st Q⟩ ⟨@wW G T b fr st Q⟩⟩:=(rfl)
def outW(id:Nat)[Q:QC](e:Ex)(fr:Frame)(st:St):Prop:=match e with
 |.exit id'=>if id'=id then Q.run .next fr st else Q.run (.exit id') fr st
 |e=>Q.run e fr st
theorem Yqo(G:Glob)(T:Tbl)(id:Nat)(c:PC)(fr:Frame)(st:St)(Q:QC):@wW G T (.block id c) fr st Q=@wW G T c fr st ⟨@outW id Q⟩:=(rfl)
theorem Ye7(id:Nat)(Q:Ex→Frame→St→Prop)(fr:Frame)(st:St):@outW id ⟨Q⟩ .next fr st=Q .next fr st:=(rfl)
theorem Ymg(id:Nat)(Q:Ex→Frame→St→Prop)(fr:Frame)(st:St):@outW id ⟨Q⟩ .ret fr st=Q .ret fr st:=(rfl)
theorem yXf(id:Nat)(Q:Ex→Frame→St→Prop)(t:Nat)(d:D)(fr:Frame)(st:St):@outW id ⟨Q⟩ (.panic t d) fr st=Q (.panic t d) fr st:=(rfl)
theorem Ysw(id id':Nat)(Q:Ex→Frame→St→Prop)(fr:Frame)(st:St):@outW id ⟨Q⟩ (.exit id') fr st=if id'=id then Q .next fr st else Q (.exit id') fr st:=(rfl)
theorem Ywc(G:Glob)(T:Tbl)(id:Nat)(fr:Frame)(st:St)(Q:Ex→Frame→St→Prop):@wW G T (.exit id) fr st ⟨Q⟩=Q (.exit id) fr st:=(rfl)
theorem W_ret(G:Glob)(T:Tbl)(fr:Frame)(st:St)(Q:Ex→Frame→St→Prop):@wW G T .ret fr st ⟨Q⟩=Q .ret fr st:=(rfl)
def retQ(res:List PRes)(r:D)(e:Ex)(fr:Frame)(st:St):Prop:=match e with
 |.exit _ | .panic _ _=>False
 |_=>(gets ⟨fr,st⟩ res).map pack=some r
theorem Yd3(res:List PRes)(r:D)(fr:Frame)(st:St):retQ res r .ret fr st=((gets ⟨fr,st⟩ res).map pack=some r):=(rfl)
theorem yWg(res:List PRes)(r:D)(fr:Frame)(st:St):retQ res r .next fr st=((gets ⟨fr,st⟩ res).map pack=some r):=(rfl)
def retI(res:List PRes)[R:Cont2 D St](e:Ex)(fr:Frame)(st:St):Prop:=match e with
 |.exit _ | .panic _ _=>False
 |_=>@on _ (raws ⟨fr,st⟩ res) ⟨fun l=>R.run (pack l) st⟩
theorem yOi(res:List PRes)(R:D→St→Prop)(fr:Frame)(st:St):@retI res ⟨R⟩ .ret fr st=@on _ (raws ⟨fr,st⟩ res) ⟨fun l=>R (pack l) st⟩:=(rfl)
theorem yHz(res:List PRes)(R:D→St→Prop)(fr:Frame)(st:St):@retI res ⟨R⟩ .next fr st=@on _ (raws ⟨fr,st⟩ res) ⟨fun l=>R (pack l) st⟩:=(rfl)
theorem yOe{G:Glob}{T:Tbl}{F:PF}{ds:List D}{r:D}(h:W G T F.code (argF ds) [] (retQ F.res r)):∃ fuel,F.run G T fuel ds=some r:=by
 obtain⟨n,e,fr',st',h1,h2⟩:=yh7 _ _ _ _ h
 refine⟨n,?_⟩
 unfold PF.run
 rw[h1 n (Nat.le_refl _)]
 cases e with
 |next=>exact h2
 |ret=>exact h2
 |exit id=>exact h2.elim
 |panic t d=>exact h2.elim
theorem yzc{G:Glob}{T:Tbl}{F:PF}{ds:List D}{st:St}{R:D→St→Prop}(h:W G T F.code (argF ds) st (@retI F.res ⟨R⟩)):∃ fuel r st',(∀ m,fuel≤m→F.runI G T m ds st=some (r,st'))∧R r st':=by
 obtain⟨n,e,fr',st',h1,h2⟩:=yh7 _ _ _ _ h
 have key:∀ (h2:@on _ (raws ⟨fr',st'⟩ F.res) ⟨fun l=>R (pack l) st'⟩) (he:e=.next∨e=.ret),∃ fuel r st',(∀ m,fuel≤m→F.runI G T m ds st=some (r,st'))∧R r st':=by
  intro h2 he
  unfold on at h2
  split at h2
  ·rename_i l hl
   refine⟨n,pack l,st',fun m hm=>?_,h2⟩
   unfold PF.runI
   rw[h1 m hm]
   rcases he with rfl | rfl <;> simp[hl]
  ·exact h2.elim
 cases e with
 |next=>exact key h2 (.inl rfl)
 |ret=>exact key h2 (.inr rfl)
 |exit id=>exact h2.elim
 |panic t d=>exact h2.elim
def retX[X:XC0](e:Ex)(_:Frame)(st:St):Prop:=match e with
 |.panic t d=>X.run t d st
 |_=>False
theorem yRj(X:Nat→D→St→Prop)(t:Nat)(d:D)(fr:Frame)(st:St):@retX ⟨X⟩ (.panic t d) fr st=X t d st:=(rfl)
theorem yWc{G:Glob}{T:Tbl}{F:PF}{ds:List D}{st:St}{X:Nat→D→St→Prop}(h:W G T F.code (argF ds) st (@retX ⟨X⟩)):∃ fuel t d st',(∀ m,fuel≤m→F.runX G T m ds st=some (t,d,st'))∧X t d st':=by
 obtain⟨n,e,fr',st',h1,h2⟩:=yh7 _ _ _ _ h
 cases e with
 |panic t d=>exact⟨n,t,d,st',fun m hm=>by unfold PF.runX; rw[h1 m hm],h2⟩
 |_=>exact h2.elim
def retD(h:Nat→D→List D→St→Option St)(das:List D)(res:List PRes)[R:Cont2 D St](e:Ex)(fr:Frame)(st:St):Prop:=match e with
 |.exit _=>False
 |.panic t d=>@on _ (h t d das st) ⟨fun st3=>@on _ (raws ⟨fr,st3⟩ res) ⟨fun l=>R.run (pack l) st3⟩⟩
 |_=>@on _ (raws ⟨fr,st⟩ res) ⟨fun l=>R.run (pack l) st⟩
theorem Yd5(h:Nat→D→List D→St→Option St)(das:List D)(res:List PRes)(R:D→St→Prop)(fr:Frame)(st:St):@retD h das res ⟨R⟩ .ret fr st=@on _ (raws ⟨fr,st⟩ res) ⟨fun l=>R (pack l) st⟩:=(rfl)
theorem yWj(h:Nat→D→List D→St→Option St)(das:List D)(res:List PRes)(R:D→St→Prop)(fr:Frame)(st:St):@retD h das res ⟨R⟩ .next fr st=@on _ (raws ⟨fr,st⟩ res) ⟨fun l=>R (pack l) st⟩:=(rfl)
theorem yRl(h:Nat→D→List D→St→Option St)(das:List D)(res:List PRes)(R:D→St→Prop)(t:Nat)(d:D)(fr:Frame)(st:St) :
  @retD h das res ⟨R⟩ (.panic t d) fr st=@on _ (h t d das st) ⟨fun st3=>@on _ (raws ⟨fr,st3⟩ res) ⟨fun l=>R (pack l) st3⟩⟩:=(rfl)
def yLt(h:Nat→D→List D→St→Option St)(das:List D)(res:List PRes)(r:D)(e:Ex)(fr:Frame)(st:St):Prop:=match e with
 |.exit _=>False
 |.panic t d=>@on _ (h t d das st) ⟨fun st3=>(gets ⟨fr,st3⟩ res).map pack=some r⟩
 |_=>(gets ⟨fr,st⟩ res).map pack=some r
theorem yWk(h:Nat→D→List D→St→Option St)(das:List D)(res:List PRes)(r:D)(fr:Frame)(st:St):yLt h das res r .ret fr st=((gets ⟨fr,st⟩ res).map pack=some r):=(rfl)
theorem yRm(h:Nat→D→List D→St→Option St)(das:List D)(res:List PRes)(r:D)(fr:Frame)(st:St):yLt h das res r .next fr st=((gets ⟨fr,st⟩ res).map pack=some r):=(rfl)
theorem yLs(h:Nat→D→List D→St→Option St)(das:List D)(res:List PRes)(r:D)(t:Nat)(d:D)(fr:Frame)(st:St):yLt h das res r (.panic t d) fr st=@on _ (h t d das st) ⟨fun st3=>(gets ⟨fr,st3⟩ res).map pack=some r⟩:=(rfl)
def wDf(G:Glob)(T:Tbl)(F:PFD)(H:HTbl)(ds:List D)(st:St)(K:(Nat→D→List D→St→Option St)→List D→Ex→Frame→St→Prop):Prop:=
 @wOps G T F.pre (argF ds) st ⟨fun fr1 st1=>@on _ (yud (rho G fr1 F.hf) (F.ha.map (rho G fr1))) ⟨fun p=>@on _ (H p.1) ⟨fun h=>@wW G T F.code fr1 st1 ⟨K h p.2⟩⟩⟩⟩
theorem yWd{G:Glob}{T:Tbl}{F:PFD}{H:HTbl}{ds:List D}{st:St}{K:(Nat→D→List D→St→Option St)→List D→Ex→Frame→St→Prop}(h:wDf G T F H ds st K) :
  ∃ n s1 f das h' e fr' st',ycg G T F.pre ⟨argF ds,st⟩=some s1∧yud (rho G s1.fr F.hf) (F.ha.map (rho G s1.fr))=some (f,das)∧H f=some h'∧(∀ m,n≤m→F.code.exec G T m s1=some (e,⟨fr',st'⟩))∧K h' das e fr' st':=by
 obtain⟨fr1,st1,h1,h2⟩:=ymr _ _ _ _ h
 simp only at h2
 unfold on at h2
 split at h2
 case h_2=>exact h2.elim
 rename_i p hp
 simp only at h2
 split at h2
 case h_2=>exact h2.elim
 rename_i h' hh
 obtain⟨n,e,fr',st',h3,h4⟩:=yh7 _ _ _ _ (show W G T F.code fr1 st1 (K h' p.2)from h2)
 exact⟨n,⟨fr1,st1⟩,p.1,p.2,h',e,fr',st',h1,hp,hh,h3,h4⟩
theorem Ypb(fs:List (Option Foot))(g:Option Foot):ckF fs g []=true:=(rfl)
theorem Yhl(fs:List (Option Foot))(g:Option Foot)(j:Nat)(r:List Nat):ckF fs g (j::r)=(ck1 fs[j]? g && ckF fs g r):=(rfl)
theorem Yu7(f g:Foot):ck1 (some (some f)) (some g)=f.ok g:=(rfl)
theorem ok_eq(r w r' w':List Nat)(m m':Option Nat):Foot.ok ⟨r,w,m⟩ ⟨r',w',m'⟩=(away w' r && away w' w && away w r' && yu8 m r' && yu8 m w' && yu8 m' r && yu8 m' w && (m.isNone || m'.isNone)):=(rfl)
theorem Yik(b:List Nat):away [] b=true:=(rfl)
theorem Ycc(k:Nat)(a b:List Nat):away (k::a) b=(!b.contains k && away a b):=by simp[away]
theorem yUn(a:List Nat):yu8 none a=true:=(rfl)
theorem yUm(n:Nat):yu8 (some n) []=true:=(rfl)
theorem yNt(n k:Nat)(a:List Nat):yu8 (some n) (k::a)=(decide (k<n) && yu8 (some n) a):=(rfl)
theorem Yad:yw2=⟨[],[],none⟩:=(rfl)
theorem yXi{α:Type}:optL (none:Option α)=[]:=(rfl)
theorem yXh{α:Type}(x:α):optL (some x)=[x]:=(rfl)
section
variable (ρ:PA→D) (st:St)
theorem yZr(n:Nat)(p x:PA):POp.foot ρ st (.stor n p x)=some ⟨hk (ρ x),hk (ρ p),none⟩:=(rfl)
theorem Yg2(x:PA):POp.foot ρ st (.box x)=some ⟨[],[],some st.length⟩:=(rfl)
theorem yTm(a b:Nat)(z:D)(l c:PA):POp.foot ρ st (.mkslc a b z l c)=some ⟨[],[],some st.length⟩:=(rfl)
theorem yTn(f:Nat)(l:List PA):POp.foot ρ st (.mcall f l)=some ⟨[],[],some st.length⟩:=(rfl)
def appF(st:St)(s x:D):Option Foot:=match s with
 |.row key _ _ _=>some ⟨hk x,[key],none⟩
 |_=>some ⟨hk x,[],appN x st.length⟩
theorem Yis(key tot off len:Nat)(x:D):appF st (.row key tot off len) x=some ⟨hk x,[key],none⟩:=(rfl)
theorem Yir(sz:Nat)(els:List D)(t:Bool)(x:D):appF st (.slc sz els t) x=some ⟨hk x,[],appN x st.length⟩:=(rfl)
theorem Yip(sz:Nat)(t:Bool)(n:Nat):appN (.slc sz [] t) n=none:=(rfl)
theorem Ych(sz:Nat)(a:D)(l:List D)(t:Bool)(n:Nat):appN (.slc sz (a::l) t) n=some n:=(rfl)
theorem Yio(key tot off len n:Nat):appN (.row key tot off len) n=some n:=(rfl)
theorem Yiq(key off m sz:Nat)(ag:Bool)(n:Nat):appN (.bsl key off m sz ag) n=some n:=(rfl)
theorem Yin(s:List UInt8)(n:Nat):appN (.str s) n=some n:=(rfl)
theorem Yg3(a b:Nat)(s x:PA):POp.foot ρ st (.app a b s x)=appF st (ρ s) (ρ x):=(rfl)
theorem yZu(n:Nat)(ag:Bool)(x:PA):POp.foot ρ st (.load n ag x)=some ⟨hk (ρ x),[],none⟩:=by simp[POp.foot,POp.args]
theorem yZs(x:PA):POp.foot ρ st (.nilc x)=some ⟨rpK (ρ x),[],none⟩:=(rfl)
theorem Ylv(key off:Nat):rpK (.ptr key off)=[]:=(rfl)
theorem Yd2(el:D)(off:Nat):rpK (.eptr el off)=[]:=(rfl)
theorem Yd1(key tot i off:Nat):rpK (.rptr key tot i off)=[key]:=(rfl)
theorem Yg1(n:Nat)(x:PA):POp.foot ρ st (.fld n x)=some ⟨rpK (ρ x),[],none⟩:=(rfl)
theorem yZv(n m:Nat)(x i:PA):POp.foot ρ st (.idxA n m x i)=some ⟨rpK (ρ x),[],none⟩:=(rfl)
theorem yTl(n:Nat)(x:PA)(a b c:Option PA):POp.foot ρ st (.slice n x a b c)=some ⟨((x::(optL a++optL b++optL c)).map ρ).flatMap hk,[],none⟩:=(rfl)
theorem yZw(f:Nat)(l:List PA):POp.foot ρ st (.call f l)=some ⟨(l.map ρ).flatMap hk,[],none⟩:=(rfl)
theorem yZx(n:Nat)(l:List PA):POp.foot ρ st (.bslc n l)=some ⟨(l.map ρ).flatMap hk,[],none⟩:=(rfl)
end
attribute [irreducible] kF kAny wF wAny fsE yV7 on onB ifB ev ev2 kOp kG kV kOps W yQ8 outW retQ retI wW wOps wOp kOpX yxj yG0 wOpX onX retX retD yLt
def yas:D→Bool
 |.int _ _ | .bool _ | .str _ | .clo _ [] | .nilf | .nilp=>true
 |.slc sz els t=>!t && nz sz els == sz
 |_=>false
def ymk:D→Bool
 |.agg l=>l.all yas
 |d=>yas d
theorem yvw(st:St){d:D}(h:yas d=true):imm1 st d=some d:=by
 cases d with
 |clo f l=>cases l <;> simp_all [yas,imm1,D.pure1]
 |slc sz els t=>simp_all [yas,imm1]
 |_=>simp_all [yas,imm1,D.pure1]
theorem yhv(st:St):∀ {l:List D},l.all yas=true→immL st l=some l
 |[],_=>rfl
 |d::l,h=>by
  simp only[List.all_cons,Bool.and_eq_true]at h
  simp only[immL,yvw st h.1,yhv st h.2]
theorem ymj(st:St){d:D}(h:ymk d=true):imm st d=some d:=by
 cases d with
 |agg l=>simp only[imm,yhv st h,Option.map_some]
 |tup l=>simp[ymk,yas]at h
 |_=>exact yvw st (by simpa only[ymk]using h)
theorem yvv{d:D}(h:yas d=true):key1 d=[]:=by
 cases d <;> simp_all [yas,key1]
theorem yju{d:D}(h:ymk d=true):keys d=[]:=by
 cases d with
 |agg l=>
  simp only[keys,List.flatMap_eq_nil_iff]
  simp only[ymk,List.all_eq_true]at h
  exact fun d hd=>yvv (h d hd)
 |_=>exact yvv (by simpa only[ymk]using h)
theorem yHr{d:D}(h:yas d=true):hk1 d=[]:=by
 cases d with
 |clo f l=>cases l <;> simp_all [yas,hk1]
 |_=>simp_all [yas,hk1,hk0]
theorem yt6{d:D}(h:ymk d=true):hk d=[]:=by
 cases d with
 |agg l=>
  simp only[hk,List.flatMap_eq_nil_iff]
  simp only[ymk,List.all_eq_true]at h
  exact fun d hd=>yHr (h d hd)
 |_=>exact yHr (by simpa only[ymk]using h)
theorem yB9(n:Nat)(σ:List Nat){d:D}(h:yas d=true):ren1 n σ d=d:=by
 cases d with
 |clo f l=>cases l <;> simp_all [yas,ren1]
 |_=>simp_all [yas,ren1,ren0]
theorem yj3(n:Nat)(σ:List Nat){d:D}(h:ymk d=true):ren n σ d=d:=by
 cases d with
 |agg l=>
  simp only[ren,D.agg.injEq]
  simp only[ymk,List.all_eq_true]at h
  have:∀ l:List D,(∀ d∈l,yas d=true)→l.map (ren1 n σ)=l:=by
   intro l
   induction l with
   |nil=>intro _; rfl
   |cons a l ih=>intro h; simp only[List.map_cons,yB9 n σ (h a (by simp)),ih fun d hd=>h d (by simp[hd])]
  exact this l h
 |tup l=>simp[ymk,yas]at h
 |_=>exact yB9 n σ (by simpa only[ymk]using h)
structure Dig where
 bs:List UInt8
 len:bs.length=32
 deriving DecidableEq
def yab:Dig:=⟨List.replicate 32 0,by simp⟩
instance:Inhabited Dig:=⟨yab⟩
theorem Dig.ext'{a b:Dig}(h:a.bs=b.bs):a=b:=by
 cases a; cases b; simp_all
def digC(d:Dig):List D:=d.bs.map yaf
def digD(d:Dig):D:=.agg (digC d)
theorem yaa(d:Dig):(digC d).length=32:=by simp[digC,d.len]
theorem yKk{a b:UInt8}(h:yaf a=yaf b):a=b:=by
 simp only[yaf,D.int.injEq,true_and]at h
 exact UInt8.toNat_inj.1 (by omega)
theorem ypw{α β:Type}{f:α→β}(hf:∀ a b,f a=f b→a=b):∀ {l l':List α},l.map f=l'.map f→l=l'
 |[],[],_=>rfl
 |[],_::_,h=>by cases h
 |_::_,[],h=>by cases h
 |a::l,b::l',h=>by
  simp only[List.map_cons,List.cons.injEq]at h
  rw[hf _ _ h.1,ypw hf h.2]
theorem ykk{a b:List UInt8}(h:a.map yaf=b.map yaf):a=b:=ypw (fun _ _=>yKk) h
theorem yP9{a b:Dig}(h:digD a=digD b):a=b:=by
 simp only[digD,digC,D.agg.injEq]at h
 exact Dig.ext' (ykk h)
theorem yga{a b:Dig}(h:digC a=digC b):a=b:=Dig.ext' (ykk h)
theorem yet{p:D→Bool}(hp:∀ b,p (yaf b)=true)(d:Dig):(digC d).all p=true:=by
 simp only[digC,List.all_eq_true,List.mem_map]
 rintro x ⟨b,_,rfl⟩
 exact hp b
theorem ybc(d:Dig):(digC d).all D.isCell=true:=yet (fun _=>rfl) d
theorem ymz(d:Dig):(digC d).all yas=true:=yet (fun _=>rfl) d
theorem yh3(d:Dig):ymk (digD d)=true:=ymz d
theorem ymy(d:Dig):(digD d).cells=digC d:=(rfl)
theorem yC3(d:Dig):(digD d).noRef=true:=yet (fun _=>rfl) d
theorem yX3(d:Dig):D.mk true (digC d)=digD d:=(rfl)
theorem Ymr(x:D)(l:List D):D.mk true (x::l)=.agg (x::l):=(rfl)
theorem Ys8(x:D)(l:List D):D.mk false (x::l)=x:=(rfl)
theorem Yqi(d:Dig):D.agg (digC d)=digD d:=(rfl)
theorem Ycn:[D.int .u8 0,.int .u8 0,.int .u8 0,.int .u8 0,.int .u8 0,.int .u8 0,.int .u8 0,.int .u8 0,.int .u8 0,.int .u8 0,.int .u8 0,.int .u8 0,.int .u8 0,.int .u8 0,.int .u8 0,.int .u8 0,.int .u8 0,.int .u8 0,.int .u8 0,.int .u8 0,.int .u8 0,.int .u8 0,.int .u8 0,.int .u8 0,.int .u8 0,.int .u8 0,.int .u8 0,.int .u8 0,.int .u8 0,.int .u8 0,.int .u8 0,.int .u8 0]=digC yab:=(rfl)
theorem yxm(d:Dig):(digC d).take 32=digC d:=List.take_of_length_le (by rw[yaa]; exact Nat.le_refl _)
theorem ykx{d:D}(h:yas d=true):ymk d=true:=by
 cases d with
 |agg l=>simp[yas]at h
 |_=>exact h
theorem ygm(n:Nat)(σ:List Nat):∀ {l:List D},l.all yas=true→l.map (ren n σ)=l
 |[],_=>rfl
 |d::l,h=>by
  simp only[List.all_cons,Bool.and_eq_true]at h
  simp only[List.map_cons,yj3 n σ (ykx h.1),ygm n σ h.2]
theorem ykc:∀ {l:List D},l.all yas=true→l.flatMap hk=[]
 |[],_=>rfl
 |d::l,h=>by
  simp only[List.all_cons,Bool.and_eq_true]at h
  simp only[List.flatMap_cons,yt6 (ykx h.1),ykc h.2,List.append_nil]
theorem Yeg(n:Nat)(σ:List Nat)(d:Dig):(digC d).map (ren n σ)=digC d:=ygm n σ (ymz d)
theorem Ygr(d:Dig):(digC d).flatMap hk=[]:=ykc (ymz d)
theorem Ynw(st:St)(d:Dig):imm st (digD d)=some (digD d):=ymj st (yh3 d)
theorem yPk(d:Dig):keys (digD d)=[]:=yju (yh3 d)
theorem Yum(d:Dig):hk (digD d)=[]:=yt6 (yh3 d)
theorem yOk(n:Nat)(σ:List Nat)(d:Dig):ren n σ (digD d)=digD d:=yj3 n σ (yh3 d)
theorem Yp3(d:Dig):boxD (digD d)=some (digC d):=by
 simp only[boxD,ymy,ybc,if_true]
theorem ywx:∀ (n:Nat) (a b:List UInt8),a.length=n→b.length=n→ya0 (List.replicate n 0) (a.map yaf) (b.map yaf)=some (decide (a=b))
 |0,[],[],_,_=>rfl
 |0,_::_,_,h,_=>by cases h
 |0,[],_::_,_,h=>by cases h
 |n+1,[],_,h,_=>by cases h
 |n+1,_::_,[],_,h=>by cases h
 |n+1,a::l,b::l',h,h'=>by
  simp only[List.length_cons,Nat.add_right_cancel_iff]at h h'
  simp only[List.replicate_succ,List.map_cons,ya0,ywx n l l' h h']
  simp only[ydk,yaf,if_true]
  congr 1
  by_cases e:a=b
  ·subst e; simp
  ·have:¬ ((a.toNat:Int)=(b.toNat:Int)):=fun h=>e (UInt8.toNat_inj.1 (by omega))
   simp[e,this]
theorem yC0(a b:Dig):ya0 (List.replicate 32 0) (digC a) (digC b)=some (decide (a=b)):=by
 rw[digC,digC,ywx 32 a.bs b.bs a.len b.len]
 congr 1
 by_cases e:a=b
 ·subst e; simp
 ·have e2:¬ a.bs=b.bs:=fun h=>e (Dig.ext' h)
  simp[e,e2]
theorem Yqk(neg:Bool)(a b:Dig):paeq [0,0,0,0,0,0,0,0,0,0,0,0,0,0,0,0,0,0,0,0,0,0,0,0,0,0,0,0,0,0,0,0] neg (digD a) (digD b)=some (.bool (decide (a=b) != neg)):=by
 show(ya0 (List.replicate 32 0) (digC a) (digC b)).map _=_
 rw[yC0]; rfl
theorem getElem?_getD{α:Type}[Inhabited α](l:List α)(i:Nat)(h:i<l.length):l[i]?=some (l.getD i default):=by
 simp[List.getD_eq_getElem?_getD,h]
theorem yVe{α:Type}[Inhabited α](l:List α)(i:Nat)(h:i<l.length):l.take (i+1)=l.take i++[l.getD i default]:=by
 rw[List.take_add_one,getElem?_getD l i h]; rfl
theorem yJt{α:Type}[Inhabited α](l:List α)(i:Nat)(h:i<l.length):l.drop i=l.getD i default::l.drop (i+1):=by
 rw[List.drop_eq_getElem_cons h]
 simp[List.getD_eq_getElem?_getD,h]
theorem yB7(l xs:List D)(h:l.length=xs.length):ybl l 0 xs=xs:=by
 simp[ybl,h]
theorem yB6(a b:Dig):ybl (digC a) 0 (digC b)=digC b:=yB7 _ _ (by rw[yaa,yaa])
theorem yK7(x:D)(l ys:List D)(n:Nat):ybl (x::l) (n+1) ys=x::ybl l n ys:=by
 simp[ybl,Nat.add_right_comm]
def ldO(o:Option Obj)(n:Nat)(ag:Bool)(off:Nat):Option D:=if !ag && n != 1 then none else o.bind fun o=>if !o.row && decide (off+n≤o.els.length)then some (.mk ag ((o.els.drop off).take n))else none
def stO(o:Option Obj)(n:Nat)(off:Nat)(x:D):Option Obj:=o.bind fun o=>if !o.row && !o.lent && decide (off+n≤o.els.length) && x.cells.length == n && x.cells.all D.isCell then some {o with els:=ybl o.els off x.cells} else none
theorem yWy(st:St)(n:Nat)(ag:Bool)(key off:Nat):ydd st n ag (.ptr key off)=ldO st[key]? n ag off:=by
 simp only[ydd,ldO]
 split
 ·rfl
 ·cases st[key]? <;> rfl
theorem yWw(st:St)(n:Nat)(key off:Nat)(x:D):yxh st n (.ptr key off) x=(stO st[key]? n off x).map fun o=>st.set key o:=by
 simp only[yxh,stO]
 cases st[key]? with
 |none=>rfl
 |some o=>
  simp only[Option.bind_some]
  split <;> simp_all
section
variable {α:Type} (sz:Nat) (lent:Bool)
theorem yej(x:D)(l:List D):ldO (some ⟨false,sz,x::l,lent⟩) 1 false 0=some x:=by
 simp[ldO,D.mk]
theorem yPh(x:D)(l:List D)(n:Nat)(ag:Bool)(off:Nat):ldO (some ⟨false,sz,x::l,lent⟩) n ag (off+1)=ldO (some ⟨false,sz,l,lent⟩) n ag off:=by
 simp only[ldO,Option.bind_some,List.drop_succ_cons,List.length_cons]
 have:decide (off+1+n≤l.length+1)=decide (off+n≤l.length):=by
  apply decide_eq_decide.2; omega
 rw[this]
theorem Ym7(d:Dig):ldO (some ⟨false,sz,digC d,lent⟩) 32 true 0=some (digD d):=by
 simp[ldO,yaa,yxm,yX3]
theorem ybw(x:D)(d:Dig):ldO (some ⟨false,sz,x::digC d,lent⟩) 33 true 0=some (.agg (x::digC d)):=by
 simp[ldO,yaa,yxm,D.mk]
theorem yYn{α:Type}[Inhabited α](f:α→D)(ws:List α)(i:Nat)(h:i<ws.length):ldO (some ⟨false,sz,ws.map f,lent⟩) 1 false i=some (f (ws.getD i default)):=by
 have h2:i+1≤ws.length:=h
 have:(ws.map f).drop i=f (ws.getD i default)::(ws.map f).drop (i+1):=by
  rw[← List.map_drop,yJt ws i h,List.map_cons,List.map_drop]
 simp[ldO,this,D.mk,h2]
theorem yh0(cs:List D)(n:Nat)(h:cs.length=n):ldO (some ⟨false,sz,cs,lent⟩) n true 0=some (.agg cs):=by
 subst h; simp[ldO,D.mk]
theorem yS2{α:Type}(f:α→D)(ws:List α)(n:Nat)(h:ws.length=n):ldO (some ⟨false,sz,ws.map f,lent⟩) n true 0=some (.agg (ws.map f)):=
 yh0 sz lent _ n (by simpa using h)
theorem Yli(x v:D)(l:List D)(hv:v.isCell=true):stO (some ⟨false,sz,x::l,false⟩) 1 0 v=some ⟨false,sz,v::l,false⟩:=by
 simp[stO,ye7 hv,hv,ybl]
theorem Ylj(x:D)(k:IntKind)(n:Int)(l:List D):stO (some ⟨false,sz,x::l,false⟩) 1 0 (.int k n)=some ⟨false,sz,.int k n::l,false⟩:=Yli sz _ _ _ rfl
theorem Ylk(d e:Dig):stO (some ⟨false,sz,digC d,false⟩) 32 0 (digD e)=some ⟨false,sz,digC e,false⟩:=by
 simp[stO,yaa,ymy,ybc,yB6]
theorem yi2(cs ds:List D)(n:Nat)(h:cs.length=n)(h':ds.length=n)(hc:ds.all D.isCell=true):stO (some ⟨false,sz,cs,false⟩) n 0 (.agg ds)=some ⟨false,sz,ds,false⟩:=by
 subst h
 simp[stO,D.cells,h',hc,yB7 _ _ h'.symm]
theorem yB4(x:D)(k:IntKind)(m:Int)(d e:Dig):stO (some ⟨false,sz,x::digC d,false⟩) 33 0 (.agg (.int k m::digC e))=some ⟨false,sz,.int k m::digC e,false⟩:=
 yi2 sz _ _ 33 (by simp[yaa]) (by simp[yaa]) (by simp[ybc,D.isCell])
theorem yVo(f:α→D)(hf:∀ a,(f a).isCell=true)(ws:List α)(i:Nat)(v:α)(h:i<ws.length):stO (some ⟨false,sz,ws.map f,false⟩) 1 i (f v)=some ⟨false,sz,(ws.set i v).map f,false⟩:=by
 have h2:i+1≤ws.length:=h
 have h3:ybl (ws.map f) i [f v]=(ws.set i v).map f:=by
  rw[List.map_set,ybl,List.set_eq_take_append_cons_drop]
  simp[h]
 simp[stO,ye7 (hf v),hf v,h2,h3]
theorem Ydm(ws:List UInt8)(i:Nat)(v:UInt8)(h:i<ws.length):stO (some ⟨false,sz,ws.map yaf,false⟩) 1 i (yaf v)=some ⟨false,sz,(ws.set i v).map yaf,false⟩:=yVo sz yaf (fun _=>rfl) ws i v h
theorem Ydl(ws:List UInt32)(i:Nat)(v:UInt32)(h:i<ws.length):stO (some ⟨false,sz,ws.map wD,false⟩) 1 i (wD v)=some ⟨false,sz,(ws.set i v).map wD,false⟩:=yVo sz wD (fun _=>rfl) ws i v h
theorem yum{α:Type}(f:α→D)(hf:∀ a,(f a).isCell=true)(ws:List α):(ws.map f).all D.isCell=true:=by
 simp only[List.all_eq_true,List.mem_map]
 rintro x ⟨a,_,rfl⟩
 exact hf a
theorem Ydn(ws vs:List UInt32)(n:Nat)(h:ws.length=n)(h':vs.length=n):stO (some ⟨false,sz,ws.map wD,false⟩) n 0 (.agg (vs.map wD))=some ⟨false,sz,vs.map wD,false⟩:=
 yi2 sz _ _ n (by simpa using h) (by simpa using h') (yum wD (fun _=>rfl) vs)
theorem Ydo(ws vs:List UInt8)(n:Nat)(h:ws.length=n)(h':vs.length=n):stO (some ⟨false,sz,ws.map yaf,false⟩) n 0 (.agg (vs.map yaf))=some ⟨false,sz,vs.map yaf,false⟩:=
 yi2 sz _ _ n (by simpa using h) (by simpa using h') (yum yaf (fun _=>rfl) vs)
end
theorem yRv(st:St)(n:Nat)(ag:Bool)(key tot i off:Nat):ydd st n ag (.rptr key tot i off)=if !ag && n != 1 then none else(st[key]?).bind fun o=>if o.row && o.els.length == tot then(o.els[i]?).bind fun el=>if off+n≤el.cells.length then some (.mk ag ((el.cells.drop off).take n))else none else none:=by
 simp only[ydd]
 split
 ·rfl
 ·cases st[key]? with
  |none=>rfl
  |some o=>
   simp only[Option.bind_some]
   split
   ·cases o.els[i]? <;> rfl
   ·rfl
theorem yR0(st:St)(d:Dig):ydd st 32 true (.eptr (digD d) 0)=some (digD d):=by
 simp[ydd,ymy,yaa,yxm,yX3]
theorem yj8(k:IntKind)(n:Int)(h:0≤n):yd5 (.int k n)=some n.toNat:=by simp[yd5,h]
theorem ySi(k:IntKind):yd5 (.int k 0)=some 0:=(rfl)
theorem yk9(st:St)(n key off:Nat)(k:IntKind)(i:Int)(h0:0≤i)(h1:i<(n:Int)):ymn st n 1 (.ptr key off) (.int k i)=some (.ptr key (off+i.toNat)):=by
 have h2:i.toNat<n:=by omega
 simp[ymn,yj8 k i h0,h2,pfld]
theorem yZf(st:St)(n off:Nat)(el:D)(k:IntKind)(i:Int)(h0:0≤i)(h1:i<(n:Int)):ymn st n 1 (.eptr el off) (.int k i)=some (.eptr el (off+i.toNat)):=by
 have h2:i.toNat<n:=by omega
 simp[ymn,yj8 k i h0,h2,pfld]
theorem yRy{α:Type}[Inhabited α](st:St)(f:α→D)(ws:List α)(i:Nat)(h:i<ws.length):ydd st 1 false (.eptr (.agg (ws.map f)) i)=some (f (ws.getD i default)):=by
 have:=yYn 1 false f ws i h
 simpa[ydd,ldO,D.cells]using this
theorem yFc(st:St)(x:D)(h:x.isCell=true):ydd st 1 false (.eptr x 0)=some x:=by
 simp[ydd,ye7 h,D.mk]
theorem ysj(st:St)(b:UInt8):ydd st 1 false (.eptr (yaf b) 0)=some (yaf b):=yFc st _ rfl
theorem yRz(st:St)(k:IntKind)(n:Int):ydd st 1 false (.eptr (.int k n) 0)=some (.int k n):=yFc st _ rfl
theorem Ygq{α:Type}[Inhabited α](st:St)(sz:Nat)(f:α→D)(l:List α)(t:Bool)(k:IntKind)(i:Int)(h0:0≤i)(h1:i<(l.length:Int)) :
  yfw st sz (.slc sz (l.map f) t) (.int k i)=some (.eptr (f (l.getD i.toNat default)) 0):=by
 have h2:i.toNat<l.length:=by omega
 simp only[yfw,yj8 k i h0,List.getElem?_map,getElem?_getD l i.toNat h2,Option.map_some,beq_self_eq_true,if_true]
theorem Yfv(st:St)(sz:Nat)(els:List D)(t:Bool):lenD st false (.slc sz els t)=some (.int .i64 (els.length:Int)):=(rfl)
theorem Yfu(st:St)(s:List UInt8):lenD st true (.str s)=some (.int .i64 (s.length:Int)):=(rfl)
theorem Yfw(st:St)(key tot off len:Nat):lenD st false (.row key tot off len)=if live st key tot then some (.int .i64 (len:Int))else none:=by
 simp only[lenD,yp1,sLen,beq_self_eq_true,if_true]
 cases live st key tot <;> rfl
theorem Yez(st:St)(sz bytes key tot:Nat)(x:D)(o:Obj)(xs:List D)(szx:Nat)(ho:st[key]?=some o)(hr:o.row=true)(hz:o.sz=sz)(ht:o.els.length=tot)
  (hx:ygl st x=some (szx,xs)) (hs:szx=sz∨xs=[]) (h0:sz≠0) (hb:(tot+xs.length)*bytes≤140737488355328) (hl:tot+xs.length≤4294967296) :
  papp st sz bytes (.row key tot 0 tot) x=some (.row key (tot+xs.length) 0 (tot+xs.length),st.set key {o with els:=o.els++xs}):=by
 have e:(!(szx == sz || xs.isEmpty) || sz == 0)=false:=by
  rcases hs with h | h <;> simp[h,h0]
 simp only[papp,hx,e,ho,hr,hz,ht,hb,hl,beq_self_eq_true,Bool.and_self,decide_true,if_true,Bool.false_eq_true,if_false]
theorem yO0(st:St)(sz bytes sz':Nat)(els:List D)(x:D)(xs:List D)(szx:Nat)(hx:ygl st x=some (szx,xs))(hs:szx=sz∨xs=[])(hs':sz'=sz∨els=[])(h0:sz≠0)(hne:xs≠[])
  (hb:(els.length+xs.length)*bytes≤140737488355328) (hl:els.length+xs.length≤4294967296) :
  papp st sz bytes (.slc sz' els true) x=some (.row st.length (els.length+xs.length) 0 (els.length+xs.length),st++[{row:=true,sz,els:=els++xs,lent:=false}]):=by
 have e2:xs.isEmpty=false:=by cases xs <;> simp_all
 have e:(!(szx == sz || false) || sz == 0)=false:=by
  rcases hs with h | h
  ·simp[h,h0]
  ·exact absurd h hne
 have e3:(sz' == sz || els.isEmpty)=true:=by
  rcases hs' with h | h <;> simp[h]
 simp only[papp,hx,e,e2,e3,hb,hl,Bool.and_self,decide_true,if_true,Bool.false_eq_true,if_false]
theorem yOz(st:St)(sz bytes sz':Nat)(els:List D)(x:D)(szx:Nat)(hx:ygl st x=some (szx,[]))(h0:sz≠0) :
  papp st sz bytes (.slc sz' els true) x=some (.slc sz' els true,st):=by
 simp[papp,hx,h0]
theorem yA2:∀ (l:List D),yn7 1 false l l.length=l
 |[]=>rfl
 |a::l=>by simp[yn7,D.mk,yA2 l]
def bufD(sz key:Nat)(els:List D):D:=if els.isEmpty then .slc sz [] true else .row key els.length 0 els.length
def bufS(sz:Nat)(els:List D):St:=if els.isEmpty then []else [{row:=true,sz,els,lent:=false}]
theorem yQp(sz key:Nat):bufD sz key []=.slc sz [] true:=(rfl)
theorem Ye0(st:St)(sz sz0 bytes:Nat)(els xs:List D)(x:D)(szx:Nat)(hx:ygl (st++bufS sz els) x=some (szx,xs))(hs:szx=sz∨xs=[])(hs0:sz≠0)
  (hb:(els.length+xs.length)*bytes≤140737488355328) (hl:els.length+xs.length≤4294967296) :
  papp (st++bufS sz els) sz bytes (bufD sz0 st.length els) x=some (bufD sz0 st.length (els++xs),st++bufS sz (els++xs)):=by
 cases els with
 |nil=>
  cases xs with
  |nil=>
   rw[yQp,yOz _ _ _ _ _ _ szx hx hs0]
   rfl
  |cons a l=>
   rw[yQp,yO0 _ _ _ _ _ _ (a::l) szx hx hs (.inr rfl) hs0 (by simp) (by simpa using hb) (by simpa using hl)]
   simp[bufD,bufS]
 |cons e r=>
  have hg:(st++bufS sz (e::r))[st.length]?=some {row:=true,sz,els:=e::r,lent:=false}:=by simp[bufS]
  have:=Yez (st++bufS sz (e::r)) sz bytes st.length (e::r).length x _ xs szx hg rfl rfl rfl hx hs hs0 hb hl
  simp only[bufD,List.isEmpty_cons,Bool.false_eq_true,if_false,List.cons_append]at this ⊢
  rw[this]
  simp[bufS,Nat.add_right_comm]
theorem Ysm(fr:Frame)(s t:Nat)(d:D):(fr.set s d) t=if t=s then d else fr t:=(rfl)
theorem Ys9(s t:Nat)(d:D)(r:List (Nat×D)):mkF ((s,d)::r) t=if t=s then d else mkF r t:=(rfl)
attribute [push_cast] Ywe yRh W_any Yc4 yQ2 yQ3 yal Ykx wF_ck Yuu Ynk Ypb Yhl Yu7 ok_eq Yik Ycc yUn yUm yNt Yad yXi yXh yZr Yg2 yTm yTn Yis Yir Yip Ych Yio Yiq Yin Yg3 yZu yZs Yg1 yZv yTl yZw yZx Ylv Yd2 Yd1 Option.isNone_none Option.isNone_some
attribute [push_cast] yXm Ymj Yff Ygo yZd Yc2 yQz yQ0 Yno Yge Yt9 Yni Ynl Ygd k_cpy k_mov Yty k_box k_bld Yt8 Yt0 Ytx Ytz k_bin k_beq k_aeq k_un Yt6 Ynh Ynf Ygc k_fld Yt5 Yt3 Yt4 k_idx Yt2 k_len Yt1 k_app k_mm k_mm3 Yng Ynm Ynn Ynj Yt7 k_ext Yeo Yep Ysm rho_s rho_c Ys9 Yv4 Yv3 Yv2 Yv1 Yv0 Yvz Yvy Yvx Yv9 W_ops W_seq yVa yVb Yde Ywd Yqo Ye7 Ymg Ysw Ywc W_ret Yd3 yWg yOi yHz Ycn
attribute [push_cast] Ynz ev_eq Yu1 yR7 yL9 yR8 Yu0 Yuz Yuy Ynw yPk Yum yOk yaa ybc ymy yC3 yX3 Yqi Ymr Ys8 yxm Yp3 Yqk yR0 yWy yWw yej yPh Ym7 ybw yYn yS2 Ylj Ylk yB4 Ydm Ydl Ydn Ydo ysj yRz yRy Yfv Yfu
theorem yY7(st:St)(k:IntKind)(n:Int):imm st (.int k n)=some (.int k n):=(rfl)
theorem Ygl(st:St)(b:Bool):imm st (.bool b)=some (.bool b):=(rfl)
theorem Yns(st:St)(s:List UInt8):imm st (.str s)=some (.str s):=(rfl)
theorem Ynt(st:St)(sz:Nat)(els:List D)(t:Bool):imm st (.slc sz els t)=some (.slc (nz sz els) els false):=(rfl)
theorem Ynu(st:St)(key tot off len:Nat):imm st (.row key tot off len)=(yec st key tot off len).map fun p=>.slc (nz p.1 p.2) p.2 false:=(rfl)
theorem yZa(st:St)(l:List D):imm st (.agg l)=(immL st l).map .agg:=(rfl)
theorem Ygm(st:St):immL st []=some []:=(rfl)
theorem yJf(st:St)(d:D)(l:List D):immL st (d::l)=(imm1 st d).bind fun x=>(immL st l).map (x::·):=by
 simp only[immL]
 cases imm1 st d with
 |none=>rfl
 |some x=>cases immL st l <;> rfl
theorem Ygh(st:St):imms st []=some []:=(rfl)
theorem yY4(st:St)(d:D)(l:List D):imms st (d::l)=(imm st d).bind fun x=>(imms st l).map (x::·):=by
 simp only[imms]
 cases imm st d with
 |none=>rfl
 |some x=>cases imms st l <;> rfl
theorem yPq(st:St)(d:Dig):immL st (digC d)=some (digC d):=yhv st (ymz d)
theorem Ygw(s:PS):gets s []=some []:=(rfl)
theorem yZn(s:PS)(r:PRes)(l:List PRes):gets s (r::l)=(r.get s).bind fun x=>(gets s l).map (x::·):=by
 simp only[gets]
 cases r.get s with
 |none=>rfl
 |some x=>cases gets s l <;> rfl
theorem Yol(fr:Frame)(st:St)(t:Nat):PRes.get ⟨fr,st⟩ (.tmp t)=imm st (fr t):=(rfl)
theorem Ygy(fr:Frame)(st:St)(t n:Nat)(ag:Bool):PRes.get ⟨fr,st⟩ (.cell t n ag)=(ydd st n ag (fr t)).bind fun d=>imm st d:=by
 simp only[PRes.get]
 cases ydd st n ag (fr t) <;> rfl
theorem yE5(s:PS):raws s []=some []:=(rfl)
theorem yE4(fr:Frame)(st:St)(t:Nat)(l:List PRes):raws ⟨fr,st⟩ (.tmp t::l)=(raws ⟨fr,st⟩ l).map (fr t::·):=(rfl)
theorem Ye3(d:D):pack [d]=d:=(rfl)
theorem Ye2(a b:D)(l:List D):pack (a::b::l)=.tup (a::b::l):=(rfl)
theorem Ye4:pack []=.tup []:=(rfl)
theorem yXv(k:IntKind)(n:Int):(D.int k n).noRef=true:=(rfl)
theorem ySg(b:Bool):(D.bool b).noRef=true:=(rfl)
theorem yXu(sz:Nat)(els:List D)(t:Bool):(D.slc sz els t).noRef=false:=(rfl)
theorem yPj(k:IntKind)(n:Int):keys (.int k n)=[]:=(rfl)
theorem yYr(b:Bool):keys (.bool b)=[]:=(rfl)
theorem Yf4(s:List UInt8):keys (.str s)=[]:=(rfl)
theorem Yf5(sz:Nat)(els:List D)(t:Bool):keys (.slc sz els t)=[]:=(rfl)
theorem Yf6(key tot off len:Nat):keys (.row key tot off len)=[key]:=(rfl)
theorem Yul(k:IntKind)(n:Int):hk (.int k n)=[]:=(rfl)
theorem Yoa(b:Bool):hk (.bool b)=[]:=(rfl)
theorem Yuf(s:List UInt8):hk (.str s)=[]:=(rfl)
theorem Yug(sz:Nat)(els:List D)(t:Bool):hk (.slc sz els t)=[]:=(rfl)
theorem Yuh(key tot off len:Nat):hk (.row key tot off len)=[key]:=(rfl)
theorem Yui(key off:Nat):hk (.ptr key off)=[key]:=(rfl)
theorem Yue(l:List D):hk (.tup l)=[]:=(rfl)
theorem Yn7:hk .junk=[]:=(rfl)
theorem Yl0(n:Nat)(σ:List Nat)(k:IntKind)(m:Int):ren n σ (.int k m)=.int k m:=(rfl)
theorem Yec(n:Nat)(σ:List Nat)(b:Bool):ren n σ (.bool b)=.bool b:=(rfl)
theorem Ylw(n:Nat)(σ:List Nat)(s:List UInt8):ren n σ (.str s)=.str s:=(rfl)
theorem Ylx(n:Nat)(σ:List Nat)(sz:Nat)(els:List D)(t:Bool):ren n σ (.slc sz els t)=.slc sz els t:=(rfl)
theorem Yly(n:Nat)(σ:List Nat)(key tot off len:Nat):ren n σ (.row key tot off len)=ygn (fun k=>.row k tot off len) (renK n σ key):=(rfl)
theorem Ylz(n:Nat)(σ:List Nat)(key off:Nat):ren n σ (.ptr key off)=ygn (fun k=>.ptr k off) (renK n σ key):=(rfl)
theorem yMb(f:Nat→D)(k:Nat):ygn f (some k)=f k:=(rfl)
theorem Yig(k:IntKind)(n:Int):boxD (.int k n)=some [.int k n]:=(rfl)
theorem Yb6(b:Bool):boxD (.bool b)=some [.bool b]:=(rfl)
theorem Yif(sz:Nat)(els:List D)(t:Bool):boxD (.slc sz els t)=some [.slc sz els t]:=(rfl)
theorem Yav(k:IntKind)(n:Int):(D.int k n).cells=[.int k n]:=(rfl)
theorem yT3(b:Bool):(D.bool b).cells=[.bool b]:=(rfl)
theorem Yas(sz:Nat)(els:List D)(t:Bool):(D.slc sz els t).cells=[.slc sz els t]:=(rfl)
theorem Yat(key tot off len:Nat):(D.row key tot off len).cells=[.row key tot off len]:=(rfl)
theorem Yaw(l:List D):(D.agg l).cells=l:=(rfl)
theorem yCu(k:IntKind)(n:Int):(D.int k n).isCell=true:=(rfl)
theorem yMy(b:Bool):(D.bool b).isCell=true:=(rfl)
theorem yS7(sz:Nat)(els:List D)(t:Bool):(D.slc sz els t).isCell=true:=(rfl)
theorem yS8(key tot off len:Nat):(D.row key tot off len).isCell=true:=(rfl)
theorem Yrt(b:Bool):pun .not (.bool b)=some (.bool !b):=(rfl)
theorem Yp7(k:IntKind)(a b:Int):pbin .lss (.int k a) (.int k b)=some (.bool (decide (a<b))):=by simp only[pbin,if_true,icmp,Option.map_some]
theorem Yp8(k:IntKind)(a b:Int):pbin .leq (.int k a) (.int k b)=some (.bool (decide (a≤b))):=by simp only[pbin,if_true,icmp,Option.map_some]
theorem Yp9(k:IntKind)(a b:Int):pbin .gtr (.int k a) (.int k b)=some (.bool (decide (b<a))):=by simp only[pbin,if_true,icmp,Option.map_some,gt_iff_lt]
theorem Yqa(k:IntKind)(a b:Int):pbin .geq (.int k a) (.int k b)=some (.bool (decide (b≤a))):=by simp only[pbin,if_true,icmp,Option.map_some,ge_iff_le]
theorem Yb9(k:IntKind)(a b:Int):pbin .eql (.int k a) (.int k b)=some (.bool (decide (a=b))):=by
 simp only[pbin,if_true,icmp,Option.map_some]
 by_cases h:a=b <;> simp[h]
theorem Yp6(k:IntKind)(a b:Int):pbin .neq (.int k a) (.int k b)=some (.bool (!decide (a=b))):=by
 simp only[pbin,if_true,icmp,Option.map_some]
 by_cases h:a=b <;> simp[h]
theorem Yij(neg a b:Bool):pbeq neg (.bool a) (.bool b)=some (.bool ((a == b) != neg)):=(rfl)
theorem Ys7(k k':IntKind)(a b:Int):mmD true (.int k a) (.int k' b)=some (.int k (max a b)):=by
 simp only[mmD,if_true]
 congr 2
 split <;> omega
theorem Ys6(k k':IntKind)(a b:Int):mmD false (.int k a) (.int k' b)=some (.int k (min a b)):=by
 simp only[mmD,Bool.false_eq_true,if_false]
 congr 2
 split <;> omega
theorem Ymq(k k' k2:IntKind)(a b c:Int):mm3D true (.int k a) (.int k' b) (.int k2 c)=some (.int k (max (max a b) c)):=by
 simp only[mm3D,mm1,if_true]
 congr 2
 split <;> split <;> omega
theorem Yev(st:St)(off key o:Nat):pfld st off (.ptr key o)=some (.ptr key (o+off)):=(rfl)
theorem yXa(st:St)(off:Nat)(el:D)(o:Nat):pfld st off (.eptr el o)=some (.eptr el (o+off)):=(rfl)
theorem Yft(st:St):lend [] st=st:=(rfl)
theorem yYe(k:Nat)(r:List Nat)(st:St):lend (k::r) st=lend r (st.modify k fun o=>{o with lent:=true}):=(rfl)
theorem yMw(b:Bool)(x:St):(if b=true then x else x)=x:=by cases b <;> rfl
theorem yCa(n sz:Nat)(ag:Bool)(key off:Nat)(h:0<n):ypt n sz ag (.ptr key off) none none=some (.bsl key off n sz ag):=by
 have:¬ 0=n:=by omega
 simp[ypt,bnd,this]
attribute [push_cast] yY7 Ygl Yns Ynt Ynu yZa Ygm yJf Ygh yY4 yPq Ygw yZn Yol Ygy yE5 yE4 Ye3 Ye2 Ye4 yXv ySg yXu yPj yYr Yf4 Yf5 Yf6 Yul Yoa Yuf Yug Yuh Yui Yue Yn7 Yl0 Yec Ylw Ylx Yly Ylz yMb Yig Yb6 Yif Yav yT3 Yas Yat Yaw yCu yMy yS7 yS8 Yrt Yp7 Yp8 Yp9 Yqa Yb9 Yp6 Yij Ys7 Ys6 Ymq Yev yXa Yft yYe yMw Option.map_some Option.map_none Option.bind_some Option.bind_none List.map_cons List.map_nil List.flatMap_cons List.flatMap_nil List.append_nil List.nil_append List.cons_append List.getElem?_cons_zero List.getElem?_cons_succ List.set_cons_zero List.set_cons_succ List.modify_zero_cons List.modify_succ_cons List.length_cons List.length_nil List.length_map List.take_zero List.take_succ_cons List.all_cons List.all_nil Nat.zero_add Nat.add_zero Bool.not_true Bool.not_false Bool.and_self Bool.true_and Bool.and_true Bool.false_and Bool.and_false Bool.or_false Bool.false_or Bool.true_or Bool.or_true Bool.not_not if_true if_false decide_true decide_false beq_self_eq_true Bool.false_eq_true Bool.true_eq_false ne_eq bne_self_eq_false Bool.bne_false Bool.bne_true Nat.lt_irrefl Nat.le_refl
def yAe(fr:Frame):List Nat→List Nat
 |[]=>[]
 |k::r=>hk (fr k)++yAe fr r
def ypg(fr:Frame)(n:Nat)(σ:List Nat):List Nat→List (Nat×D)
 |[]=>[]
 |k::r=>(k,ren n σ (fr k))::ypg fr n σ r
def boxK:St→List Nat
 |[]=>[]
 |o::r=>(if o.row then []else o.els.flatMap hk)++boxK r
def yxi(n:Nat)(σ:List Nat)(st:St):List Nat→St
 |[]=>[]
 |k::r=>renO n σ (st.getD k default)::yxi n σ st r
def renS(n:Nat)(σ:List Nat):St→St
 |[]=>[]
 |o::r=>renO n σ o::renS n σ r
def ypr(keep:List Nat)(n m:Nat)(l:List Nat)(fr:Frame)(st:St):PS:=restrictAt keep n (uniq n m l []) ⟨fr,st⟩
theorem yF5(fr:Frame):∀ keep:List Nat,yAe fr keep=keep.flatMap fun k=>hk (fr k)
 |[]=>rfl
 |k::r=>by rw[yAe,List.flatMap_cons,yF5 fr r]
theorem Yb5:∀ st:St,boxK st=st.flatMap fun o=>if o.row then []else o.els.flatMap hk
 |[]=>rfl
 |k::r=>by rw[boxK,List.flatMap_cons,Yb5 r]
theorem yuu(fr:Frame)(n:Nat)(σ:List Nat):∀ keep:List Nat,ypg fr n σ keep=keep.map fun k=>(k,ren n σ (fr k))
 |[]=>rfl
 |k::r=>by rw[ypg,List.map_cons,yuu fr n σ r]
theorem yFd(n:Nat)(σ:List Nat)(st:St):∀ l:List Nat,yxi n σ st l=l.map fun k=>renO n σ (st.getD k default)
 |[]=>rfl
 |k::r=>by rw[yxi,List.map_cons,yFd n σ st r]
theorem yE2(n:Nat)(σ:List Nat):∀ st:St,renS n σ st=st.map (renO n σ)
 |[]=>rfl
 |k::r=>by rw[renS,List.map_cons,yE2 n σ r]
def yze(keep:List Nat)(n:Nat)(fr:Frame)(st:St):PS:=ypr keep n st.length (yAe fr keep++boxK (st.take n)) fr st
theorem yLu(keep:List Nat)(n:Nat)(fr:Frame)(st:St):restrict keep n ⟨fr,st⟩=yze keep (if n≤st.length then n else st.length) fr st:=by
 simp only[restrict,yze,ypr,yI4,yF5,Yb5]
theorem yH1(keep:List Nat)(n:Nat)(fr:Frame)(st:St):yze keep n fr st=ypr keep n st.length (yAe fr keep++boxK (st.take n)) fr st:=(rfl)
def ypq(keep:List Nat)(n:Nat)(σ:List Nat)(fr:Frame)(st:St):PS:=⟨mkF (ypg fr n σ keep),renS n σ (st.take n)++yxi n σ st σ⟩
theorem yH2(keep:List Nat)(n m:Nat)(l:List Nat)(fr:Frame)(st:St):ypr keep n m l fr st=ypq keep n (uniq n m l []) fr st:=by
 simp only[ypr,restrictAt,ypq,yuu,picked,yE2,yFd]
theorem yE0(keep:List Nat)(n:Nat)(σ:List Nat)(fr:Frame)(st:St):restrictAt keep n σ ⟨fr,st⟩=ypq keep n σ fr st:=by
 simp only[restrictAt,ypq,yuu,picked,yE2,yFd]
theorem yH0(keep:List Nat)(n:Nat)(σ:List Nat)(fr:Frame)(st:St):ypq keep n σ fr st=⟨mkF (ypg fr n σ keep),renS n σ (st.take n)++yxi n σ st σ⟩:=(rfl)
theorem yZl(fr:Frame):yAe fr []=[]:=(rfl)
theorem yTf(fr:Frame)(k:Nat)(r:List Nat):yAe fr (k::r)=hk (fr k)++yAe fr r:=(rfl)
theorem yZm(fr:Frame)(n:Nat)(σ:List Nat):ypg fr n σ []=[]:=(rfl)
theorem yTg(fr:Frame)(n:Nat)(σ:List Nat)(k:Nat)(r:List Nat):ypg fr n σ (k::r)=(k,ren n σ (fr k))::ypg fr n σ r:=(rfl)
theorem Yid:boxK []=[]:=(rfl)
theorem Yic(sz:Nat)(els:List D)(lent:Bool)(r:St):boxK ({row:=true,sz,els,lent}::r)=boxK r:=(rfl)
theorem Yie(sz:Nat)(els:List D)(lent:Bool)(r:St):boxK ({row:=false,sz,els,lent}::r)=els.flatMap hk++boxK r:=(rfl)
theorem yW7(n:Nat)(σ:List Nat)(st:St):yxi n σ st []=[]:=(rfl)
theorem yR6(n:Nat)(σ:List Nat)(st:St)(k:Nat)(r:List Nat):yxi n σ st (k::r)=renO n σ (st.getD k default)::yxi n σ st r:=(rfl)
theorem Yed(n:Nat)(σ:List Nat):renS n σ []=[]:=(rfl)
theorem yWo(n:Nat)(σ:List Nat)(o:Obj)(r:St):renS n σ (o::r)=renO n σ o::renS n σ r:=(rfl)
theorem Yc7(lo hi:Nat)(acc:List Nat):uniq lo hi [] acc=acc:=(rfl)
theorem yU5(lo hi k:Nat)(r acc:List Nat):uniq lo hi (k::r) acc=uniq lo hi r (if lo≤k∧k<hi∧acc.contains k=false then acc++[k]else acc):=(rfl)
theorem Yl5(n:Nat)(σ:List Nat)(key:Nat):renK n σ key=if key<n then some key else yH9 σ n key:=(rfl)
theorem Yes(k k':Nat)(r:List Nat)(b:Nat):yH9 (k::r) b k'=if k'=k then some b else yH9 r (b+1) k':=(rfl)
theorem Yee(n:Nat)(σ:List Nat)(sz:Nat)(els:List D)(lent:Bool):renO n σ {row:=true,sz,els,lent}={row:=true,sz,els,lent}:=(rfl)
theorem Yef(n:Nat)(σ:List Nat)(sz:Nat)(els:List D)(lent:Bool):renO n σ {row:=false,sz,els,lent}={row:=false,sz,els:=els.map (ren n σ),lent}:=(rfl)
theorem Yek(n:Nat)(σ:List Nat)(k:IntKind)(m:Int):ren1 n σ (.int k m)=.int k m:=(rfl)
theorem yWr(n:Nat)(σ:List Nat)(b:Bool):ren1 n σ (.bool b)=.bool b:=(rfl)
theorem Yei(n:Nat)(σ:List Nat)(sz:Nat)(els:List D)(t:Bool):ren1 n σ (.slc sz els t)=.slc sz els t:=(rfl)
theorem Yeh(n:Nat)(σ:List Nat)(s:List UInt8):ren1 n σ (.str s)=.str s:=(rfl)
theorem Yej(n:Nat)(σ:List Nat)(key tot off len:Nat):ren1 n σ (.row key tot off len)=ygn (fun k=>.row k tot off len) (renK n σ key):=(rfl)
theorem Yoe(k:IntKind)(m:Int):hk1 (.int k m)=[]:=(rfl)
theorem Ygs(b:Bool):hk1 (.bool b)=[]:=(rfl)
theorem Yoc(sz:Nat)(els:List D)(t:Bool):hk1 (.slc sz els t)=[]:=(rfl)
theorem Yob(s:List UInt8):hk1 (.str s)=[]:=(rfl)
theorem Yod(key tot off len:Nat):hk1 (.row key tot off len)=[key]:=(rfl)
theorem Yup(key off m sz:Nat)(ag:Bool):hk (.bsl key off m sz ag)=[key]:=(rfl)
theorem Yn2(key tot i off:Nat):hk (.rptr key tot i off)=[key]:=(rfl)
theorem Yn6(key:Nat):hk (.mapv key)=[key]:=(rfl)
theorem Yn5:hk .nilf=[]:=(rfl)
theorem Yn3:hk .nilp=[]:=(rfl)
theorem Yn4:hk .nilm=[]:=(rfl)
theorem Yn8(l:List (Int×Nat)):hk (.gmap l)=[]:=(rfl)
theorem Yeb(n:Nat)(σ:List Nat)(l:List (Int×Nat)):ren n σ (.gmap l)=.gmap l:=(rfl)
theorem Yd7(n:Nat)(σ:List Nat):ren n σ .nilm=.nilm:=(rfl)
theorem Yea(n:Nat)(σ:List Nat)(key:Nat):ren n σ (.mapv key)=ygn .mapv (renK n σ key):=(rfl)
theorem Yd8(n:Nat)(σ:List Nat):ren n σ .nilf=.nilf:=(rfl)
theorem Yd6(n:Nat)(σ:List Nat):ren n σ .nilp=.nilp:=(rfl)
def ySv(keep:List Nat)(n:Nat)[Inv:InvC][Q:QC](e:Ex)(fr:Frame)(st:St):Prop:=match e with
 |.next=>Inv.run (restrict keep n ⟨fr,st⟩)
 |e=>Q.run e fr st
def yQt(s:PS)[Inv:InvC]:Prop:=Inv.run s
theorem ySs(keep:List Nat)(n:Nat)(Inv:PS→Prop)(Q:QC)(fr:Frame)(st:St):@ySv keep n ⟨Inv⟩ Q .next fr st=@yQt (restrict keep n ⟨fr,st⟩) ⟨Inv⟩:=(rfl)
theorem ySt(keep:List Nat)(n:Nat)(Inv:InvC)(Q:Ex→Frame→St→Prop)(id:Nat)(fr:Frame)(st:St):@ySv keep n Inv ⟨Q⟩ (.exit id) fr st=Q (.exit id) fr st:=(rfl)
theorem yX7(keep:List Nat)(n:Nat)(Inv:InvC)(Q:Ex→Frame→St→Prop)(fr:Frame)(st:St):@ySv keep n Inv ⟨Q⟩ .ret fr st=Q .ret fr st:=(rfl)
theorem yMl(keep:List Nat)(n:Nat)(Inv:InvC)(Q:Ex→Frame→St→Prop)(t:Nat)(d:D)(fr:Frame)(st:St):@ySv keep n Inv ⟨Q⟩ (.panic t d) fr st=Q (.panic t d) fr st:=(rfl)
theorem ybr{G:Glob}{T:Tbl}{ι:Type}(hd:ι→List (Nat×D))(hs:ι→St)(P:ι→Prop)(μ:ι→Nat)(i0:ι){keep:List Nat}{c:PC}{fr:Frame}{st:St}{Q:Ex→Frame→St→Prop}
  (h0:restrict keep st.length ⟨fr,st⟩=⟨mkF (hd i0),hs i0⟩) (hP:P i0)
  (hstep:∀ i,P i→@wW G T c (mkF (hd i)) (hs i) ⟨@ySv keep st.length ⟨fun s=>∃ j,(P j∧μ j<μ i)∧s=⟨mkF (hd j),hs j⟩⟩ ⟨Q⟩⟩):@wW G T (.loop keep c) fr st ⟨Q⟩:=by
 refine Yc1 (Ywb hd hs P μ i0 h0 hP fun i hi=>ylh c _ _ _ _ (W_of (hstep i hi)) fun e fr' st' h=>?_)
 cases e with
 |next=>
  obtain⟨j,⟨h1,h2⟩,h3⟩:=h
  exact⟨j,h1,h2,h3⟩
 |exit id=>exact h
 |ret=>exact h
 |panic t d=>exact h
theorem yaj{ι:Type}{hd:ι→List (Nat×D)}{hs:ι→St}{P m:ι→Prop}{s:PS}(j:ι)(h1:P j)(h2:m j)(h3:s=⟨mkF (hd j),hs j⟩):@yQt s ⟨fun s=>∃ j,(P j∧m j)∧s=⟨mkF (hd j),hs j⟩⟩:=⟨j,⟨h1,h2⟩,h3⟩
def yIt(keep:List Nat)[Inv:InvC][Q:QC](e:Ex)(fr:Frame)(st:St):Prop:=match e with
 |.next=>Inv.run (keepAll keep ⟨fr,st⟩)
 |e=>Q.run e fr st
theorem yMm(keep:List Nat)(Inv:PS→Prop)(Q:QC)(fr:Frame)(st:St):@yIt keep ⟨Inv⟩ Q .next fr st=@yQt (keepAll keep ⟨fr,st⟩) ⟨Inv⟩:=(rfl)
theorem yMn(keep:List Nat)(Inv:InvC)(Q:Ex→Frame→St→Prop)(id:Nat)(fr:Frame)(st:St):@yIt keep Inv ⟨Q⟩ (.exit id) fr st=Q (.exit id) fr st:=(rfl)
theorem ySu(keep:List Nat)(Inv:InvC)(Q:Ex→Frame→St→Prop)(fr:Frame)(st:St):@yIt keep Inv ⟨Q⟩ .ret fr st=Q .ret fr st:=(rfl)
theorem yIs(keep:List Nat)(Inv:InvC)(Q:Ex→Frame→St→Prop)(t:Nat)(d:D)(fr:Frame)(st:St):@yIt keep Inv ⟨Q⟩ (.panic t d) fr st=Q (.panic t d) fr st:=(rfl)
def Ygb(fr:Frame):List Nat→List (Nat×D)
 |[]=>[]
 |k::l=>(k,fr k)::Ygb fr l
theorem yYu(fr:Frame):Ygb fr []=[]:=(rfl)
theorem yS5(fr:Frame)(k:Nat)(l:List Nat):Ygb fr (k::l)=(k,fr k)::Ygb fr l:=(rfl)
theorem wy_p(T:Tbl)(l:Nat)(y:List D→St→Option (D×St)):(Yj6 T l y).p=T.p:=(rfl)
theorem wy_i(T:Tbl)(l:Nat)(y:List D→St→Option (D×St)):(Yj6 T l y).i=T.i:=(rfl)
theorem wy_m(T:Tbl)(l:Nat)(y:List D→St→Option (D×St)):(Yj6 T l y).m=T.m:=(rfl)
theorem Yam(T:Tbl)(f:Nat)(caps:List D)(h:f<5000000):cloD T (.clo f caps)=(T.i f).map fun sp=>(sp,[],caps):=by
 simp only[cloD,if_pos h]
theorem ygo(T:Tbl)(f f':Nat)(caps:List D)(h:f=f'+5000000)(h':f'<5000000):cloD T (.clo f caps)=(T.i f').map fun sp=>(sp,caps,[]):=by
 subst h
 simp only[cloD,if_neg (show ¬ f'+5000000<5000000 by omega),if_pos (show f'+5000000<10000000 by omega),Nat.add_sub_cancel]
theorem yA8(f:Nat)(caps ds:List D)(h:f<5000000):calD (.clo f caps) ds=some (f,ds++caps):=by
 simp only[calD,if_pos h]
theorem yY1(k:IntKind)(n:Int):yv6 (.int k n)=true:=(rfl)
theorem yS9(k:IntKind)(n:Int):yv6 (.agg [.int k n])=true:=(rfl)
attribute [push_cast] yQ7 Ywa W_pan yXf yU0 yKx yKy yQ1 Yfe yXn ySn ySo ySk ySl yRj Yd5 yWj yRl yWk yRm yLs yY1 yS9
attribute [irreducible] yIt
attribute [push_cast] yMm yMn ySu yYu yS5 wy_p wy_i wy_m Yam ygo yA8 Ykw
attribute [irreducible] ySv yQt
attribute [push_cast] ySs ySt yX7 yMl yIs
attribute [push_cast] Yup Yn2 Yn6 Yn5 Yn3 Yn4 Yn8 Yeb Yd7 Yea Yd8 Yd6 Yeg Ygr
attribute [push_cast] yE0 yLu yH1 yH2 yH0 yZl yTf yZm yTg Yid Yic Yie yW7 yR6 Yed yWo Yc7 yU5 Yl5 Yes Yee Yef Yek yWr Yei Yeh Yej Yoe Ygs Yoc Yob Yod List.getD_cons_zero List.getD_cons_succ List.contains_nil List.contains_cons false_and and_false and_true true_and and_self Int.toNat_natCast Int.cast_ofNat_Int Int.toNat_zero Int.toNat_one
end Go.Proofs.YtijnglngaogdjaaGreatDoor.PI
