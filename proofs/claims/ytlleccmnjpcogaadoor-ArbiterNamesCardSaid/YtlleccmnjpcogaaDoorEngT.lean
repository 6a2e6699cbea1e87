/-
  What a laid argument stands for: from the reading of a type to a pure value; and that it reads the same behind the call.
  Conditions: none; these are definitions and lemmas.
-/
import Derived.Test.YtlleccmnjpcogaaDoorEngR
import Derived.ChangeArms
import Derived.Lib.LaidTab
set_option linter.unusedVariables false
set_option linter.unusedSimpArgs false
namespace Go.Proofs.YtlleccmnjpcogaaDoor.PI
open Go Go.RowKit
inductive Ty where
 | bool
 | int (k:IntKind)
 | str
 | slc (e:Ty)
 | agg (fs:List Ty)
 /-- a slice whose elements' type is told of in another way -/
 | opq (Q:D → Prop)
 deriving Inhabited
mutual
def Ty.size:Ty → Nat
 | .agg fs => Ty.sizes fs
 | _ => 1
def Ty.sizes:List Ty → Nat
 | [] => 0
 | f :: r => f.size + Ty.sizes r
end
inductive Has:Ty → D → Prop
 | bool (b:Bool):Has .bool (.bool b)
 | int (k:IntKind) (n:Int):(Lit.int k n).wf = true → Has (.int k) (.int k n)
 | str (s:List UInt8):s.length ≤ maxLen → Has .str (.str s)
 | slc (e:Ty) (els:List D):(∀ (i:Nat) x,els[i]? = some x → Has e x) → els.length ≤ maxLen → Has (.slc e) (.slc (nz e.size els) els false)
 | opq (Q:D → Prop) (sz:Nat) (els:List D):Q (.slc (nz sz els) els false) → Has (.opq Q) (.slc (nz sz els) els false)
 | agg (fs:List Ty) (xs:List D):fs.length = xs.length → (∀ (i:Nat) f x,fs[i]? = some f → xs[i]? = some x → Has f x) → Has (.agg fs) (.agg (xs.flatMap D.cells))
def offsOK (P:Program):Nat → List Field → List Ty → Bool
 | _,[],[] => true
 | o,f :: fs,t :: ts => f.offset == o && P.cellsOf f.type == t.size && offsOK P (o + t.size) fs ts
 | _,_,_ => false
def tysOf (tf:TypeId → Option Ty):List Field → Option (List Ty)
 | [] => some []
 | f :: fs => match tf f.type,tysOf tf fs with
  | some t,some ts => some (t :: ts)
  | _,_ => none
inductive TyD (P:Program):TypeId → D → Prop
 | bool (t:TypeId) (b:Bool):P.underlying t = some .bool → TyD P t (.bool b)
 | int (t:TypeId) (k:IntKind) (n:Int):P.underlying t = some (.int k) → (Lit.int k n).wf = true → TyD P t (.int k n)
 | str (t:TypeId) (s:List UInt8):P.underlying t = some .string → s.length ≤ maxLen → TyD P t (.str s)
 | slc (t e:TypeId) (els:List D):P.underlying t = some (.slice e) → (∀ x ∈ els,TyD P e x) → els.length ≤ maxLen → TyD P t (.slc (nz (P.cellsOf e) els) els false)
 | agg (t:TypeId) (fs:Array Field) (xs:List D):P.underlying t = some (.struct fs) → fs.toList.length = xs.length → (∀ (i:Nat) f x,fs.toList[i]? = some f → xs[i]? = some x → TyD P f.type x) → TyD P t (.agg (xs.flatMap D.cells))
 | arr (t:TypeId) (m:Nat) (e:TypeId) (xs:List D):P.underlying t = some (.array m e) → xs.length = m → (∀ x ∈ xs,TyD P e x) → TyD P t (.agg (xs.flatMap D.cells))
def offsC (P:Program):Nat → Nat → List Field → Bool
 | o,n,[] => o == n
 | o,n,f :: fs => f.offset == o && offsC P (o + P.cellsOf f.type) n fs
def closedIn (P:Program) (S:List TypeId) (t:TypeId):Bool := match P.underlying t with
 | some .bool | some (.int _) | some .string => P.cellsOf t == 1
 | some (.slice e) => S.contains e && decide (0 < P.cellsOf e) && P.cellsOf t == 1
 | some (.struct fs) => fs.toList.all (fun f => S.contains f.type) && offsC P 0 (P.cellsOf t) fs.toList
 | some (.array m e) => S.contains e && P.cellsOf t == m * P.cellsOf e
 | _ => false
def closed (P:Program) (S:List TypeId):Bool := S.all (closedIn P S)
def below1 (P:Program) (t:TypeId):List TypeId := match P.underlying t with
 | some (.slice e) | some (.array _ e) => [e]
 | some (.struct fs) => fs.toList.map (·.type)
 | _ => []
def clos (P:Program):Nat → List TypeId → List TypeId
 | 0,S => S
 | n + 1,S => clos P n ((S ++ S.flatMap (below1 P)).eraseDups)
def tyOf (P:Program):Nat → TypeId → Option Ty
 | 0,_ => none
 | n + 1,t => match P.underlying t with
  | some .bool => some .bool
  | some (.int k) => some (.int k)
  | some .string => some .str
  | some (.slice e) => match tyOf P n e with
   | some x => if P.cellsOf e == x.size && decide (0 < x.size) then some (.slc x) else none
   | none => if closed P (clos P 6 [t]) && (clos P 6 [t]).contains t then some (.opq (TyD P t)) else none
  | some (.struct fs) => match tysOf (tyOf P n) fs.toList with
   | some ts => if offsOK P 0 fs.toList ts && P.cellsOf t == Ty.sizes ts then some (.agg ts) else none
   | none => none
  | some (.array m e) => match tyOf P n e with
   | some x => if P.cellsOf e == x.size && P.cellsOf t == m * x.size then some (.agg (List.replicate m x)) else none
   | none => none
  | _ => none
def allIm (w:World):Nat → Nat → Prop := fun b o => (w.cell? ⟨b,o,none⟩).isSome = true
def ghost0 (w:World):Ghost := { β := id,γ := id,Im := allIm w }
section
variable {H:Type} {enc:TypeId × Value → H} {P:Program} {w:World}
def RepL (w:World) (xs:List D) (cs:List Value):Prop := xs.length = cs.length ∧ (∀ (j:Nat) y v,xs[j]? = some y → cs[j]? = some v → RepV w (ghost0 w) [] y v) ∧ ∀ y ∈ xs,y.pure1 = true
theorem RepL.nil:RepL w [] [] := ⟨rfl,fun j y v h => by simp at h,fun y h => by cases h⟩
theorem RepL.append {xs ys:List D} {cs ds:List Value} (h:RepL w xs cs) (h':RepL w ys ds):RepL w (xs ++ ys) (cs ++ ds) := by
 refine ⟨by simp [h.1,h'.1],fun j y v hy hv => ?_,fun y hy => ?_⟩
 ·rcases Nat.lt_or_ge j xs.length with hj | hj
  ·rw [List.getElem?_append_left hj] at hy
   rw [List.getElem?_append_left (by rw [← h.1]; exact hj)] at hv
   exact h.2.1 j y v hy hv
  ·rw [List.getElem?_append_right hj] at hy
   rw [List.getElem?_append_right (by rw [← h.1]; exact hj),← h.1] at hv
   exact h'.2.1 _ y v hy hv
 ·rcases List.mem_append.1 hy with hy | hy
  ·exact h.2.2 y hy
  ·exact h'.2.2 y hy
theorem RepL.one {x:D} {v:Value} (h:RepV w (ghost0 w) [] x v) (hp:x.pure1 = true):RepL w x.cells [v] := by
 rw [pure1_cells hp]
 refine ⟨rfl,fun j y u hy hu => ?_,fun y hy => ?_⟩
 ·cases j with
  | zero => simp at hy hu; subst hy; subst hu; exact h
  | succ j => simp at hy
 ·simp at hy; subst hy; exact hp
theorem str_of {s:ByteArray}:RepV w (ghost0 w) [] (.str s.data.toList) (.string s) := str_rep s _ rfl
mutual
def wt:D → Nat
 | .slc _ els _ => wts els + 1
 | .agg l => wts l
 | .str s => s.length + 1
 | .int _ _ => 1
 | .bool _ => 1
 | _ => 0
def wts:List D → Nat
 | [] => 0
 | d :: l => wt d + wts l
end
mutual
def blk {H:Type}:DataW H → Nat
 | .lit (.string s) => s.length + 1
 | .lit _ => 1
 | .nil => 1
 | .slice e _ => blks e + 1
 | .agg p => blks p
 | _ => 0
def blks {H:Type}:List (DataW H) → Nat
 | [] => 0
 | d :: l => blk d + blks l
end
theorem wts_append:∀ (a b:List D),wts (a ++ b) = wts a + wts b
 | [],b => by simp [wts]
 | x :: a,b => by rw [List.cons_append,wts,wts,wts_append a b]; omega
theorem wts_cells (d:D):wts d.cells = wt d := by
 cases d <;> simp [D.cells,wts,wt]
theorem wts_le:∀ (a:List D) (b:List (DataW H)),a.length = b.length → (∀ (i:Nat) x y,a[i]? = some x → b[i]? = some y → wt x ≤ blk y) → wts a ≤ blks b
 | [],b,_,_ => by simp [wts]
 | x :: a,[],h,_ => by simp at h
 | x :: a,y :: b,h,hle => by
  have h1 := hle 0 x y rfl rfl
  have h2 := wts_le a b (by simpa using h) (fun i x y hx hy => hle (i + 1) x y (by simpa using hx) (by simpa using hy))
  simp only [wts,blks]
  omega
def Reads (enc:TypeId × Value → H) (P:Program) (w:World) (sp:Nat → Bool) (t:TypeId) (ty:Ty):Prop :=
 ∀ (fuel:Nat) (cs:List Value) (x:DataW H × List MemPlace),DataW.trod enc P w 0 sp true fuel t cs = some x → ∃ d,Has ty d ∧ RepL w d.cells cs ∧ cs.length = ty.size ∧ ((∃ fs,ty = .agg fs) ∨ d.pure1 = true) ∧ wt d ≤ blk x.1
theorem fields_reads {sp:Nat → Bool} {tf:TypeId → Option Ty} (htf:∀ t ty,tf t = some ty → Reads enc P w sp t ty) (fuel:Nat) (cs:List Value):∀ (fs:List Field) (ts:List Ty) (o:Nat) (ys:List (DataW H × List MemPlace)),
  tysOf tf fs = some ts → offsOK P o fs ts = true → fs.mapM (fun f => DataW.trod enc P w 0 sp true fuel f.type ((cs.drop f.offset).take (P.cellsOf f.type))) = some ys →
  ∃ xs:List D,ts.length = xs.length ∧ (∀ (i:Nat) f x,ts[i]? = some f → xs[i]? = some x → Has f x) ∧ RepL w (xs.flatMap D.cells) ((cs.drop o).take (Ty.sizes ts)) ∧ (o ≤ cs.length → o + Ty.sizes ts ≤ cs.length) ∧ wts (xs.flatMap D.cells) ≤ blks (ys.map (·.1))
 | [],ts,o,ys,h1,h2,h3 => by
  simp [tysOf] at h1; subst h1
  exact ⟨[],rfl,fun i f x h => by simp at h,by simpa [Ty.sizes] using RepL.nil,fun h => by simpa [Ty.sizes] using h,by simp [wts]⟩
 | f :: fs,ts,o,ys,h1,h2,h3 => by
  unfold tysOf at h1
  split at h1
  case h_2 => cases h1
  rename_i t ts' ht hts
  simp only [Option.some.injEq] at h1; subst h1
  simp only [offsOK,Bool.and_eq_true,beq_iff_eq] at h2
  obtain ⟨⟨e1,e2⟩,e3⟩ := h2
  simp only [List.mapM_cons,Option.bind_eq_bind,Option.bind_eq_some_iff,Option.pure_def,Option.some.injEq] at h3
  obtain ⟨y,hy,ys',hys,rfl⟩ := h3
  rw [e1,e2] at hy
  obtain ⟨d,d1,d2,d3,_,d5⟩ := htf _ _ ht fuel _ _ hy
  obtain ⟨xs,x1,x2,x3,x4,x5⟩ := fields_reads htf fuel cs fs ts' (o + t.size) ys' hts e3 hys
  have hlen:o + t.size ≤ cs.length ∨ t.size = 0 := by
   simp only [List.length_take,List.length_drop] at d3
   omega
  refine ⟨d :: xs,by simp [x1],?_,?_,?_,?_⟩
  ·intro i f' x hf hx
   cases i with
   | zero => simp at hf hx; subst hf; subst hx; exact d1
   | succ i => simp at hf hx; exact x2 i f' x hf hx
  ·have := d2.append x3
   simp only [List.flatMap_cons,Ty.sizes]
   rw [List.take_add,List.drop_drop]
   exact this
  ·intro ho
   simp only [Ty.sizes]
   have := x4 (by omega)
   omega
  ·simp only [List.flatMap_cons,wts_append,wts_cells,List.map_cons,blks]
   omega
theorem items_reads {sp:Nat → Bool} {e:TypeId} {x:Ty} (hr:Reads enc P w sp e x) (hc:P.cellsOf e = x.size) (fuel:Nat) (cs:List Value):∀ (n k:Nat) (ys:List (DataW H × List MemPlace)),
  (List.range' k n).mapM (fun i => DataW.trod enc P w 0 sp true fuel e ((cs.drop (i * P.cellsOf e)).take (P.cellsOf e))) = some ys →
  ∃ xs:List D,xs.length = n ∧ (∀ (i:Nat) y,xs[i]? = some y → Has x y) ∧ RepL w (xs.flatMap D.cells) ((cs.drop (k * x.size)).take (n * x.size)) ∧ wts (xs.flatMap D.cells) ≤ blks (ys.map (·.1))
 | 0,k,ys,h => ⟨[],rfl,fun i y h => by simp at h,by simpa using RepL.nil,by simp [wts]⟩
 | n + 1,k,ys,h => by
  simp only [List.range'_succ,List.mapM_cons,Option.bind_eq_bind,Option.bind_eq_some_iff,Option.pure_def,Option.some.injEq] at h
  obtain ⟨y,hy,ys',hys,rfl⟩ := h
  rw [hc] at hy
  obtain ⟨d,d1,d2,d3,_,d5⟩ := hr fuel _ _ hy
  obtain ⟨xs,x1,x2,x3,x5⟩ := items_reads hr hc fuel cs n (k + 1) ys' hys
  refine ⟨d :: xs,by simp [x1],?_,?_,?_⟩
  ·intro i y hy
   cases i with
   | zero => simp at hy; subst hy; exact d1
   | succ i => simp at hy; exact x2 i y hy
  ·have := d2.append x3
   simp only [List.flatMap_cons]
   rw [Nat.add_mul,Nat.one_mul,Nat.add_comm (n * x.size),List.take_add,List.drop_drop]
   rw [Nat.add_mul,Nat.one_mul] at this
   exact this
  ·simp only [List.flatMap_cons,wts_append,wts_cells,List.map_cons,blks]
   omega
theorem Ty.sizes_replicate (x:Ty):∀ m,Ty.sizes (List.replicate m x) = m * x.size
 | 0 => by simp [Ty.sizes]
 | m + 1 => by rw [List.replicate_succ,Ty.sizes,Ty.sizes_replicate x m,Nat.add_mul,Nat.one_mul,Nat.add_comm]
theorem cells?_get {base:Nat} {a:Addr} {n:Nat} {cs:List Value} (h:w.cells? base a n = some cs):cs.length = n ∧ ∀ (j:Nat) v,cs[j]? = some v → w.cell? (a.add j) = some v := by
 unfold World.cells? at h
 split at h
 ·have hl:cs.length = n := by simpa using Lib.mapM_length h
  refine ⟨hl,fun j v hv => ?_⟩
  have hj:j < n := by rw [← hl]; exact (List.getElem?_eq_some_iff.1 hv).1
  obtain ⟨b,hb,hf⟩ := Lib.mapM_at h j j (by simp [hj])
  rw [hv] at hb
  rw [hf,Option.some.inj hb]
 ·cases h
def ReadsD (enc:TypeId × Value → H) (P:Program) (w:World) (sp:Nat → Bool) (fuel:Nat) (t:TypeId):Prop :=
 ∀ (cs:List Value) (x:DataW H × List MemPlace),DataW.trod enc P w 0 sp true fuel t cs = some x → ∃ d,TyD P t d ∧ RepL w d.cells cs ∧ cs.length = P.cellsOf t ∧ ((∃ l,d = .agg l) ∨ d.pure1 = true) ∧ wt d ≤ blk x.1
theorem fieldsD_reads {sp:Nat → Bool} {fuel:Nat} (cs:List Value) (n:Nat):∀ (fs:List Field) (o:Nat) (ys:List (DataW H × List MemPlace)),(∀ f ∈ fs,ReadsD enc P w sp fuel f.type) → offsC P o n fs = true →
  fs.mapM (fun f => DataW.trod enc P w 0 sp true fuel f.type ((cs.drop f.offset).take (P.cellsOf f.type))) = some ys →
  ∃ xs:List D,fs.length = xs.length ∧ (∀ (i:Nat) f x,fs[i]? = some f → xs[i]? = some x → TyD P f.type x) ∧ RepL w (xs.flatMap D.cells) ((cs.drop o).take (n - o)) ∧ o ≤ n ∧ wts (xs.flatMap D.cells) ≤ blks (ys.map (·.1))
 | [],o,ys,_,h2,h3 => by
  simp only [offsC,beq_iff_eq] at h2
  subst h2
  exact ⟨[],rfl,fun i f x h => by simp at h,by simpa using RepL.nil,Nat.le_refl _,by simp [wts]⟩
 | f :: fs,o,ys,htf,h2,h3 => by
  simp only [offsC,Bool.and_eq_true,beq_iff_eq] at h2
  obtain ⟨e1,e3⟩ := h2
  simp only [List.mapM_cons,Option.bind_eq_bind,Option.bind_eq_some_iff,Option.pure_def,Option.some.injEq] at h3
  obtain ⟨y,hy,ys',hys,rfl⟩ := h3
  rw [e1] at hy
  obtain ⟨d,d1,d2,d3,_,d5⟩ := htf f (by simp) _ _ hy
  obtain ⟨xs,x1,x2,x3,x4,x5⟩ := fieldsD_reads cs n fs (o + P.cellsOf f.type) ys' (fun g hg => htf g (by simp [hg])) e3 hys
  refine ⟨d :: xs,by simp [x1],?_,?_,by omega,?_⟩
  ·intro i f' x hf hx
   cases i with
   | zero => simp at hf hx; subst hf; subst hx; exact d1
   | succ i => simp at hf hx; exact x2 i f' x hf hx
  ·have := d2.append x3
   simp only [List.flatMap_cons]
   rw [show n - o = P.cellsOf f.type + (n - (o + P.cellsOf f.type)) by omega,List.take_add,List.drop_drop]
   exact this
  ·simp only [List.flatMap_cons,wts_append,wts_cells,List.map_cons,blks]
   omega
theorem itemsD_reads {sp:Nat → Bool} {fuel:Nat} {e:TypeId} (hr:ReadsD enc P w sp fuel e) (cs:List Value):∀ (n k:Nat) (ys:List (DataW H × List MemPlace)),
  (List.range' k n).mapM (fun i => DataW.trod enc P w 0 sp true fuel e ((cs.drop (i * P.cellsOf e)).take (P.cellsOf e))) = some ys →
  ∃ xs:List D,xs.length = n ∧ (∀ y ∈ xs,TyD P e y) ∧ RepL w (xs.flatMap D.cells) ((cs.drop (k * P.cellsOf e)).take (n * P.cellsOf e)) ∧ wts (xs.flatMap D.cells) ≤ blks (ys.map (·.1))
 | 0,k,ys,h => ⟨[],rfl,(fun y h => by cases h),by simpa using RepL.nil,by simp [wts]⟩
 | n + 1,k,ys,h => by
  simp only [List.range'_succ,List.mapM_cons,Option.bind_eq_bind,Option.bind_eq_some_iff,Option.pure_def,Option.some.injEq] at h
  obtain ⟨y,hy,ys',hys,rfl⟩ := h
  obtain ⟨d,d1,d2,d3,_,d5⟩ := hr _ _ hy
  obtain ⟨xs,x1,x2,x3,x5⟩ := itemsD_reads hr cs n (k + 1) ys' hys
  refine ⟨d :: xs,by simp [x1],?_,?_,?_⟩
  ·intro y hy
   rcases List.mem_cons.1 hy with rfl | hy
   ·exact d1
   ·exact x2 y hy
  ·have := d2.append x3
   simp only [List.flatMap_cons]
   rw [Nat.add_mul,Nat.one_mul,Nat.add_comm (n * P.cellsOf e),List.take_add,List.drop_drop]
   rw [Nat.add_mul,Nat.one_mul] at this
   exact this
  ·simp only [List.flatMap_cons,wts_append,wts_cells,List.map_cons,blks]
   omega
theorem slice_reads {Q:D → Prop} {sz:Nat} {a:Addr} {len cap:Nat} {bs:Nat → Nat} (hpos:0 < sz) (hlc:len ≤ cap)
  (hall:∀ i,i < len → ∃ d,Q d ∧ d.cells.length = sz ∧ (∀ (j:Nat) y,d.cells[j]? = some y → y.pure1 = true ∧ ∃ v,w.cell? ((a.add (i * sz)).add j) = some v ∧ RepV w (ghost0 w) [] y v) ∧ wt d ≤ bs i) :
  ∃ els:List D,els.length = len ∧ (∀ x ∈ els,Q x) ∧ RepL w (D.slc (nz sz els) els false).cells [.slice (some a) len cap] ∧ ∀ (i:Nat) x,els[i]? = some x → wt x ≤ bs i := by
 let f:Nat → D := fun i => if hi:i < len then (hall i hi).choose else .junk
 have hf:∀ i (hi:i < len),f i = (hall i hi).choose := fun i hi => by simp [f,hi]
 have hget:∀ (i:Nat) x,((List.range len).map f)[i]? = some x → ∃ hi:i < len,x = (hall i hi).choose := by
  intro i x hx
  simp only [List.getElem?_map,Option.map_eq_some_iff] at hx
  obtain ⟨i',h1,rfl⟩ := hx
  rw [List.getElem?_eq_some_iff] at h1
  obtain ⟨h2,h3⟩ := h1
  simp at h2 h3
  subst h3
  exact ⟨h2,hf i h2⟩
 refine ⟨(List.range len).map f,by simp,fun x hx => ?_,?_,fun i x hx => ?_⟩
 ·obtain ⟨i,hi⟩ := List.getElem?_of_mem hx
  obtain ⟨hi',rfl⟩ := hget i x hi
  exact (hall i hi').choose_spec.1
 ·refine RepL.one (RepV.nz (t := false) ?_) rfl
  rcases Nat.eq_zero_or_pos len with h0 | h0
  ·subst h0
   exact .slcE _ false (some a) cap (fun h => by cases h)
  ·have hsp:a.spot = none := by
    obtain ⟨d1,d2,d3,_⟩ := (hall 0 h0).choose_spec
    obtain ⟨_,v,h1,_⟩ := d3 0 _ (List.getElem?_eq_getElem (by rw [d2]; exact hpos))
    rw [Nat.zero_mul] at h1
    have h2:(a.add 0).add 0 = a := by simp [Addr.add]
    rw [h2] at h1
    unfold World.cell? at h1
    split at h1
    ·split at h1
     ·cases h1
     ·rename_i hs; simpa using hs
    ·cases h1
   obtain ⟨b,off,spot⟩ := a
   simp only at hsp
   subst hsp
   have hl:len = ((List.range len).map f).length := by simp
   conv => rhs; rw [hl]
   refine RepV.slc_mk hpos ?_ (by simpa using hlc) (fun h => by cases h) ?_
   ·intro e' he'
    obtain ⟨i,hi⟩ := List.getElem?_of_mem he'
    obtain ⟨hi',rfl⟩ := hget i e' hi
    exact (hall i hi').choose_spec.2.1
   ·intro i j d hd
    obtain ⟨e',he,hj⟩ := cellAt_some hd
    obtain ⟨hi',rfl⟩ := hget i e' he
    obtain ⟨hp,v,hv,hr⟩ := (hall i hi').choose_spec.2.2.1 j d hj
    rw [add_lit,add_lit] at hv
    refine ⟨hp,?_,v,hv,hr⟩
    show (w.cell? ⟨b,off + i * sz + j,none⟩).isSome = true
    rw [hv]; rfl
 ·obtain ⟨hi',rfl⟩ := hget i x hx
  exact (hall i hi').choose_spec.2.2.2
theorem clos_reads {sp:Nat → Bool} {S:List TypeId} (hS:closed P S = true):∀ (fuel:Nat) (t:TypeId),t ∈ S → ReadsD enc P w sp fuel t
 | 0,t,_ => by intro cs x hx; simp [DataW.trod] at hx
 | fuel + 1,t,ht => by
  have ih := fun t ht => clos_reads (sp := sp) hS fuel t ht
  have hc:closedIn P S t = true := List.all_eq_true.1 hS t ht
  unfold closedIn at hc
  intro cs x hx
  split at hc
  ·rename_i hu
   simp only [beq_iff_eq] at hc
   unfold DataW.trod at hx
   rw [hu] at hx
   split at hx <;> simp_all
   exact ⟨_,.bool t _ hu,RepL.one (.bool _) rfl,.inr rfl,by rw [← hx]; simp [wt,blk]⟩
  ·rename_i k hu
   simp only [beq_iff_eq] at hc
   unfold DataW.trod at hx
   rw [hu] at hx
   split at hx <;> simp_all
   rename_i k' m
   obtain ⟨⟨rfl,hw⟩,hx2⟩ := hx
   exact ⟨_,.int t _ _ hu hw,RepL.one (.int _ _) rfl,.inr rfl,by rw [← hx2]; simp [wt,blk]⟩
  ·rename_i hu
   simp only [beq_iff_eq] at hc
   unfold DataW.trod at hx
   rw [hu] at hx
   split at hx <;> simp_all
   rename_i s
   exact ⟨_,.str t s.data.toList hu (by simpa using hx.1),RepL.one str_of rfl,.inr rfl,by rw [← hx.2]; simp [wt,blk]⟩
  ·rename_i e hu
   simp only [Bool.and_eq_true,List.contains_iff_mem,decide_eq_true_eq,beq_iff_eq] at hc
   obtain ⟨⟨hin,hpos⟩,hone⟩ := hc
   rcases DataW.trod_slice hu hx with ⟨rfl,hx2⟩ | ⟨a,len,cap,elems,rest,m,hm,rfl,hx2,_,hlc,hcm,hlen,hel,_,_⟩
   ·refine ⟨.slc (nz (P.cellsOf e) []) [] false,.slc t e [] hu (fun x h => by cases h) (Nat.zero_le _),RepL.one (.slcE _ false none 0 (fun h => by cases h)) rfl,hone.symm,.inr rfl,by rw [hx2]; simp [wt,wts,blk]⟩
   ·obtain rfl:m = fuel := by omega
    have hall:∀ i,i < len → ∃ d,TyD P e d ∧ d.cells.length = P.cellsOf e ∧ (∀ (j:Nat) y,d.cells[j]? = some y → y.pure1 = true ∧ ∃ v,w.cell? ((a.add (i * P.cellsOf e)).add j) = some v ∧ RepV w (ghost0 w) [] y v) ∧ wt d ≤ ((elems[i]?).map fun y => blk y.1).getD 0 := by
     intro i hi
     have h1 := hel i hi
     rw [List.getElem?_eq_getElem (by omega)] at h1 ⊢
     simp only [Option.bind_eq_some_iff] at h1
     obtain ⟨cs',h2,h3⟩ := h1
     obtain ⟨d,d1,d2,d3,_,d5⟩ := ih e hin cs' _ h3
     obtain ⟨h4,h5⟩ := cells?_get h2
     refine ⟨d,d1,by rw [d2.1,h4],fun j y hy => ⟨d2.2.2 y (List.mem_of_getElem? hy),?_⟩,by simpa using d5⟩
     have hj:j < cs'.length := by rw [← d2.1]; exact (List.getElem?_eq_some_iff.1 hy).1
     exact ⟨cs'[j],h5 j _ (List.getElem?_eq_getElem hj),d2.2.1 j y _ hy (List.getElem?_eq_getElem hj)⟩
    obtain ⟨els,e1,e2,e3,e4⟩ := slice_reads hpos hlc hall
    refine ⟨_,.slc t e els hu e2 (by omega),e3,hone.symm,.inr rfl,?_⟩
    rw [hx2]
    simp only [wt,blk]
    refine Nat.succ_le_succ (wts_le _ _ (by simp; omega) ?_)
    intro i x y hx hy
    have h1 := e4 i x hx
    simp only [List.getElem?_map,Option.map_eq_some_iff] at hy
    obtain ⟨z,hz,rfl⟩ := hy
    rw [hz] at h1
    simpa using h1
  ·rename_i fs hu
   simp only [Bool.and_eq_true,List.all_eq_true,List.contains_iff_mem] at hc
   obtain ⟨hin,hoff⟩ := hc
   unfold DataW.trod at hx
   rw [hu] at hx
   simp only at hx
   split at hx
   case isFalse => cases hx
   rename_i hl
   simp only [Option.map_eq_some_iff] at hx
   obtain ⟨ys,hys,rfl⟩ := hx
   obtain ⟨xs,x1,x2,x3,x4,x5⟩ := fieldsD_reads cs (P.cellsOf t) fs.toList 0 ys (fun f hf => ih f.type (hin f hf)) hoff hys
   refine ⟨.agg (xs.flatMap D.cells),.agg t fs xs hu x1 x2,?_,hl,.inl ⟨_,rfl⟩,by simpa only [wt,blk] using x5⟩
   rw [List.drop_zero,Nat.sub_zero,List.take_of_length_le (by omega)] at x3
   exact x3
  ·rename_i m e hu
   simp only [Bool.and_eq_true,List.contains_iff_mem,beq_iff_eq] at hc
   obtain ⟨hin,hsz⟩ := hc
   unfold DataW.trod at hx
   rw [hu] at hx
   simp only at hx
   split at hx
   case isFalse => cases hx
   rename_i hl
   simp only [Option.map_eq_some_iff] at hx
   obtain ⟨ys,hys,rfl⟩ := hx
   rw [List.range_eq_range'] at hys
   obtain ⟨xs,x1,x2,x3,x5⟩ := itemsD_reads (ih e hin) cs m 0 ys hys
   refine ⟨.agg (xs.flatMap D.cells),.arr t m e xs hu x1 x2,?_,hl,.inl ⟨_,rfl⟩,by simpa only [wt,blk] using x5⟩
   rw [Nat.zero_mul,List.drop_zero,List.take_of_length_le (by omega)] at x3
   exact x3
  ·cases hc
theorem ty_reads {sp:Nat → Bool}:∀ (n:Nat) (t:TypeId) (ty:Ty),tyOf P n t = some ty → Reads enc P w sp t ty
 | 0,_,_,h => by simp [tyOf] at h
 | n + 1,t,ty,h => by
  have ih := ty_reads (sp := sp) n
  intro fuel cs x hx
  unfold tyOf at h
  cases fuel with
  | zero => simp [DataW.trod] at hx
  | succ fuel =>
  split at h
  ·rename_i hu
   simp only [Option.some.injEq] at h; subst h
   unfold DataW.trod at hx
   rw [hu] at hx
   split at hx <;> simp_all
   exact ⟨_,.bool _,RepL.one (.bool _) rfl,rfl,rfl,by rw [← hx]; simp [wt,blk]⟩
  ·rename_i k hu
   simp only [Option.some.injEq] at h; subst h
   unfold DataW.trod at hx
   rw [hu] at hx
   split at hx <;> simp_all
   rename_i k' m
   obtain ⟨⟨rfl,hw⟩,hx2⟩ := hx
   exact ⟨_,.int _ _ hw,RepL.one (.int _ _) rfl,rfl,rfl,by rw [← hx2]; simp [wt,blk]⟩
  ·rename_i hu
   simp only [Option.some.injEq] at h; subst h
   unfold DataW.trod at hx
   rw [hu] at hx
   split at hx <;> simp_all
   rename_i s
   exact ⟨_,.str s.data.toList (by simpa using hx.1),RepL.one str_of rfl,rfl,rfl,by rw [← hx.2]; simp [wt,blk]⟩
  ·rename_i e hu
   split at h
   case h_2 =>
    split at h
    case isFalse => cases h
    rename_i hcl
    simp only [Bool.and_eq_true,List.contains_iff_mem] at hcl
    simp only [Option.some.injEq] at h; subst h
    obtain ⟨d,d1,d2,d3,d4,d5⟩ := clos_reads hcl.1 (fuel + 1) t hcl.2 cs x hx
    have hone:P.cellsOf t = 1 := by
     have := List.all_eq_true.1 hcl.1 t hcl.2
     unfold closedIn at this
     rw [hu] at this
     simp only [Bool.and_eq_true,beq_iff_eq] at this
     exact this.2
    rw [hone] at d3
    have:∃ sz els,d = .slc (nz sz els) els false := by
     cases d1 with
     | slc _ e' els h1 h2 h3 => exact ⟨_,_,rfl⟩
     | agg _ fs xs h1 => rw [hu] at h1; cases h1
     | arr _ m e' xs h1 => rw [hu] at h1; cases h1
     | bool _ b h1 => rw [hu] at h1; cases h1
     | int _ k n h1 => rw [hu] at h1; cases h1
     | str _ s h1 => rw [hu] at h1; cases h1
    obtain ⟨sz,els,rfl⟩ := this
    exact ⟨_,.opq _ sz els d1,d2,d3,.inr rfl,d5⟩
   rename_i ex hex
   split at h
   case isFalse => cases h
   rename_i hc
   simp only [Bool.and_eq_true,beq_iff_eq,decide_eq_true_eq] at hc
   simp only [Option.some.injEq] at h; subst h
   rcases DataW.trod_slice hu hx with ⟨rfl,hx2⟩ | ⟨a,len,cap,elems,rest,m,_,rfl,hx2,_,hlc,hcm,hlen,hel,_,_⟩
   ·exact ⟨_,.slc ex [] (fun i x h => by simp at h) (Nat.zero_le _),RepL.one (.slcE _ false none 0 (fun h => by cases h)) rfl,rfl,.inr rfl,by rw [hx2]; simp [wt,wts,blk]⟩
   ·have hall:∀ i (hi:i < len),∃ d,Has ex d ∧ d.cells.length = ex.size ∧ (∀ (j:Nat) y,d.cells[j]? = some y → y.pure1 = true ∧ ∃ v,w.cell? ((a.add (i * ex.size)).add j) = some v ∧ RepV w (ghost0 w) [] y v) ∧ wt d ≤ blk (elems[i]'(by omega)).1 := by
     intro i hi
     have h1 := hel i hi
     rw [hc.1,List.getElem?_eq_getElem (by omega)] at h1
     simp only [Option.bind_eq_some_iff] at h1
     obtain ⟨cs',h2,h3⟩ := h1
     obtain ⟨d,d1,d2,d3,_,d5⟩ := ih e ex hex m cs' _ h3
     obtain ⟨h4,h5⟩ := cells?_get h2
     refine ⟨d,d1,by rw [d2.1,h4],fun j y hy => ⟨d2.2.2 y (List.mem_of_getElem? hy),?_⟩,d5⟩
     have hj:j < cs'.length := by rw [← d2.1]; exact (List.getElem?_eq_some_iff.1 hy).1
     exact ⟨cs'[j],h5 j _ (List.getElem?_eq_getElem hj),d2.2.1 j y _ hy (List.getElem?_eq_getElem hj)⟩
    let f:Nat → D := fun i => if hi:i < len then (hall i hi).choose else .junk
    have hf:∀ i (hi:i < len),f i = (hall i hi).choose := fun i hi => by simp [f,hi]
    have hget:∀ (i:Nat) x,((List.range len).map f)[i]? = some x → ∃ hi:i < len,x = (hall i hi).choose := by
     intro i x hx
     simp only [List.getElem?_map,Option.map_eq_some_iff] at hx
     obtain ⟨i',h1,rfl⟩ := hx
     rw [List.getElem?_eq_some_iff] at h1
     obtain ⟨h2,h3⟩ := h1
     simp at h2 h3
     subst h3
     exact ⟨h2,hf i h2⟩
    refine ⟨.slc (nz ex.size ((List.range len).map f)) ((List.range len).map f) false,.slc ex _ (fun i x hx => ?_) (by simp; omega),?_,rfl,.inr rfl,?_⟩
    ·obtain ⟨hi,rfl⟩ := hget i x hx
     exact (hall i hi).choose_spec.1
    ·refine RepL.one (RepV.nz (t := false) ?_) rfl
     rcases Nat.eq_zero_or_pos len with h0 | h0
     ·subst h0
      exact .slcE _ false (some a) cap (fun h => by cases h)
     ·have hsp:a.spot = none := by
       obtain ⟨d1,d2,d3,_⟩ := (hall 0 h0).choose_spec
       obtain ⟨_,v,h1,_⟩ := d3 0 _ (List.getElem?_eq_getElem (by rw [d2]; exact hc.2))
       rw [Nat.zero_mul] at h1
       have h2:(a.add 0).add 0 = a := by simp [Addr.add]
       rw [h2] at h1
       unfold World.cell? at h1
       split at h1
       ·split at h1
        ·cases h1
        ·rename_i hs; simpa using hs
       ·cases h1
      obtain ⟨b,off,spot⟩ := a
      simp only at hsp
      subst hsp
      have hl:len = ((List.range len).map f).length := by simp
      conv => rhs; rw [hl]
      refine RepV.slc_mk hc.2 ?_ (by simpa using hlc) (fun h => by cases h) ?_
      ·intro e' he'
       obtain ⟨i,hi⟩ := List.getElem?_of_mem he'
       obtain ⟨hi',rfl⟩ := hget i e' hi
       exact (hall i hi').choose_spec.2.1
      ·intro i j d hd
       obtain ⟨e',he,hj⟩ := cellAt_some hd
       obtain ⟨hi',rfl⟩ := hget i e' he
       obtain ⟨hp,v,hv,hr⟩ := (hall i hi').choose_spec.2.2.1 j d hj
       rw [add_lit,add_lit] at hv
       refine ⟨hp,?_,v,hv,hr⟩
       show (w.cell? ⟨b,off + i * ex.size + j,none⟩).isSome = true
       rw [hv]; rfl
    ·rw [hx2]
     simp only [wt,blk]
     refine Nat.succ_le_succ (wts_le _ _ (by simp; omega) ?_)
     intro i x y hx hy
     obtain ⟨hi,rfl⟩ := hget i x hx
     simp only [List.getElem?_map,Option.map_eq_some_iff] at hy
     obtain ⟨z,hz,rfl⟩ := hy
     obtain ⟨hz1,rfl⟩ := List.getElem?_eq_some_iff.1 hz
     exact (hall i hi).choose_spec.2.2.2
  ·rename_i fs hu
   split at h
   case h_2 => cases h
   rename_i ts hts
   split at h
   case isFalse => cases h
   rename_i hc
   simp only [Bool.and_eq_true,beq_iff_eq] at hc
   simp only [Option.some.injEq] at h; subst h
   unfold DataW.trod at hx
   rw [hu] at hx
   simp only at hx
   split at hx
   case isFalse => cases hx
   rename_i hl
   simp only [Option.map_eq_some_iff] at hx
   obtain ⟨ys,hys,rfl⟩ := hx
   obtain ⟨xs,x1,x2,x3,x4,x5⟩ := fields_reads ih fuel cs fs.toList ts 0 ys hts hc.1 hys
   refine ⟨.agg (xs.flatMap D.cells),.agg ts xs x1 x2,?_,by rw [hl,hc.2]; rfl,.inl ⟨ts,rfl⟩,by simpa only [wt,blk] using x5⟩
   rw [List.drop_zero,List.take_of_length_le (by omega)] at x3
   exact x3
  ·rename_i m e hu
   split at h
   case h_2 => cases h
   rename_i ex hex
   split at h
   case isFalse => cases h
   rename_i hc
   simp only [Bool.and_eq_true,beq_iff_eq] at hc
   simp only [Option.some.injEq] at h; subst h
   unfold DataW.trod at hx
   rw [hu] at hx
   simp only at hx
   split at hx
   case isFalse => cases hx
   rename_i hl
   simp only [Option.map_eq_some_iff] at hx
   obtain ⟨ys,hys,rfl⟩ := hx
   rw [List.range_eq_range'] at hys
   obtain ⟨xs,x1,x2,x3,x5⟩ := items_reads (ih e ex hex) hc.1 fuel cs m 0 ys hys
   refine ⟨.agg (xs.flatMap D.cells),.agg _ xs (by simp [x1]) ?_,?_,by rw [hl,hc.2]; exact (Ty.sizes_replicate ex m).symm,.inl ⟨_,rfl⟩,by simpa only [wt,blk] using x5⟩
   ·intro i f x hf hx
    rw [List.getElem?_replicate] at hf
    split at hf
    ·cases hf; exact x2 i x hx
    ·cases hf
   ·rw [Nat.zero_mul,List.drop_zero,List.take_of_length_le (by omega)] at x3
    exact x3
  ·cases h
end
end Go.Proofs.YtlleccmnjpcogaaDoor.PI
