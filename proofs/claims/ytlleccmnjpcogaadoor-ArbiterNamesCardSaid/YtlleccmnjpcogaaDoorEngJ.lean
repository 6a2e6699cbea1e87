/-
  Each operation of the model does what its pure counterpart does: literals, make, append, bytes of a string.
  Conditions: none; these are lemmas.
-/
import Derived.Test.YtlleccmnjpcogaaDoorEngI
import Derived.Great.BuildSlice
set_option linter.unusedVariables false
set_option linter.unusedSimpArgs false
namespace Go.Proofs.YtlleccmnjpcogaaDoor.PI
open Go Go.RowKit
section
variable {P:Program} {base:Nat} {w:World} {g:Ghost} {st:St}
theorem foldl_set (off:Nat):∀ (l:List Value) (k:Nat) (cs:Array Value),off + k + l.length ≤ cs.size →
  ((l.zipIdx k).foldl (fun cs x => cs.setIfInBounds (off + x.2) x.1) cs).size = cs.size ∧
  ∀ p,((l.zipIdx k).foldl (fun cs x => cs.setIfInBounds (off + x.2) x.1) cs)[p]? = if off + k ≤ p ∧ p < off + k + l.length then l[p - (off + k)]? else cs[p]?
 | [],k,cs,_ => ⟨rfl,fun p => by simp; intro h1 h2; omega⟩
 | v :: l,k,cs,h => by
  simp only [List.length_cons] at h
  obtain ⟨h1,h2⟩ := foldl_set off l (k + 1) (cs.setIfInBounds (off + k) v) (by simp; omega)
  simp only [List.zipIdx_cons,List.foldl_cons]
  refine ⟨by rw [h1]; simp,fun p => ?_⟩
  rw [h2 p]
  by_cases c1:p < off + k
  ·rw [if_neg (by omega),if_neg (by simp; omega),Array.getElem?_setIfInBounds_ne (by omega)]
  ·by_cases c2:p = off + k
   ·subst c2
    rw [if_neg (by omega),if_pos (by simp)]
    simp [show off + k < cs.size by omega]
   ·by_cases c3:p < off + k + (l.length + 1)
    ·rw [if_pos (by omega),if_pos (by simp; omega)]
     rw [show p - (off + k) = (p - (off + (k + 1))) + 1 by omega,List.getElem?_cons_succ]
    ·rw [if_neg (by omega),if_neg (by simp; omega),Array.getElem?_setIfInBounds_ne (by omega)]
theorem fill_step {place:Nat → Option (Nat × Nat)} {cells:Array Value} {i off size:Nat} {v:Value} {rest:List (Nat × Value)} (hp:place i = some (off,size)) (hs:v.cells.size = size) (hle:off + size ≤ cells.size) :
  ∃ cs',Instr.fill place cells ((i,v) :: rest) = Instr.fill place cs' rest ∧ cs'.size = cells.size ∧ ∀ p,cs'[p]? = if off ≤ p ∧ p < off + size then v.cells[p - off]? else cells[p]? := by
 have h := foldl_set off v.cells.toList 0 cells (by simp [hs]; exact hle)
 refine ⟨v.cells.zipIdx.foldl (fun cs (c,j) => cs.setIfInBounds (off + j) c) cells,?_,?_,?_⟩
 ·have h2:¬ (off + v.cells.size > cells.size) := by omega
  simp [Instr.fill,hp,hs]
  intro h3; omega
 ·have := h.1
  rw [← Array.foldl_toList]
  simpa [Array.toList_zipIdx] using this
 ·intro p
  have := h.2 p
  rw [← Array.foldl_toList]
  simp only [Array.toList_zipIdx,Nat.add_zero,Array.length_toList,hs,Array.getElem?_toList] at this ⊢
  exact this
theorem fillD_run {place:Nat → Option (Nat × Nat)}:∀ (ps:List (Nat × Nat × Nat × D × Value)) (cs:List D) (cells:Array Value) (ds:List D),
  fillD cs (ps.map fun p => (p.2.1,p.2.2.1,p.2.2.2.1)) = some ds → (∀ p ∈ ps,place p.1 = some (p.2.1,p.2.2.1)) → (∀ p ∈ ps,RepV w g st p.2.2.2.1 p.2.2.2.2) →
  cs.length = cells.size → (∀ (j:Nat) d v,cs[j]? = some d → cells[j]? = some v → RepV w g st d v) →
  ∃ cells',Instr.fill place cells (ps.map fun p => (p.1,p.2.2.2.2)) = some cells' ∧ ds.length = cells'.size ∧ ∀ (j:Nat) d v,ds[j]? = some d → cells'[j]? = some v → RepV w g st d v
 | [],cs,cells,ds,h,_,_,hl,hr => by
  simp [fillD] at h; subst h
  exact ⟨cells,rfl,hl,hr⟩
 | p :: ps,cs,cells,ds,h,hp,hv,hl,hr => by
  obtain ⟨i,off,size,d,v⟩ := p
  simp only [List.map_cons,fillD] at h
  split at h
  ·rename_i hc
   simp only [Bool.and_eq_true,beq_iff_eq,decide_eq_true_eq] at hc
   obtain ⟨⟨h1,h2⟩,h3⟩ := hc
   obtain ⟨c1,c2,_⟩ := cells_rep h3 (hv (i,off,size,d,v) (by simp))
   obtain ⟨cs',e1,e2,e3⟩ := fill_step (rest := ps.map fun p => (p.1,p.2.2.2.2)) (hp (i,off,size,d,v) (by simp)) (by rw [c1,h1]) (by omega:off + size ≤ cells.size)
   simp only [List.map_cons]
   simp only at e1
   rw [e1]
   refine fillD_run ps _ cs' ds h (fun p hm => hp p (by simp [hm])) (fun p hm => hv p (by simp [hm])) ?_ ?_
   ·rw [splice_length (by omega),e2,hl]
   ·intro j x u hx hu
    rw [splice_get (by omega),h1] at hx
    rw [e3] at hu
    split at hx
    ·rename_i hc
     rw [if_pos hc] at hu
     obtain ⟨u',h4,h5⟩ := c2 _ _ hx
     simp only at hu
     rw [h4] at hu
     simp only [Option.some.injEq] at hu
     rwa [← hu]
    ·rename_i hc
     rw [if_neg hc] at hu
     exact hr j x u hx hu
  ·cases h
theorem zero_cells {d:D} {v:Value} {cs:List D} (h:constD v = some d) (hd:d = .agg cs):∃ vs:List Value,v = .agg vs.toArray ∧ cs.length = vs.length ∧ ∀ (j:Nat) x u,cs[j]? = some x → vs[j]? = some u → RepV w g st x u := by
 subst hd
 have hr := constD_rep (w := w) (g := g) (st := st) h
 cases hr with
 | agg _ vs h1 h2 => exact ⟨vs,rfl,h1,h2⟩
theorem fill_dense (size:Nat):∀ (vs:List Value) (k:Nat) (cells:Array Value),(∀ v ∈ vs,v.cells.size = size) → (k + vs.length) * size ≤ cells.size →
  ∃ cells',Instr.fill (fun i => some (i * size,size)) cells ((vs.zipIdx k).map fun x => (x.2,x.1)) = some cells' ∧ cells'.size = cells.size ∧ (∀ p,p < k * size → cells'[p]? = cells[p]?) ∧
   ∀ (i:Nat) v,vs[i]? = some v → ∀ j,j < size → cells'[(k + i) * size + j]? = v.cells[j]?
 | [],k,cells,_,_ => ⟨cells,rfl,rfl,fun _ _ => rfl,fun i v h => by simp at h⟩
 | v :: vs,k,cells,hv,hle => by
  simp only [List.length_cons] at hle
  have e0:(k + (vs.length + 1)) * size = k * size + size + vs.length * size := by rw [Nat.add_mul,Nat.add_mul,Nat.one_mul]; omega
  obtain ⟨cs',e1,e2,e3⟩ := fill_step (place := fun i => some (i * size,size)) (cells := cells) (i := k) (off := k * size) (size := size) (v := v) (rest := (vs.zipIdx (k + 1)).map fun x => (x.2,x.1)) rfl (hv v (by simp)) (by omega)
  obtain ⟨cells',h1,h2,h3,h4⟩ := fill_dense size vs (k + 1) cs' (fun u hu => hv u (by simp [hu])) (by rw [e2]; rw [show k + 1 + vs.length = k + (vs.length + 1) by omega]; exact hle)
  have e4:(k + 1) * size = k * size + size := by rw [Nat.add_mul,Nat.one_mul]
  refine ⟨cells',?_,h2.trans e2,?_,?_⟩
  ·simp only [List.zipIdx_cons,List.map_cons]
   rw [e1]; exact h1
  ·intro p hp
   rw [h3 p (by omega),e3,if_neg (by omega)]
  ·intro i u hu j hj
   cases i with
   | zero =>
    simp only [List.getElem?_cons_zero,Option.some.injEq] at hu; subst hu
    rw [Nat.add_zero,h3 _ (by omega),e3,if_pos (by omega)]
    congr 1; omega
   | succ i =>
    simp only [List.getElem?_cons_succ] at hu
    have := h4 i u hu j hj
    rwa [show k + 1 + i = k + (i + 1) by omega] at this
theorem SR.fresh (h:SR base w g st) {w':World} {C:Array Value} {e:TypeId} {fz:Nat × Nat} (hw:w'.heap = w.heap.push (.cells C e fz)) (hbes:Beside w w') :
  Go1 base w g st w' { g with Im := fun b x => g.Im b x ∨ (b = w.heap.size ∧ x < C.size) } st := by
 refine SR.more h hbes (fun b hb => by rw [hw]; exact push_old w _ b hb) (fun b x hb => .inl hb) (fun b x hb => ?_) (fun b x hb => ?_)
 ·rcases hb with hb | ⟨rfl,_⟩
  ·exact .inl hb
  ·exact .inr (Nat.le_refl _)
 ·rcases hb with hb | ⟨rfl,hx⟩
  ·have hlt := h.im_lt hb
   have:w'.cell? ⟨b,x,none⟩ = w.cell? ⟨b,x,none⟩ := by simp only [World.cell?,hw,push_old w _ b hlt]
   rw [this]; exact h.im b x hb
  ·simp [World.cell?,hw,hx]
def Fresh1 (base:Nat) (w:World) (g:Ghost) (st:St) (v:Value):Prop :=
 ∃ b n C e,v = .slice (some ⟨b,0,none⟩) n n ∧ w.heap[b]? = some (.cells C e (0,0)) ∧ base ≤ b ∧ ∀ (k:Nat) (o:Obj),st[k]? = some o → g.β k ≠ b
def RunsToF (P:Program) (base:Nat) (w:World) (g:Ghost) (st:St) (s:Sem Value) (d:D) (st':St):Prop :=
 ∃ v w' g',s.run P w = .ok v w' ∧ Go1 base w g st w' g' st' ∧ RepV w' g' st' d v ∧ Fresh1 base w' g' st' v
theorem bslc_runF (hS:SR base w g st) {t elem:TypeId} {i:TypeInfo} {z:Value} {sz:Nat} {els:List D} {vs:List Value} (hu:P.underlying t = some (.slice elem)) (hi:P.info? elem = some i) (hz:i.zero = some z) (hsz:i.size = sz) (h0:0 < sz)
  (hpure:∀ d ∈ els,purA d = true) (hlen:∀ d ∈ els,d.cells.length = sz) (hl:els.length = vs.length) (hr:∀ (i:Nat) d v,els[i]? = some d → vs[i]? = some v → RepV w g st d v) (hbig:els.length * sz ≤ 16777216)
  {len:Nat} {parts:Array (Nat × Value)} (hlen':len = vs.length) (hparts:parts.toList = (vs.zipIdx 0).map fun x => (x.2,x.1)) :
  RunsToF P base w g st (Instr.buildSlice t len parts) (.slc sz els true) st := by
 subst hlen'
 have hpc:∀ (i:Nat) e,els[i]? = some e → ∀ x ∈ e.cells,x.pure1 = true := by
  intro i e he x hx
  have h1 := hpure e (List.mem_of_getElem? he)
  cases e with
  | agg l => simp only [purA,List.all_eq_true] at h1; exact h1 x hx
  | _ => simp only [D.cells,List.mem_singleton] at hx; subst hx; exact h1
 have hcs:∀ (i:Nat) d v,els[i]? = some d → vs[i]? = some v → v.cells.size = sz ∧ ∀ (j:Nat) x,d.cells[j]? = some x → ∃ u,v.cells[j]? = some u ∧ RepV w g st x u := by
  intro i d v hd hv
  obtain ⟨c1,c2,_⟩ := cells_rep (List.all_eq_true.2 fun x hx => pure1_cell (hpc i d hd x hx)) (hr i d v hd hv)
  exact ⟨by rw [c1]; exact hlen d (List.mem_of_getElem? hd),c2⟩
 have hvs:∀ v ∈ vs,v.cells.size = sz := by
  intro v hv
  obtain ⟨i,hi⟩ := List.mem_iff_getElem?.1 hv
  have hil:i < els.length := by rw [hl]; exact (List.getElem?_eq_some_iff.1 hi).1
  exact (hcs i _ v (List.getElem?_eq_getElem hil) hi).1
 have goal:∀ C:Array Value,C.size = vs.length * sz → (∀ (i:Nat) v,vs[i]? = some v → ∀ j,j < sz → C[i * sz + j]? = v.cells[j]?) →
   (Instr.buildSlice t vs.length parts).run P w = .ok (.slice (some ⟨w.heap.size,0,none⟩) vs.length vs.length) (w.alloc (.cells C elem)) → RunsToF P base w g st (Instr.buildSlice t vs.length parts) (.slc sz els true) st := by
  intro C hC1 hC2 hrun
  have hgo := hS.fresh (w' := w.alloc (.cells C elem)) (C := C) (e := elem) (fz := (0,0)) rfl ⟨rfl,rfl,rfl,by simp⟩
  refine ⟨_,_,_,hrun,hgo,?_,⟨w.heap.size,vs.length,C,elem,rfl,?_,hS.size,fun k o hk => Nat.ne_of_lt (hS.lt hk)⟩⟩
  case refine_2 =>
   show (w.heap.push _)[w.heap.size]? = _
   simp
  rw [← hl]
  refine RepV.slc_mk h0 hlen (Nat.le_refl _) (fun _ => rfl) ?_
  intro i j d hd
  obtain ⟨e,he,hdj⟩ := cellAt_some hd
  have hil:i < els.length := (List.getElem?_eq_some_iff.1 he).1
  have hj:j < sz := by rw [← hlen e (List.mem_of_getElem? he)]; exact (List.getElem?_eq_some_iff.1 hdj).1
  have hv:vs[i]? = some (vs[i]'(by omega)) := List.getElem?_eq_getElem (by omega)
  obtain ⟨u,h3,h4⟩ := (hcs i e _ he hv).2 j d hdj
  have hlt:i * sz + j < C.size := by
   rw [hC1]
   calc i * sz + j < i * sz + sz := by omega
    _ = (i + 1) * sz := by rw [Nat.add_mul,Nat.one_mul]
    _ ≤ vs.length * sz := Nat.mul_le_mul_right _ (by omega)
  refine ⟨hpc i e he d (List.mem_of_getElem? hdj),.inr ⟨rfl,by omega⟩,u,?_,hgo.rep h4⟩
  have:(w.alloc (.cells C elem)).heap[w.heap.size]? = some (.cells C elem (0,0)) := by
   show (w.heap.push _)[w.heap.size]? = _
   simp
  simp only [World.cell?,this]
  have := hC2 i _ hv j hj
  rw [h3] at this
  simpa using this
 by_cases hn:vs.length = 0
 ·have hv0:vs = [] := List.eq_nil_of_length_eq_zero hn
  refine goal #[] (by simp [hn]) (fun i v hv => by simp [hv0] at hv) ?_
  subst hv0
  simp at hparts
  simp [Instr.buildSlice,run_underlying hu,sizeOf,typeInfo,hi,hparts,Instr.fill,newRow,Array.range_zero']
 ·obtain ⟨C,h1,h2,h3,h4⟩ := fill_dense sz vs 0 ((Array.range (vs.length * sz)).map (z.cells[· % z.cells.size]!)) hvs (by simp)
  refine goal C (by rw [h2]; simp) (fun i v hv j hj => by have := h4 i v hv j hj; rwa [Nat.zero_add] at this) ?_
  have hp0:¬ vs.length * sz = 0 := by
   intro e
   rcases Nat.mul_eq_zero.1 e with e | e <;> omega
  subst hsz
  exact run_buildSlice w t elem vs.length parts C i z hu hi hz (by rw [← hl]; omega) hp0 (by rw [hparts]; exact h1)
theorem freeze_go (hS:SR base w g st) {b m:Nat} {C:Array Value} {e:TypeId} (hb:w.heap[b]? = some (.cells C e (0,0))) (hbase:base ≤ b) (hne:∀ (k:Nat) (o:Obj),st[k]? = some o → g.β k ≠ b) :
  Go1 base w g st (w.freeze ⟨b,m,none⟩ 1) g st := by
 have hlt:b < w.heap.size := (Array.getElem?_eq_some_iff.1 hb).1
 have hoth:∀ k,k ≠ b → (w.freeze ⟨b,m,none⟩ 1).heap[k]? = w.heap[k]? := by
  intro k hk
  simp only [World.freeze,Nat.one_ne_zero,if_false,Array.getElem?_modify]
  rw [if_neg (fun e => hk e.symm)]
 have hself:(w.freeze ⟨b,m,none⟩ 1).heap[b]? = some (.cells C e (m,m + 1)) := by
  simp only [World.freeze,Nat.one_ne_zero,if_false,Array.getElem?_modify]
  simp [hb]
 have hcell:∀ k x,(w.freeze ⟨b,m,none⟩ 1).cell? ⟨k,x,none⟩ = w.cell? ⟨k,x,none⟩ := by
  intro k x
  by_cases hk:k = b
  ·subst hk
   simp only [World.cell?,hself,hb]
  ·simp only [World.cell?,hoth k hk]
 have hI:ImLe w g (w.freeze ⟨b,m,none⟩ 1) g := ⟨fun k x h => ⟨h,hcell k x⟩,fun k o ho hs => by
  by_cases hk:k = b
  ·subst hk
   rw [hb] at ho
   obtain rfl := Option.some.inj ho
   simp [spM] at hs
  ·rw [hoth k hk]; exact ho⟩
 have hsz:(w.freeze ⟨b,m,none⟩ 1).heap.size = w.heap.size := by simp [World.freeze]
 refine ⟨⟨fun k o hk hm => (hS.mp k o hk hm).mono hI (Evo.refl _ _) rfl (hoth _ (hne k o hk)),?_,hS.inj,fun k x h => by rw [hcell]; exact hS.im k x h,hS.dis,by rw [hsz]; exact hS.size⟩,Evo.refl _ _,hI,fun _ _ h => .inl h,⟨rfl,rfl,rfl,by rw [hsz]; exact Nat.le_refl _,fun k hk => hoth k (by omega)⟩,fun k o ho hs => ?_⟩
 ·intro k o hk hm
  obtain ⟨C1,e1,h1,h2,h3,h4,h5,h6⟩ := hS.blk k o hk hm
  refine ⟨C1,e1,by rw [hoth _ (hne k o hk)]; exact h1,h2,h3,h4,h5,fun i j d hd => ?_⟩
  obtain ⟨q1,v,q2,q3⟩ := h6 i j d hd
  exact ⟨q1,v,q2,q3.mono hI (Evo.refl _ _)⟩
 ·by_cases hk:k = b
  ·subst hk
   rw [hb] at ho
   obtain rfl := Option.some.inj ho
   simp [special] at hs
  ·exact .same (by rw [hoth k hk]; exact ho)
end
end Go.Proofs.YtlleccmnjpcogaaDoor.PI
