/-
  Each operation of the model does what its pure counterpart does: new memory and stores.
  Conditions: none; these are lemmas.
-/
import Derived.Test.YtlleccmnjpcogaaDoorEngH
set_option linter.unusedVariables false
set_option linter.unusedSimpArgs false
namespace Go.Proofs.YtlleccmnjpcogaaDoor.PI
open Go Go.RowKit
section
variable {P:Program} {base:Nat} {w:World} {g:Ghost} {st:St}
theorem isCell_cells {d:D} (h:d.isCell = true):d.cells = [d] := by
 cases d <;> simp_all [D.isCell,D.cells]
theorem cells_one {v:Value} (h:v.oneCell' = true):v.cells = #[v] := by
 cases v <;> simp_all [Value.oneCell',Value.cells]
theorem cells_rep {d:D} {v:Value} (hc:d.cells.all D.isCell = true) (hr:RepV w g st d v) :
  v.cells.size = d.cells.length ∧ (∀ (j:Nat) x,d.cells[j]? = some x → ∃ u,v.cells[j]? = some u ∧ RepV w g st x u) ∧ v.cells.toList.all (·.oneCell') = true := by
 have single:d.cells = [d] → d.isCell = true → v.cells.size = d.cells.length ∧ (∀ (j:Nat) x,d.cells[j]? = some x → ∃ u,v.cells[j]? = some u ∧ RepV w g st x u) ∧ v.cells.toList.all (·.oneCell') = true := by
  intro h1 h2
  have h3 := cells_one (hr.oneCell h2)
  rw [h1,h3]
  refine ⟨rfl,fun j x hx => ?_,by simpa using hr.oneCell h2⟩
  cases j with
  | zero => simp at hx; subst hx; exact ⟨v,rfl,hr⟩
  | succ j => simp at hx
 cases d with
 | agg l =>
  cases hr with
  | agg _ vs h1 h2 =>
   simp only [D.cells] at hc
   refine ⟨by simp [Value.cells,D.cells,h1],fun j x hx => ?_,?_⟩
   ·simp only [D.cells] at hx
    have hj:j < vs.length := by rw [← h1]; exact (List.getElem?_eq_some_iff.1 hx).1
    exact ⟨vs[j],by simp [Value.cells,hj],h2 j x _ hx (List.getElem?_eq_getElem hj)⟩
   ·simp only [Value.cells,List.all_eq_true]
    intro u hu
    obtain ⟨j,hj⟩ := List.mem_iff_getElem?.1 hu
    have hjl:j < l.length := by rw [h1]; exact (List.getElem?_eq_some_iff.1 hj).1
    exact (h2 j _ u (List.getElem?_eq_getElem hjl) hj).oneCell (List.all_eq_true.1 hc _ (List.getElem_mem hjl))
 | tup l => simp [D.cells,D.isCell] at hc
 | junk => simp [D.cells,D.isCell] at hc
 | _ => exact single rfl rfl
theorem beside_alloc (w:World) (o:Go.Obj):Beside w { w with heap := w.heap.push o } := ⟨rfl,rfl,rfl,by simp⟩
theorem push_old (w:World) (o:Go.Obj) (b:Nat) (h:b < w.heap.size):(w.heap.push o)[b]? = w.heap[b]? := by
 rw [Array.getElem?_push,if_neg (by omega)]
theorem box_run (hS:SR base w g st) {t:TypeId} {d:D} {v:Value} (hc:d.cells.all D.isCell = true) (hr:RepV w g st d v) :
  RunsTo P base w g st (do pure (.pointer (some (← newVar t v)))) (.ptr st.length 0) (st ++ [{ row := false,sz := 1,els := d.cells,lent := false }]) := by
 obtain ⟨h1,h2,_⟩ := cells_rep hc hr
 have hall:∀ x ∈ d.cells,x.cells = [x] := fun x hx => isCell_cells (List.all_eq_true.1 hc x hx)
 have hgo := SR.push (o := { row := false,sz := 1,els := d.cells,lent := false }) (c := 0) (C := v.cells) (e := t) (w' := { w with heap := w.heap.push (.cells v.cells t) }) hS
  (beside_alloc w _) (fun b hb => push_old w _ b hb) (by simp) rfl Nat.one_pos (fun x hx => by rw [hall x hx]; rfl) (by simp [h1]; exact hall) (by
   intro i j x hx
   obtain ⟨e,he,hd⟩ := cellAt_some hx
   have h3 := hall e (List.mem_of_getElem? he)
   rw [h3] at hd
   cases j with
   | zero =>
    simp only [List.getElem?_cons_zero,Option.some.injEq] at hd; subst hd
    obtain ⟨u,h4,h5⟩ := h2 i e he
    exact ⟨(by intro h; cases h),u,by simpa using h4,h5⟩
   | succ j => simp at hd)
 refine ⟨.pointer (some ⟨w.heap.size,0,none⟩),_,_,?_,hgo,?_⟩
 ·simp [newVar,newRow]
 ·have := RepV.ptr (w := { w with heap := w.heap.push (.cells v.cells t) }) (g := { g with β := upd g.β st.length w.heap.size,γ := upd g.γ st.length 0 }) (st := st ++ [{ row := false,sz := 1,els := d.cells,lent := false }]) st.length 0 { row := false,sz := 1,els := d.cells,lent := false } (by simp) rfl rfl
  simpa [upd_same] using this
theorem splice_length {l xs:List D} {off:Nat} (h:off + xs.length ≤ l.length):(splice l off xs).length = l.length := by
 simp only [splice,List.length_append,List.length_take,List.length_drop]; omega
theorem splice_get {l xs:List D} {off j:Nat} (h:off + xs.length ≤ l.length):(splice l off xs)[j]? = if off ≤ j ∧ j < off + xs.length then xs[j - off]? else l[j]? := by
 unfold splice
 by_cases h1:j < off
 ·rw [if_neg (by omega),List.append_assoc,List.getElem?_append_left (by rw [List.length_take]; omega),List.getElem?_take,if_pos h1]
 ·by_cases h2:j < off + xs.length
  ·rw [if_pos ⟨by omega,h2⟩,List.getElem?_append_left (by rw [List.length_append,List.length_take]; omega),List.getElem?_append_right (by rw [List.length_take]; omega),List.length_take]
   congr 1; omega
  ·rw [if_neg (by omega),List.getElem?_append_right (by rw [List.length_append,List.length_take]; omega),List.length_append,List.length_take,List.getElem?_drop]
   congr 1; omega
theorem vsplice_get {C:Array Value} {vs:List Value} {off j:Nat} (h:off + vs.length ≤ C.size) :
  ((C.toList.take off ++ vs ++ C.toList.drop (off + vs.length)).toArray)[j]? = if off ≤ j ∧ j < off + vs.length then vs[j - off]? else C[j]? := by
 have hC:C.toList.length = C.size := Array.length_toList
 rw [List.getElem?_toArray]
 have h0:(C.toList.take off).length = off := by rw [List.length_take]; omega
 have h3:(C.toList.take off ++ vs).length = off + vs.length := by rw [List.length_append,h0]
 by_cases h1:j < off
 ·rw [if_neg (by omega),List.append_assoc,List.getElem?_append_left (by omega),List.getElem?_take,if_pos h1,Array.getElem?_toList]
 ·by_cases h2:j < off + vs.length
  ·rw [if_pos ⟨by omega,h2⟩,List.getElem?_append_left (by omega),List.getElem?_append_right (by omega),h0]
  ·rw [if_neg (by omega),List.getElem?_append_right (by omega),h3,List.getElem?_drop,Array.getElem?_toList]
   congr 1; omega
theorem vsplice_size {C:Array Value} {vs:List Value} {off:Nat} (h:off + vs.length ≤ C.size):((C.toList.take off ++ vs ++ C.toList.drop (off + vs.length)).toArray).size = C.size := by
 simp only [List.size_toArray,List.length_append,List.length_take,List.length_drop,Array.length_toList]; omega
theorem beside_setRow (w:World) (b:Nat) (C:Array Value):Beside w (w.setRow b C) := ⟨rfl,rfl,rfl,by simp [World.setRow]⟩
theorem storeAt_run (_hS:SR base w g st) {t:TypeId} {n b off:Nat} {C:Array Value} {e:TypeId} {x:D} {vx:Value} (hn:szOf P t = some n) (hb:w.heap[b]? = some (.cells C e (0,0))) (hle:off + n ≤ C.size)
  (hx:x.cells.length = n) (hc:x.cells.all D.isCell = true) (hr:RepV w g st x vx) :
  (Instr.storeAt t (.pointer (some ⟨b,off,none⟩)) vx).run P w = .ok () (w.setRow b ((C.toList.take off ++ vx.cells.toList ++ C.toList.drop (off + vx.cells.toList.length)).toArray)) := by
 obtain ⟨h1,_,h3⟩ := cells_rep hc hr
 have h4:vx.cells.toList.length = n := by rw [Array.length_toList,h1,hx]
 have h := run_storeCells_at P b off e vx.cells.toList 0 C w hb (by simpa [h4] using hle) (List.all_eq_true.1 h3)
 simp only [Nat.add_zero] at h
 have h5:vx.cells.size = n := by rw [h1,hx]
 simp only [Instr.storeAt,Sem.run_bind,Instr.sureAddr,Sem.run_pure,Result.andThen_ok,storeVar,sizeOf_run hn,h5,ne_eq,not_true_eq_false,if_false,h]
theorem setEl_cells {el el':D} {off:Nat} {ys:List D} (h:setEl el off ys = some el') (hy:∀ z ∈ ys,z.cells = [z]):off + ys.length ≤ el.cells.length ∧ el'.cells = splice el.cells off ys := by
 unfold setEl at h
 split at h
 ·simp only [Option.ite_none_right_eq_some,Option.some.injEq] at h
  obtain ⟨h1,rfl⟩ := h
  exact ⟨h1,rfl⟩
 ·rename_i hne
  split at h
  ·simp only [Option.some.injEq] at h; subst h
   have:el.cells = [el] := by cases el <;> first | rfl | exact absurd rfl (hne _)
   rename_i z
   rw [this]
   exact ⟨by simp,by simp [splice,hy z (by simp)]⟩
  ·cases h
theorem pstor_run (hS:SR base w g st) {t:TypeId} {n:Nat} {p x:D} {vp vx:Value} {st':St} (hn:szOf P t = some n) (h:pstor st n p x = some st') (hrp:RepV w g st p vp) (hrx:RepV w g st x vx) :
  ∃ w' g',(Instr.storeAt t vp vx).run P w = .ok () w' ∧ Go1 base w g st w' g' st' := by
 unfold pstor at h
 split at h
 ·rename_i key off
  cases hrp with
  | ptr _ _ o ho hrow hone =>
   rw [ho] at h
   simp only [hrow,Bool.not_false,Bool.true_and,Option.ite_none_right_eq_some,Option.some.injEq,Bool.and_eq_true,Bool.not_eq_true',decide_eq_true_eq,beq_iff_eq] at h
   obtain ⟨⟨⟨⟨hlent,hle⟩,hlen⟩,hall⟩,rfl⟩ := h
   obtain ⟨C,e,hb,hbase,hszp,hx,hC,hrep⟩ := hS.blk key o ho (isMap_no_one hone)
   rw [hrow] at hC
   simp only [Bool.false_eq_true,if_false] at hC
   obtain ⟨hC1,hC2,hC3⟩ := hC
   obtain ⟨h1,h2,h3⟩ := cells_rep hall hrx
   have h4:vx.cells.toList.length = n := by rw [Array.length_toList,h1,hlen]
   have hle':off + vx.cells.toList.length ≤ C.size := by rw [h4,hC1]; exact hle
   have hle2:off + x.cells.length ≤ o.els.length := by rw [hlen]; exact hle
   have hsl := splice_length hle2
   have mem:∀ y ∈ splice o.els off x.cells,y.cells = [y] := by
    intro y hy
    obtain ⟨j,hj⟩ := List.mem_iff_getElem?.1 hy
    rw [splice_get hle2] at hj
    split at hj
    ·exact isCell_cells (List.all_eq_true.1 hall y (List.mem_of_getElem? hj))
    ·exact hC3 y (List.mem_of_getElem? hj)
   have hwt:off + n ≤ C.size := by rw [hC1]; exact hle
   refine ⟨_,{ g with β := upd g.β key (g.β key),γ := upd g.γ key (g.γ key) },storeAt_run hS hn hb hwt hlen hall hrx,?_⟩
   have eo:(⟨false,o.sz,splice o.els off x.cells,o.lent⟩:Obj) = { o with els := splice o.els off x.cells } := by rw [← hrow]
   rw [eo]
   refine SR.update (o' := { o with els := splice o.els off x.cells }) (c := g.γ key) hS ho (isMap_no_one hone) hb (.inl ⟨rfl,rfl⟩) rfl rfl (by simp [hsl]) rfl (fun y hy => by rw [mem y hy,hC2]; rfl) (beside_setRow w _ _)
    (fun b' _ hne => setRow_other w _ _ _ (by omega)) (setRow_heap w _ C _ e _ hb) ?_ ?_ ?_
   ·intro _ y hy
    have := (hS.dis key o y ho hy).1
    rw [hlent] at this; cases this
   ·rw [hrow]
    simp only [Bool.false_eq_true,if_false]
    exact ⟨by rw [vsplice_size hle',hC1,hsl],hC2,mem⟩
   ·intro i j d hd
    refine ⟨fun h => by simp [hrow] at h,?_⟩
    obtain ⟨y,hy,hdy⟩ := cellAt_some hd
    have h5 := mem y (List.mem_of_getElem? hy)
    rw [h5] at hdy
    cases j with
    | succ j => simp at hdy
    | zero =>
     simp only [List.getElem?_cons_zero,Option.some.injEq] at hdy
     subst hdy
     rw [hC2,Nat.mul_one,Nat.add_zero,vsplice_get hle']
     rw [splice_get hle2] at hy
     rw [h4]
     rw [hlen] at hy
     split at hy
     ·rename_i hc
      rw [if_pos hc]
      obtain ⟨u,h6,h7⟩ := h2 _ _ hy
      exact ⟨u,by rw [Array.getElem?_toList]; exact h6,h7⟩
     ·rename_i hc
      rw [if_neg hc]
      have h8 := hC3 y (List.mem_of_getElem? hy)
      obtain ⟨_,u,h6,h7⟩ := hrep i 0 y (cellAt_mk hy (by rw [h8]; rfl))
      rw [hC2] at h6
      exact ⟨u,by simpa using h6,h7⟩
 ·rename_i key tot i off
  split at h
  ·rename_i o y ho hy
   split at h
   case isFalse => cases h
   rename_i hcond
   simp only [Bool.and_eq_true,Bool.not_eq_true',beq_iff_eq,List.isEmpty_iff] at hcond
   obtain ⟨⟨⟨hrow,hlent⟩,htot⟩,hkeys⟩ := hcond
   split at h
   case h_2 => cases h
   rename_i el hel
   split at h
   case h_2 => cases h
   rename_i el' hel'
   simp only [Option.ite_none_right_eq_some,Option.some.injEq] at h
   obtain ⟨hlen,rfl⟩ := h
   obtain ⟨ob,h1,h2,h3,rfl⟩ := live_inv (by simp [live,ho,hrow,htot]) hrp
   obtain rfl:ob = o := Option.some.inj (h1.symm.trans ho)
   obtain ⟨C,e,hb,hbase,hszp,hx,hC,hrep⟩ := hS.blk key ob ho (isMap_no_row hrow)
   rw [hrow] at hC
   simp only [if_true] at hC
   obtain ⟨hrepy,hpy⟩ := imm_rep hS hy hrx (by rw [hkeys]; intro k hk; cases hk)
   have hpc:∀ z ∈ y.cells,z.pure1 = true := by
    intro z hz
    cases y with
    | agg l => simp only [purA,List.all_eq_true] at hpy; exact hpy z hz
    | _ => simp only [D.cells,List.mem_singleton] at hz; subst hz; exact hpy
   have hall:y.cells.all D.isCell = true := List.all_eq_true.2 fun z hz => pure1_cell (hpc z hz)
   obtain ⟨c1,c2,c3⟩ := cells_rep hall hrepy
   have hil:i < ob.els.length := (List.getElem?_eq_some_iff.1 hel).1
   have hels := hx el (List.mem_of_getElem? hel)
   obtain ⟨hle2,hcells⟩ := setEl_cells hel' (fun z hz => pure1_cells (hpc z hz))
   have hfit:i * ob.sz + off + n ≤ C.size := by
    rw [hC.1]
    calc i * ob.sz + off + n ≤ i * ob.sz + ob.sz := by omega
     _ = (i + 1) * ob.sz := by rw [Nat.add_mul,Nat.one_mul]
     _ ≤ g.γ key * ob.sz := Nat.mul_le_mul_right _ (by omega)
   have h4:vx.cells.toList.length = n := by rw [Array.length_toList,c1,hlen]
   have hle':i * ob.sz + off + vx.cells.toList.length ≤ C.size := by rw [h4]; exact hfit
   have hsl := splice_length hle2
   refine ⟨_,{ g with β := upd g.β key (g.β key),γ := upd g.γ key (g.γ key) },storeAt_run hS hn hb hfit hlen hall hrepy,?_⟩
   refine SR.update (o' := { ob with els := ob.els.set i el' }) (c := g.γ key) hS ho (isMap_no_row hrow) hb (.inl ⟨rfl,rfl⟩) rfl rfl (by simp) rfl ?_ (beside_setRow w _ _)
    (fun b' _ hne => setRow_other w _ _ _ (by omega)) (setRow_heap w _ C _ e _ hb) ?_ ?_ ?_
   ·intro z hz
    rcases List.mem_or_eq_of_mem_set hz with hz | rfl
    ·exact hx z hz
    ·rw [hcells,hsl,hels]
   ·intro _ z hz
    have := (hS.dis key ob z ho hz).1
    rw [hlent] at this; cases this
   ·rw [hrow]
    simp only [if_true,List.length_set]
    exact ⟨by rw [vsplice_size hle',hC.1],hC.2⟩
   ·intro i' j d hd
    obtain ⟨z,hz,hdz⟩ := cellAt_some hd
    rw [vsplice_get hle',h4]
    by_cases hii:i' = i
    ·subst hii
     rw [List.getElem?_set_self hil] at hz
     simp only [Option.some.injEq] at hz; subst hz
     rw [hcells,splice_get hle2,hlen] at hdz
     split at hdz
     ·rename_i hc
      rw [if_pos (by omega)]
      refine ⟨fun _ => hpc d (List.mem_of_getElem? hdz),?_⟩
      obtain ⟨u,h6,h7⟩ := c2 _ _ hdz
      exact ⟨u,by rw [Array.getElem?_toList,show i' * ob.sz + j - (i' * ob.sz + off) = j - off by omega]; exact h6,h7⟩
     ·rename_i hc
      rw [if_neg (by omega)]
      exact hrep i' j d (cellAt_mk hel hdz)
    ·rw [List.getElem?_set_ne (by omega)] at hz
     have hj:j < ob.sz := by rw [← hx z (List.mem_of_getElem? hz)]; exact (List.getElem?_eq_some_iff.1 hdz).1
     rw [if_neg]
     ·exact hrep i' j d (cellAt_mk hz hdz)
     ·rintro ⟨q1,q2⟩
      rcases Nat.lt_or_gt_of_ne hii with h6 | h6
      ·have:(i' + 1) * ob.sz ≤ i * ob.sz := Nat.mul_le_mul_right _ h6
       rw [Nat.add_mul,Nat.one_mul] at this
       omega
      ·have:(i + 1) * ob.sz ≤ i' * ob.sz := Nat.mul_le_mul_right _ h6
       rw [Nat.add_mul,Nat.one_mul] at this
       omega
  ·cases h
 ·cases h
end
end Go.Proofs.YtlleccmnjpcogaaDoor.PI
