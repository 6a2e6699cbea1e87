/-
  Each operation of the model does what its pure counterpart does: append as a whole, conversions as a whole.
  Conditions: none; these are lemmas.
-/
import Derived.Test.YtlleccmnjpcogaaDoorEngK
set_option linter.unusedVariables false
set_option linter.unusedSimpArgs false
namespace Go.Proofs.YtlleccmnjpcogaaDoor.PI
open Go Go.RowKit
section
variable {P:Program} {base:Nat} {w:World} {g:Ghost} {st:St}
theorem Els.cast {v:Value} {sz sz':Nat} {els:List D} (h:Els w g st v sz els) (e:sz = sz' ∨ els = []):Els w g st v sz' els := by
 rcases e with rfl | rfl
 ·exact h
 ·obtain ⟨⟨a,cap,h1,_⟩,_,_⟩ := h
  exact ⟨⟨a,cap,h1,fun h => absurd rfl h⟩,fun i j d hd => by simp [cellAt] at hd,fun e he => by cases he⟩
theorem elsOf_els (hS:SR base w g st) {x:D} {sz:Nat} {els:List D} {v:Value} (h:elsOf st x = some (sz,els)) (hr:RepV w g st x v):Els w g st v sz els ∨ ∃ s,x = .str s ∧ sz = 1 ∧ els = s.map byteD := by
 unfold elsOf at h
 split at h
 ·simp only [Option.some.injEq,Prod.mk.injEq] at h
  obtain ⟨rfl,rfl⟩ := h
  exact .inl (slc_els hr)
 ·exact .inl (row_els hS h hr).1
 ·rename_i key off n sz' ag
  split at h
  ·rename_i els' he
   split at h
   ·rename_i hpa
    simp only [Option.some.injEq,Prod.mk.injEq] at h
    obtain ⟨rfl,rfl⟩ := h
    exact .inl (bsl_els hS he hr (List.all_eq_true.1 hpa)).1
   ·cases h
  ·cases h
 ·simp only [Option.some.injEq,Prod.mk.injEq] at h
  obtain ⟨rfl,rfl⟩ := h
  exact .inr ⟨_,rfl,rfl,rfl⟩
 ·cases h
theorem news_of (hS:SR base w g st) {x:D} {sz szx:Nat} {els:List D} {v:Value} (h:elsOf st x = some (szx,els)) (hr:RepV w g st x v) (hsz:szx = sz ∨ els = []) :
  ∃ ns,News w g st P v sz els ns := by
 rcases elsOf_els hS h hr with h1 | ⟨s,rfl,rfl,rfl⟩
 ·exact news_of_els (h1.cast hsz)
 ·obtain rfl := str_inv hr
  rcases hsz with rfl | hs
  ·exact news_of_str s
  ·simp at hs; subst hs
   have e:ByteArray.size ⟨([]:List UInt8).toArray⟩ = 0 := rfl
   exact ⟨[],by simp,by simp,fun i j d hd => by simp [cellAt] at hd,⟨by simp [Builtin.lenOf,e],by simp [Builtin.lenOf,e]⟩,⟨by simp [Builtin.firstCells],by simp [Builtin.firstCells]⟩⟩
theorem elsOf_pure (hS:SR base w g st) {x:D} {sz:Nat} {els:List D} {v:Value} (h:elsOf st x = some (sz,els)) (hr:RepV w g st x v):(∀ e ∈ els,e.cells.length = sz) ∧ ∀ i j d,cellAt els i j = some d → d.pure1 = true := by
 rcases elsOf_els hS h hr with h1 | ⟨s,rfl,rfl,rfl⟩
 ·exact ⟨h1.len,h1.pure⟩
 ·refine ⟨fun e he => ?_,fun i j d hd => ?_⟩
  ·simp only [List.mem_map] at he
   obtain ⟨b,_,rfl⟩ := he
   rfl
  ·obtain ⟨e,he,hdj⟩ := cellAt_some hd
   simp only [List.getElem?_map,Option.map_eq_some_iff] at he
   obtain ⟨b,_,rfl⟩ := he
   cases j with
   | zero => simp [byteD,D.cells] at hdj; subst hdj; rfl
   | succ j => simp [byteD,D.cells] at hdj
theorem drew_alloc_new (w:World) (o:Go.Obj):(w.drew.alloc o).heap[w.heap.size]? = some o := by
 show (w.heap.push o)[w.heap.size]? = _
 simp
theorem grown_rep {sz:Nat} {old els:List D} {os ns zs:List Value} (hos:os.length = old.length * sz)
  (ho:∀ (i j:Nat) d,cellAt old i j = some d → ∃ u,os[i * sz + j]? = some u ∧ RepV w g st d u) (hn:∀ (i j:Nat) d,cellAt els i j = some d → ∃ u,ns[i * sz + j]? = some u ∧ RepV w g st d u) (hns:ns.length = els.length * sz) :
  ∀ (i j:Nat) d,cellAt (old ++ els) i j = some d → ∃ u,(os ++ ns ++ zs)[i * sz + j]? = some u ∧ RepV w g st d u := by
 intro i j d hd
 obtain ⟨e,he,hdj⟩ := cellAt_some hd
 by_cases h1:i < old.length
 ·rw [List.getElem?_append_left h1] at he
  obtain ⟨u,h2,h3⟩ := ho i j d (cellAt_mk he hdj)
  have h4:i * sz + j < os.length := (List.getElem?_eq_some_iff.1 h2).1
  exact ⟨u,by rw [List.append_assoc,List.getElem?_append_left h4]; exact h2,h3⟩
 ·rw [List.getElem?_append_right (by omega)] at he
  obtain ⟨u,h2,h3⟩ := hn (i - old.length) j d (cellAt_mk he hdj)
  have h5:i * sz = old.length * sz + (i - old.length) * sz := by rw [← Nat.add_mul]; congr 1; omega
  refine ⟨u,?_,h3⟩
  have h6:(i - old.length) * sz + j < ns.length := (List.getElem?_eq_some_iff.1 h2).1
  rw [List.getElem?_append_left (by rw [List.length_append]; omega),List.getElem?_append_right (by omega),hos,h5,show old.length * sz + (i - old.length) * sz + j - old.length * sz = (i - old.length) * sz + j by omega]
  exact h2
theorem papp_run (hS:SR base w g st) {t tx ty e:TypeId} {i:TypeInfo} {z:Value} {sz bytes:Nat} {s x d:D} {vs vx:Value} {st':St} (ht:P.underlying t = some (.slice e)) (htx:(∃ e',P.underlying tx = some (.slice e')) ∨ P.underlying tx = some .string)
  (hi:P.info? e = some i) (hz:i.zero = some z) (hsz:i.size = sz) (hby:i.bytes = bytes) (hzs:z.cells.size = sz) (h:papp st sz bytes s x = some (d,st')) (hrs:RepV w g st s vs) (hrx:RepV w g st x vx) :
  RunsTo P base w g st (Builtin.append_ #[t,tx] ty #[vs,vx]) d st' := by
 subst hsz; subst hby
 unfold papp at h
 split at h
 ·cases h
 rename_i szx xs hx
 split at h
 ·cases h
 rename_i hc
 simp only [Bool.or_eq_true,Bool.not_eq_true',Bool.or_eq_false_iff,beq_eq_false_iff_ne,List.isEmpty_eq_false_iff,beq_iff_eq,not_or,not_and,ne_eq] at hc
 have h0:0 < i.size := by omega
 have hsx:szx = i.size ∨ xs = [] := by
  by_cases e1:szx = i.size
  ·exact .inl e1
  ·refine .inr ?_
   by_cases e2:xs = []
   ·exact e2
   ·exact absurd e2 (hc.1 e1)
 obtain ⟨ns,hN⟩ := news_of (P := P) hS hx hrx hsx
 obtain ⟨hxl,hxp⟩ := elsOf_pure hS hx hrx
 have hxl':∀ e ∈ xs,e.cells.length = i.size := by
  intro e he
  rcases hsx with rfl | rfl
  ·exact hxl e he
  ·cases he
 split at h
 ·
  rename_i key tot off len
  split at h
  case h_2 => cases h
  rename_i o ho
  split at h
  case isFalse => cases h
  rename_i hcond
  simp only [Bool.and_eq_true,beq_iff_eq,decide_eq_true_eq] at hcond
  obtain ⟨⟨⟨⟨⟨⟨hrow,hosz⟩,htot⟩,rfl⟩,hlen⟩,hbytes⟩,hmax⟩ := hcond
  simp only [Option.some.injEq,Prod.mk.injEq] at h
  obtain ⟨rfl,rfl⟩ := h
  obtain ⟨ob,h1,h2,h3,rfl,h5⟩ := live_row (by simp [live,ho,hrow,htot]) hrs
  obtain rfl:ob = o := Option.some.inj (h1.symm.trans ho)
  subst hlen
  subst htot
  obtain ⟨C,e',hb,hbase,hszp,hxx,hC,hrep⟩ := hS.blk key ob ho (isMap_no_row hrow)
  rw [hrow] at hC
  simp only [if_true] at hC
  rw [Nat.zero_mul,Nat.sub_zero]
  have hkl:key < st.length := (List.getElem?_eq_some_iff.1 ho).1
  have hrepn:∀ (C':Array Value),(∀ (i' j:Nat) d,cellAt (ob.els ++ xs) i' j = some d → ∃ u,C'[i' * ob.sz + j]? = some u ∧ RepV w g st d u) →
    ∀ (i' j:Nat) d,cellAt (ob.els ++ xs) i' j = some d → (ob.row = true → d.pure1 = true) ∧ ∃ u,C'[i' * ob.sz + j]? = some u ∧ RepV w g st d u := by
   intro C' hC' i' j d hd
   refine ⟨fun _ => ?_,hC' i' j d hd⟩
   by_cases h6:i' < ob.els.length
   ·rw [cellAt_append_l h6] at hd
    exact (hrep i' j d hd).1 hrow
   ·obtain ⟨e1,he1,hd1⟩ := cellAt_some hd
    rw [List.getElem?_append_right (by omega)] at he1
    exact hxp _ _ _ (cellAt_mk he1 hd1)
  have hels:∀ y ∈ ob.els ++ xs,y.cells.length = ob.sz := by
   intro y hy
   rcases List.mem_append.1 hy with hy | hy
   ·exact hxx y hy
   ·rw [hosz]; exact hxl' y hy
  have hfin:∀ (B c:Nat) (w':World) (C':Array Value) (e'':TypeId),((B = g.β key ∧ c = g.γ key) ∨ (w.heap.size ≤ B ∧ ob.els.length < (ob.els ++ xs).length ∧ ob.row = true)) → Beside w w' → (∀ b,b < w.heap.size → b ≠ B → w'.heap[b]? = w.heap[b]?) →
    w'.heap[B]? = some (.cells C' e'' (0,0)) → (B = g.β key → ∀ y,g.Im (g.β key) y → C'[y]? = C[y]?) → C'.size = c * ob.sz → (ob.els ++ xs).length ≤ c → c ≤ maxLen →
    (∀ (i' j:Nat) d,cellAt (ob.els ++ xs) i' j = some d → ∃ u,C'[i' * ob.sz + j]? = some u ∧ RepV w g st d u) →
    (Builtin.append_ #[t,tx] ty #[.slice (some ⟨g.β key,0,none⟩) ob.els.length (g.γ key),vx]).run P w = .ok (.slice (some ⟨B,0,none⟩) (ob.els.length + xs.length) c) w' →
    RunsTo P base w g st (Builtin.append_ #[t,tx] ty #[.slice (some ⟨g.β key,0,none⟩) ob.els.length (g.γ key),vx]) (.row key (ob.els.length + xs.length) 0 (ob.els.length + xs.length)) (st.set key { ob with els := ob.els ++ xs }) := by
   intro B c w' C' e'' hB hbes hsame hblk hIm hsize hcap hcm hcell hrun
   have hgo := SR.update (o' := { ob with els := ob.els ++ xs }) hS ho (isMap_no_row hrow) hb hB rfl rfl (by simp) rfl hels hbes hsame hblk hIm (by rw [hrow]; simp only [if_true]; exact ⟨hsize,hcap,hcm⟩) (hrepn C' hcell)
   refine ⟨_,_,_,hrun,hgo,?_⟩
   refine .row _ _ _ _ { ob with els := ob.els ++ xs } _ rfl (by simp [hkl]) hrow (by simp) fun _ => ⟨?_,by omega⟩
   simp [upd_same]
  by_cases hroom:ob.els.length + xs.length ≤ g.γ key
  ·have hfit:ob.els.length * i.size + ns.length ≤ C.size := by
    rw [hN.len,hC.1,hosz,← Nat.add_mul]; exact Nat.mul_le_mul_right _ hroom
   -- the block's type is the slice's own,or it does not matter: the store looks at the cells alone
   have hst:(Builtin.append_ #[t,tx] ty #[.slice (some ⟨g.β key,0,none⟩) ob.els.length (g.γ key),vx]).run P w = .ok (.slice (some ⟨g.β key,0,none⟩) (ob.els.length + xs.length) (g.γ key)) (w.setRow (g.β key) (C.toList.take (ob.els.length * i.size) ++ ns ++ C.toList.drop (ob.els.length * i.size + ns.length)).toArray) :=
    app_room ht htx hi hb hN hroom hfit
   refine hfin (g.β key) (g.γ key) _ _ e' (.inl ⟨rfl,rfl⟩) (beside_setRow w _ _) (fun b _ hne => setRow_other w _ _ _ (by omega)) (setRow_heap w _ C _ e' _ hb) ?_ ?_ (by simpa using hroom) hC.2.2 ?_ hst
   ·intro _ y hy
    have := (hS.dis key ob y ho hy).2
    rw [hosz] at this
    rw [vsplice_get hfit,if_neg (by omega)]
   ·rw [vsplice_size hfit,hC.1]
   ·intro i' j d hd
    rw [vsplice_get hfit,hN.len,hosz]
    obtain ⟨e1,he1,hd1⟩ := cellAt_some hd
    have hj:j < i.size := by
     rw [← hosz,← hels e1 (List.mem_of_getElem? he1)]; exact (List.getElem?_eq_some_iff.1 hd1).1
    by_cases h6:i' < ob.els.length
    ·rw [cellAt_append_l h6] at hd
     have:(i' + 1) * i.size ≤ ob.els.length * i.size := Nat.mul_le_mul_right _ h6
     rw [Nat.add_mul,Nat.one_mul] at this
     rw [if_neg (by omega),← hosz]
     exact (hrep i' j d hd).2
    ·rw [List.getElem?_append_right (by omega)] at he1
     have h7:i' - ob.els.length < xs.length := (List.getElem?_eq_some_iff.1 he1).1
     have h8:i' * i.size = ob.els.length * i.size + (i' - ob.els.length) * i.size := by rw [← Nat.add_mul]; congr 1; omega
     have h9:(i' - ob.els.length + 1) * i.size ≤ xs.length * i.size := Nat.mul_le_mul_right _ h7
     rw [Nat.add_mul,Nat.one_mul] at h9
     rw [if_pos (by omega),show i' * i.size + j - ob.els.length * i.size = (i' - ob.els.length) * i.size + j by omega]
     exact hN.rep _ _ _ (cellAt_mk he1 hd1)
  ·have hE:Els w g st (.slice (some ⟨g.β key,0,none⟩) ob.els.length (g.γ key)) i.size ob.els := by
    refine ⟨⟨_,_,rfl,fun _ => ⟨_,_,rfl,h0,?_⟩⟩,fun i' j d hd => (hrep i' j d hd).1 hrow,fun y hy => by rw [← hosz]; exact hxx y hy⟩
    intro i' j d hd
    obtain ⟨hp,u,h6,h7⟩ := hrep i' j d hd
    refine ⟨u,?_,h7,h7.oneCell (pure1_cell (hp hrow))⟩
    simp only [World.cell?,hb]
    rw [hosz] at h6
    simpa using h6
   obtain ⟨os,hO⟩ := news_of_els (P := P) hE
   have hgrow := app_grow (ty := ty) ht htx hi hz hN hO rfl (by omega) (by omega) (grow_fits (by omega) hbytes)
   have hge := grownCap_ge w (ob.els.length + xs.length) (g.γ key) e
   refine hfin w.heap.size _ (w.drew.alloc (.cells (os.toArray ++ ns.toArray ++ Builtin.zeroCells z.cells (grownCap w (ob.els.length + xs.length) (g.γ key) e - (ob.els.length + xs.length))) e)) _ e (.inr ⟨Nat.le_refl _,by simp; omega,hrow⟩) ⟨rfl,rfl,rfl,by simp⟩ ?_ (drew_alloc_new w _) (fun e1 => by have := hS.lt ho; omega) ?_ (by simpa using hge) (grownCap_le_maxLen w _ _ e (by unfold maxLen; omega)) ?_ hgrow
   ·intro b hb' _; exact push_old w _ b hb'
   ·simp only [Array.size_append,List.size_toArray,hO.len,hN.len,size_zeroCells,hzs,hosz]
    rw [← Nat.add_mul,← Nat.add_mul]
    congr 1
    omega
   ·intro i' j d hd
    have := grown_rep (zs := (Builtin.zeroCells z.cells (grownCap w (ob.els.length + xs.length) (g.γ key) e - (ob.els.length + xs.length))).toList) hO.len hO.rep hN.rep hN.len i' j d hd
    rw [← hosz] at this
    obtain ⟨u,h6,h7⟩ := this
    refine ⟨u,?_,h7⟩
    rw [← Array.getElem?_toList]
    simpa using h6
 ·
  rename_i sz' els
  split at h
  ·rename_i he
   simp only [List.isEmpty_iff] at he
   subst he
   simp only [Option.some.injEq,Prod.mk.injEq] at h
   obtain ⟨rfl,rfl⟩ := h
   refine .still hS ?_ hrs
   obtain ⟨⟨a,cap,rfl,_⟩,_,_⟩ := slc_els hrs
   have hcap:els.length ≤ cap := by
    cases hrs with
    | slcE => simp
    | slc _ _ b off cap _ val h1 h2 h3 h3' h4 => exact h4
   have hns:ns = [] := List.eq_nil_of_length_eq_zero (by simpa using hN.len)
   have h1 := hN.lenOf.1
   have h2 := hN.first.1
   subst hns
   simp only [List.length_nil] at h1 h2
   rcases htx with ⟨e',hd⟩ | hd
   ·cases a <;> simp [Builtin.append_,run_underlying ht,sizeOf,typeInfo,hi,run_underlying hd,h1,hcap,h2,storeCells]
   ·cases a <;> simp [Builtin.append_,run_underlying ht,sizeOf,typeInfo,hi,run_underlying hd,h1,hcap,h2,storeCells]
  ·rename_i hne
   simp only [List.isEmpty_iff] at hne
   have hxpos:0 < xs.length := List.length_pos_iff.2 hne
   split at h
   case isFalse => cases h
   rename_i hcond
   simp only [Bool.and_eq_true,decide_eq_true_eq,Bool.or_eq_true,beq_iff_eq,List.isEmpty_iff] at hcond
   obtain ⟨⟨hse,hbytes⟩,hmax⟩ := hcond
   simp only [Option.some.injEq,Prod.mk.injEq] at h
   obtain ⟨rfl,rfl⟩ := h
   have hE := (slc_els hrs).cast hse
   obtain ⟨os,hO⟩ := news_of_els (P := P) hE
   obtain ⟨⟨a,cap,rfl,_⟩,hEp,hEl⟩ := hE
   have hcap:cap = els.length := by
    cases hrs with
    | slcE _ _ _ _ h1 => exact h1 rfl
    | slc _ _ b off cap _ val h1 h2 h3 h3' h4 h5 => exact h5 rfl
   subst hcap
   have hgrow := app_grow (ty := ty) ht htx hi hz hN hO rfl (by omega) (by omega) (grow_fits (by omega) hbytes)
   have hge := grownCap_ge w (els.length + xs.length) els.length e
   have hgo := SR.push (o := { row := true,sz := i.size,els := els ++ xs,lent := false }) (c := grownCap w (els.length + xs.length) els.length e) (w' := w.drew.alloc (.cells (os.toArray ++ ns.toArray ++ Builtin.zeroCells z.cells (grownCap w (els.length + xs.length) els.length e - (els.length + xs.length))) e)) hS
    ⟨rfl,rfl,rfl,by simp⟩ (fun b hb' => push_old w _ b hb') (drew_alloc_new w _) rfl h0 (by
     intro y hy
     rcases List.mem_append.1 hy with hy | hy
     ·exact hEl y hy
     ·exact hxl' y hy) (by
     simp only [if_true,List.length_append]
     refine ⟨?_,hge,grownCap_le_maxLen w _ _ e (by unfold maxLen; omega)⟩
     simp only [Array.size_append,List.size_toArray,hO.len,hN.len,size_zeroCells,hzs]
     rw [← Nat.add_mul,← Nat.add_mul]
     congr 1
     omega) (by
     intro i' j d hd
     refine ⟨fun _ => ?_,?_⟩
     ·by_cases h6:i' < els.length
      ·rw [cellAt_append_l h6] at hd
       exact hEp i' j d hd
      ·obtain ⟨e1,he1,hd1⟩ := cellAt_some hd
       rw [List.getElem?_append_right (by omega)] at he1
       exact hxp _ _ _ (cellAt_mk he1 hd1)
     ·obtain ⟨u,h6,h7⟩ := grown_rep (zs := (Builtin.zeroCells z.cells (grownCap w (els.length + xs.length) els.length e - (els.length + xs.length))).toList) hO.len hO.rep hN.rep hN.len i' j d hd
      refine ⟨u,?_,h7⟩
      rw [← Array.getElem?_toList]
      simpa using h6)
   refine ⟨_,_,_,hgrow,hgo,?_⟩
   refine .row _ _ _ _ { row := true,sz := i.size,els := els ++ xs,lent := false } _ rfl (by simp) rfl (by simp) fun _ => ⟨?_,by omega⟩
   simp [upd_same]
 ·cases h
theorem bytes_run (hS:SR base w g st) {src dst e:TypeId} {s:List UInt8} (hs:P.underlying src = some .string) (hd:P.underlying dst = some (.slice e)) (he:P.underlying e = some (.int .u8)) :
  RunsTo P base w g st (convert src dst (.string ⟨s.toArray⟩)) (.slc 1 (s.map byteD) false) st := by
 have hrun := run_bytes_of_string (P := P) w src dst e ⟨s.toArray⟩ hs hd he
 have hsz:ByteArray.size ⟨s.toArray⟩ = s.length := by simp [ByteArray.size]
 have hcap := grownCap_ge w (ByteArray.size ⟨s.toArray⟩) 0 e
 generalize hC:bytesRow ⟨s.toArray⟩ (grownCap w (ByteArray.size ⟨s.toArray⟩) 0 e) = C at hrun
 have hgo := hS.fresh (w' := w.drew.alloc (.cells C e (C.size,C.size + 1))) (C := C) (e := e) (fz := (C.size,C.size + 1)) rfl ⟨rfl,rfl,rfl,by simp⟩
 refine ⟨_,_,_,hrun,hgo,?_⟩
 rw [hsz] at hcap ⊢
 have hl:s.length = (s.map byteD).length := by simp
 conv => rhs; rw [hl]
 refine RepV.slc_mk Nat.one_pos (fun x hx => by simp only [List.mem_map] at hx; obtain ⟨b,_,rfl⟩ := hx; rfl) (by simpa using hcap) (fun h => by cases h) ?_
 intro i j d hd'
 obtain ⟨x,hx,hdj⟩ := cellAt_some hd'
 simp only [List.getElem?_map,Option.map_eq_some_iff] at hx
 obtain ⟨b,hb,rfl⟩ := hx
 cases j with
 | succ j => simp [byteD,D.cells] at hdj
 | zero =>
  simp only [byteD,D.cells,List.getElem?_cons_zero,Option.some.injEq] at hdj
  subst hdj
  have hi:i < s.length := (List.getElem?_eq_some_iff.1 hb).1
  have hCi:C[i]? = some (.int .u8 b.toNat) := by
   rw [← hC]
   unfold bytesRow
   rw [Array.getElem?_append_left (by simp [hi])]
   simp [hb]
  have hlt:i < C.size := (Array.getElem?_eq_some_iff.1 hCi).1
  refine ⟨rfl,.inr ⟨rfl,by omega⟩,.int .u8 b.toNat,?_,.int _ _⟩
  have h2:(w.drew.alloc (.cells C e (C.size,C.size + 1))).heap[w.heap.size]? = some (.cells C e (C.size,C.size + 1)) := drew_alloc_new w _
  simp only [World.cell?,h2]
  simpa using hCi
end
end Go.Proofs.YtlleccmnjpcogaaDoor.PI
