/-
  Every operation that is translated does what the pure one does.
  Conditions: none; these are lemmas.
-/
import Derived.Test.YtlleccmnjpcogaaDoorEngN
set_option linter.unusedVariables false
set_option linter.unusedSimpArgs false
namespace Go.Proofs.YtlleccmnjpcogaaDoor.PI
open Go Go.RowKit
section
variable {P:Program} {il:List Nat} {base:Nat} {w:World} {g:Ghost} {st st':St} {a:Act} {o:Oper} {next:Act → World → Prop} {Q:Exit → Act → World → Prop} {d:D}
theorem wp_val {s:Sem Value} (he:execOp a.eval o = (do pure (.value (← s)))) (hr:RunsTo P base w g st s d st')
  (hn:∀ v w' g',Go1 base w g st w' g' st' → RepV w' g' st' d v → next (a.put o.dst v) w'):o.wp P a w next Q := by
 obtain ⟨v,w',g',h1,h2,h3⟩ := hr
 unfold Oper.wp
 rw [he]
 simp only [Sem.run_bind,h1,Result.andThen_ok,Sem.run_pure]
 exact hn v w' g' h2 h3
theorem RunsTo.congr {s s':Sem Value} (h:s.run P w = s'.run P w) (hr:RunsTo P base w g st s' d st'):RunsTo P base w g st s d st' := by
 obtain ⟨v,w',g',h1,h2,h3⟩ := hr
 exact ⟨v,w',g',h.trans h1,h2,h3⟩
theorem wp_still {s:Sem Value} {v:Value} (hS:SR base w g st) (he:execOp a.eval o = (do pure (.value (← s)))) (h1:s.run P w = .ok v w) (h3:RepV w g st d v)
  (hn:∀ v w' g',Go1 base w g st w' g' st → RepV w' g' st d v → next (a.put o.dst v) w'):o.wp P a w next Q :=
 wp_val he (.still hS h1 h3) hn
theorem trParts_spec {pl:Nat → Option (Nat × Nat)} {ρ:PA → D} {ev:Operand → Value} (hev:∀ x pa,trA x = some pa → RepV w g st (ρ pa) (ev x)):∀ {l:List (Nat × Operand)} {ps:List (Nat × Nat × PA)},trParts pl l = some ps →
  ∃ qs:List (Nat × Nat × Nat × D × Value),qs.map (fun p => (p.2.1,p.2.2.1,p.2.2.2.1)) = ps.map (fun p => (p.1,p.2.1,ρ p.2.2)) ∧ qs.map (fun p => (p.1,p.2.2.2.2)) = l.map (fun p => (p.1,ev p.2)) ∧
   (∀ p ∈ qs,pl p.1 = some (p.2.1,p.2.2.1)) ∧ ∀ p ∈ qs,RepV w g st p.2.2.2.1 p.2.2.2.2
 | [],ps,h => by simp [trParts] at h; subst h; exact ⟨[],rfl,rfl,fun p hp => (by cases hp),fun p hp => (by cases hp)⟩
 | (i,x) :: r,ps,h => by
  unfold trParts at h
  split at h
  ·rename_i off size pa l h1 h2 h3
   simp only [Option.some.injEq] at h; subst h
   obtain ⟨qs,e1,e2,e3,e4⟩ := trParts_spec hev h3
   refine ⟨(i,off,size,ρ pa,ev x) :: qs,by simp [e1],by simp [e2],?_,?_⟩
   ·intro p hp
    rcases List.mem_cons.1 hp with rfl | hp
    ·exact h1
    ·exact e3 p hp
   ·intro p hp
    rcases List.mem_cons.1 hp with rfl | hp
    ·exact hev x pa h2
    ·exact e4 p hp
  ·cases h
theorem trDense_spec {ρ:PA → D} {ev:Operand → Value} (hev:∀ x pa,trA x = some pa → RepV w g st (ρ pa) (ev x)):∀ {k:Nat} {l:List (Nat × Operand)} {ps:List PA},trDense k l = some ps →
  ∃ vs:List Value,l.map (fun p => (p.1,ev p.2)) = (vs.zipIdx k).map (fun x => (x.2,x.1)) ∧ vs.length = ps.length ∧ ∀ (i:Nat) d v,(ps.map ρ)[i]? = some d → vs[i]? = some v → RepV w g st d v
 | k,[],ps,h => by simp [trDense] at h; subst h; exact ⟨[],rfl,rfl,fun i d v h => by simp at h⟩
 | k,(i,x) :: r,ps,h => by
  unfold trDense at h
  split at h
  ·rename_i pa l h1 h2
   simp only [Option.ite_none_right_eq_some,Option.some.injEq] at h
   obtain ⟨rfl,rfl⟩ := h
   obtain ⟨vs,e1,e2,e3⟩ := trDense_spec hev h2
   refine ⟨ev x :: vs,by simp [e1],by simp [e2],?_⟩
   intro j d v hd hv
   cases j with
   | zero => simp at hd hv; subst hd; subst hv; exact hev x pa h1
   | succ j => simp at hd hv; exact e3 j d v (by simpa using hd) hv
  ·cases h
theorem trAs_spec {ρ:PA → D} {ev:Operand → Value} (hev:∀ x pa,trA x = some pa → RepV w g st (ρ pa) (ev x)):∀ {l:List Operand} {ps:List PA},trAs l = some ps →
  ps.length = l.length ∧ ∀ (i:Nat) d v,(ps.map ρ)[i]? = some d → (l.map ev)[i]? = some v → RepV w g st d v
 | [],ps,h => by simp [trAs] at h; subst h; exact ⟨rfl,fun i d v h => by simp at h⟩
 | x :: r,ps,h => by
  unfold trAs at h
  split at h
  ·rename_i pa l h1 h2
   simp only [Option.some.injEq] at h; subst h
   obtain ⟨e2,e3⟩ := trAs_spec hev h2
   refine ⟨by simp [e2],?_⟩
   intro j d v hd hv
   cases j with
   | zero => simp at hd hv; subst hd; subst hv; exact hev x pa h1
   | succ j => simp at hd hv; exact e3 j d v (by simpa using hd) (by simpa using hv)
  ·cases h
theorem build_run (_hS:SR base w g st) {t:TypeId} {zs:List D} {pl:Nat → Option (Nat × Nat)} {l:List (Nat × Operand)} {ps:List (Nat × Nat × PA)} {ρ:PA → D} {ev:Operand → Value} {parts:Array (Nat × Value)} {cs:List D}
  (hev:∀ x pa,trA x = some pa → RepV w g st (ρ pa) (ev x)) (hz:zrOf P t = some (.agg zs)) (hpl:placeOf P t = some pl) (hp:trParts pl l = some ps) (hparts:parts.toList = l.map fun p => (p.1,ev p.2))
  (h:fillD zs (ps.map fun p => (p.1,p.2.1,ρ p.2.2)) = some cs):∃ v,(Instr.build t parts).run P w = .ok v w ∧ RepV w g st (.agg cs) v := by
 obtain ⟨qs,e1,e2,e3,e4⟩ := trParts_spec hev hp
 unfold zrOf at hz
 split at hz
 case h_2 => cases hz
 rename_i i hi
 split at hz
 case h_2 => cases hz
 rename_i z hzz
 obtain ⟨vs,rfl,hl,hr⟩ := zero_cells (w := w) (g := g) (st := st) hz rfl
 obtain ⟨cells',h1,h2,h3⟩ := fillD_run (place := pl) qs zs vs.toArray cs (by rw [e1]; exact h) e3 e4 (by simpa using hl) (fun j d v hd hv => hr j d v hd (by simpa using hv))
 refine ⟨.agg cells',?_,?_⟩
 ·refine run_build w t parts cells' ?_
  unfold Program.built
  unfold placeOf at hpl
  rw [hi]
  split at hpl
  ·rename_i n e hu
   split at hpl
   ·rename_i ie hie
    simp only [Option.some.injEq] at hpl
    subst hpl
    simp only [hu,hzz,hie,Value.cells]
    rw [hparts,← e2]; exact h1
   ·cases hpl
  ·rename_i fields hu
   split at hpl
   ·rename_i places hpl'
    simp only [Option.some.injEq] at hpl
    subst hpl
    simp only [hu,hzz,hpl',Value.cells]
    rw [hparts,← e2]; exact h1
   ·cases hpl
  ·cases hpl
 ·have := RepV.agg (w := w) (g := g) (st := st) cs cells'.toList (by simpa using h2) (fun i d v hd hv => h3 i d v hd (by simpa using hv))
  rwa [Array.toArray_toList] at this
theorem ptr_inv {key off:Nat} {v:Value} (h:RepV w g st (.ptr key off) v):∃ q,v = .pointer (some q) := by cases h; exact ⟨_,rfl⟩
theorem eptr_inv {el:D} {off:Nat} {v:Value} (h:RepV w g st (.eptr el off) v):∃ q,v = .pointer (some q) := by cases h; exact ⟨_,rfl⟩
theorem ext_sim (hS:SR base w g st) {f:Nat} {sp:List D → Option D} {ds ys:List D} {vs:List Value} {r:D} (hE:ExtOK P f sp) (hi:imms st ds = some ys) (hr:sp ys = some r) (hl:ds.length = vs.length)
  (hrep:∀ (i:Nat) d v,ds[i]? = some d → vs[i]? = some v → RepV w g st d v) (he:execOp a.eval o = callFunc f vs.toArray)
  (hn:∀ v w' g',Go1 base w g st w' g' (if r.noRef then st else lend (ds.flatMap keys) st) → RepV w' g' (if r.noRef then st else lend (ds.flatMap keys) st) r v → next (a.put o.dst v) w'):o.wp P a w next Q := by
 obtain ⟨g1,hgo,_,hyl,hpure,hyr⟩ := lend_args hS hi
 obtain ⟨v,h1,h2⟩ := hE ys r hr w g1 _ vs (hyl.trans hl) (fun i y v hy hv => hyr i y v hy (fun d hd => hrep i d v hd hv))
 unfold Oper.wp
 rw [he,h1]
 by_cases hnr:r.noRef = true
 ·exact hn v w g (by rw [if_pos hnr]; exact Go1.refl hS) (h2 _ _)
 ·exact hn v w g1 (by rw [if_neg hnr]; exact hgo) (h2 _ _)
theorem call_sim {G:Glob} {T:Tbl} (hT:TblOK P G T) (hS:SR base w g st) (hG:GlobOK G w g) {f:Nat} {fn:Func} {sp:List D → Option D} {ds ys:List D} {vs:List Value} {r:D} (hfn:P.funcs[f]? = some fn) (hb:fn.body.isSome = true) (hname:(fn.name == "runtime.NumGoroutine") = false) (hf5:f < 50000000)
  (hsp:T.p f = some sp) (hi:imms st ds = some ys) (hr:sp ys = some r) (hl:ds.length = vs.length) (hrep:∀ (i:Nat) d v,ds[i]? = some d → vs[i]? = some v → RepV w g st d v)
  (he:execOp a.eval o = callFunc f vs.toArray)
  (hn:∀ v w' g',Go1 base w g st w' g' (if r.noRef then st else lend (ds.flatMap keys) st) → RepV w' g' (if r.noRef then st else lend (ds.flatMap keys) st) r v → next (a.put o.dst v) w'):o.wp P a w next Q := by
 obtain ⟨g1,hgo,_,hyl,hpure,hyr⟩ := lend_args hS hi
 have hC:Contract P G f sp := ((hT.p f sp hsp).resolve_right (fun ⟨f',e,_⟩ => by omega)).2
 have hc := hC w g1 ys vs r hr (hG.mono hgo.im) hgo.sr.im (hyl.trans hl) (fun i y v hy hv => (hyr i y v hy (fun d hd => hrep i d v hd hv)).purA (ImLe.refl _ _) (hpure y (List.mem_of_getElem? hy))) hpure
 unfold Oper.wp
 rw [he]
 have hrun:(callFunc f vs.toArray).run P w = .ok (.enter f vs.toArray) w := by
  have hbn:¬ fn.body = none := by
   intro e; rw [e] at hb; cases hb
  have hn':¬ fn.name = "runtime.NumGoroutine" := by simpa using hname
  simp [callFunc,hfn,hn',hbn]
 rw [hrun,Oper.upon_enter]
 refine hc.mono ?_
 rintro e w' ⟨v,g',rfl,h1,h2,h3,h4,h5,h6⟩
 have hbes:Beside w w' := ⟨h6.os,h6.tape,h6.output,h6.size⟩
 by_cases hnr:r.noRef = true
 ·refine hn v w' { g with Im := g.Im } ?_ (by rw [if_pos hnr]; exact noRef_rep h1 hnr)
  rw [if_pos hnr]
  refine hS.more hbes h6.block (fun _ _ h => h) (fun _ _ h => .inl h) (fun b o hb => ?_)
  have:w'.cell? ⟨b,o,none⟩ = w.cell? ⟨b,o,none⟩ := by simp only [World.cell?,h6.block b (hS.im_lt hb)]
  rw [this]; exact hS.im b o hb
 ·refine hn v w' { g1 with Im := g'.Im } ?_ ?_
  ·rw [if_neg hnr]
   exact hgo.trans (hgo.sr.more hbes h6.block (fun b o h => (h3.im b o h).1) (fun b o h => h4 b o h) h5)
  ·exact RepV.purR (g := g') (g' := { g1 with Im := g'.Im }) ⟨fun b o h => ⟨h,rfl⟩,fun _ _ h _ => h⟩ h1 h2
theorem icall_simC {G:Glob} {f:Nat} {sp:List D → St → Option (D × St)} (hC:IContract P G f sp) (hS:SR base w g st) (hG:GlobOK G w g) {ds:List D} {vs:List Value} {r:D}
  (hr:sp ds st = some (r,st')) (hl:ds.length = vs.length) (hrep:∀ (i:Nat) d v,ds[i]? = some d → vs[i]? = some v → RepV w g st d v)
  (he:execOp a.eval o = callFunc f vs.toArray)
  (hn:∀ v w' g',Go1 base w g st w' g' st' → RepV w' g' st' r v → next (a.put o.dst v) w'):o.wp P a w next Q := by
 obtain ⟨⟨fn,hfn,hb,hname⟩,hc⟩ := hC
 unfold Oper.wp
 rw [he]
 have hrun:(callFunc f vs.toArray).run P w = .ok (.enter f vs.toArray) w := by
  have hbn:¬ fn.body = none := by
   intro e; rw [e] at hb; cases hb
  have hn':¬ fn.name = "runtime.NumGoroutine" := by simpa using hname
  simp [callFunc,hfn,hn',hbn]
 rw [hrun,Oper.upon_enter]
 refine (hc base w g st st' ds vs r hr hS hG hl hrep).mono ?_
 rintro e w' ⟨v,g',rfl,h1,h2⟩
 exact hn v w' g' h1 h2
theorem icall_sim {G:Glob} {T:Tbl} (hT:TblOK P G T) (hS:SR base w g st) (hG:GlobOK G w g) {f:Nat} {sp:List D → St → Option (D × St)} {ds:List D} {vs:List Value} {r:D}
  (hsp:T.i f = some sp) (hr:sp ds st = some (r,st')) (hl:ds.length = vs.length) (hrep:∀ (i:Nat) d v,ds[i]? = some d → vs[i]? = some v → RepV w g st d v)
  (he:execOp a.eval o = callFunc f vs.toArray)
  (hn:∀ v w' g',Go1 base w g st w' g' st' → RepV w' g' st' r v → next (a.put o.dst v) w'):o.wp P a w next Q := icall_simC (hT.i f sp hsp) hS hG hr hl hrep he hn
theorem icall_simX {G:Glob} {f:Nat} {sp:List D → St → Option (Nat × D × St)} (hC:XIContract P G f sp) (hS:SR base w g st) (hG:GlobOK G w g) {ds:List D} {vs:List Value} {t:Nat} {d:D}
  (hr:sp ds st = some (t,d,st')) (hl:ds.length = vs.length) (hrep:∀ (i:Nat) d v,ds[i]? = some d → vs[i]? = some v → RepV w g st d v)
  (he:execOp a.eval o = callFunc f vs.toArray)
  (hn:∀ w' g',Go1 base w g st w' g' st' → Q (.panic (chainOf t d)) a w'):o.wp P a w next Q := by
 obtain ⟨⟨fn,hfn,hb,hname⟩,hc⟩ := hC
 unfold Oper.wp
 rw [he]
 have hrun:(callFunc f vs.toArray).run P w = .ok (.enter f vs.toArray) w := by
  have hbn:¬ fn.body = none := by
   intro e; rw [e] at hb; cases hb
  have hn':¬ fn.name = "runtime.NumGoroutine" := by simpa using hname
  simp [callFunc,hfn,hn',hbn]
 rw [hrun,Oper.upon_enter]
 refine (hc base w g st st' ds vs t d hr hS hG hl hrep).mono ?_
 rintro e w' ⟨g',rfl,h1⟩
 exact hn w' g' h1
theorem sim_move (x:Operand) {dst:Option Tmp} {ty:TypeId} {pos:String} {after:Array Edge} {guard:Option (Nat × Bool)} {G:Glob} {T:Tbl} {fr:Frame} {p:POp} (_hT:TblOK P G T) (hS:SR base w g st) (hG:GlobOK G w g) (hF:FR w g st fr a) (ht:trOp P il (.move x) = some p)
  (hx:p.exec T (rho G fr) st = some (d,st')) (hn:∀ v w' g',Go1 base w g st w' g' st' → RepV w' g' st' d v → next (a.put dst v) w'):Oper.wp P { dst := dst,op := .move x,type := ty,pos := pos,after := after,guard := guard } a w next Q := by
 have hev:∀ x pa,trA x = some pa → RepV w g st (rho G fr pa) (a.eval x) := fun x pa h => trA_rep hG hF h
 clear hF
 simp only [trOp,Option.map_eq_some_iff] at ht
 obtain ⟨pa,hpa,rfl⟩ := ht
 simp only [POp.exec,Option.some.injEq,Prod.mk.injEq] at hx
 obtain ⟨rfl,rfl⟩ := hx
 exact wp_still (s := pure (a.eval x)) hS (by simp [execOp]) rfl (hev x pa hpa) hn
theorem sim_assign (x:Operand) {dst:Option Tmp} {ty:TypeId} {pos:String} {after:Array Edge} {guard:Option (Nat × Bool)} {G:Glob} {T:Tbl} {fr:Frame} {p:POp} (_hT:TblOK P G T) (hS:SR base w g st) (hG:GlobOK G w g) (hF:FR w g st fr a) (ht:trOp P il (.assign x) = some p)
  (hx:p.exec T (rho G fr) st = some (d,st')) (hn:∀ v w' g',Go1 base w g st w' g' st' → RepV w' g' st' d v → next (a.put dst v) w'):Oper.wp P { dst := dst,op := .assign x,type := ty,pos := pos,after := after,guard := guard } a w next Q := by
 have hev:∀ x pa,trA x = some pa → RepV w g st (rho G fr pa) (a.eval x) := fun x pa h => trA_rep hG hF h
 clear hF
 simp only [trOp,Option.map_eq_some_iff] at ht
 obtain ⟨pa,hpa,rfl⟩ := ht
 simp only [POp.exec,Option.some.injEq,Prod.mk.injEq] at hx
 obtain ⟨rfl,rfl⟩ := hx
 exact wp_still (s := pure (a.eval x)) hS (by simp [execOp]) rfl (hev x pa hpa) hn
theorem sim_pick (c x y:Operand) {dst:Option Tmp} {ty:TypeId} {pos:String} {after:Array Edge} {guard:Option (Nat × Bool)} {G:Glob} {T:Tbl} {fr:Frame} {p:POp} (_hT:TblOK P G T) (hS:SR base w g st) (hG:GlobOK G w g) (hF:FR w g st fr a) (ht:trOp P il (.pick c x y) = some p)
  (hx:p.exec T (rho G fr) st = some (d,st')) (hn:∀ v w' g',Go1 base w g st w' g' st' → RepV w' g' st' d v → next (a.put dst v) w'):Oper.wp P { dst := dst,op := .pick c x y,type := ty,pos := pos,after := after,guard := guard } a w next Q := by
 have hev:∀ x pa,trA x = some pa → RepV w g st (rho G fr pa) (a.eval x) := fun x pa h => trA_rep hG hF h
 clear hF
 simp only [trOp] at ht
 split at ht
 ·rename_i pc px py h1 h2 h3
  simp only [Option.some.injEq] at ht; subst ht
  simp only [POp.exec] at hx
  split at hx
  ·rename_i b hb
   simp only [Option.some.injEq,Prod.mk.injEq] at hx
   obtain ⟨rfl,rfl⟩ := hx
   have hc := hev c pc h1
   rw [hb] at hc
   have hc := bool_inv hc
   refine wp_still (s := pure (if b then a.eval x else a.eval y)) hS (by simp [execOp,hc,asBool]) rfl ?_ hn
   cases b
   ·exact hev y py h3
   ·exact hev x px h2
  ·cases hx
 ·cases ht
theorem sim_alloc (t:TypeId) {dst:Option Tmp} {ty:TypeId} {pos:String} {after:Array Edge} {guard:Option (Nat × Bool)} {G:Glob} {T:Tbl} {fr:Frame} {p:POp} (_hT:TblOK P G T) (hS:SR base w g st) (hG:GlobOK G w g) (hF:FR w g st fr a) (ht:trOp P il (.alloc t) = some p)
  (hx:p.exec T (rho G fr) st = some (d,st')) (hn:∀ v w' g',Go1 base w g st w' g' st' → RepV w' g' st' d v → next (a.put dst v) w'):Oper.wp P { dst := dst,op := .alloc t,type := ty,pos := pos,after := after,guard := guard } a w next Q := by
 have hev:∀ x pa,trA x = some pa → RepV w g st (rho G fr pa) (a.eval x) := fun x pa h => trA_rep hG hF h
 clear hF
 simp only [trOp,Option.map_eq_some_iff] at ht
 obtain ⟨zd,hz,rfl⟩ := ht
 simp only [POp.exec] at hx
 split at hx
 case isFalse => cases hx
 rename_i hc
 replace hc:zd.cells.all D.isCell = true := hc
 simp only [Option.some.injEq,Prod.mk.injEq] at hx
 obtain ⟨rfl,rfl⟩ := hx
 unfold zrOf at hz
 split at hz
 case h_2 => cases hz
 rename_i i hi
 split at hz
 case h_2 => cases hz
 rename_i z hzz
 refine wp_val (s := Instr.alloc t true (.tuple #[])) rfl (RunsTo.congr ?_ (box_run (t := t) hS hc (constD_rep hz))) hn
 simp [Instr.alloc,zeroValue,typeInfo,hi,hzz]
theorem sim_box (t:TypeId) (x:Operand) {dst:Option Tmp} {ty:TypeId} {pos:String} {after:Array Edge} {guard:Option (Nat × Bool)} {G:Glob} {T:Tbl} {fr:Frame} {p:POp} (_hT:TblOK P G T) (hS:SR base w g st) (hG:GlobOK G w g) (hF:FR w g st fr a) (ht:trOp P il (.box t x) = some p)
  (hx:p.exec T (rho G fr) st = some (d,st')) (hn:∀ v w' g',Go1 base w g st w' g' st' → RepV w' g' st' d v → next (a.put dst v) w'):Oper.wp P { dst := dst,op := .box t x,type := ty,pos := pos,after := after,guard := guard } a w next Q := by
 have hev:∀ x pa,trA x = some pa → RepV w g st (rho G fr pa) (a.eval x) := fun x pa h => trA_rep hG hF h
 clear hF
 simp only [trOp,Option.map_eq_some_iff] at ht
 obtain ⟨pa,hpa,rfl⟩ := ht
 simp only [POp.exec] at hx
 split at hx
 case isFalse => cases hx
 rename_i hc
 simp only [Option.some.injEq,Prod.mk.injEq] at hx
 obtain ⟨rfl,rfl⟩ := hx
 exact wp_val (s := Instr.box t (a.eval x)) rfl (RunsTo.congr rfl (box_run (t := t) hS hc (hev x pa hpa))) hn
theorem sim_build (t:TypeId) (parts:Array (Nat × Operand)) {dst:Option Tmp} {ty:TypeId} {pos:String} {after:Array Edge} {guard:Option (Nat × Bool)} {G:Glob} {T:Tbl} {fr:Frame} {p:POp} (_hT:TblOK P G T) (hS:SR base w g st) (hG:GlobOK G w g) (hF:FR w g st fr a) (ht:trOp P il (.build t parts) = some p)
  (hx:p.exec T (rho G fr) st = some (d,st')) (hn:∀ v w' g',Go1 base w g st w' g' st' → RepV w' g' st' d v → next (a.put dst v) w'):Oper.wp P { dst := dst,op := .build t parts,type := ty,pos := pos,after := after,guard := guard } a w next Q := by
 have hev:∀ x pa,trA x = some pa → RepV w g st (rho G fr pa) (a.eval x) := fun x pa h => trA_rep hG hF h
 clear hF
 simp only [trOp] at ht
 split at ht
 case h_2 => cases ht
 rename_i zs pl h1 h2
 simp only [Option.map_eq_some_iff] at ht
 obtain ⟨ps,h3,rfl⟩ := ht
 simp only [POp.exec,Option.map_eq_some_iff,Prod.mk.injEq] at hx
 obtain ⟨cs,h4,rfl,rfl⟩ := hx
 obtain ⟨v,h5,h6⟩ := build_run (P := P) (parts := parts.map fun (i,x) => (i,a.eval x)) hS hev h1 h2 h3 (by simp) h4
 exact wp_still hS rfl h5 h6 hn
theorem buildSlice_runF {t:TypeId} {len:Nat} {parts:Array (Nat × Operand)} {G:Glob} {T:Tbl} {fr:Frame} {p:POp} (hS:SR base w g st) (hG:GlobOK G w g) (hF:FR w g st fr a) (ht:trOp P il (.buildSlice t len parts) = some p)
  (hx:p.exec T (rho G fr) st = some (d,st')):∃ ps,(∀ (dst:Option Tmp) (ty:TypeId) (pos:String) (after:Array Edge) (guard:Option (Nat × Bool)),execOp a.eval { dst := dst,op := .buildSlice t len parts,type := ty,pos := pos,after := after,guard := guard } = (do pure (.value (← Instr.buildSlice t len ps)))) ∧ ∃ v w' g',(Instr.buildSlice t len ps).run P w = .ok v w' ∧ Go1 base w g st w' g' st' ∧ RepV w' g' st' d v ∧ Fresh1 base w' g' st' v := by

 have hev:∀ x pa,trA x = some pa → RepV w g st (rho G fr pa) (a.eval x) := fun x pa h => trA_rep hG hF h
 clear hF
 simp only [trOp] at ht
 split at ht
 case h_2 => cases ht
 rename_i e hu
 split at ht
 case h_2 => cases ht
 rename_i i hi
 split at ht
 case h_2 => cases ht
 rename_i z l hz hl
 simp only [Option.ite_none_right_eq_some,Option.some.injEq] at ht
 obtain ⟨hlen,rfl⟩ := ht
 simp only [POp.exec] at hx
 split at hx
 case h_2 => cases hx
 rename_i els hels
 split at hx
 case isFalse => cases hx
 rename_i hc
 simp only [Option.some.injEq,Prod.mk.injEq] at hx
 obtain ⟨rfl,rfl⟩ := hx
 simp only [Bool.and_eq_true,decide_eq_true_eq,List.all_eq_true,beq_iff_eq] at hc
 obtain ⟨vs,e1,e2,e3⟩ := trDense_spec hev hl
 obtain ⟨g1,hgo,_,h1,h2,h3⟩ := lend_args hS hels
 have hrep:∀ (i:Nat) d v,els[i]? = some d → vs[i]? = some v → RepV w g1 (lend ((l.map (rho G fr)).flatMap keys) st) d v := fun i d v hd hv => h3 i d v hd fun d' hd' => e3 i d' v hd' hv
 have hlv:els.length = vs.length := by rw [h1,List.length_map,e2]
 have hpl:(parts.map fun (i,x) => (i,a.eval x)).toList = (vs.zipIdx 0).map fun x => (x.2,x.1) := by rw [← e1]; simp
 generalize hps:(parts.map fun (i,x) => (i,a.eval x)) = ps at hpl
 obtain ⟨v,w',g',r1,r2,r3,r4⟩ := bslc_runF (len := len) (parts := ps) hgo.sr hu hi hz rfl hc.1.2 h2 hc.1.1 hlv hrep hc.2 (by rw [e2,← hlen]) hpl
 exact ⟨ps,fun _ _ _ _ _ => by simp only [execOp,hps],v,w',g',r1,hgo.trans r2,r3,r4⟩
theorem sim_buildSlice (t:TypeId) (len:Nat) (parts:Array (Nat × Operand)) {dst:Option Tmp} {ty:TypeId} {pos:String} {after:Array Edge} {guard:Option (Nat × Bool)} {G:Glob} {T:Tbl} {fr:Frame} {p:POp} (_hT:TblOK P G T) (hS:SR base w g st) (hG:GlobOK G w g) (hF:FR w g st fr a) (ht:trOp P il (.buildSlice t len parts) = some p)
  (hx:p.exec T (rho G fr) st = some (d,st')) (hn:∀ v w' g',Go1 base w g st w' g' st' → RepV w' g' st' d v → next (a.put dst v) w'):Oper.wp P { dst := dst,op := .buildSlice t len parts,type := ty,pos := pos,after := after,guard := guard } a w next Q := by
 obtain ⟨ps,he,v,w',g',r1,r2,r3,_⟩ := buildSlice_runF hS hG hF ht hx
 exact wp_val (s := Instr.buildSlice t len ps) (he ..) ⟨v,w',g',r1,r2,r3⟩ hn
theorem sim_litSame {t e:TypeId} {len:Nat} {parts:Array (Nat × Operand)} {d1:Nat} {d2:Option Nat} {ty ty2:TypeId} {pos pos2:String} {after after2:Array Edge} {guard guard2:Option (Nat × Bool)} {G:Glob} {T:Tbl} {fr:Frame} {p:POp} {next2:Act → World → Prop} (hS:SR base w g st) (hG:GlobOK G w g) (hF:FR w g st fr a) (ht:trOp P il (.buildSlice t len parts) = some p)
  (hu:P.underlying t = some (.slice e)) (hu8:P.underlying e = some (.int .u8)) (hd1:d1 < a.tmps.size)
  (hx:p.exec T (rho G fr) st = some (d,st')) (hn:∀ v w' g',Go1 base w g st w' g' st' → RepV w' g' st' d v → next2 ((a.put (some d1) v).put d2 v) w') :
  Oper.wp P { dst := some d1,op := .buildSlice t len parts,type := ty,pos := pos,after := after,guard := guard } a w (fun a' w' => Oper.wp P { dst := d2,op := .convert t t (.tmp d1),type := ty2,pos := pos2,after := after2,guard := guard2 } a' w' next2 Q) Q := by
 obtain ⟨ps,he,v,w',g',r1,r2,r3,b,n,C,eC,rfl,hb,hbase,hne⟩ := buildSlice_runF hS hG hF ht hx
 unfold Oper.wp
 rw [he]
 simp only [Sem.run_bind,r1,Result.andThen_ok,Sem.run_pure,Oper.upon_value]
 have hev:(a.put (some d1) (.slice (some ⟨b,0,none⟩) n n)).eval (.tmp d1) = .slice (some ⟨b,0,none⟩) n n := by
  simp [Act.eval,Act.put,hd1]
 have he2:execOp (a.put (some d1) (.slice (some ⟨b,0,none⟩) n n)).eval { dst := d2,op := .convert t t (.tmp d1),type := ty2,pos := pos2,after := after2,guard := guard2 } = (do pure (.value (← convert t t (.slice (some ⟨b,0,none⟩) n n)))) := by
  simp only [execOp,hev]
 rw [he2]
 have hcv:(convert t t (.slice (some ⟨b,0,none⟩) n n)).run P w' = .ok (.slice (some ⟨b,0,none⟩) n n) (w'.freeze ⟨b,C.size,none⟩ 1) := by
  have hsh:w'.shape? b = some (eC,C.size) := by simp [World.shape?,hb]
  simp [convert,run_underlying hu,run_underlying hu8,markStringish,shape,freeze,Sem.run_bind,Sem.run,hsh,Result.andThen]
 simp only [Sem.run_bind,hcv,Result.andThen_ok,Sem.run_pure,Oper.upon_value]
 have hf := freeze_go (m := C.size) r2.sr hb hbase hne
 exact hn _ _ g' (r2.trans hf) (hf.rep r3)
theorem sim_load (t:TypeId) (x:Operand) {dst:Option Tmp} {ty:TypeId} {pos:String} {after:Array Edge} {guard:Option (Nat × Bool)} {G:Glob} {T:Tbl} {fr:Frame} {p:POp} (_hT:TblOK P G T) (hS:SR base w g st) (hG:GlobOK G w g) (hF:FR w g st fr a) (ht:trOp P il (.load t x) = some p)
  (hx:p.exec T (rho G fr) st = some (d,st')) (hn:∀ v w' g',Go1 base w g st w' g' st' → RepV w' g' st' d v → next (a.put dst v) w'):Oper.wp P { dst := dst,op := .load t x,type := ty,pos := pos,after := after,guard := guard } a w next Q := by
 have hev:∀ x pa,trA x = some pa → RepV w g st (rho G fr pa) (a.eval x) := fun x pa h => trA_rep hG hF h
 clear hF
 simp only [trOp] at ht
 split at ht
 case h_2 => cases ht
 rename_i pa n ag h1 h2 h3
 simp only [Option.some.injEq] at ht; subst ht
 simp only [POp.exec,Option.map_eq_some_iff,Prod.mk.injEq] at hx
 obtain ⟨r,h4,rfl,rfl⟩ := hx
 obtain ⟨v,h5,h6⟩ := pload_run (P := P) hS h3 h2 h4 (hev x pa h1)
 exact wp_still (s := Instr.loadAt t (a.eval x)) hS rfl h5 h6 hn
theorem sim_store (t:TypeId) (x y:Operand) {dst:Option Tmp} {ty:TypeId} {pos:String} {after:Array Edge} {guard:Option (Nat × Bool)} {G:Glob} {T:Tbl} {fr:Frame} {p:POp} (_hT:TblOK P G T) (hS:SR base w g st) (hG:GlobOK G w g) (hF:FR w g st fr a) (ht:trOp P il (.store t x y) = some p)
  (hx:p.exec T (rho G fr) st = some (d,st')) (hn:∀ v w' g',Go1 base w g st w' g' st' → RepV w' g' st' d v → next (a.put dst v) w'):Oper.wp P { dst := dst,op := .store t x y,type := ty,pos := pos,after := after,guard := guard } a w next Q := by
 have hev:∀ x pa,trA x = some pa → RepV w g st (rho G fr pa) (a.eval x) := fun x pa h => trA_rep hG hF h
 clear hF
 simp only [trOp] at ht
 split at ht
 case h_2 => cases ht
 rename_i pa pb n h1 h2 h3
 simp only [Option.some.injEq] at ht; subst ht
 simp only [POp.exec,Option.map_eq_some_iff,Prod.mk.injEq] at hx
 obtain ⟨r,h4,rfl,rfl⟩ := hx
 obtain ⟨w',g',h5,h6⟩ := pstor_run (P := P) hS h3 h4 (hev x pa h1) (hev y pb h2)
 unfold Oper.wp execOp
 simp only [Sem.run_bind,h5,Result.andThen_ok,Sem.run_pure]
 exact hn undef w' g' h6 (.tup [] [] rfl (fun i d v h => by simp at h))
theorem sim_nilCheck (x:Operand) {dst:Option Tmp} {ty:TypeId} {pos:String} {after:Array Edge} {guard:Option (Nat × Bool)} {G:Glob} {T:Tbl} {fr:Frame} {p:POp} (_hT:TblOK P G T) (hS:SR base w g st) (hG:GlobOK G w g) (hF:FR w g st fr a) (ht:trOp P il (.nilCheck x) = some p)
  (hx:p.exec T (rho G fr) st = some (d,st')) (hn:∀ v w' g',Go1 base w g st w' g' st' → RepV w' g' st' d v → next (a.put dst v) w'):Oper.wp P { dst := dst,op := .nilCheck x,type := ty,pos := pos,after := after,guard := guard } a w next Q := by
 have hev:∀ x pa,trA x = some pa → RepV w g st (rho G fr pa) (a.eval x) := fun x pa h => trA_rep hG hF h
 clear hF
 simp only [trOp,Option.map_eq_some_iff] at ht
 obtain ⟨pa,hpa,rfl⟩ := ht
 have hr := hev x pa hpa
 simp only [POp.exec] at hx
 have key:∀ q,a.eval x = .pointer (some q) → RepV w g st d (a.eval x) → st' = st → Oper.wp P { dst := dst,op := .nilCheck x,type := ty,pos := pos,after := after,guard := guard } a w next Q := by
  intro q hq hrd hst
  subst hst
  exact wp_still (s := pure (a.eval x)) hS (by simp [execOp,hq]) rfl hrd hn
 split at hx
 ·rename_i key off hp
  simp only [Option.some.injEq,Prod.mk.injEq] at hx
  obtain ⟨rfl,rfl⟩ := hx
  rw [hp] at hr
  obtain ⟨q,hq⟩ := ptr_inv hr
  exact key q hq (hev x pa hpa) rfl
 ·rename_i el off hp
  simp only [Option.some.injEq,Prod.mk.injEq] at hx
  obtain ⟨rfl,rfl⟩ := hx
  rw [hp] at hr
  obtain ⟨q,hq⟩ := eptr_inv hr
  exact key q hq (hev x pa hpa) rfl
 ·rename_i kk tot i off hp
  split at hx
  ·rename_i hl
   simp only [Option.some.injEq,Prod.mk.injEq] at hx
   obtain ⟨rfl,rfl⟩ := hx
   rw [hp] at hr
   obtain ⟨ob,_,_,_,hq⟩ := live_inv hl hr
   exact key _ hq (hev x pa hpa) rfl
  ·cases hx
 ·cases hx
theorem sim_binOp (op:BinOp) (t:TypeId) (x y:Operand) (yt:TypeId) {dst:Option Tmp} {ty:TypeId} {pos:String} {after:Array Edge} {guard:Option (Nat × Bool)} {G:Glob} {T:Tbl} {fr:Frame} {p:POp} (_hT:TblOK P G T) (hS:SR base w g st) (hG:GlobOK G w g) (hF:FR w g st fr a) (ht:trOp P il (.binOp op t x y yt) = some p)
  (hx:p.exec T (rho G fr) st = some (d,st')) (hn:∀ v w' g',Go1 base w g st w' g' st' → RepV w' g' st' d v → next (a.put dst v) w'):Oper.wp P { dst := dst,op := .binOp op t x y yt,type := ty,pos := pos,after := after,guard := guard } a w next Q := by
 have hev:∀ x pa,trA x = some pa → RepV w g st (rho G fr pa) (a.eval x) := fun x pa h => trA_rep hG hF h
 clear hF
 simp only [trOp] at ht
 split at ht
 case h_2 => cases ht
 rename_i pa pb h1 h2
 have hbin:∀ op,p = .bin op pa pb → Oper.wp P { dst := dst,op := .binOp op t x y yt,type := ty,pos := pos,after := after,guard := guard } a w next Q := by
  rintro op rfl
  simp only [POp.exec,Option.map_eq_some_iff,Prod.mk.injEq] at hx
  obtain ⟨r,h4,rfl,rfl⟩ := hx
  obtain ⟨⟨v,h5,h6⟩,h7,h8⟩ := pbin_run (P := P) op t _ _ r _ _ h4 (hev x pa h1) (hev y pb h2)
  refine wp_still (s := do eqGuard op t x y (a.eval x) (a.eval y); binOp op t (a.eval x) (a.eval y)) hS rfl ?_ h6 hn
  simp only [Sem.run_bind,eqGuard_flat op t x y _ _ h7 h8,Result.andThen_ok,h5]
 have heq:∀ neg:Bool,(match P.underlying t with
  | some (.int _) | some .string => some (POp.bin (if neg then .neq else .eql) pa pb)
  | some .bool => some (.beq neg pa pb)
  | some (.struct _) | some (.array _ _) => match leafs P 100 t with
   | some ks => if P.eqGuardType P.depth t then none else some (.aeq ks neg pa pb)
   | none => none
  | _ => none) = some p → Oper.wp P { dst := dst,op := .binOp (if neg then .neq else .eql) t x y yt,type := ty,pos := pos,after := after,guard := guard } a w next Q := by
  intro neg hp
  have hagg:agOf P t = some true → (match leafs P 100 t with
   | some ks => if P.eqGuardType P.depth t then none else some (POp.aeq ks neg pa pb)
   | none => none) = some p → Oper.wp P { dst := dst,op := .binOp (if neg then .neq else .eql) t x y yt,type := ty,pos := pos,after := after,guard := guard } a w next Q := by
   intro hag hp
   split at hp
   case h_2 => cases hp
   rename_i ks hks
   split at hp
   case isTrue => cases hp
   rename_i hg
   simp only [Option.some.injEq] at hp; subst hp
   simp only [POp.exec,Option.map_eq_some_iff,Prod.mk.injEq] at hx
   obtain ⟨r,h4,rfl,rfl⟩ := hx
   obtain ⟨⟨v,h5,h6⟩,xs,ys,h7,h8⟩ := paeq_run (P := P) hks (by decide) hag h4 (hev x pa h1) (hev y pb h2)
   refine wp_still (s := do eqGuard (if neg then .neq else .eql) t x y (a.eval x) (a.eval y); binOp (if neg then .neq else .eql) t (a.eval x) (a.eval y)) hS rfl ?_ h6 hn
   have hgd:(eqGuard (if neg then .neq else .eql) t x y (a.eval x) (a.eval y)).run P w = .ok () w := by
    rw [h7,h8]
    exact run_eqGuard_agg w _ t x y xs ys (by simpa using hg)
   simp only [Sem.run_bind,hgd,Result.andThen_ok,h5]
  split at hp
  ·simp only [Option.some.injEq] at hp; exact hbin _ hp.symm
  ·simp only [Option.some.injEq] at hp; exact hbin _ hp.symm
  ·rename_i hu
   simp only [Option.some.injEq] at hp; subst hp
   simp only [POp.exec,Option.map_eq_some_iff,Prod.mk.injEq] at hx
   obtain ⟨r,h4,rfl,rfl⟩ := hx
   obtain ⟨⟨v,h5,h6⟩,h7,h8⟩ := pbeq_run (P := P) neg t hu _ _ r _ _ h4 (hev x pa h1) (hev y pb h2)
   refine wp_still (s := do eqGuard (if neg then .neq else .eql) t x y (a.eval x) (a.eval y); binOp (if neg then .neq else .eql) t (a.eval x) (a.eval y)) hS rfl ?_ h6 hn
   simp only [Sem.run_bind,eqGuard_flat _ t x y _ _ h7 h8,Result.andThen_ok,h5]
  ·rename_i hu
   exact hagg (by simp [agOf,hu]) hp
  ·rename_i hu
   exact hagg (by simp [agOf,hu]) hp
  ·cases hp
 unfold trBin at ht
 split at ht
 ·exact heq false ht
 ·exact heq true ht
 ·simp only [Option.some.injEq] at ht; exact hbin _ ht.symm
theorem sim_unOp (op:UnOp) (t:TypeId) (x:Operand) {dst:Option Tmp} {ty:TypeId} {pos:String} {after:Array Edge} {guard:Option (Nat × Bool)} {G:Glob} {T:Tbl} {fr:Frame} {p:POp} (_hT:TblOK P G T) (hS:SR base w g st) (hG:GlobOK G w g) (hF:FR w g st fr a) (ht:trOp P il (.unOp op t x) = some p)
  (hx:p.exec T (rho G fr) st = some (d,st')) (hn:∀ v w' g',Go1 base w g st w' g' st' → RepV w' g' st' d v → next (a.put dst v) w'):Oper.wp P { dst := dst,op := .unOp op t x,type := ty,pos := pos,after := after,guard := guard } a w next Q := by
 have hev:∀ x pa,trA x = some pa → RepV w g st (rho G fr pa) (a.eval x) := fun x pa h => trA_rep hG hF h
 clear hF
 simp only [trOp,Option.map_eq_some_iff] at ht
 obtain ⟨pa,hpa,rfl⟩ := ht
 simp only [POp.exec,Option.map_eq_some_iff,Prod.mk.injEq] at hx
 obtain ⟨r,h4,rfl,rfl⟩ := hx
 obtain ⟨v,h5,h6⟩ := pun_run (P := P) (w := w) op _ r _ h4 (hev x pa hpa)
 exact wp_still (s := Op.unary op (a.eval x)) hS rfl h5 h6 hn
theorem sim_convert (src dt:TypeId) (x:Operand) {dst:Option Tmp} {ty:TypeId} {pos:String} {after:Array Edge} {guard:Option (Nat × Bool)} {G:Glob} {T:Tbl} {fr:Frame} {p:POp} (_hT:TblOK P G T) (hS:SR base w g st) (hG:GlobOK G w g) (hF:FR w g st fr a) (ht:trOp P il (.convert src dt x) = some p)
  (hx:p.exec T (rho G fr) st = some (d,st')) (hn:∀ v w' g',Go1 base w g st w' g' st' → RepV w' g' st' d v → next (a.put dst v) w'):Oper.wp P { dst := dst,op := .convert src dt x,type := ty,pos := pos,after := after,guard := guard } a w next Q := by
 have hev:∀ x pa,trA x = some pa → RepV w g st (rho G fr pa) (a.eval x) := fun x pa h => trA_rep hG hF h
 clear hF
 simp only [trOp] at ht
 split at ht
 case h_2 => cases ht
 rename_i pa hpa
 have hr := hev x pa hpa
 unfold trConv at ht
 split at ht
 ·rename_i u k hs hd
  simp only [Option.some.injEq] at ht; subst ht
  simp only [POp.exec,Option.map_eq_some_iff,Prod.mk.injEq] at hx
  obtain ⟨r,h4,rfl,rfl⟩ := hx
  unfold pconv at h4
  split at h4 <;> rename_i hc1 hp <;> (try cases hc1) <;> (try (simp only [reduceCtorEq] at h4))
  simp only [Option.some.injEq] at h4; subst h4
  rw [hp] at hr
  have he := int_inv hr
  refine wp_still (s := convert src dt (a.eval x)) hS rfl ?_ (.int _ _) hn
  rw [he]
  simp [convert,run_underlying hs,run_underlying hd,Conv.intToInt]
 ·rename_i hs hd
  simp only [Option.some.injEq] at ht; subst ht
  simp only [POp.exec,Option.map_eq_some_iff,Prod.mk.injEq] at hx
  obtain ⟨r,h4,rfl,rfl⟩ := hx
  unfold pconv at h4
  split at h4 <;> rename_i hc1 hp <;> (try cases hc1) <;> (try (simp only [reduceCtorEq] at h4))
  simp only [Option.some.injEq] at h4; subst h4
  rw [hp] at hr
  have he := str_inv hr
  refine wp_still (s := convert src dt (a.eval x)) hS rfl (v := a.eval x) ?_ (by rw [he]; exact .str _) hn
  rw [he]
  simp [convert,run_underlying hs,run_underlying hd]
 ·rename_i e hs hd
  split at ht
  case h_2 => cases ht
  rename_i hu8
  simp only [Option.some.injEq] at ht; subst ht
  simp only [POp.exec,Option.map_eq_some_iff,Prod.mk.injEq] at hx
  obtain ⟨r,h4,rfl,rfl⟩ := hx
  unfold pconv at h4
  split at h4 <;> rename_i hc1 hp <;> (try cases hc1) <;> (try (simp only [reduceCtorEq] at h4))
  simp only [Option.some.injEq] at h4; subst h4
  rw [hp] at hr
  have he := str_inv hr
  refine wp_val (s := convert src dt (a.eval x)) rfl ?_ hn
  rw [he]
  exact bytes_run hS hs hd hu8
 ·rename_i e hs hd
  split at ht
  case h_2 => cases ht
  rename_i hu8
  simp only [Option.some.injEq] at ht; subst ht
  simp only [POp.exec,Option.map_eq_some_iff,Prod.mk.injEq] at hx
  obtain ⟨r,h4,rfl,rfl⟩ := hx
  unfold pconv at h4
  split at h4 <;> rename_i hc1 hp <;> (try cases hc1) <;> (try (simp only [reduceCtorEq] at h4))
  ·split at h4
   case isFalse => cases h4
   rename_i hsz
   simp only [Option.map_eq_some_iff] at h4
   obtain ⟨bs,hbs,rfl⟩ := h4
   rw [hp] at hr
   simp only [Bool.or_eq_true,beq_iff_eq,List.isEmpty_iff] at hsz
   exact wp_still (s := convert src dt (a.eval x)) hS rfl (els_str_run hs hu8 hd (slc_els hr) hsz hbs) (.str _) hn
  ·split at h4
   case h_2 => cases h4
   rename_i sz els hre
   split at h4
   case isFalse => cases h4
   rename_i hsz
   simp only [Option.map_eq_some_iff] at h4
   obtain ⟨bs,hbs,rfl⟩ := h4
   rw [hp] at hr
   simp only [beq_iff_eq] at hsz
   exact wp_still (s := convert src dt (a.eval x)) hS rfl (els_str_run hs hu8 hd (row_els hS hre hr).1 (.inl hsz) hbs) (.str _) hn
 ·cases ht
theorem sim_makeSlice (t:TypeId) (l c:Operand) {dst:Option Tmp} {ty:TypeId} {pos:String} {after:Array Edge} {guard:Option (Nat × Bool)} {G:Glob} {T:Tbl} {fr:Frame} {p:POp} (_hT:TblOK P G T) (hS:SR base w g st) (hG:GlobOK G w g) (hF:FR w g st fr a) (ht:trOp P il (.makeSlice t l c) = some p)
  (hx:p.exec T (rho G fr) st = some (d,st')) (hn:∀ v w' g',Go1 base w g st w' g' st' → RepV w' g' st' d v → next (a.put dst v) w'):Oper.wp P { dst := dst,op := .makeSlice t l c,type := ty,pos := pos,after := after,guard := guard } a w next Q := by
 have hev:∀ x pa,trA x = some pa → RepV w g st (rho G fr pa) (a.eval x) := fun x pa h => trA_rep hG hF h
 clear hF
 simp only [trOp] at ht
 split at ht
 case h_2 => cases ht
 rename_i pl pc e h1 h2 hu
 split at ht
 case h_2 => cases ht
 rename_i i hi
 split at ht
 case h_2 => cases ht
 rename_i z hz
 simp only [Option.map_eq_some_iff] at ht
 obtain ⟨zd,hzd,rfl⟩ := ht
 simp only [POp.exec] at hx
 split at hx
 case h_2 => cases hx
 rename_i nl nc h3 h4
 split at hx
 case isFalse => cases hx
 rename_i hc
 simp only [Option.some.injEq,Prod.mk.injEq] at hx
 obtain ⟨rfl,rfl⟩ := hx
 obtain ⟨c1,c2,c3,c4,c5,c6⟩ := hc
 exact wp_val (s := Instr.makeSlice t (a.eval l) (a.eval c)) rfl (mkslc_run hS hu hi hz hzd rfl rfl c4 c5 c6 h3 h4 (hev l pl h1) (hev c pc h2) c1 c2 c3) hn
theorem sim_slice (t:TypeId) (x:Operand) (lo hi mx:Option Operand) {dst:Option Tmp} {ty:TypeId} {pos:String} {after:Array Edge} {guard:Option (Nat × Bool)} {G:Glob} {T:Tbl} {fr:Frame} {p:POp} (_hT:TblOK P G T) (hS:SR base w g st) (hG:GlobOK G w g) (hF:FR w g st fr a) (ht:trOp P il (.slice t x lo hi mx) = some p)
  (hx:p.exec T (rho G fr) st = some (d,st')) (hn:∀ v w' g',Go1 base w g st w' g' st' → RepV w' g' st' d v → next (a.put dst v) w'):Oper.wp P { dst := dst,op := .slice t x lo hi mx,type := ty,pos := pos,after := after,guard := guard } a w next Q := by
 have hev:∀ x pa,trA x = some pa → RepV w g st (rho G fr pa) (a.eval x) := fun x pa h => trA_rep hG hF h
 clear hF
 simp only [trOp] at ht
 split at ht
 case h_2 => cases ht
 rename_i pa plo phi pmx h1 h2 h3 h4
 have r2 := opt_rep h2 rfl hev
 have r3 := opt_rep h3 rfl hev
 have r4 := opt_rep h4 rfl hev
 unfold trSlice at ht
 split at ht
 ·rename_i hu
  simp only [Option.some.injEq] at ht; subst ht
  simp only [POp.exec,Option.map_eq_some_iff,Prod.mk.injEq] at hx
  obtain ⟨r,h5,rfl,rfl⟩ := hx
  obtain ⟨v,h6,h7⟩ := pslice_run (P := P) hS (.inl ⟨rfl,hu⟩) h5 (hev x pa h1) r2 r3 r4
  exact wp_still (s := Instr.sliceAt t (a.eval x) (lo.map a.eval) (hi.map a.eval) (mx.map a.eval)) hS rfl h6 h7 hn
 ·rename_i e hu
  split at ht
  case h_2 => cases ht
  rename_i sz hsz
  split at ht
  case isTrue => cases ht
  rename_i h0
  simp only [Option.some.injEq] at ht; subst ht
  simp only [POp.exec,Option.map_eq_some_iff,Prod.mk.injEq] at hx
  obtain ⟨r,h5,rfl,rfl⟩ := hx
  obtain ⟨v,h6,h7⟩ := pslice_run (P := P) hS (.inr ⟨h0,e,hu,hsz⟩) h5 (hev x pa h1) r2 r3 r4
  exact wp_still (s := Instr.sliceAt t (a.eval x) (lo.map a.eval) (hi.map a.eval) (mx.map a.eval)) hS rfl h6 h7 hn
 ·rename_i n e hu
  split at ht
  case h_2 => cases ht
  rename_i sz ag hsz hag
  simp only [Option.some.injEq] at ht; subst ht
  have hm:mx = none := by
   cases mx with
   | none => rfl
   | some m => simp at r4
  subst hm
  simp only [POp.exec,Option.map_eq_some_iff,Prod.mk.injEq] at hx
  obtain ⟨r,h5,rfl,rfl⟩ := hx
  obtain ⟨v,h6,h7⟩ := psliceA_run (P := P) hu hsz h5 (hev x pa h1) r2 r3
  exact wp_still (s := Instr.sliceAt t (a.eval x) (lo.map a.eval) (hi.map a.eval) none) hS rfl h6 h7 hn
 ·cases ht
theorem sim_fieldAddr (s:TypeId) (x:Operand) (f:Nat) {dst:Option Tmp} {ty:TypeId} {pos:String} {after:Array Edge} {guard:Option (Nat × Bool)} {G:Glob} {T:Tbl} {fr:Frame} {p:POp} (_hT:TblOK P G T) (hS:SR base w g st) (hG:GlobOK G w g) (hF:FR w g st fr a) (ht:trOp P il (.fieldAddr s x f) = some p)
  (hx:p.exec T (rho G fr) st = some (d,st')) (hn:∀ v w' g',Go1 base w g st w' g' st' → RepV w' g' st' d v → next (a.put dst v) w'):Oper.wp P { dst := dst,op := .fieldAddr s x f,type := ty,pos := pos,after := after,guard := guard } a w next Q := by
 have hev:∀ x pa,trA x = some pa → RepV w g st (rho G fr pa) (a.eval x) := fun x pa h => trA_rep hG hF h
 clear hF
 simp only [trOp] at ht
 split at ht
 case h_2 => cases ht
 rename_i pa fields h1 hu
 split at ht
 case h_2 => cases ht
 rename_i fd hfd
 split at ht
 case h_2 => cases ht
 rename_i n hsz
 split at ht
 case isTrue => cases ht
 rename_i h0
 simp only [Option.some.injEq] at ht; subst ht
 simp only [POp.exec,Option.map_eq_some_iff,Prod.mk.injEq] at hx
 obtain ⟨r,h5,rfl,rfl⟩ := hx
 obtain ⟨v,h6,h7⟩ := fieldAt_run (P := P) hu hfd hsz h0 h5 (hev x pa h1)
 exact wp_still (s := Instr.fieldAt s (a.eval x) f) hS rfl h6 h7 hn
theorem sim_field (s:TypeId) (x:Operand) (f:Nat) {dst:Option Tmp} {ty:TypeId} {pos:String} {after:Array Edge} {guard:Option (Nat × Bool)} {G:Glob} {T:Tbl} {fr:Frame} {p:POp} (_hT:TblOK P G T) (hS:SR base w g st) (hG:GlobOK G w g) (hF:FR w g st fr a) (ht:trOp P il (.field s x f) = some p)
  (hx:p.exec T (rho G fr) st = some (d,st')) (hn:∀ v w' g',Go1 base w g st w' g' st' → RepV w' g' st' d v → next (a.put dst v) w'):Oper.wp P { dst := dst,op := .field s x f,type := ty,pos := pos,after := after,guard := guard } a w next Q := by
 have hev:∀ x pa,trA x = some pa → RepV w g st (rho G fr pa) (a.eval x) := fun x pa h => trA_rep hG hF h
 clear hF
 simp only [trOp] at ht
 split at ht
 case h_2 => cases ht
 rename_i pa fields h1 hu
 split at ht
 case h_2 => cases ht
 rename_i fd hfd
 split at ht
 case h_2 => cases ht
 rename_i n ag hsz hag
 simp only [Option.some.injEq] at ht; subst ht
 simp only [POp.exec,Option.map_eq_some_iff,Prod.mk.injEq] at hx
 obtain ⟨r,h5,rfl,rfl⟩ := hx
 obtain ⟨v,h6,h7⟩ := pfldv_run (P := P) hu hfd hag hsz h5 (hev x pa h1)
 exact wp_still (s := Instr.field s (a.eval x) f) hS rfl h6 h7 hn
theorem sim_indexAddr (t:TypeId) (x i:Operand) {dst:Option Tmp} {ty:TypeId} {pos:String} {after:Array Edge} {guard:Option (Nat × Bool)} {G:Glob} {T:Tbl} {fr:Frame} {p:POp} (_hT:TblOK P G T) (hS:SR base w g st) (hG:GlobOK G w g) (hF:FR w g st fr a) (ht:trOp P il (.indexAddr t x i) = some p)
  (hx:p.exec T (rho G fr) st = some (d,st')) (hn:∀ v w' g',Go1 base w g st w' g' st' → RepV w' g' st' d v → next (a.put dst v) w'):Oper.wp P { dst := dst,op := .indexAddr t x i,type := ty,pos := pos,after := after,guard := guard } a w next Q := by
 have hev:∀ x pa,trA x = some pa → RepV w g st (rho G fr pa) (a.eval x) := fun x pa h => trA_rep hG hF h
 clear hF
 simp only [trOp] at ht
 split at ht
 ·rename_i pa pi len e h1 h2 hu
  simp only [Option.map_eq_some_iff] at ht
  obtain ⟨n,hsz,rfl⟩ := ht
  simp only [POp.exec,Option.map_eq_some_iff,Prod.mk.injEq] at hx
  obtain ⟨r,h5,rfl,rfl⟩ := hx
  obtain ⟨v,h6,h7⟩ := indexAt_arr_run (P := P) hu hsz h5 (hev x pa h1) (hev i pi h2)
  exact wp_still (s := Instr.indexAt t (a.eval x) (a.eval i)) hS rfl h6 h7 hn
 ·rename_i pa pi e h1 h2 hu
  simp only [Option.map_eq_some_iff] at ht
  obtain ⟨n,hsz,rfl⟩ := ht
  simp only [POp.exec,Option.map_eq_some_iff,Prod.mk.injEq] at hx
  obtain ⟨r,h5,rfl,rfl⟩ := hx
  obtain ⟨v,h6,h7⟩ := indexAt_sl_run (P := P) hu hsz h5 (hev x pa h1) (hev i pi h2)
  exact wp_still (s := Instr.indexAt t (a.eval x) (a.eval i)) hS rfl h6 h7 hn
 ·cases ht
theorem sim_index (t:TypeId) (x i:Operand) {dst:Option Tmp} {ty:TypeId} {pos:String} {after:Array Edge} {guard:Option (Nat × Bool)} {G:Glob} {T:Tbl} {fr:Frame} {p:POp} (_hT:TblOK P G T) (hS:SR base w g st) (hG:GlobOK G w g) (hF:FR w g st fr a) (ht:trOp P il (.index t x i) = some p)
  (hx:p.exec T (rho G fr) st = some (d,st')) (hn:∀ v w' g',Go1 base w g st w' g' st' → RepV w' g' st' d v → next (a.put dst v) w'):Oper.wp P { dst := dst,op := .index t x i,type := ty,pos := pos,after := after,guard := guard } a w next Q := by
 have hev:∀ x pa,trA x = some pa → RepV w g st (rho G fr pa) (a.eval x) := fun x pa h => trA_rep hG hF h
 clear hF
 simp only [trOp] at ht
 split at ht
 ·rename_i pa pi len e h1 h2 hu
  split at ht
  case h_2 => cases ht
  rename_i n ag hsz hag
  simp only [Option.some.injEq] at ht; subst ht
  simp only [POp.exec,Option.map_eq_some_iff,Prod.mk.injEq] at hx
  obtain ⟨r,h5,rfl,rfl⟩ := hx
  obtain ⟨v,h6,h7⟩ := pidxV_run (P := P) hu hag hsz h5 (hev x pa h1) (hev i pi h2)
  exact wp_still (s := Instr.index t (a.eval x) (a.eval i)) hS rfl h6 h7 hn
 ·rename_i pa pi h1 h2 hu
  simp only [Option.some.injEq] at ht; subst ht
  simp only [POp.exec,Option.map_eq_some_iff,Prod.mk.injEq] at hx
  obtain ⟨r,h5,rfl,rfl⟩ := hx
  obtain ⟨v,h6,h7⟩ := pidx_run (P := P) hu h5 (hev x pa h1) (hev i pi h2)
  exact wp_still (s := Instr.index t (a.eval x) (a.eval i)) hS rfl h6 h7 hn
 ·cases ht
theorem sim_extract (x:Operand) (i:Nat) {dst:Option Tmp} {ty:TypeId} {pos:String} {after:Array Edge} {guard:Option (Nat × Bool)} {G:Glob} {T:Tbl} {fr:Frame} {p:POp} (_hT:TblOK P G T) (hS:SR base w g st) (hG:GlobOK G w g) (hF:FR w g st fr a) (ht:trOp P il (.extract x i) = some p)
  (hx:p.exec T (rho G fr) st = some (d,st')) (hn:∀ v w' g',Go1 base w g st w' g' st' → RepV w' g' st' d v → next (a.put dst v) w'):Oper.wp P { dst := dst,op := .extract x i,type := ty,pos := pos,after := after,guard := guard } a w next Q := by
 have hev:∀ x pa,trA x = some pa → RepV w g st (rho G fr pa) (a.eval x) := fun x pa h => trA_rep hG hF h
 clear hF
 simp only [trOp,Option.map_eq_some_iff] at ht
 obtain ⟨pa,h1,rfl⟩ := ht
 simp only [POp.exec] at hx
 have hr := hev x pa h1
 split at hx
 ·rename_i vs hp
  simp only [Option.map_eq_some_iff,Prod.mk.injEq] at hx
  obtain ⟨r,h5,rfl,rfl⟩ := hx
  rw [hp] at hr
  generalize hv:a.eval x = v at hr
  cases hr with
  | tup _ us h2 h3 =>
   have hl:i < us.length := by rw [← h2]; exact (List.getElem?_eq_some_iff.1 h5).1
   refine wp_still (s := Instr.extract (a.eval x) i) hS rfl (v := us[i]) ?_ (h3 i r _ h5 (List.getElem?_eq_getElem hl)) hn
   simp [hv,Instr.extract,hl]
 ·cases hx
theorem sim_mapUpdate (t:TypeId) (m k v:Operand) {dst:Option Tmp} {ty:TypeId} {pos:String} {after:Array Edge} {guard:Option (Nat × Bool)} {G:Glob} {T:Tbl} {fr:Frame} {p:POp} (_hT:TblOK P G T) (hS:SR base w g st) (hG:GlobOK G w g) (hF:FR w g st fr a) (ht:trOp P il (.mapUpdate t m k v) = some p)
  (hx:p.exec T (rho G fr) st = some (d,st')) (hn:∀ v w' g',Go1 base w g st w' g' st' → RepV w' g' st' d v → next (a.put dst v) w'):Oper.wp P { dst := dst,op := .mapUpdate t m k v,type := ty,pos := pos,after := after,guard := guard } a w next Q := by
 have hev:∀ x pa,trA x = some pa → RepV w g st (rho G fr pa) (a.eval x) := fun x pa h => trA_rep hG hF h
 clear hF
 simp only [trOp] at ht
 split at ht
 case h_2 => cases ht
 rename_i kt et sz ks pm pk pv h1 h2 h3 h4
 simp only [Option.some.injEq] at ht; subst ht
 simp only [POp.exec,Option.map_eq_some_iff,Prod.mk.injEq] at hx
 obtain ⟨r,h5,rfl,rfl⟩ := hx
 obtain ⟨w',g',h6,h7⟩ := mapup_run (P := P) hS h1 (hev m pm h2) (hev k pk h3) (hev v pv h4) h5
 unfold Oper.wp execOp
 simp only [Sem.run_bind,h6,Result.andThen_ok,Sem.run_pure]
 exact hn undef w' g' h7 (.tup [] [] rfl (fun i d v h => by simp at h))
theorem sim_insert (t:TypeId) (m k v:Operand) {dst:Option Tmp} {ty:TypeId} {pos:String} {after:Array Edge} {guard:Option (Nat × Bool)} {G:Glob} {T:Tbl} {fr:Frame} {p:POp} (_hT:TblOK P G T) (hS:SR base w g st) (hG:GlobOK G w g) (hF:FR w g st fr a) (ht:trOp P il (.insert t m k v) = some p)
  (hx:p.exec T (rho G fr) st = some (d,st')) (hn:∀ v w' g',Go1 base w g st w' g' st' → RepV w' g' st' d v → next (a.put dst v) w'):Oper.wp P { dst := dst,op := .insert t m k v,type := ty,pos := pos,after := after,guard := guard } a w next Q := by
 have hev:∀ x pa,trA x = some pa → RepV w g st (rho G fr pa) (a.eval x) := fun x pa h => trA_rep hG hF h
 clear hF
 simp only [trOp] at ht
 split at ht
 case h_2 => cases ht
 rename_i kt et sz ks pm pk pv h1 h2 h3 h4
 simp only [Option.some.injEq] at ht; subst ht
 simp only [POp.exec,Option.map_eq_some_iff,Prod.mk.injEq] at hx
 obtain ⟨r,h5,rfl,rfl⟩ := hx
 obtain ⟨w',g',h6,h7⟩ := mapup_run (P := P) hS h1 (hev m pm h2) (hev k pk h3) (hev v pv h4) h5
 unfold Oper.wp execOp
 simp only [Sem.run_bind,h6,Result.andThen_ok,Sem.run_pure]
 exact hn undef w' g' h7 (.tup [] [] rfl (fun i d v h => by simp at h))
theorem sim_lookup (t:TypeId) (m k:Operand) (ok:Bool) {dst:Option Tmp} {ty:TypeId} {pos:String} {after:Array Edge} {guard:Option (Nat × Bool)} {G:Glob} {T:Tbl} {fr:Frame} {p:POp} (_hT:TblOK P G T) (hS:SR base w g st) (hG:GlobOK G w g) (hF:FR w g st fr a) (ht:trOp P il (.lookup t m k ok) = some p)
  (hx:p.exec T (rho G fr) st = some (d,st')) (hn:∀ v w' g',Go1 base w g st w' g' st' → RepV w' g' st' d v → next (a.put dst v) w'):Oper.wp P { dst := dst,op := .lookup t m k ok,type := ty,pos := pos,after := after,guard := guard } a w next Q := by
 have hev:∀ x pa,trA x = some pa → RepV w g st (rho G fr pa) (a.eval x) := fun x pa h => trA_rep hG hF h
 clear hF
 simp only [trOp] at ht
 split at ht
 case h_2 =>
  split at ht
  case h_2 => cases ht
  rename_i zd pm pk h1 h2 h3
  simp only [Option.some.injEq] at ht; subst ht
  simp only [POp.exec,Option.map_eq_some_iff,Prod.mk.injEq] at hx
  obtain ⟨r,h5,rfl,rfl⟩ := hx
  obtain ⟨v,h6,h7⟩ := gget_run (P := P) h1 (hev m pm h2) (hev k pk h3) h5
  exact wp_still (s := Instr.lookup t (a.eval m) (a.eval k) ok) hS rfl h6 h7 hn
 rename_i kt et sz ks pm pk h1 h2 h3
 simp only [Option.map_eq_some_iff] at ht
 obtain ⟨zd,h4,rfl⟩ := ht
 simp only [POp.exec,Option.map_eq_some_iff,Prod.mk.injEq] at hx
 obtain ⟨r,h5,rfl,rfl⟩ := hx
 obtain ⟨v,h6,h7⟩ := mapget_run (P := P) hS h1 h4 (hev m pm h2) (hev k pk h3) h5
 exact wp_still (s := Instr.lookup t (a.eval m) (a.eval k) ok) hS rfl h6 h7 hn
theorem sim_makeMap (t:TypeId) (rs:Option Operand) {dst:Option Tmp} {ty:TypeId} {pos:String} {after:Array Edge} {guard:Option (Nat × Bool)} {G:Glob} {T:Tbl} {fr:Frame} {p:POp} (_hT:TblOK P G T) (hS:SR base w g st) (hG:GlobOK G w g) (hF:FR w g st fr a) (ht:trOp P il (.makeMap t rs) = some p)
  (hx:p.exec T (rho G fr) st = some (d,st')) (hn:∀ v w' g',Go1 base w g st w' g' st' → RepV w' g' st' d v → next (a.put dst v) w'):Oper.wp P { dst := dst,op := .makeMap t rs,type := ty,pos := pos,after := after,guard := guard } a w next Q := by
 have hev:∀ x pa,trA x = some pa → RepV w g st (rho G fr pa) (a.eval x) := fun x pa h => trA_rep hG hF h
 clear hF
 cases rs with
 | some x => simp [trOp] at ht
 | none =>
  simp only [trOp] at ht
  split at ht
  case h_2 => cases ht
  rename_i kt et sz ks h1
  simp only [Option.some.injEq] at ht; subst ht
  simp only [POp.exec] at hx
  split at hx
  case isFalse => cases hx
  rename_i hc
  simp only [Option.some.injEq,Prod.mk.injEq] at hx
  obtain ⟨rfl,rfl⟩ := hx
  exact wp_val (s := Instr.makeMap t none) rfl (mkmap_run (P := P) (t := t) hS hc.1 hc.2) hn
theorem rep_append {ds es:List D} {vs us:List Value} (h1:ds.length = vs.length) (h2:∀ (i:Nat) d v,ds[i]? = some d → vs[i]? = some v → RepV w g st d v) (h4:∀ (i:Nat) d v,es[i]? = some d → us[i]? = some v → RepV w g st d v) :
  ∀ (i:Nat) d v,(ds ++ es)[i]? = some d → (vs ++ us)[i]? = some v → RepV w g st d v := by
 intro i d v hd hv
 rcases Nat.lt_or_ge i ds.length with hi | hi
 ·rw [List.getElem?_append_left hi] at hd
  rw [List.getElem?_append_left (by omega)] at hv
  exact h2 i d v hd hv
 ·rw [List.getElem?_append_right hi] at hd
  rw [List.getElem?_append_right (by omega)] at hv
  rw [← h1] at hv
  exact h4 _ d v hd hv
theorem callv_exec {dst:Option Tmp} {ty:TypeId} {pos:String} {after:Array Edge} {guard:Option (Nat × Bool)} {G:Glob} {fr:Frame} {c:Call} {x:Operand} {pa:PA} {l:List PA} {f:Nat} {ds:List D} (hev:∀ x pa,trA x = some pa → RepV w g st (rho G fr pa) (a.eval x)) (hcal:c.callee = .value x)
  (hpa:trA x = some pa) (hl:trAs c.args.toList = some l) (hc:(POp.callv pa l).callee (rho G fr) = some (f,ds)) :
  ∃ vs:List Value,ds.length = vs.length ∧ (∀ (i:Nat) d v,ds[i]? = some d → vs[i]? = some v → RepV w g st d v) ∧ execOp a.eval { dst := dst,op := .call c,type := ty,pos := pos,after := after,guard := guard } = callFunc f vs.toArray := by
 obtain ⟨g1,g2⟩ := trAs_spec hev hl
 have g1:(l.map (rho G fr)).length = (c.args.toList.map a.eval).length := by simpa using g1
 have hr := hev x pa hpa
 simp only [POp.callee] at hc
 split at hc
 case h_2 => cases hc
 rename_i f' caps hclo
 rw [hclo] at hr
 generalize hxv:a.eval x = xv at hr
 cases hr with
 | clo _ _ us hlen hus =>
  by_cases hlt:f' < 5000000
  ·rw [if_pos hlt] at hc
   simp only [Option.some.injEq,Prod.mk.injEq] at hc
   obtain ⟨rfl,rfl⟩ := hc
   rw [fnOf_lt hlt,firstOf_lt hlt,capsOf_lt hlt] at hxv
   refine ⟨c.args.toList.map a.eval ++ us,by rw [List.length_append,List.length_append,g1,hlen],rep_append g1 g2 hus,?_⟩
   simp only [execOp,resolve,hcal,hxv,Deferred.ofValue]
   have:(c.args.toList.map a.eval ++ us).toArray = c.args.map a.eval ++ us.toArray := by
    apply Array.ext'
    simp
   rw [this]
   simp only [Array.empty_append]
   show (do let d ← (pure { target := Target.fn (Fn.func f') us.toArray,args := c.args.map a.eval }:Sem Deferred); invoke d.target d.args) = _
   show invoke (Target.fn (Fn.func f') us.toArray) (c.args.map a.eval) = _
   simp [invoke]
  ·rw [if_neg hlt] at hc
   split at hc
   case isFalse => cases hc
   rename_i hlt2
   simp only [Option.some.injEq,Prod.mk.injEq] at hc
   obtain ⟨rfl,rfl⟩ := hc
   obtain ⟨f,rfl⟩:∃ f,f' = f + 5000000 := ⟨f' - 5000000,by omega⟩
   have hf:f < 5000000 := by omega
   rw [fnOf_bnd hf,firstOf_bnd hf,capsOf_bnd hf] at hxv
   rw [Nat.add_sub_cancel]
   refine ⟨us ++ c.args.toList.map a.eval,by rw [List.length_append,List.length_append,g1,hlen],rep_append hlen hus g2,?_⟩
   simp only [execOp,resolve,hcal,hxv,Deferred.ofValue]
   have:(us ++ c.args.toList.map a.eval).toArray = us.toArray ++ c.args.map a.eval := by
    apply Array.ext'
    simp
   rw [this]
   show (do let d ← (pure { target := Target.fn (Fn.func f) #[],args := us.toArray ++ c.args.map a.eval }:Sem Deferred); invoke d.target d.args) = _
   show invoke (Target.fn (Fn.func f) #[]) (us.toArray ++ c.args.map a.eval) = _
   simp [invoke]
theorem sim_call (c:Call) {dst:Option Tmp} {ty:TypeId} {pos:String} {after:Array Edge} {guard:Option (Nat × Bool)} {G:Glob} {T:Tbl} {fr:Frame} {p:POp} (hT:TblOK P G T) (hS:SR base w g st) (hG:GlobOK G w g) (hF:FR w g st fr a) (ht:trOp P il (.call c) = some p) (hny:∀ x args f caps,p = .callv x args → rho G fr x = .clo f caps → f < 10000000)
  (hx:p.exec T (rho G fr) st = some (d,st')) (hn:∀ v w' g',Go1 base w g st w' g' st' → RepV w' g' st' d v → next (a.put dst v) w'):Oper.wp P { dst := dst,op := .call c,type := ty,pos := pos,after := after,guard := guard } a w next Q := by
 have hev:∀ x pa,trA x = some pa → RepV w g st (rho G fr pa) (a.eval x) := fun x pa h => trA_rep hG hF h
 clear hF
 simp only [trOp] at ht
 split at ht
 ·rename_i b hb
  -- a builtin
  have hargs:∀ l,c.args.toList = l → c.args = l.toArray := fun l h => by rw [← h,Array.toArray_toList]
  have hts:∀ l,c.argTypes.toList = l → c.argTypes = l.toArray := fun l h => by rw [← h,Array.toArray_toList]
  unfold trBuiltin at ht
  split at ht
  ·rename_i x t e1 e2
   have e1 := hargs _ e1
   have e2 := hts _ e2
   have hexec:execOp a.eval { dst := dst,op := .call c,type := ty,pos := pos,after := after,guard := guard } = (do pure (.value (← Builtin.len_ #[t] ty #[a.eval x]))) := by
    simp [execOp,resolve,hb,e1,e2,invoke,builtin]
   split at ht
   ·rename_i pa h1 hu
    simp only [Option.some.injEq] at ht; subst ht
    simp only [POp.exec] at hx
    split at hx
    case isFalse => cases hx
    rename_i hst
    simp only [Option.map_eq_some_iff,Prod.mk.injEq] at hx
    obtain ⟨n,h5,rfl,rfl⟩ := hx
    refine wp_still hS hexec (sLen_run (.inl hu) ⟨fun _ => ?_,fun _ => hu⟩ h5 (hev x pa h1) ty) (.int _ _) hn
    cases hp:rho G fr pa <;> simp [hp,isStr] at hst
    exact ⟨_,rfl⟩
   ·rename_i pa e h1 hu
    simp only [Option.some.injEq] at ht; subst ht
    simp only [POp.exec] at hx
    split at hx
    case isFalse => cases hx
    rename_i hst
    simp only [Option.map_eq_some_iff,Prod.mk.injEq] at hx
    obtain ⟨n,h5,rfl,rfl⟩ := hx
    refine wp_still hS hexec (sLen_run (.inr ⟨e,hu⟩) ⟨(by intro h; rw [hu] at h; cases h),fun ⟨s,hs⟩ => ?_⟩ h5 (hev x pa h1) ty) (.int _ _) hn
    simp [hs,isStr] at hst
   ·rename_i pa n e h1 hu
    simp only [Option.some.injEq] at ht; subst ht
    simp only [POp.exec,Option.some.injEq,Prod.mk.injEq] at hx
    obtain ⟨rfl,rfl⟩ := hx
    refine wp_still hS hexec ?_ (.int _ _) hn
    simp [Builtin.len_,run_underlying hu,goInt]
   ·cases ht
  ·rename_i s x t tx e1 e2
   have e1 := hargs _ e1
   have e2 := hts _ e2
   have hexec:execOp a.eval { dst := dst,op := .call c,type := ty,pos := pos,after := after,guard := guard } = (do pure (.value (← Builtin.append_ #[t,tx] ty #[a.eval s,a.eval x]))) := by
    simp [execOp,resolve,hb,e1,e2,invoke,builtin]
   have fin:∀ ps px e,trA s = some ps → trA x = some px → P.underlying t = some (.slice e) → ((∃ e',P.underlying tx = some (.slice e')) ∨ P.underlying tx = some .string) → (match P.info? e with
    | some i => match i.zero with
     | some z => if z.cells.size = i.size then some (POp.app i.size i.bytes ps px) else none
     | none => none
    | none => none) = some p → Oper.wp P { dst := dst,op := .call c,type := ty,pos := pos,after := after,guard := guard } a w next Q := by
    intro ps px e h1 h2 hu hux hp
    split at hp
    case h_2 => cases hp
    rename_i i hi
    split at hp
    case h_2 => cases hp
    rename_i z hz
    split at hp
    case isFalse => cases hp
    rename_i hzs
    simp only [Option.some.injEq] at hp; subst hp
    simp only [POp.exec] at hx
    exact wp_val hexec (papp_run hS hu hux hi hz rfl rfl hzs hx (hev s ps h1) (hev x px h2)) hn
   split at ht
   ·rename_i ps px e e' h1 h2 hu hux
    exact fin ps px e h1 h2 hu (.inl ⟨e',hux⟩) ht
   ·rename_i ps px e h1 h2 hu hux
    exact fin ps px e h1 h2 hu (.inr hux) ht
   ·cases ht
  ·rename_i x y t t2 e1 e2
   have e1 := hargs _ e1
   have e2 := hts _ e2
   split at ht
   case h_2 => cases ht
   rename_i px py e h1 h2 hu
   split at ht
   case h_2 => cases ht
   rename_i hs1
   simp only [Option.some.injEq] at ht; subst ht
   simp only [POp.exec] at hx
   exact wp_val (s := Builtin.copy_ #[t,t2] ty #[a.eval x,a.eval y]) (by simp [execOp,resolve,hb,e1,e2,invoke,builtin]) (cpy_run hS hu hs1 (hev x px h1) (hev y py h2) hx) hn
  ·rename_i x y e1
   have e1 := hargs _ e1
   split at ht
   case h_2 => cases ht
   rename_i px py h1 h2
   simp only [Option.some.injEq] at ht; subst ht
   simp only [POp.exec] at hx
   split at hx
   case h_2 => cases hx
   rename_i k n k' m hp1 hp2
   simp only [Option.some.injEq,Prod.mk.injEq] at hx
   obtain ⟨rfl,rfl⟩ := hx
   have r1 := hev x px h1
   have r2 := hev y py h2
   rw [hp1] at r1
   rw [hp2] at r2
   have q1 := int_inv r1
   have q2 := int_inv r2
   refine wp_still (s := Builtin.min_ c.argTypes ty #[a.eval x,a.eval y]) hS ?_ ?_ (.int k (if m < n then m else n)) hn
   ·simp [execOp,resolve,hb,e1,invoke,builtin]
   ·simp [Builtin.min_,q1,q2,Builtin.min2]
  ·rename_i x y e1
   have e1 := hargs _ e1
   split at ht
   case h_2 => cases ht
   rename_i px py h1 h2
   simp only [Option.some.injEq] at ht; subst ht
   simp only [POp.exec] at hx
   split at hx
   case h_2 => cases hx
   rename_i k n k' m hp1 hp2
   simp only [Option.some.injEq,Prod.mk.injEq] at hx
   obtain ⟨rfl,rfl⟩ := hx
   have r1 := hev x px h1
   have r2 := hev y py h2
   rw [hp1] at r1
   rw [hp2] at r2
   have q1 := int_inv r1
   have q2 := int_inv r2
   refine wp_still (s := Builtin.max_ c.argTypes ty #[a.eval x,a.eval y]) hS ?_ ?_ (.int k (if m > n then m else n)) hn
   ·simp [execOp,resolve,hb,e1,invoke,builtin]
   ·simp [Builtin.max_,q1,q2,Builtin.max2]
  ·rename_i x y z e1
   have e1 := hargs _ e1
   split at ht
   case h_2 => cases ht
   rename_i px py pz h1 h2 h3
   simp only [Option.some.injEq] at ht; subst ht
   simp only [POp.exec] at hx
   split at hx
   case h_2 => cases hx
   rename_i k n k' m k2 l hp1 hp2 hp3
   simp only [Option.some.injEq,Prod.mk.injEq] at hx
   obtain ⟨rfl,rfl⟩ := hx
   have r1 := hev x px h1
   have r2 := hev y py h2
   have r3 := hev z pz h3
   rw [hp1] at r1
   rw [hp2] at r2
   rw [hp3] at r3
   have q1 := int_inv r1
   have q2 := int_inv r2
   have q3 := int_inv r3
   refine wp_still (s := Builtin.min_ c.argTypes ty #[a.eval x,a.eval y,a.eval z]) hS ?_ ?_ (.int k (mm1 false (mm1 false n m) l)) hn
   ·simp [execOp,resolve,hb,e1,invoke,builtin]
   ·simp [Builtin.min_,q1,q2,q3,Builtin.min2,mm1]
  ·rename_i x y z e1
   have e1 := hargs _ e1
   split at ht
   case h_2 => cases ht
   rename_i px py pz h1 h2 h3
   simp only [Option.some.injEq] at ht; subst ht
   simp only [POp.exec] at hx
   split at hx
   case h_2 => cases hx
   rename_i k n k' m k2 l hp1 hp2 hp3
   simp only [Option.some.injEq,Prod.mk.injEq] at hx
   obtain ⟨rfl,rfl⟩ := hx
   have r1 := hev x px h1
   have r2 := hev y py h2
   have r3 := hev z pz h3
   rw [hp1] at r1
   rw [hp2] at r2
   rw [hp3] at r3
   have q1 := int_inv r1
   have q2 := int_inv r2
   have q3 := int_inv r3
   refine wp_still (s := Builtin.max_ c.argTypes ty #[a.eval x,a.eval y,a.eval z]) hS ?_ ?_ (.int k (mm1 true (mm1 true n m) l)) hn
   ·simp [execOp,resolve,hb,e1,invoke,builtin]
   ·simp [Builtin.max_,q1,q2,q3,Builtin.max2,mm1]
  ·cases ht
 ·rename_i f hf
  split at ht
  case h_2 => cases ht
  rename_i fn l hfn hl
  have hex:execOp a.eval { dst := dst,op := .call c,type := ty,pos := pos,after := after,guard := guard } = callFunc f (c.args.toList.map a.eval).toArray := by
   simp only [execOp,resolve,hf,Act.eval,Deferred.ofValue]
   have:(c.args.toList.map a.eval).toArray = c.args.map a.eval := by
    apply Array.ext'
    simp
   rw [this]
   simp only [Array.empty_append]
   show (do let d ← (pure { target := Target.fn (Fn.func f) #[],args := c.args.map a.eval }:Sem Deferred); invoke d.target d.args) = _
   show invoke (Target.fn (Fn.func f) #[]) (c.args.map a.eval) = _
   simp [invoke]
  obtain ⟨g1,g2⟩ := trAs_spec hev hl
  split at ht
  case isFalse =>
   split at ht
   case isTrue => cases ht
   simp only [Option.some.injEq] at ht
   subst ht
   simp only [POp.exec] at hx
   split at hx
   case h_2 => cases hx
   rename_i sp ys hsp hys
   split at hx
   case h_2 => cases hx
   rename_i r hr
   simp only [Option.some.injEq,Prod.mk.injEq] at hx
   obtain ⟨rfl,rfl⟩ := hx
   rcases hT.p _ _ hsp with ⟨hC,_⟩ | ⟨f',e,hE⟩
   ·omega
   ·obtain rfl:f = f' := Nat.add_right_cancel e
    exact ext_sim hS hE hys hr (by simpa using g1) g2 hex hn
  rename_i hc
  simp only [Bool.and_eq_true,Bool.not_eq_true',decide_eq_true_eq] at hc
  simp only [Option.some.injEq] at ht
  split at ht
  ·subst ht
   simp only [POp.exec] at hx
   split at hx
   case h_2 => cases hx
   rename_i sp hsp
   split at hx
   case h_2 => cases hx
   rename_i r hr
   refine icall_simC (hT.m f sp hsp) hS hG (ds := l.map (rho G fr)) (vs := c.args.toList.map a.eval) (r := d) (st' := st') ?_ (by simpa using g1) g2 hex hn
   simp only [hr,Option.map_some]
   exact hx
  split at ht
  ·subst ht
   simp only [POp.exec] at hx
   split at hx
   case h_2 => cases hx
   rename_i sp hsp
   exact icall_simC (hT.q f sp hsp) hS hG (ds := l.map (rho G fr)) (vs := c.args.toList.map a.eval) (r := d) (st' := st') hx (by simpa using g1) g2 hex hn
  split at ht
  ·subst ht
   simp only [POp.exec] at hx
   split at hx
   case h_2 => cases hx
   rename_i sp hsp
   exact icall_sim hT hS hG (ds := l.map (rho G fr)) (vs := c.args.toList.map a.eval) hsp hx (by simpa using g1) g2 hex hn
  ·subst ht
   simp only [POp.exec] at hx
   split at hx
   case h_2 => cases hx
   rename_i sp ys hsp hys
   split at hx
   case h_2 => cases hx
   rename_i r hr
   simp only [Option.some.injEq,Prod.mk.injEq] at hx
   obtain ⟨rfl,rfl⟩ := hx
   exact call_sim hT hS hG (ds := l.map (rho G fr)) (vs := c.args.toList.map a.eval) hfn hc.1.1 hc.1.2 hc.2 hsp hys hr (by simpa using g1) g2 hex hn
 ·rename_i x hnf hcal
  split at ht
  case h_2 => cases ht
  rename_i pa l hpa hl
  simp only [Option.some.injEq] at ht; subst ht
  simp only [POp.exec] at hx
  split at hx
  case h_2 => cases hx
  rename_i f caps hclo
  have hlt2 := hny _ _ _ _ rfl hclo
  by_cases hlt:f < 5000000
  ·rw [if_pos hlt] at hx
   split at hx
   case h_2 => cases hx
   rename_i sp hsp
   obtain ⟨vs,e1,e2,e3⟩ := callv_exec (dst := dst) (ty := ty) (pos := pos) (after := after) (guard := guard) hev hcal hpa hl (show (POp.callv pa l).callee (rho G fr) = some (f,l.map (rho G fr) ++ caps) by simp [POp.callee,hclo,hlt])
   exact icall_sim hT hS hG hsp hx e1 e2 e3 hn
  ·rw [if_neg hlt,if_pos hlt2] at hx
   split at hx
   case h_2 => cases hx
   rename_i sp hsp
   obtain ⟨vs,e1,e2,e3⟩ := callv_exec (dst := dst) (ty := ty) (pos := pos) (after := after) (guard := guard) hev hcal hpa hl (show (POp.callv pa l).callee (rho G fr) = some (f - 5000000,caps ++ l.map (rho G fr)) by simp [POp.callee,hclo,hlt,hlt2])
   exact icall_sim hT hS hG hsp hx e1 e2 e3 hn
 ·cases ht
theorem sim_makeFunc (fn:Fn) (first caps:Array Operand) {dst:Option Tmp} {ty:TypeId} {pos:String} {after:Array Edge} {guard:Option (Nat × Bool)} {G:Glob} {T:Tbl} {fr:Frame} {p:POp} (_hT:TblOK P G T) (hS:SR base w g st) (hG:GlobOK G w g) (hF:FR w g st fr a) (ht:trOp P il (.makeFunc fn first caps) = some p)
  (hx:p.exec T (rho G fr) st = some (d,st')) (hn:∀ v w' g',Go1 base w g st w' g' st' → RepV w' g' st' d v → next (a.put dst v) w'):Oper.wp P { dst := dst,op := .makeFunc fn first caps,type := ty,pos := pos,after := after,guard := guard } a w next Q := by
 have hev:∀ x pa,trA x = some pa → RepV w g st (rho G fr pa) (a.eval x) := fun x pa h => trA_rep hG hF h
 clear hF
 cases fn with
 | func f =>
  simp only [trOp] at ht
  split at ht
  case isFalse => cases ht
  rename_i hlt
  simp only [decide_eq_true_eq] at hlt
  split at ht
  ·rename_i hf
   simp only [Option.map_eq_some_iff] at ht
   obtain ⟨l,hl,rfl⟩ := ht
   simp only [POp.exec,Option.some.injEq,Prod.mk.injEq] at hx
   obtain ⟨rfl,rfl⟩ := hx
   obtain ⟨g1,g2⟩ := trAs_spec hev hl
   refine wp_still (s := Instr.makeFunc (.func f) (first.map a.eval) (caps.map a.eval)) hS rfl (v := .func (fnOf f) (firstOf f (caps.toList.map a.eval)) (capsOf f (caps.toList.map a.eval))) ?_ (.clo f _ _ (by simpa using g1) g2) hn
   rw [fnOf_lt hlt,firstOf_lt hlt,capsOf_lt hlt]
   have h1:first.map a.eval = #[] := by
    have:first = #[] := by simpa using hf
    rw [this]; simp
   have h2:caps.map a.eval = (caps.toList.map a.eval).toArray := by
    apply Array.ext'
    simp
   rw [h1,h2]
   rfl
  ·split at ht
   case isFalse => cases ht
   rename_i hf
   simp only [Option.map_eq_some_iff] at ht
   obtain ⟨l,hl,rfl⟩ := ht
   simp only [POp.exec,Option.some.injEq,Prod.mk.injEq] at hx
   obtain ⟨rfl,rfl⟩ := hx
   obtain ⟨g1,g2⟩ := trAs_spec hev hl
   refine wp_still (s := Instr.makeFunc (.func f) (first.map a.eval) (caps.map a.eval)) hS rfl (v := .func (fnOf (f + 5000000)) (firstOf (f + 5000000) (first.toList.map a.eval)) (capsOf (f + 5000000) (first.toList.map a.eval))) ?_ (.clo (f + 5000000) _ _ (by simpa using g1) g2) hn
   rw [fnOf_bnd hlt,firstOf_bnd hlt,capsOf_bnd hlt]
   have h1:caps.map a.eval = #[] := by
    have:caps = #[] := by simpa using hf
    rw [this]; simp
   have h2:first.map a.eval = (first.toList.map a.eval).toArray := by
    apply Array.ext'
    simp
   rw [h1,h2]
   rfl
 | _ => simp [trOp] at ht
def Wr (r:Option Nat):Fence := { Fence.wide with round := r }
theorem wpIn_of_wp {r:Option Nat} (hd:∀ c,o.op ≠ .defer c) (h:o.wp P a w next Q):o.wpIn (Wr r) 0 P a w next Q := by
 refine ⟨fun _ _ => trivial,?_⟩
 rw [Oper.semAt_eq _ _ _ hd]
 unfold Oper.wp at h
 generalize (execOp a.eval o).run P w = x at h ⊢
 cases x with
 | ok n w' =>
  cases n <;> simp only [Oper.upon] at h <;> simp only [Oper.uponIn] <;> first
   | exact h
   | exact h.elim
   | exact ⟨(fun e => by cases e),callsIn_wide.2 h⟩
   | exact ⟨(fun e => by cases e),fun c cs _ => let ⟨v,w',r,s⟩ := h c cs; ⟨v,w',r,stepsIn_wide.2 s⟩⟩
 | halt x w' => cases x <;> simp only [Oper.upon] at h <;> simp only [Oper.uponIn] <;> first | exact h | exact h.elim
theorem YOK.none {G:Glob} {w0:World} {g0:Ghost} {st0:St}:YOK P G (fun _ _ _ => none) base w0 g0 st0 := fun _ _ _ _ _ _ _ _ _ _ h => by cases h
theorem yield_sim {r:Option Nat} {c:Call} {x:Operand} {l:Nat} {vs:List Value} (hop:o.op = .call c) (hc:c.callee = .value x) (hx:a.eval x = .func (.yield l) #[] #[]) (hvs:c.args.toList.map a.eval = vs)
  (h:YieldRuns P base w g st st' l vs d) (hn:∀ v w' g',Go1 base w g st w' g' st' → RepV w' g' st' d v → next (a.put o.dst v) w'):o.wpIn (Wr r) 0 P a w next Q := by
 obtain ⟨f,tmps,assign,body,h1,h2⟩ := h
 refine ⟨fun _ _ => trivial,?_⟩
 rw [Oper.semAt_eq _ _ _ (fun c' e => by rw [hop] at e; cases e)]
 have hex:execOp a.eval o = Instr.yield l vs.toArray := by
  obtain ⟨dst,op,ty,pos,after,guard⟩ := o
  simp only at hop
  subst hop
  have h3:vs.toArray = c.args.map a.eval := by
   apply Array.ext'
   simp [← hvs]
  simp only [execOp,resolve,hc,hx,Deferred.ofValue,h3,Array.empty_append]
  show invoke (Target.fn (Fn.yield l) #[]) (c.args.map a.eval) = _
  simp [invoke]
 rw [hex,h1,Oper.uponIn_round]
 refine ⟨(fun e => by cases e),?_⟩
 refine RoundIn.mono (F := Wr r) (n := 0) h2 ?_
 rintro e w' ⟨v,g',rfl,h3,h4⟩
 exact hn v w' g' h3 h4
theorem op_sim {G:Glob} {T:Tbl} {fr:Frame} {p:POp} (hT:TblOK P G T) (hS:SR base w g st) (hG:GlobOK G w g) (hF:FR w g st fr a) (ht:trOp P il o.op = some p) (hny:∀ x args f caps,p = .callv x args → rho G fr x = .clo f caps → f < 10000000) (hx:p.exec T (rho G fr) st = some (d,st'))
  (hn:∀ v w' g',Go1 base w g st w' g' st' → RepV w' g' st' d v → next (a.put o.dst v) w'):o.wp P a w next Q := by
 obtain ⟨dst,op,ty,pos,after,guard⟩ := o
 cases op with
 | move x => exact sim_move x hT hS hG hF ht hx hn
 | assign x => exact sim_assign x hT hS hG hF ht hx hn
 | pick c x y => exact sim_pick c x y hT hS hG hF ht hx hn
 | alloc t => exact sim_alloc t hT hS hG hF ht hx hn
 | box t x => exact sim_box t x hT hS hG hF ht hx hn
 | build t parts => exact sim_build t parts hT hS hG hF ht hx hn
 | buildSlice t len parts => exact sim_buildSlice t len parts hT hS hG hF ht hx hn
 | load t x => exact sim_load t x hT hS hG hF ht hx hn
 | store t x y => exact sim_store t x y hT hS hG hF ht hx hn
 | nilCheck x => exact sim_nilCheck x hT hS hG hF ht hx hn
 | binOp op t x y yt => exact sim_binOp op t x y yt hT hS hG hF ht hx hn
 | unOp op t x => exact sim_unOp op t x hT hS hG hF ht hx hn
 | convert src dt x => exact sim_convert src dt x hT hS hG hF ht hx hn
 | makeSlice t l c => exact sim_makeSlice t l c hT hS hG hF ht hx hn
 | slice t x lo hi mx => exact sim_slice t x lo hi mx hT hS hG hF ht hx hn
 | fieldAddr s x f => exact sim_fieldAddr s x f hT hS hG hF ht hx hn
 | field s x f => exact sim_field s x f hT hS hG hF ht hx hn
 | indexAddr t x i => exact sim_indexAddr t x i hT hS hG hF ht hx hn
 | index t x i => exact sim_index t x i hT hS hG hF ht hx hn
 | extract x i => exact sim_extract x i hT hS hG hF ht hx hn
 | mapUpdate t m k v => exact sim_mapUpdate t m k v hT hS hG hF ht hx hn
 | insert t m k v => exact sim_insert t m k v hT hS hG hF ht hx hn
 | lookup t m k ok => exact sim_lookup t m k ok hT hS hG hF ht hx hn
 | makeMap t rs => exact sim_makeMap t rs hT hS hG hF ht hx hn
 | call c => exact sim_call c hT hS hG hF ht hny hx hn
 | makeFunc fn first caps => exact sim_makeFunc fn first caps hT hS hG hF ht hx hn
 | _ => simp [trOp] at ht
theorem op_simIn {G:Glob} {T:Tbl} {fr:Frame} {p:POp} {r:Option Nat} {w0:World} {g0:Ghost} {st0:St} (hT:TblOK P G T) (hY:YOK P G T.y base w0 g0 st0) (hgo:Go1 base w0 g0 st0 w g st) (hG:GlobOK G w g) (hF:FR w g st fr a) (ht:trOp P il o.op = some p) (hx:p.exec T (rho G fr) st = some (d,st'))
  (hn:∀ v w' g',Go1 base w g st w' g' st' → RepV w' g' st' d v → next (a.put o.dst v) w'):o.wpIn (Wr r) 0 P a w next Q := by
 have hnd:∀ c,o.op ≠ .defer c := fun c e => by rw [e] at ht; simp [trOp] at ht
 by_cases hc:∃ x args f caps,p = .callv x args ∧ rho G fr x = .clo f caps ∧ ¬ f < 10000000
 ·obtain ⟨x,args,f,caps,rfl,hclo,hlt⟩ := hc
  have hlt5:¬ f < 5000000 := by omega
  simp only [POp.exec,hclo,if_neg hlt,if_neg hlt5] at hx
  split at hx
  case isFalse => cases hx
  rename_i hce
  obtain rfl:caps = [] := by simpa using hce
  have hinv:∃ c xo,o.op = .call c ∧ c.callee = .value xo ∧ trA xo = some x ∧ trAs c.args.toList = some args := by
   clear hn hx hnd
   generalize o.op = op at ht
   cases op with
   | call c =>
    simp only [trOp] at ht
    split at ht
    ·rename_i b hb
     unfold trBuiltin at ht
     repeat' split at ht
     all_goals first | cases ht | (simp at ht; done) | skip
    ·split at ht
     case h_2 => cases ht
     split at ht
     case isFalse =>
      split at ht <;> cases ht
     simp only [Option.some.injEq] at ht
     split at ht
     ·cases ht
     ·split at ht
      ·cases ht
      ·split at ht <;> cases ht
    ·rename_i xo hnf hcal
     split at ht
     case h_2 => cases ht
     rename_i pa l hpa hl
     simp only [Option.some.injEq,POp.callv.injEq] at ht
     obtain ⟨rfl,rfl⟩ := ht
     exact ⟨c,xo,rfl,hcal,hpa,hl⟩
    ·cases ht
   | _ => exfalso; revert ht; simp only [trOp,trBin,trConv,trSlice]; (repeat' split) <;> first | (simp; done) | (intro h; cases h; done) | (intro h; simp only [Option.map_eq_some_iff] at h; obtain ⟨_,_,h⟩ := h; cases h; done) | (intro _; contradiction)
  obtain ⟨c,xo,h1,h2,h4,h5⟩ := hinv
  have hr := trA_rep hG hF h4
  rw [hclo] at hr
  obtain ⟨e1,e2⟩ := trAs_spec (fun x pa h => trA_rep (G := G) hG hF h) h5
  generalize hxv:a.eval xo = xv at hr
  cases hr with
  | clo _ _ us hlen hus =>
   obtain rfl:us = [] := List.eq_nil_of_length_eq_zero hlen.symm
   rw [firstOf_nil,capsOf_nil] at hxv
   unfold fnOf at hxv
   rw [if_neg hlt5,if_neg hlt] at hxv
   refine yield_sim (vs := c.args.toList.map a.eval) h1 h2 hxv rfl (hY _ w g st st' _ _ d hgo hG hx (by simpa using e1) e2) hn
 ·refine wpIn_of_wp hnd ?_
  exact op_sim hT hgo.sr hG hF ht (fun x args f caps e1 e2 => Classical.byContradiction fun e3 => hc ⟨x,args,f,caps,e1,e2,e3⟩) hx hn
end
end Go.Proofs.YtlleccmnjpcogaaDoor.PI
