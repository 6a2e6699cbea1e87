/-
  Which pure operations may change places, and that they then come to the same.
  Conditions: none; these are definitions and lemmas.
-/
import Derived.Test.YtfbbaceiimdejaaGreatDoorEngN
set_option linter.unusedVariables false
set_option linter.unusedSimpArgs false
namespace Go.Proofs.YtfbbaceiimdejaaGreatDoor.PI
open Go Go.RowKit
section
variable {P:Program} {il:List Nat} {base:Nat} {w:World} {g:Ghost} {st st':St} {a:Act} {o:Oper} {next:Act→World→Prop} {Q:Exit→Act→World→Prop} {d:D}
theorem wp_val{s:Sem Value}(he:execOp a.eval o=(do pure (.value (← s))))(hr:RunsTo P base w g st s d st')
  (hn:∀ v w' g',Go1 base w g st w' g' st'→RepV w' g' st' d v→next (a.put o.dst v) w'):o.wp P a w next Q:=by
 obtain⟨v,w',g',h1,h2,h3⟩:=hr
 unfold Oper.wp
 rw[he]
 simp only[Sem.run_bind,h1,Result.andThen_ok,Sem.run_pure]
 exact hn v w' g' h2 h3
theorem RunsTo.congr{s s':Sem Value}(h:s.run P w=s'.run P w)(hr:RunsTo P base w g st s' d st'):RunsTo P base w g st s d st':=by
 obtain⟨v,w',g',h1,h2,h3⟩:=hr
 exact⟨v,w',g',h.trans h1,h2,h3⟩
theorem wp_still{s:Sem Value}{v:Value}(hS:SR base w g st)(he:execOp a.eval o=(do pure (.value (← s))))(h1:s.run P w=.ok v w)(h3:RepV w g st d v)
  (hn:∀ v w' g',Go1 base w g st w' g' st→RepV w' g' st d v→next (a.put o.dst v) w'):o.wp P a w next Q:=
 wp_val he (.still hS h1 h3) hn
theorem trParts_spec{pl:Nat→Option (Nat×Nat)}{ρ:PA→D}{ev:Operand→Value}(hev:∀ x pa,trA x=some pa→RepV w g st (ρ pa) (ev x)):∀ {l:List (Nat×Operand)} {ps:List (Nat×Nat×PA)},trParts pl l=some ps→
  ∃ qs:List (Nat×Nat×Nat×D×Value),qs.map (fun p=>(p.2.1,p.2.2.1,p.2.2.2.1))=ps.map (fun p=>(p.1,p.2.1,ρ p.2.2))∧qs.map (fun p=>(p.1,p.2.2.2.2))=l.map (fun p=>(p.1,ev p.2))∧
   (∀ p∈qs,pl p.1=some (p.2.1,p.2.2.1))∧∀ p∈qs,RepV w g st p.2.2.2.1 p.2.2.2.2
 |[],ps,h=>by simp[trParts]at h; subst h; exact⟨[],rfl,rfl,fun p hp=>(by cases hp),fun p hp=>(by cases hp)⟩
 |(i,x)::r,ps,h=>by
  unfold trParts at h
  split at h
  ·rename_i off size pa l h1 h2 h3
   simp only[Option.some.injEq]at h; subst h
   obtain⟨qs,e1,e2,e3,e4⟩:=trParts_spec hev h3
   refine⟨(i,off,size,ρ pa,ev x)::qs,by simp[e1],by simp[e2],?_,?_⟩
   ·intro p hp
    rcases List.mem_cons.1 hp with rfl | hp
    ·exact h1
    ·exact e3 p hp
   ·intro p hp
    rcases List.mem_cons.1 hp with rfl | hp
    ·exact hev x pa h2
    ·exact e4 p hp
  ·cases h
theorem trDense_spec{ρ:PA→D}{ev:Operand→Value}(hev:∀ x pa,trA x=some pa→RepV w g st (ρ pa) (ev x)):∀ {k:Nat} {l:List (Nat×Operand)} {ps:List PA},trDense k l=some ps→
  ∃ vs:List Value,l.map (fun p=>(p.1,ev p.2))=(vs.zipIdx k).map (fun x=>(x.2,x.1))∧vs.length=ps.length∧∀ (i:Nat) d v,(ps.map ρ)[i]?=some d→vs[i]?=some v→RepV w g st d v
 |k,[],ps,h=>by simp[trDense]at h; subst h; exact⟨[],rfl,rfl,fun i d v h=>by simp at h⟩
 |k,(i,x)::r,ps,h=>by
  unfold trDense at h
  split at h
  ·rename_i pa l h1 h2
   simp only[Option.ite_none_right_eq_some,Option.some.injEq]at h
   obtain⟨rfl,rfl⟩:=h
   obtain⟨vs,e1,e2,e3⟩:=trDense_spec hev h2
   refine⟨ev x::vs,by simp[e1],by simp[e2],?_⟩
   intro j d v hd hv
   cases j with
   |zero=>simp at hd hv; subst hd; subst hv; exact hev x pa h1
   |succ j=>simp at hd hv; exact e3 j d v (by simpa using hd) hv
  ·cases h
theorem trAs_spec{ρ:PA→D}{ev:Operand→Value}(hev:∀ x pa,trA x=some pa→RepV w g st (ρ pa) (ev x)):∀ {l:List Operand} {ps:List PA},trAs l=some ps→
  ps.length=l.length∧∀ (i:Nat) d v,(ps.map ρ)[i]?=some d→(l.map ev)[i]?=some v→RepV w g st d v
 |[],ps,h=>by simp[trAs]at h; subst h; exact⟨rfl,fun i d v h=>by simp at h⟩
 |x::r,ps,h=>by
  unfold trAs at h
  split at h
  ·rename_i pa l h1 h2
   simp only[Option.some.injEq]at h; subst h
   obtain⟨e2,e3⟩:=trAs_spec hev h2
   refine⟨by simp[e2],?_⟩
   intro j d v hd hv
   cases j with
   |zero=>simp at hd hv; subst hd; subst hv; exact hev x pa h1
   |succ j=>simp at hd hv; exact e3 j d v (by simpa using hd) (by simpa using hv)
  ·cases h
theorem build_run(_hS:SR base w g st){t:TypeId}{zs:List D}{pl:Nat→Option (Nat×Nat)}{l:List (Nat×Operand)}{ps:List (Nat×Nat×PA)}{ρ:PA→D}{ev:Operand→Value}{parts:Array (Nat×Value)}{cs:List D}
  (hev:∀ x pa,trA x=some pa→RepV w g st (ρ pa) (ev x)) (hz:zrOf P t=some (.agg zs)) (hpl:placeOf P t=some pl) (hp:trParts pl l=some ps) (hparts:parts.toList=l.map fun p=>(p.1,ev p.2))
  (h:fillD zs (ps.map fun p=>(p.1,p.2.1,ρ p.2.2))=some cs):∃ v,(Instr.build t parts).run P w=.ok v w∧RepV w g st (.agg cs) v:=by
 obtain⟨qs,e1,e2,e3,e4⟩:=trParts_spec hev hp
 unfold zrOf at hz
 split at hz
 case h_2=>cases hz
 rename_i i hi
 split at hz
 case h_2=>cases hz
 rename_i z hzz
 obtain⟨vs,rfl,hl,hr⟩:=zero_cells (w:=w) (g:=g) (st:=st) hz rfl
 obtain⟨cells',h1,h2,h3⟩:=fillD_run (place:=pl) qs zs vs.toArray cs (by rw[e1]; exact h) e3 e4 (by simpa using hl) (fun j d v hd hv=>hr j d v hd (by simpa using hv))
 refine⟨.agg cells',?_,?_⟩
 ·refine run_build w t parts cells' ?_
  unfold Program.built
  unfold placeOf at hpl
  rw[hi]
  split at hpl
  ·rename_i n e hu
   split at hpl
   ·rename_i ie hie
    simp only[Option.some.injEq]at hpl
    subst hpl
    simp only[hu,hzz,hie,Value.cells]
    rw[hparts,← e2]; exact h1
   ·cases hpl
  ·rename_i fields hu
   split at hpl
   ·rename_i places hpl'
    simp only[Option.some.injEq]at hpl
    subst hpl
    simp only[hu,hzz,hpl',Value.cells]
    rw[hparts,← e2]; exact h1
   ·cases hpl
  ·cases hpl
 ·have:=RepV.agg (w:=w) (g:=g) (st:=st) cs cells'.toList (by simpa using h2) (fun i d v hd hv=>h3 i d v hd (by simpa using hv))
  rwa [Array.toArray_toList]at this
theorem ptr_inv{key off:Nat}{v:Value}(h:RepV w g st (.ptr key off) v):∃ q,v=.pointer (some q):=by cases h; exact⟨_,rfl⟩
theorem eptr_inv{el:D}{off:Nat}{v:Value}(h:RepV w g st (.eptr el off) v):∃ q,v=.pointer (some q):=by cases h; exact⟨_,rfl⟩
theorem ext_sim(hS:SR base w g st){f:Nat}{sp:List D→Option D}{ds ys:List D}{vs:List Value}{r:D}(hE:ExtOK P f sp)(hi:imms st ds=some ys)(hr:sp ys=some r)(hl:ds.length=vs.length)
  (hrep:∀ (i:Nat) d v,ds[i]?=some d→vs[i]?=some v→RepV w g st d v) (he:execOp a.eval o=callFunc f vs.toArray)
  (hn:∀ v w' g',Go1 base w g st w' g' (if r.noRef then st else lend (ds.flatMap keys) st)→RepV w' g' (if r.noRef then st else lend (ds.flatMap keys) st) r v→next (a.put o.dst v) w'):o.wp P a w next Q:=by
 obtain⟨g1,hgo,_,hyl,hpure,hyr⟩:=lend_args hS hi
 obtain⟨v,h1,h2⟩:=hE ys r hr w g1 _ vs (hyl.trans hl) (fun i y v hy hv=>hyr i y v hy (fun d hd=>hrep i d v hd hv))
 unfold Oper.wp
 rw[he,h1]
 by_cases hnr:r.noRef=true
 ·exact hn v w g (by rw[if_pos hnr]; exact Go1.refl hS) (h2 _ _)
 ·exact hn v w g1 (by rw[if_neg hnr]; exact hgo) (h2 _ _)
theorem call_sim{G:Glob}{T:Tbl}(hT:TblOK P G T)(hS:SR base w g st)(hG:GlobOK G w g){f:Nat}{fn:Func}{sp:List D→Option D}{ds ys:List D}{vs:List Value}{r:D}(hfn:P.funcs[f]?=some fn)(hb:fn.body.isSome=true)(hname:(fn.name == "runtime.NumGoroutine")=false)(hf5:f<50000000)
  (hsp:T.p f=some sp) (hi:imms st ds=some ys) (hr:sp ys=some r) (hl:ds.length=vs.length) (hrep:∀ (i:Nat) d v,ds[i]?=some d→vs[i]?=some v→RepV w g st d v)
  (he:execOp a.eval o=callFunc f vs.toArray)
  (hn:∀ v w' g',Go1 base w g st w' g' (if r.noRef then st else lend (ds.flatMap keys) st)→RepV w' g' (if r.noRef then st else lend (ds.flatMap keys) st) r v→next (a.put o.dst v) w'):o.wp P a w next Q:=by
 obtain⟨g1,hgo,_,hyl,hpure,hyr⟩:=lend_args hS hi
 have hC:Contract P G f sp:=((hT.p f sp hsp).resolve_right (fun⟨f',e,_⟩=>by omega)).2
 have hc:=hC w g1 ys vs r hr (hG.mono hgo.im) hgo.sr.im (hyl.trans hl) (fun i y v hy hv=>(hyr i y v hy (fun d hd=>hrep i d v hd hv)).purA (ImLe.refl _ _) (hpure y (List.mem_of_getElem? hy))) hpure
 unfold Oper.wp
 rw[he]
 have hrun:(callFunc f vs.toArray).run P w=.ok (.enter f vs.toArray) w:=by
  have hbn:¬ fn.body=none:=by
   intro e; rw[e]at hb; cases hb
  have hn':¬ fn.name= "runtime.NumGoroutine":=by simpa using hname
  simp[callFunc,hfn,hn',hbn]
 rw[hrun,Oper.upon_enter]
 refine hc.mono ?_
 rintro e w' ⟨v,g',rfl,h1,h2,h3,h4,h5,h6⟩
 have hbes:Beside w w':=⟨h6.os,h6.tape,h6.output,h6.size⟩
 by_cases hnr:r.noRef=true
 ·refine hn v w' {g with Im:=g.Im} ?_ (by rw[if_pos hnr]; exact noRef_rep h1 hnr)
  rw[if_pos hnr]
  refine hS.more hbes h6.block (fun _ _ h=>h) (fun _ _ h=>.inl h) (fun b o hb=>?_)
  have:w'.cell? ⟨b,o,none⟩=w.cell? ⟨b,o,none⟩:=by simp only[World.cell?,h6.block b (hS.im_lt hb)]
  rw[this]; exact hS.im b o hb
 ·refine hn v w' {g1 with Im:=g'.Im} ?_ ?_
  ·rw[if_neg hnr]
   exact hgo.trans (hgo.sr.more hbes h6.block (fun b o h=>(h3.im b o h).1) (fun b o h=>h4 b o h) h5)
  ·exact RepV.purR (g:=g') (g':={g1 with Im:=g'.Im}) ⟨fun b o h=>⟨h,rfl⟩,fun _ _ h _=>h⟩ h1 h2
theorem icall_simC{G:Glob}{f:Nat}{sp:List D→St→Option (D×St)}(hC:IContract P G f sp)(hS:SR base w g st)(hG:GlobOK G w g){ds:List D}{vs:List Value}{r:D}
  (hr:sp ds st=some (r,st')) (hl:ds.length=vs.length) (hrep:∀ (i:Nat) d v,ds[i]?=some d→vs[i]?=some v→RepV w g st d v)
  (he:execOp a.eval o=callFunc f vs.toArray)
  (hn:∀ v w' g',Go1 base w g st w' g' st'→RepV w' g' st' r v→next (a.put o.dst v) w'):o.wp P a w next Q:=by
 obtain⟨⟨fn,hfn,hb,hname⟩,hc⟩:=hC
 unfold Oper.wp
 rw[he]
 have hrun:(callFunc f vs.toArray).run P w=.ok (.enter f vs.toArray) w:=by
  have hbn:¬ fn.body=none:=by
   intro e; rw[e]at hb; cases hb
  have hn':¬ fn.name= "runtime.NumGoroutine":=by simpa using hname
  simp[callFunc,hfn,hn',hbn]
 rw[hrun,Oper.upon_enter]
 refine(hc base w g st st' ds vs r hr hS hG hl hrep).mono ?_
 rintro e w' ⟨v,g',rfl,h1,h2⟩
 exact hn v w' g' h1 h2
theorem icall_sim{G:Glob}{T:Tbl}(hT:TblOK P G T)(hS:SR base w g st)(hG:GlobOK G w g){f:Nat}{sp:List D→St→Option (D×St)}{ds:List D}{vs:List Value}{r:D}
  (hsp:T.i f=some sp) (hr:sp ds st=some (r,st')) (hl:ds.length=vs.length) (hrep:∀ (i:Nat) d v,ds[i]?=some d→vs[i]?=some v→RepV w g st d v)
  (he:execOp a.eval o=callFunc f vs.toArray)
  (hn:∀ v w' g',Go1 base w g st w' g' st'→RepV w' g' st' r v→next (a.put o.dst v) w'):o.wp P a w next Q:=icall_simC (hT.i f sp hsp) hS hG hr hl hrep he hn
theorem icall_simX{G:Glob}{f:Nat}{sp:List D→St→Option (Nat×D×St)}(hC:XIContract P G f sp)(hS:SR base w g st)(hG:GlobOK G w g){ds:List D}{vs:List Value}{t:Nat}{d:D}
  (hr:sp ds st=some (t,d,st')) (hl:ds.length=vs.length) (hrep:∀ (i:Nat) d v,ds[i]?=some d→vs[i]?=some v→RepV w g st d v)
  (he:execOp a.eval o=callFunc f vs.toArray)
  (hn:∀ w' g',Go1 base w g st w' g' st'→Q (.panic (chainOf t d)) a w'):o.wp P a w next Q:=by
 obtain⟨⟨fn,hfn,hb,hname⟩,hc⟩:=hC
 unfold Oper.wp
 rw[he]
 have hrun:(callFunc f vs.toArray).run P w=.ok (.enter f vs.toArray) w:=by
  have hbn:¬ fn.body=none:=by
   intro e; rw[e]at hb; cases hb
  have hn':¬ fn.name= "runtime.NumGoroutine":=by simpa using hname
  simp[callFunc,hfn,hn',hbn]
 rw[hrun,Oper.upon_enter]
 refine(hc base w g st st' ds vs t d hr hS hG hl hrep).mono ?_
 rintro e w' ⟨g',rfl,h1⟩
 exact hn w' g' h1
theorem sim_move(x:Operand){dst:Option Tmp}{ty:TypeId}{pos:String}{after:Array Edge}{guard:Option (Nat×Bool)}{G:Glob}{T:Tbl}{fr:Frame}{p:POp}(_hT:TblOK P G T)(hS:SR base w g st)(hG:GlobOK G w g)(hF:FR w g st fr a)(ht:trOp P il (.move x)=some p)
  (hx:p.exec T (rho G fr) st=some (d,st')) (hn:∀ v w' g',Go1 base w g st w' g' st'→RepV w' g' st' d v→next (a.put dst v) w'):Oper.wp P {dst:=dst,op:=.move x,type:=ty,pos:=pos,after:=after,guard:=guard} a w next Q:=by
 have hev:∀ x pa,trA x=some pa→RepV w g st (rho G fr pa) (a.eval x):=fun x pa h=>trA_rep hG hF h
 clear hF
 simp only[trOp,Option.map_eq_some_iff]at ht
 obtain⟨pa,hpa,rfl⟩:=ht
 simp only[POp.exec,Option.some.injEq,Prod.mk.injEq]at hx
 obtain⟨rfl,rfl⟩:=hx
 exact wp_still (s:=pure (a.eval x)) hS (by simp[execOp]) rfl (hev x pa hpa) hn
theorem sim_assign(x:Operand){dst:Option Tmp}{ty:TypeId}{pos:String}{after:Array Edge}{guard:Option (Nat×Bool)}{G:Glob}{T:Tbl}{fr:Frame}{p:POp}(_hT:TblOK P G T)(hS:SR base w g st)(hG:GlobOK G w g)(hF:FR w g st fr a)(ht:trOp P il (.assign x)=some p)
  (hx:p.exec T (rho G fr) st=some (d,st')) (hn:∀ v w' g',Go1 base w g st w' g' st'→RepV w' g' st' d v→next (a.put dst v) w'):Oper.wp P {dst:=dst,op:=.assign x,type:=ty,pos:=pos,after:=after,guard:=guard} a w next Q:=by
 have hev:∀ x pa,trA x=some pa→RepV w g st (rho G fr pa) (a.eval x):=fun x pa h=>trA_rep hG hF h
 clear hF
 simp only[trOp,Option.map_eq_some_iff]at ht
 obtain⟨pa,hpa,rfl⟩:=ht
 simp only[POp.exec,Option.some.injEq,Prod.mk.injEq]at hx
 obtain⟨rfl,rfl⟩:=hx
 exact wp_still (s:=pure (a.eval x)) hS (by simp[execOp]) rfl (hev x pa hpa) hn
theorem sim_pick(c x y:Operand){dst:Option Tmp}{ty:TypeId}{pos:String}{after:Array Edge}{guard:Option (Nat×Bool)}{G:Glob}{T:Tbl}{fr:Frame}{p:POp}(_hT:TblOK P G T)(hS:SR base w g st)(hG:GlobOK G w g)(hF:FR w g st fr a)(ht:trOp P il (.pick c x y)=some p)
  (hx:p.exec T (rho G fr) st=some (d,st')) (hn:∀ v w' g',Go1 base w g st w' g' st'→RepV w' g' st' d v→next (a.put dst v) w'):Oper.wp P {dst:=dst,op:=.pick c x y,type:=ty,pos:=pos,after:=after,guard:=guard} a w next Q:=by
 have hev:∀ x pa,trA x=some pa→RepV w g st (rho G fr pa) (a.eval x):=fun x pa h=>trA_rep hG hF h
 clear hF
 simp only[trOp]at ht
 split at ht
 ·rename_i pc px py h1 h2 h3
  simp only[Option.some.injEq]at ht; subst ht
  simp only[POp.exec]at hx
  split at hx
  ·rename_i b hb
   simp only[Option.some.injEq,Prod.mk.injEq]at hx
   obtain⟨rfl,rfl⟩:=hx
   have hc:=hev c pc h1
   rw[hb]at hc
   have hc:=bool_inv hc
   refine wp_still (s:=pure (if b then a.eval x else a.eval y)) hS (by simp[execOp,hc,asBool]) rfl ?_ hn
   cases b
   ·exact hev y py h3
   ·exact hev x px h2
  ·cases hx
 ·cases ht
theorem sim_alloc(t:TypeId){dst:Option Tmp}{ty:TypeId}{pos:String}{after:Array Edge}{guard:Option (Nat×Bool)}{G:Glob}{T:Tbl}{fr:Frame}{p:POp}(_hT:TblOK P G T)(hS:SR base w g st)(hG:GlobOK G w g)(hF:FR w g st fr a)(ht:trOp P il (.alloc t)=some p)
  (hx:p.exec T (rho G fr) st=some (d,st')) (hn:∀ v w' g',Go1 base w g st w' g' st'→RepV w' g' st' d v→next (a.put dst v) w'):Oper.wp P {dst:=dst,op:=.alloc t,type:=ty,pos:=pos,after:=after,guard:=guard} a w next Q:=by
 have hev:∀ x pa,trA x=some pa→RepV w g st (rho G fr pa) (a.eval x):=fun x pa h=>trA_rep hG hF h
 clear hF
 simp only[trOp,Option.map_eq_some_iff]at ht
 obtain⟨zd,hz,rfl⟩:=ht
 simp only[POp.exec]at hx
 split at hx
 case isFalse=>cases hx
 rename_i hc
 replace hc:zd.cells.all D.isCell=true:=hc
 simp only[Option.some.injEq,Prod.mk.injEq]at hx
 obtain⟨rfl,rfl⟩:=hx
 unfold zrOf at hz
 split at hz
 case h_2=>cases hz
 rename_i i hi
 split at hz
 case h_2=>cases hz
 rename_i z hzz
 refine wp_val (s:=Instr.alloc t true (.tuple #[])) rfl (RunsTo.congr ?_ (box_run (t:=t) hS hc (constD_rep hz))) hn
 simp[Instr.alloc,zeroValue,typeInfo,hi,hzz]
theorem sim_box(t:TypeId)(x:Operand){dst:Option Tmp}{ty:TypeId}{pos:String}{after:Array Edge}{guard:Option (Nat×Bool)}{G:Glob}{T:Tbl}{fr:Frame}{p:POp}(_hT:TblOK P G T)(hS:SR base w g st)(hG:GlobOK G w g)(hF:FR w g st fr a)(ht:trOp P il (.box t x)=some p)
  (hx:p.exec T (rho G fr) st=some (d,st')) (hn:∀ v w' g',Go1 base w g st w' g' st'→RepV w' g' st' d v→next (a.put dst v) w'):Oper.wp P {dst:=dst,op:=.box t x,type:=ty,pos:=pos,after:=after,guard:=guard} a w next Q:=by
 have hev:∀ x pa,trA x=some pa→RepV w g st (rho G fr pa) (a.eval x):=fun x pa h=>trA_rep hG hF h
 clear hF
 simp only[trOp,Option.map_eq_some_iff]at ht
 obtain⟨pa,hpa,rfl⟩:=ht
 simp only[POp.exec]at hx
 split at hx
 case isFalse=>cases hx
 rename_i hc
 simp only[Option.some.injEq,Prod.mk.injEq]at hx
 obtain⟨rfl,rfl⟩:=hx
 exact wp_val (s:=Instr.box t (a.eval x)) rfl (RunsTo.congr rfl (box_run (t:=t) hS hc (hev x pa hpa))) hn
theorem sim_build(t:TypeId)(parts:Array (Nat×Operand)){dst:Option Tmp}{ty:TypeId}{pos:String}{after:Array Edge}{guard:Option (Nat×Bool)}{G:Glob}{T:Tbl}{fr:Frame}{p:POp}(_hT:TblOK P G T)(hS:SR base w g st)(hG:GlobOK G w g)(hF:FR w g st fr a)(ht:trOp P il (.build t parts)=some p)
  (hx:p.exec T (rho G fr) st=some (d,st')) (hn:∀ v w' g',Go1 base w g st w' g' st'→RepV w' g' st' d v→next (a.put dst v) w'):Oper.wp P {dst:=dst,op:=.build t parts,type:=ty,pos:=pos,after:=after,guard:=guard} a w next Q:=by
 have hev:∀ x pa,trA x=some pa→RepV w g st (rho G fr pa) (a.eval x):=fun x pa h=>trA_rep hG hF h
 clear hF
 simp only[trOp]at ht
 split at ht
 case h_2=>cases ht
 rename_i zs pl h1 h2
 simp only[Option.map_eq_some_iff]at ht
 obtain⟨ps,h3,rfl⟩:=ht
 simp only[POp.exec,Option.map_eq_some_iff,Prod.mk.injEq]at hx
 obtain⟨cs,h4,rfl,rfl⟩:=hx
 obtain⟨v,h5,h6⟩:=build_run (P:=P) (parts:=parts.map fun(i,x)=>(i,a.eval x)) hS hev h1 h2 h3 (by simp) h4
 exact wp_still hS rfl h5 h6 hn
theorem buildSlice_runF{t:TypeId}{len:Nat}{parts:Array (Nat×Operand)}{G:Glob}{T:Tbl}{fr:Frame}{p:POp}(hS:SR base w g st)(hG:GlobOK G w g)(hF:FR w g st fr a)(ht:trOp P il (.buildSlice t len parts)=some p)
  (hx:p.exec T (rho G fr) st=some (d,st')):∃ ps,(∀ (dst:Option Tmp) (ty:TypeId) (pos:String) (after:Array Edge) (guard:Option (Nat×Bool)),execOp a.eval {dst:=dst,op:=.buildSlice t len parts,type:=ty,pos:=pos,after:=after,guard:=guard}=(do pure (.value (← Instr.buildSlice t len ps))))∧∃ v w' g',(Instr.buildSlice t len ps).run P w=.ok v w'∧Go1 base w g st w' g' st'∧RepV w' g' st' d v∧Fresh1 base w' g' st' v:=by

 have hev:∀ x pa,trA x=some pa→RepV w g st (rho G fr pa) (a.eval x):=fun x pa h=>trA_rep hG hF h
 clear hF
 simp only[trOp]at ht
 split at ht
 case h_2=>cases ht
 rename_i e hu
 split at ht
 case h_2=>cases ht
 rename_i i hi
 split at ht
 case h_2=>cases ht
 rename_i z l hz hl
 simp only[Option.ite_none_right_eq_some,Option.some.injEq]at ht
 obtain⟨hlen,rfl⟩:=ht
 simp only[POp.exec]at hx
 split at hx
 case h_2=>cases hx
 rename_i els hels
 split at hx
 case isFalse=>cases hx
 rename_i hc
 simp only[Option.some.injEq,Prod.mk.injEq]at hx
 obtain⟨rfl,rfl⟩:=hx
 simp only[Bool.and_eq_true,decide_eq_true_eq,List.all_eq_true,beq_iff_eq]at hc
 obtain⟨vs,e1,e2,e3⟩:=trDense_spec hev hl
 obtain⟨g1,hgo,_,h1,h2,h3⟩:=lend_args hS hels
 have hrep:∀ (i:Nat) d v,els[i]?=some d→vs[i]?=some v→RepV w g1 (lend ((l.map (rho G fr)).flatMap keys) st) d v:=fun i d v hd hv=>h3 i d v hd fun d' hd'=>e3 i d' v hd' hv
 have hlv:els.length=vs.length:=by rw[h1,List.length_map,e2]
 have hpl:(parts.map fun(i,x)=>(i,a.eval x)).toList=(vs.zipIdx 0).map fun x=>(x.2,x.1):=by rw[← e1]; simp
 generalize hps:(parts.map fun(i,x)=>(i,a.eval x))=ps at hpl
 obtain⟨v,w',g',r1,r2,r3,r4⟩:=bslc_runF (len:=len) (parts:=ps) hgo.sr hu hi hz rfl hc.1.2 h2 hc.1.1 hlv hrep hc.2 (by rw[e2,← hlen]) hpl
 exact⟨ps,fun _ _ _ _ _=>by simp only[execOp,hps],v,w',g',r1,hgo.trans r2,r3,r4⟩
theorem sim_buildSlice(t:TypeId)(len:Nat)(parts:Array (Nat×Operand)){dst:Option Tmp}{ty:TypeId}{pos:String}{after:Array Edge}{guard:Option (Nat×Bool)}{G:Glob}{T:Tbl}{fr:Frame}{p:POp}(_hT:TblOK P G T)(hS:SR base w g st)(hG:GlobOK G w g)(hF:FR w g st fr a)(ht:trOp P il (.buildSlice t len parts)=some p)
  (hx:p.exec T (rho G fr) st=some (d,st')) (hn:∀ v w' g',Go1 base w g st w' g' st'→RepV w' g' st' d v→next (a.put dst v) w'):Oper.wp P {dst:=dst,op:=.buildSlice t len parts,type:=ty,pos:=pos,after:=after,guard:=guard} a w next Q:=by
 obtain⟨ps,he,v,w',g',r1,r2,r3,_⟩:=buildSlice_runF hS hG hF ht hx
 exact wp_val (s:=Instr.buildSlice t len ps) (he ..) ⟨v,w',g',r1,r2,r3⟩ hn
theorem sim_litSame{t e:TypeId}{len:Nat}{parts:Array (Nat×Operand)}{d1:Nat}{d2:Option Nat}{ty ty2:TypeId}{pos pos2:String}{after after2:Array Edge}{guard guard2:Option (Nat×Bool)}{G:Glob}{T:Tbl}{fr:Frame}{p:POp}{next2:Act→World→Prop}(hS:SR base w g st)(hG:GlobOK G w g)(hF:FR w g st fr a)(ht:trOp P il (.buildSlice t len parts)=some p)
  (hu:P.underlying t=some (.slice e)) (hu8:P.underlying e=some (.int .u8)) (hd1:d1<a.tmps.size)
  (hx:p.exec T (rho G fr) st=some (d,st')) (hn:∀ v w' g',Go1 base w g st w' g' st'→RepV w' g' st' d v→next2 ((a.put (some d1) v).put d2 v) w') :
  Oper.wp P {dst:=some d1,op:=.buildSlice t len parts,type:=ty,pos:=pos,after:=after,guard:=guard} a w (fun a' w'=>Oper.wp P {dst:=d2,op:=.convert t t (.tmp d1),type:=ty2,pos:=pos2,after:=after2,guard:=guard2} a' w' next2 Q) Q:=by
 obtain⟨ps,he,v,w',g',r1,r2,r3,b,n,C,eC,rfl,hb,hbase,hne⟩:=buildSlice_runF hS hG hF ht hx
 unfold Oper.wp
 rw[he]
 simp only[Sem.run_bind,r1,Result.andThen_ok,Sem.run_pure,Oper.upon_value]
 have hev:(a.put (some d1) (.slice (some ⟨b,0,none⟩) n n)).eval (.tmp d1)=.slice (some ⟨b,0,none⟩) n n:=by
  simp[Act.eval,Act.put,hd1]
 have he2:execOp (a.put (some d1) (.slice (some ⟨b,0,none⟩) n n)).eval {dst:=d2,op:=.convert t t (.tmp d1),type:=ty2,pos:=pos2,after:=after2,guard:=guard2}=(do pure (.value (← convert t t (.slice (some ⟨b,0,none⟩) n n)))):=by
  simp only[execOp,hev]
 rw[he2]
 have hcv:(convert t t (.slice (some ⟨b,0,none⟩) n n)).run P w'=.ok (.slice (some ⟨b,0,none⟩) n n) (w'.freeze ⟨b,C.size,none⟩ 1):=by
  have hsh:w'.shape? b=some (eC,C.size):=by simp[World.shape?,hb]
  simp[convert,run_underlying hu,run_underlying hu8,markStringish,shape,freeze,Sem.run_bind,Sem.run,hsh,Result.andThen]
 simp only[Sem.run_bind,hcv,Result.andThen_ok,Sem.run_pure,Oper.upon_value]
 have hf:=freeze_go (m:=C.size) r2.sr hb hbase hne
 exact hn _ _ g' (r2.trans hf) (hf.rep r3)
theorem sim_load(t:TypeId)(x:Operand){dst:Option Tmp}{ty:TypeId}{pos:String}{after:Array Edge}{guard:Option (Nat×Bool)}{G:Glob}{T:Tbl}{fr:Frame}{p:POp}(_hT:TblOK P G T)(hS:SR base w g st)(hG:GlobOK G w g)(hF:FR w g st fr a)(ht:trOp P il (.load t x)=some p)
  (hx:p.exec T (rho G fr) st=some (d,st')) (hn:∀ v w' g',Go1 base w g st w' g' st'→RepV w' g' st' d v→next (a.put dst v) w'):Oper.wp P {dst:=dst,op:=.load t x,type:=ty,pos:=pos,after:=after,guard:=guard} a w next Q:=by
 have hev:∀ x pa,trA x=some pa→RepV w g st (rho G fr pa) (a.eval x):=fun x pa h=>trA_rep hG hF h
 clear hF
 simp only[trOp]at ht
 split at ht
 case h_2=>cases ht
 rename_i pa n ag h1 h2 h3
 simp only[Option.some.injEq]at ht; subst ht
 simp only[POp.exec,Option.map_eq_some_iff,Prod.mk.injEq]at hx
 obtain⟨r,h4,rfl,rfl⟩:=hx
 obtain⟨v,h5,h6⟩:=pload_run (P:=P) hS h3 h2 h4 (hev x pa h1)
 exact wp_still (s:=Instr.loadAt t (a.eval x)) hS rfl h5 h6 hn
theorem sim_store(t:TypeId)(x y:Operand){dst:Option Tmp}{ty:TypeId}{pos:String}{after:Array Edge}{guard:Option (Nat×Bool)}{G:Glob}{T:Tbl}{fr:Frame}{p:POp}(_hT:TblOK P G T)(hS:SR base w g st)(hG:GlobOK G w g)(hF:FR w g st fr a)(ht:trOp P il (.store t x y)=some p)
  (hx:p.exec T (rho G fr) st=some (d,st')) (hn:∀ v w' g',Go1 base w g st w' g' st'→RepV w' g' st' d v→next (a.put dst v) w'):Oper.wp P {dst:=dst,op:=.store t x y,type:=ty,pos:=pos,after:=after,guard:=guard} a w next Q:=by
 have hev:∀ x pa,trA x=some pa→RepV w g st (rho G fr pa) (a.eval x):=fun x pa h=>trA_rep hG hF h
 clear hF
 simp only[trOp]at ht
 split at ht
 case h_2=>cases ht
 rename_i pa pb n h1 h2 h3
 simp only[Option.some.injEq]at ht; subst ht
 simp only[POp.exec,Option.map_eq_some_iff,Prod.mk.injEq]at hx
 obtain⟨r,h4,rfl,rfl⟩:=hx
 obtain⟨w',g',h5,h6⟩:=pstor_run (P:=P) hS h3 h4 (hev x pa h1) (hev y pb h2)
 unfold Oper.wp execOp
 simp only[Sem.run_bind,h5,Result.andThen_ok,Sem.run_pure]
 exact hn undef w' g' h6 (.tup [] [] rfl (fun i d v h=>by simp at h))
theorem sim_nilCheck(x:Operand){dst:Option Tmp}{ty:TypeId}{pos:String}{after:Array Edge}{guard:Option (Nat×Bool)}{G:Glob}{T:Tbl}{fr:Frame}{p:POp}(_hT:TblOK P G T)(hS:SR base w g st)(hG:GlobOK G w g)(hF:FR w g st fr a)(ht:trOp P il (.nilCheck x)=some p)
  (hx:p.exec T (rho G fr) st=some (d,st')) (hn:∀ v w' g',Go1 base w g st w' g' st'→RepV w' g' st' d v→next (a.put dst v) w'):Oper.wp P {dst:=dst,op:=.nilCheck x,type:=ty,pos:=pos,after:=after,guard:=guard} a w next Q:=by
 have hev:∀ x pa,trA x=some pa→RepV w g st (rho G fr pa) (a.eval x):=fun x pa h=>trA_rep hG hF h
 clear hF
 simp only[trOp,Option.map_eq_some_iff]at ht
 obtain⟨pa,hpa,rfl⟩:=ht
 have hr:=hev x pa hpa
 simp only[POp.exec]at hx
 have key:∀ q,a.eval x=.pointer (some q)→RepV w g st d (a.eval x)→st'=st→Oper.wp P {dst:=dst,op:=.nilCheck x,type:=ty,pos:=pos,after:=after,guard:=guard} a w next Q:=by
  intro q hq hrd hst
  subst hst
  exact wp_still (s:=pure (a.eval x)) hS (by simp[execOp,hq]) rfl hrd hn
 split at hx
 ·rename_i key off hp
  simp only[Option.some.injEq,Prod.mk.injEq]at hx
  obtain⟨rfl,rfl⟩:=hx
  rw[hp]at hr
  obtain⟨q,hq⟩:=ptr_inv hr
  exact key q hq (hev x pa hpa) rfl
 ·rename_i el off hp
  simp only[Option.some.injEq,Prod.mk.injEq]at hx
  obtain⟨rfl,rfl⟩:=hx
  rw[hp]at hr
  obtain⟨q,hq⟩:=eptr_inv hr
  exact key q hq (hev x pa hpa) rfl
 ·rename_i kk tot i off hp
  split at hx
  ·rename_i hl
   simp only[Option.some.injEq,Prod.mk.injEq]at hx
   obtain⟨rfl,rfl⟩:=hx
   rw[hp]at hr
   obtain⟨ob,_,_,_,hq⟩:=live_inv hl hr
   exact key _ hq (hev x pa hpa) rfl
  ·cases hx
 ·cases hx
theorem sim_binOp(op:BinOp)(t:TypeId)(x y:Operand)(yt:TypeId){dst:Option Tmp}{ty:TypeId}{pos:String}{after:Array Edge}{guard:Option (Nat×Bool)}{G:Glob}{T:Tbl}{fr:Frame}{p:POp}(_hT:TblOK P G T)(hS:SR base w g st)(hG:GlobOK G w g)(hF:FR w g st fr a)(ht:trOp P il (.binOp op t x y yt)=some p)
  (hx:p.exec T (rho G fr) st=some (d,st')) (hn:∀ v w' g',Go1 base w g st w' g' st'→RepV w' g' st' d v→next (a.put dst v) w'):Oper.wp P {dst:=dst,op:=.binOp op t x y yt,type:=ty,pos:=pos,after:=after,guard:=guard} a w next Q:=by
 have hev:∀ x pa,trA x=some pa→RepV w g st (rho G fr pa) (a.eval x):=fun x pa h=>trA_rep hG hF h
 clear hF
 simp only[trOp]at ht
 split at ht
 case h_2=>cases ht
 rename_i pa pb h1 h2
 have hbin:∀ op,p=.bin op pa pb→Oper.wp P {dst:=dst,op:=.binOp op t x y yt,type:=ty,pos:=pos,after:=after,guard:=guard} a w next Q:=by
  rintro op rfl
  simp only[POp.exec,Option.map_eq_some_iff,Prod.mk.injEq]at hx
  obtain⟨r,h4,rfl,rfl⟩:=hx
  obtain⟨⟨v,h5,h6⟩,h7,h8⟩:=pbin_run (P:=P) op t _ _ r _ _ h4 (hev x pa h1) (hev y pb h2)
  refine wp_still (s:=do eqGuard op t x y (a.eval x) (a.eval y); binOp op t (a.eval x) (a.eval y)) hS rfl ?_ h6 hn
  simp only[Sem.run_bind,eqGuard_flat op t x y _ _ h7 h8,Result.andThen_ok,h5]
 have heq:∀ neg:Bool,(match P.underlying t with
  |some (.int _) | some .string=>some (POp.bin (if neg then .neq else .eql) pa pb)
  |some .bool=>some (.beq neg pa pb)
  |some (.struct _) | some (.array _ _)=>match leafs P 100 t with
   |some ks=>if P.eqGuardType P.depth t then none else some (.aeq ks neg pa pb)
   |none=>none
  |_=>none)=some p→Oper.wp P {dst:=dst,op:=.binOp (if neg then .neq else .eql) t x y yt,type:=ty,pos:=pos,after:=after,guard:=guard} a w next Q:=by
  intro neg hp
  have hagg:agOf P t=some true→(match leafs P 100 t with
   |some ks=>if P.eqGuardType P.depth t then none else some (POp.aeq ks neg pa pb)
   |none=>none)=some p→Oper.wp P {dst:=dst,op:=.binOp (if neg then .neq else .eql) t x y yt,type:=ty,pos:=pos,after:=after,guard:=guard} a w next Q:=by
   intro hag hp
   split at hp
   case h_2=>cases hp
   rename_i ks hks
   split at hp
   case isTrue=>cases hp
   rename_i hg
   simp only[Option.some.injEq]at hp; subst hp
   simp only[POp.exec,Option.map_eq_some_iff,Prod.mk.injEq]at hx
   obtain⟨r,h4,rfl,rfl⟩:=hx
   obtain⟨⟨v,h5,h6⟩,xs,ys,h7,h8⟩:=paeq_run (P:=P) hks (by decide) hag h4 (hev x pa h1) (hev y pb h2)
   refine wp_still (s:=do eqGuard (if neg then .neq else .eql) t x y (a.eval x) (a.eval y); binOp (if neg then .neq else .eql) t (a.eval x) (a.eval y)) hS rfl ?_ h6 hn
   have hgd:(eqGuard (if neg then .neq else .eql) t x y (a.eval x) (a.eval y)).run P w=.ok () w:=by
    rw[h7,h8]
    exact run_eqGuard_agg w _ t x y xs ys (by simpa using hg)
   simp only[Sem.run_bind,hgd,Result.andThen_ok,h5]
  split at hp
  ·simp only[Option.some.injEq]at hp; exact hbin _ hp.symm
  ·simp only[Option.some.injEq]at hp; exact hbin _ hp.symm
  ·rename_i hu
   simp only[Option.some.injEq]at hp; subst hp
   simp only[POp.exec,Option.map_eq_some_iff,Prod.mk.injEq]at hx
   obtain⟨r,h4,rfl,rfl⟩:=hx
   obtain⟨⟨v,h5,h6⟩,h7,h8⟩:=pbeq_run (P:=P) neg t hu _ _ r _ _ h4 (hev x pa h1) (hev y pb h2)
   refine wp_still (s:=do eqGuard (if neg then .neq else .eql) t x y (a.eval x) (a.eval y); binOp (if neg then .neq else .eql) t (a.eval x) (a.eval y)) hS rfl ?_ h6 hn
   simp only[Sem.run_bind,eqGuard_flat _ t x y _ _ h7 h8,Result.andThen_ok,h5]
  ·rename_i hu
   exact hagg (by simp[agOf,hu]) hp
  ·rename_i hu
   exact hagg (by simp[agOf,hu]) hp
  ·cases hp
 unfold trBin at ht
 split at ht
 ·exact heq false ht
 ·exact heq true ht
 ·simp only[Option.some.injEq]at ht; exact hbin _ ht.symm
theorem sim_unOp(op:UnOp)(t:TypeId)(x:Operand){dst:Option Tmp}{ty:TypeId}{pos:String}{after:Array Edge}{guard:Option (Nat×Bool)}{G:Glob}{T:Tbl}{fr:Frame}{p:POp}(_hT:TblOK P G T)(hS:SR base w g st)(hG:GlobOK G w g)(hF:FR w g st fr a)(ht:trOp P il (.unOp op t x)=some p)
  (hx:p.exec T (rho G fr) st=some (d,st')) (hn:∀ v w' g',Go1 base w g st w' g' st'→RepV w' g' st' d v→next (a.put dst v) w'):Oper.wp P {dst:=dst,op:=.unOp op t x,type:=ty,pos:=pos,after:=after,guard:=guard} a w next Q:=by
 have hev:∀ x pa,trA x=some pa→RepV w g st (rho G fr pa) (a.eval x):=fun x pa h=>trA_rep hG hF h
 clear hF
 simp only[trOp,Option.map_eq_some_iff]at ht
 obtain⟨pa,hpa,rfl⟩:=ht
 simp only[POp.exec,Option.map_eq_some_iff,Prod.mk.injEq]at hx
 obtain⟨r,h4,rfl,rfl⟩:=hx
 obtain⟨v,h5,h6⟩:=pun_run (P:=P) (w:=w) op _ r _ h4 (hev x pa hpa)
 exact wp_still (s:=Op.unary op (a.eval x)) hS rfl h5 h6 hn
theorem sim_convert(src dt:TypeId)(x:Operand){dst:Option Tmp}{ty:TypeId}{pos:String}{after:Array Edge}{guard:Option (Nat×Bool)}{G:Glob}{T:Tbl}{fr:Frame}{p:POp}(_hT:TblOK P G T)(hS:SR base w g st)(hG:GlobOK G w g)(hF:FR w g st fr a)(ht:trOp P il (.convert src dt x)=some p)
  (hx:p.exec T (rho G fr) st=some (d,st')) (hn:∀ v w' g',Go1 base w g st w' g' st'→RepV w' g' st' d v→next (a.put dst v) w'):Oper.wp P {dst:=dst,op:=.convert src dt x,type:=ty,pos:=pos,after:=after,guard:=guard} a w next Q:=by
 have hev:∀ x pa,trA x=some pa→RepV w g st (rho G fr pa) (a.eval x):=fun x pa h=>trA_rep hG hF h
 clear hF
 simp only[trOp]at ht
 split at ht
 case h_2=>cases ht
 rename_i pa hpa
 have hr:=hev x pa hpa
 unfold trConv at ht
 split at ht
 ·rename_i u k hs hd
  simp only[Option.some.injEq]at ht; subst ht
  simp only[POp.exec,Option.map_eq_some_iff,Prod.mk.injEq]at hx
  obtain⟨r,h4,rfl,rfl⟩:=hx
  unfold pconv at h4
  split at h4 <;> rename_i hc1 hp <;> (try cases hc1) <;> (try (simp only[reduceCtorEq]at h4))
  simp only[Option.some.injEq]at h4; subst h4
  rw[hp]at hr
  have he:=int_inv hr
  refine wp_still (s:=convert src dt (a.eval x)) hS rfl ?_ (.int _ _) hn
  rw[he]
  simp[convert,run_underlying hs,run_underlying hd,Conv.intToInt]
 ·rename_i hs hd
  simp only[Option.some.injEq]at ht; subst ht
  simp only[POp.exec,Option.map_eq_some_iff,Prod.mk.injEq]at hx
  obtain⟨r,h4,rfl,rfl⟩:=hx
  unfold pconv at h4
  split at h4 <;> rename_i hc1 hp <;> (try cases hc1) <;> (try (simp only[reduceCtorEq]at h4))
  simp only[Option.some.injEq]at h4; subst h4
  rw[hp]at hr
  have he:=str_inv hr
  refine wp_still (s:=convert src dt (a.eval x)) hS rfl (v:=a.eval x) ?_ (by rw[he]; exact .str _) hn
  rw[he]
  simp[convert,run_underlying hs,run_underlying hd]
 ·rename_i e hs hd
  split at ht
  case h_2=>cases ht
  rename_i hu8
  simp only[Option.some.injEq]at ht; subst ht
  simp only[POp.exec,Option.map_eq_some_iff,Prod.mk.injEq]at hx
  obtain⟨r,h4,rfl,rfl⟩:=hx
  unfold pconv at h4
  split at h4 <;> rename_i hc1 hp <;> (try cases hc1) <;> (try (simp only[reduceCtorEq]at h4))
  simp only[Option.some.injEq]at h4; subst h4
  rw[hp]at hr
  have he:=str_inv hr
  refine wp_val (s:=convert src dt (a.eval x)) rfl ?_ hn
  rw[he]
  exact bytes_run hS hs hd hu8
 ·rename_i e hs hd
  split at ht
  case h_2=>cases ht
  rename_i hu8
  simp only[Option.some.injEq]at ht; subst ht
  simp only[POp.exec,Option.map_eq_some_iff,Prod.mk.injEq]at hx
  obtain⟨r,h4,rfl,rfl⟩:=hx
  unfold pconv at h4
  split at h4 <;> rename_i hc1 hp <;> (try cases hc1) <;> (try (simp only[reduceCtorEq]at h4))
  ·split at h4
   case isFalse=>cases h4
   rename_i hsz
   simp only[Option.map_eq_some_iff]at h4
   obtain⟨bs,hbs,rfl⟩:=h4
   rw[hp]at hr
   simp only[Bool.or_eq_true,beq_iff_eq,List.isEmpty_iff]at hsz
   exact wp_still (s:=convert src dt (a.eval x)) hS rfl (els_str_run hs hu8 hd (slc_els hr) hsz hbs) (.str _) hn
  ·split at h4
   case h_2=>cases h4
   rename_i sz els hre
   split at h4
   case isFalse=>cases h4
   rename_i hsz
   simp only[Option.map_eq_some_iff]at h4
   obtain⟨bs,hbs,rfl⟩:=h4
   rw[hp]at hr
   simp only[beq_iff_eq]at hsz
   exact wp_still (s:=convert src dt (a.eval x)) hS rfl (els_str_run hs hu8 hd (row_els hS hre hr).1 (.inl hsz) hbs) (.str _) hn
 ·cases ht
theorem sim_makeSlice(t:TypeId)(l c:Operand){dst:Option Tmp}{ty:TypeId}{pos:String}{after:Array Edge}{guard:Option (Nat×Bool)}{G:Glob}{T:Tbl}{fr:Frame}{p:POp}(_hT:TblOK P G T)(hS:SR base w g st)(hG:GlobOK G w g)(hF:FR w g st fr a)(ht:trOp P il (.makeSlice t l c)=some p)
  (hx:p.exec T (rho G fr) st=some (d,st')) (hn:∀ v w' g',Go1 base w g st w' g' st'→RepV w' g' st' d v→next (a.put dst v) w'):Oper.wp P {dst:=dst,op:=.makeSlice t l c,type:=ty,pos:=pos,after:=after,guard:=guard} a w next Q:=by
 have hev:∀ x pa,trA x=some pa→RepV w g st (rho G fr pa) (a.eval x):=fun x pa h=>trA_rep hG hF h
 clear hF
 simp only[trOp]at ht
 split at ht
 case h_2=>cases ht
 rename_i pl pc e h1 h2 hu
 split at ht
 case h_2=>cases ht
 rename_i i hi
 split at ht
 case h_2=>cases ht
 rename_i z hz
 simp only[Option.map_eq_some_iff]at ht
 obtain⟨zd,hzd,rfl⟩:=ht
 simp only[POp.exec]at hx
 split at hx
 case h_2=>cases hx
 rename_i nl nc h3 h4
 split at hx
 case isFalse=>cases hx
 rename_i hc
 simp only[Option.some.injEq,Prod.mk.injEq]at hx
 obtain⟨rfl,rfl⟩:=hx
 obtain⟨c1,c2,c3,c4,c5,c6⟩:=hc
 exact wp_val (s:=Instr.makeSlice t (a.eval l) (a.eval c)) rfl (mkslc_run hS hu hi hz hzd rfl rfl c4 c5 c6 h3 h4 (hev l pl h1) (hev c pc h2) c1 c2 c3) hn
theorem sim_slice(t:TypeId)(x:Operand)(lo hi mx:Option Operand){dst:Option Tmp}{ty:TypeId}{pos:String}{after:Array Edge}{guard:Option (Nat×Bool)}{G:Glob}{T:Tbl}{fr:Frame}{p:POp}(_hT:TblOK P G T)(hS:SR base w g st)(hG:GlobOK G w g)(hF:FR w g st fr a)(ht:trOp P il (.slice t x lo hi mx)=some p)
  (hx:p.exec T (rho G fr) st=some (d,st')) (hn:∀ v w' g',Go1 base w g st w' g' st'→RepV w' g' st' d v→next (a.put dst v) w'):Oper.wp P {dst:=dst,op:=.slice t x lo hi mx,type:=ty,pos:=pos,after:=after,guard:=guard} a w next Q:=by
 have hev:∀ x pa,trA x=some pa→RepV w g st (rho G fr pa) (a.eval x):=fun x pa h=>trA_rep hG hF h
 clear hF
 simp only[trOp]at ht
 split at ht
 case h_2=>cases ht
 rename_i pa plo phi pmx h1 h2 h3 h4
 have r2:=opt_rep h2 rfl hev
 have r3:=opt_rep h3 rfl hev
 have r4:=opt_rep h4 rfl hev
 unfold trSlice at ht
 split at ht
 ·rename_i hu
  simp only[Option.some.injEq]at ht; subst ht
  simp only[POp.exec,Option.map_eq_some_iff,Prod.mk.injEq]at hx
  obtain⟨r,h5,rfl,rfl⟩:=hx
  obtain⟨v,h6,h7⟩:=pslice_run (P:=P) hS (.inl ⟨rfl,hu⟩) h5 (hev x pa h1) r2 r3 r4
  exact wp_still (s:=Instr.sliceAt t (a.eval x) (lo.map a.eval) (hi.map a.eval) (mx.map a.eval)) hS rfl h6 h7 hn
 ·rename_i e hu
  split at ht
  case h_2=>cases ht
  rename_i sz hsz
  split at ht
  case isTrue=>cases ht
  rename_i h0
  simp only[Option.some.injEq]at ht; subst ht
  simp only[POp.exec,Option.map_eq_some_iff,Prod.mk.injEq]at hx
  obtain⟨r,h5,rfl,rfl⟩:=hx
  obtain⟨v,h6,h7⟩:=pslice_run (P:=P) hS (.inr ⟨h0,e,hu,hsz⟩) h5 (hev x pa h1) r2 r3 r4
  exact wp_still (s:=Instr.sliceAt t (a.eval x) (lo.map a.eval) (hi.map a.eval) (mx.map a.eval)) hS rfl h6 h7 hn
 ·rename_i n e hu
  split at ht
  case h_2=>cases ht
  rename_i sz ag hsz hag
  simp only[Option.some.injEq]at ht; subst ht
  have hm:mx=none:=by
   cases mx with
   |none=>rfl
   |some m=>simp at r4
  subst hm
  simp only[POp.exec,Option.map_eq_some_iff,Prod.mk.injEq]at hx
  obtain⟨r,h5,rfl,rfl⟩:=hx
  obtain⟨v,h6,h7⟩:=psliceA_run (P:=P) hu hsz h5 (hev x pa h1) r2 r3
  exact wp_still (s:=Instr.sliceAt t (a.eval x) (lo.map a.eval) (hi.map a.eval) none) hS rfl h6 h7 hn
 ·cases ht
theorem sim_fieldAddr(s:TypeId)(x:Operand)(f:Nat){dst:Option Tmp}{ty:TypeId}{pos:String}{after:Array Edge}{guard:Option (Nat×Bool)}{G:Glob}{T:Tbl}{fr:Frame}{p:POp}(_hT:TblOK P G T)(hS:SR base w g st)(hG:GlobOK G w g)(hF:FR w g st fr a)(ht:trOp P il (.fieldAddr s x f)=some p)
  (hx:p.exec T (rho G fr) st=some (d,st')) (hn:∀ v w' g',Go1 base w g st w' g' st'→RepV w' g' st' d v→next (a.put dst v) w'):Oper.wp P {dst:=dst,op:=.fieldAddr s x f,type:=ty,pos:=pos,after:=after,guard:=guard} a w next Q:=by
 have hev:∀ x pa,trA x=some pa→RepV w g st (rho G fr pa) (a.eval x):=fun x pa h=>trA_rep hG hF h
 clear hF
 simp only[trOp]at ht
 split at ht
 case h_2=>cases ht
 rename_i pa fields h1 hu
 split at ht
 case h_2=>cases ht
 rename_i fd hfd
 split at ht
 case h_2=>cases ht
 rename_i n hsz
 split at ht
 case isTrue=>cases ht
 rename_i h0
 simp only[Option.some.injEq]at ht; subst ht
 simp only[POp.exec,Option.map_eq_some_iff,Prod.mk.injEq]at hx
 obtain⟨r,h5,rfl,rfl⟩:=hx
 obtain⟨v,h6,h7⟩:=fieldAt_run (P:=P) hu hfd hsz h0 h5 (hev x pa h1)
 exact wp_still (s:=Instr.fieldAt s (a.eval x) f) hS rfl h6 h7 hn
theorem sim_field(s:TypeId)(x:Operand)(f:Nat){dst:Option Tmp}{ty:TypeId}{pos:String}{after:Array Edge}{guard:Option (Nat×Bool)}{G:Glob}{T:Tbl}{fr:Frame}{p:POp}(_hT:TblOK P G T)(hS:SR base w g st)(hG:GlobOK G w g)(hF:FR w g st fr a)(ht:trOp P il (.field s x f)=some p)
  (hx:p.exec T (rho G fr) st=some (d,st')) (hn:∀ v w' g',Go1 base w g st w' g' st'→RepV w' g' st' d v→next (a.put dst v) w'):Oper.wp P {dst:=dst,op:=.field s x f,type:=ty,pos:=pos,after:=after,guard:=guard} a w next Q:=by
 have hev:∀ x pa,trA x=some pa→RepV w g st (rho G fr pa) (a.eval x):=fun x pa h=>trA_rep hG hF h
 clear hF
 simp only[trOp]at ht
 split at ht
 case h_2=>cases ht
 rename_i pa fields h1 hu
 split at ht
 case h_2=>cases ht
 rename_i fd hfd
 split at ht
 case h_2=>cases ht
 rename_i n ag hsz hag
 simp only[Option.some.injEq]at ht; subst ht
 simp only[POp.exec,Option.map_eq_some_iff,Prod.mk.injEq]at hx
 obtain⟨r,h5,rfl,rfl⟩:=hx
 obtain⟨v,h6,h7⟩:=pfldv_run (P:=P) hu hfd hag hsz h5 (hev x pa h1)
 exact wp_still (s:=Instr.field s (a.eval x) f) hS rfl h6 h7 hn
theorem sim_indexAddr(t:TypeId)(x i:Operand){dst:Option Tmp}{ty:TypeId}{pos:String}{after:Array Edge}{guard:Option (Nat×Bool)}{G:Glob}{T:Tbl}{fr:Frame}{p:POp}(_hT:TblOK P G T)(hS:SR base w g st)(hG:GlobOK G w g)(hF:FR w g st fr a)(ht:trOp P il (.indexAddr t x i)=some p)
  (hx:p.exec T (rho G fr) st=some (d,st')) (hn:∀ v w' g',Go1 base w g st w' g' st'→RepV w' g' st' d v→next (a.put dst v) w'):Oper.wp P {dst:=dst,op:=.indexAddr t x i,type:=ty,pos:=pos,after:=after,guard:=guard} a w next Q:=by
 have hev:∀ x pa,trA x=some pa→RepV w g st (rho G fr pa) (a.eval x):=fun x pa h=>trA_rep hG hF h
 clear hF
 simp only[trOp]at ht
 split at ht
 ·rename_i pa pi len e h1 h2 hu
  simp only[Option.map_eq_some_iff]at ht
  obtain⟨n,hsz,rfl⟩:=ht
  simp only[POp.exec,Option.map_eq_some_iff,Prod.mk.injEq]at hx
  obtain⟨r,h5,rfl,rfl⟩:=hx
  obtain⟨v,h6,h7⟩:=indexAt_arr_run (P:=P) hu hsz h5 (hev x pa h1) (hev i pi h2)
  exact wp_still (s:=Instr.indexAt t (a.eval x) (a.eval i)) hS rfl h6 h7 hn
 ·rename_i pa pi e h1 h2 hu
  simp only[Option.map_eq_some_iff]at ht
  obtain⟨n,hsz,rfl⟩:=ht
  simp only[POp.exec,Option.map_eq_some_iff,Prod.mk.injEq]at hx
  obtain⟨r,h5,rfl,rfl⟩:=hx
  obtain⟨v,h6,h7⟩:=indexAt_sl_run (P:=P) hu hsz h5 (hev x pa h1) (hev i pi h2)
  exact wp_still (s:=Instr.indexAt t (a.eval x) (a.eval i)) hS rfl h6 h7 hn
 ·cases ht
theorem sim_index(t:TypeId)(x i:Operand){dst:Option Tmp}{ty:TypeId}{pos:String}{after:Array Edge}{guard:Option (Nat×Bool)}{G:Glob}{T:Tbl}{fr:Frame}{p:POp}(_hT:TblOK P G T)(hS:SR base w g st)(hG:GlobOK G w g)(hF:FR w g st fr a)(ht:trOp P il (.index t x i)=some p)
  (hx:p.exec T (rho G fr) st=some (d,st')) (hn:∀ v w' g',Go1 base w g st w' g' st'→RepV w' g' st' d v→next (a.put dst v) w'):Oper.wp P {dst:=dst,op:=.index t x i,type:=ty,pos:=pos,after:=after,guard:=guard} a w next Q:=by
 have hev:∀ x pa,trA x=some pa→RepV w g st (rho G fr pa) (a.eval x):=fun x pa h=>trA_rep hG hF h
 clear hF
 simp only[trOp]at ht
 split at ht
 ·rename_i pa pi len e h1 h2 hu
  split at ht
  case h_2=>cases ht
  rename_i n ag hsz hag
  simp only[Option.some.injEq]at ht; subst ht
  simp only[POp.exec,Option.map_eq_some_iff,Prod.mk.injEq]at hx
  obtain⟨r,h5,rfl,rfl⟩:=hx
  obtain⟨v,h6,h7⟩:=pidxV_run (P:=P) hu hag hsz h5 (hev x pa h1) (hev i pi h2)
  exact wp_still (s:=Instr.index t (a.eval x) (a.eval i)) hS rfl h6 h7 hn
 ·rename_i pa pi h1 h2 hu
  simp only[Option.some.injEq]at ht; subst ht
  simp only[POp.exec,Option.map_eq_some_iff,Prod.mk.injEq]at hx
  obtain⟨r,h5,rfl,rfl⟩:=hx
  obtain⟨v,h6,h7⟩:=pidx_run (P:=P) hu h5 (hev x pa h1) (hev i pi h2)
  exact wp_still (s:=Instr.index t (a.eval x) (a.eval i)) hS rfl h6 h7 hn
 ·cases ht
theorem sim_extract(x:Operand)(i:Nat){dst:Option Tmp}{ty:TypeId}{pos:String}{after:Array Edge}{guard:Option (Nat×Bool)}{G:Glob}{T:Tbl}{fr:Frame}{p:POp}(_hT:TblOK P G T)(hS:SR base w g st)(hG:GlobOK G w g)(hF:FR w g st fr a)(ht:trOp P il (.extract x i)=some p)
  (hx:p.exec T (rho G fr) st=some (d,st')) (hn:∀ v w' g',Go1 base w g st w' g' st'→RepV w' g' st' d v→next (a.put dst v) w'):Oper.wp P {dst:=dst,op:=.extract x i,type:=ty,pos:=pos,after:=after,guard:=guard} a w next Q:=by
 have hev:∀ x pa,trA x=some pa→RepV w g st (rho G fr pa) (a.eval x):=fun x pa h=>trA_rep hG hF h
 clear hF
 simp only[trOp,Option.map_eq_some_iff]at ht
 obtain⟨pa,h1,rfl⟩:=ht
 simp only[POp.exec]at hx
 have hr:=hev x pa h1
 split at hx
 ·rename_i vs hp
  simp only[Option.map_eq_some_iff,Prod.mk.injEq]at hx
  obtain⟨r,h5,rfl,rfl⟩:=hx
  rw[hp]at hr
  generalize hv:a.eval x=v at hr
  cases hr with
  |tup _ us h2 h3=>
   have hl:i<us.length:=by rw[← h2]; exact(List.getElem?_eq_some_iff.1 h5).1
   refine wp_still (s:=Instr.extract (a.eval x) i) hS rfl (v:=us[i]) ?_ (h3 i r _ h5 (List.getElem?_eq_getElem hl)) hn
   simp[hv,Instr.extract,hl]
 ·cases hx
theorem sim_mapUpdate(t:TypeId)(m k v:Operand){dst:Option Tmp}{ty:TypeId}{pos:String}{after:Array Edge}{guard:Option (Nat×Bool)}{G:Glob}{T:Tbl}{fr:Frame}{p:POp}(_hT:TblOK P G T)(hS:SR base w g st)(hG:GlobOK G w g)(hF:FR w g st fr a)(ht:trOp P il (.mapUpdate t m k v)=some p)
  (hx:p.exec T (rho G fr) st=some (d,st')) (hn:∀ v w' g',Go1 base w g st w' g' st'→RepV w' g' st' d v→next (a.put dst v) w'):Oper.wp P {dst:=dst,op:=.mapUpdate t m k v,type:=ty,pos:=pos,after:=after,guard:=guard} a w next Q:=by
 have hev:∀ x pa,trA x=some pa→RepV w g st (rho G fr pa) (a.eval x):=fun x pa h=>trA_rep hG hF h
 clear hF
 simp only[trOp]at ht
 split at ht
 case h_2=>cases ht
 rename_i kt et sz ks pm pk pv h1 h2 h3 h4
 simp only[Option.some.injEq]at ht; subst ht
 simp only[POp.exec,Option.map_eq_some_iff,Prod.mk.injEq]at hx
 obtain⟨r,h5,rfl,rfl⟩:=hx
 obtain⟨w',g',h6,h7⟩:=mapup_run (P:=P) hS h1 (hev m pm h2) (hev k pk h3) (hev v pv h4) h5
 unfold Oper.wp execOp
 simp only[Sem.run_bind,h6,Result.andThen_ok,Sem.run_pure]
 exact hn undef w' g' h7 (.tup [] [] rfl (fun i d v h=>by simp at h))
theorem sim_insert(t:TypeId)(m k v:Operand){dst:Option Tmp}{ty:TypeId}{pos:String}{after:Array Edge}{guard:Option (Nat×Bool)}{G:Glob}{T:Tbl}{fr:Frame}{p:POp}(_hT:TblOK P G T)(hS:SR base w g st)(hG:GlobOK G w g)(hF:FR w g st fr a)(ht:trOp P il (.insert t m k v)=some p)
  (hx:p.exec T (rho G fr) st=some (d,st')) (hn:∀ v w' g',Go1 base w g st w' g' st'→RepV w' g' st' d v→next (a.put dst v) w'):Oper.wp P {dst:=dst,op:=.insert t m k v,type:=ty,pos:=pos,after:=after,guard:=guard} a w next Q:=by
 have hev:∀ x pa,trA x=some pa→RepV w g st (rho G fr pa) (a.eval x):=fun x pa h=>trA_rep hG hF h
 clear hF
 simp only[trOp]at ht
 split at ht
 case h_2=>cases ht
 rename_i kt et sz ks pm pk pv h1 h2 h3 h4
 simp only[Option.some.injEq]at ht; subst ht
 simp only[POp.exec,Option.map_eq_some_iff,Prod.mk.injEq]at hx
 obtain⟨r,h5,rfl,rfl⟩:=hx
 obtain⟨w',g',h6,h7⟩:=mapup_run (P:=P) hS h1 (hev m pm h2) (hev k pk h3) (hev v pv h4) h5
 unfold Oper.wp execOp
 simp only[Sem.run_bind,h6,Result.andThen_ok,Sem.run_pure]
 exact hn undef w' g' h7 (.tup [] [] rfl (fun i d v h=>by simp at h))
theorem sim_lookup(t:TypeId)(m k:Operand)(ok:Bool){dst:Option Tmp}{ty:TypeId}{pos:String}{after:Array Edge}{guard:Option (Nat×Bool)}{G:Glob}{T:Tbl}{fr:Frame}{p:POp}(_hT:TblOK P G T)(hS:SR base w g st)(hG:GlobOK G w g)(hF:FR w g st fr a)(ht:trOp P il (.lookup t m k ok)=some p)
  (hx:p.exec T (rho G fr) st=some (d,st')) (hn:∀ v w' g',Go1 base w g st w' g' st'→RepV w' g' st' d v→next (a.put dst v) w'):Oper.wp P {dst:=dst,op:=.lookup t m k ok,type:=ty,pos:=pos,after:=after,guard:=guard} a w next Q:=by
 have hev:∀ x pa,trA x=some pa→RepV w g st (rho G fr pa) (a.eval x):=fun x pa h=>trA_rep hG hF h
 clear hF
 simp only[trOp]at ht
 split at ht
 case h_2=>cases ht
 rename_i kt et sz ks pm pk h1 h2 h3
 simp only[Option.map_eq_some_iff]at ht
 obtain⟨zd,h4,rfl⟩:=ht
 simp only[POp.exec,Option.map_eq_some_iff,Prod.mk.injEq]at hx
 obtain⟨r,h5,rfl,rfl⟩:=hx
 obtain⟨v,h6,h7⟩:=mapget_run (P:=P) hS h1 h4 (hev m pm h2) (hev k pk h3) h5
 exact wp_still (s:=Instr.lookup t (a.eval m) (a.eval k) ok) hS rfl h6 h7 hn
theorem sim_makeMap(t:TypeId)(rs:Option Operand){dst:Option Tmp}{ty:TypeId}{pos:String}{after:Array Edge}{guard:Option (Nat×Bool)}{G:Glob}{T:Tbl}{fr:Frame}{p:POp}(_hT:TblOK P G T)(hS:SR base w g st)(hG:GlobOK G w g)(hF:FR w g st fr a)(ht:trOp P il (.makeMap t rs)=some p)
  (hx:p.exec T (rho G fr) st=some (d,st')) (hn:∀ v w' g',Go1 base w g st w' g' st'→RepV w' g' st' d v→next (a.put dst v) w'):Oper.wp P {dst:=dst,op:=.makeMap t rs,type:=ty,pos:=pos,after:=after,guard:=guard} a w next Q:=by
 have hev:∀ x pa,trA x=some pa→RepV w g st (rho G fr pa) (a.eval x):=fun x pa h=>trA_rep hG hF h
 clear hF
 cases rs with
 |some x=>simp[trOp]at ht
 |none=>
  simp only[trOp]at ht
  split at ht
  case h_2=>cases ht
  rename_i kt et sz ks h1
  simp only[Option.some.injEq]at ht; subst ht
  simp only[POp.exec]at hx
  split at hx
  case isFalse=>cases hx
  rename_i hc
  simp only[Option.some.injEq,Prod.mk.injEq]at hx
  obtain⟨rfl,rfl⟩:=hx
  exact wp_val (s:=Instr.makeMap t none) rfl (mkmap_run (P:=P) (t:=t) hS hc.1 hc.2) hn
theorem rep_append{ds es:List D}{vs us:List Value}(h1:ds.length=vs.length)(h2:∀ (i:Nat) d v,ds[i]?=some d→vs[i]?=some v→RepV w g st d v)(h4:∀ (i:Nat) d v,es[i]?=some d→us[i]?=some v→RepV w g st d v) :
  ∀ (i:Nat) d v,(ds++es)[i]?=some d→(vs++us)[i]?=some v→RepV w g st d v:=by
 intro i d v hd hv
 rcases Nat.lt_or_ge i ds.length with hi | hi
 ·rw[List.getElem?_append_left hi]at hd
  rw[List.getElem?_append_left (by omega)]at hv
  exact h2 i d v hd hv
 ·rw[List.getElem?_append_right hi]at hd
  rw[List.getElem?_append_right (by omega)]at hv
  rw[← h1]at hv
  exact h4 _ d v hd hv
theorem callv_exec{dst:Option Tmp}{ty:TypeId}{pos:String}{after:Array Edge}{guard:Option (Nat×Bool)}{G:Glob}{fr:Frame}{c:Call}{x:Operand}{pa:PA}{l:List PA}{f:Nat}{ds:List D}(hev:∀ x pa,trA x=some pa→RepV w g st (rho G fr pa) (a.eval x))(hcal:c.callee=.value x)
  (hpa:trA x=some pa) (hl:trAs c.args.toList=some l) (hc:(POp.callv pa l).callee (rho G fr)=some (f,ds)) :
  ∃ vs:List Value,ds.length=vs.length∧(∀ (i:Nat) d v,ds[i]?=some d→vs[i]?=some v→RepV w g st d v)∧execOp a.eval {dst:=dst,op:=.call c,type:=ty,pos:=pos,after:=after,guard:=guard}=callFunc f vs.toArray:=by
 obtain⟨g1,g2⟩:=trAs_spec hev hl
 have g1:(l.map (rho G fr)).length=(c.args.toList.map a.eval).length:=by simpa using g1
 have hr:=hev x pa hpa
 simp only[POp.callee]at hc
 split at hc
 case h_2=>cases hc
 rename_i f' caps hclo
 rw[hclo]at hr
 generalize hxv:a.eval x=xv at hr
 cases hr with
 |clo _ _ us hlen hus=>
  by_cases hlt:f'<5000000
  ·rw[if_pos hlt]at hc
   simp only[Option.some.injEq,Prod.mk.injEq]at hc
   obtain⟨rfl,rfl⟩:=hc
   rw[fnOf_lt hlt,firstOf_lt hlt,capsOf_lt hlt]at hxv
   refine⟨c.args.toList.map a.eval++us,by rw[List.length_append,List.length_append,g1,hlen],rep_append g1 g2 hus,?_⟩
   simp only[execOp,resolve,hcal,hxv,Deferred.ofValue]
   have:(c.args.toList.map a.eval++us).toArray=c.args.map a.eval++us.toArray:=by
    apply Array.ext'
    simp
   rw[this]
   simp only[Array.empty_append]
   show(do let d ← (pure {target:=Target.fn (Fn.func f') us.toArray,args:=c.args.map a.eval}:Sem Deferred); invoke d.target d.args)=_
   show invoke (Target.fn (Fn.func f') us.toArray) (c.args.map a.eval)=_
   simp[invoke]
  ·rw[if_neg hlt]at hc
   split at hc
   case isFalse=>cases hc
   rename_i hlt2
   simp only[Option.some.injEq,Prod.mk.injEq]at hc
   obtain⟨rfl,rfl⟩:=hc
   obtain⟨f,rfl⟩:∃ f,f'=f+5000000:=⟨f' - 5000000,by omega⟩
   have hf:f<5000000:=by omega
   rw[fnOf_bnd hf,firstOf_bnd hf,capsOf_bnd hf]at hxv
   rw[Nat.add_sub_cancel]
   refine⟨us++c.args.toList.map a.eval,by rw[List.length_append,List.length_append,g1,hlen],rep_append hlen hus g2,?_⟩
   simp only[execOp,resolve,hcal,hxv,Deferred.ofValue]
   have:(us++c.args.toList.map a.eval).toArray=us.toArray++c.args.map a.eval:=by
    apply Array.ext'
    simp
   rw[this]
   show(do let d ← (pure {target:=Target.fn (Fn.func f) #[],args:=us.toArray++c.args.map a.eval}:Sem Deferred); invoke d.target d.args)=_
   show invoke (Target.fn (Fn.func f) #[]) (us.toArray++c.args.map a.eval)=_
   simp[invoke]
theorem sim_call(c:Call){dst:Option Tmp}{ty:TypeId}{pos:String}{after:Array Edge}{guard:Option (Nat×Bool)}{G:Glob}{T:Tbl}{fr:Frame}{p:POp}(hT:TblOK P G T)(hS:SR base w g st)(hG:GlobOK G w g)(hF:FR w g st fr a)(ht:trOp P il (.call c)=some p)(hny:∀ x args f caps,p=.callv x args→rho G fr x=.clo f caps→f<10000000)
  (hx:p.exec T (rho G fr) st=some (d,st')) (hn:∀ v w' g',Go1 base w g st w' g' st'→RepV w' g' st' d v→next (a.put dst v) w'):Oper.wp P {dst:=dst,op:=.call c,type:=ty,pos:=pos,after:=after,guard:=guard} a w next Q:=by
 have hev:∀ x pa,trA x=some pa→RepV w g st (rho G fr pa) (a.eval x):=fun x pa h=>trA_rep hG hF h
 clear hF
 simp only[trOp]at ht
 split at ht
 ·rename_i b hb
  -- a builtin
  have hargs:∀ l,c.args.toList=l→c.args=l.toArray:=fun l h=>by rw[← h,Array.toArray_toList]
  have hts:∀ l,c.argTypes.toList=l→c.argTypes=l.toArray:=fun l h=>by rw[← h,Array.toArray_toList]
  unfold trBuiltin at ht
  split at ht
  ·rename_i x t e1 e2
   have e1:=hargs _ e1
   have e2:=hts _ e2
   have hexec:execOp a.eval {dst:=dst,op:=.call c,type:=ty,pos:=pos,after:=after,guard:=guard}=(do pure (.value (← Builtin.len_ #[t] ty #[a.eval x]))):=by
    simp[execOp,resolve,hb,e1,e2,invoke,builtin]
   split at ht
   ·rename_i pa h1 hu
    simp only[Option.some.injEq]at ht; subst ht
    simp only[POp.exec]at hx
    split at hx
    case isFalse=>cases hx
    rename_i hst
    simp only[Option.map_eq_some_iff,Prod.mk.injEq]at hx
    obtain⟨n,h5,rfl,rfl⟩:=hx
    refine wp_still hS hexec (sLen_run (.inl hu) ⟨fun _=>?_,fun _=>hu⟩ h5 (hev x pa h1) ty) (.int _ _) hn
    cases hp:rho G fr pa <;> simp[hp,isStr]at hst
    exact⟨_,rfl⟩
   ·rename_i pa e h1 hu
    simp only[Option.some.injEq]at ht; subst ht
    simp only[POp.exec]at hx
    split at hx
    case isFalse=>cases hx
    rename_i hst
    simp only[Option.map_eq_some_iff,Prod.mk.injEq]at hx
    obtain⟨n,h5,rfl,rfl⟩:=hx
    refine wp_still hS hexec (sLen_run (.inr ⟨e,hu⟩) ⟨(by intro h; rw[hu]at h; cases h),fun⟨s,hs⟩=>?_⟩ h5 (hev x pa h1) ty) (.int _ _) hn
    simp[hs,isStr]at hst
   ·rename_i pa n e h1 hu
    simp only[Option.some.injEq]at ht; subst ht
    simp only[POp.exec,Option.some.injEq,Prod.mk.injEq]at hx
    obtain⟨rfl,rfl⟩:=hx
    refine wp_still hS hexec ?_ (.int _ _) hn
    simp[Builtin.len_,run_underlying hu,goInt]
   ·cases ht
  ·rename_i s x t tx e1 e2
   have e1:=hargs _ e1
   have e2:=hts _ e2
   have hexec:execOp a.eval {dst:=dst,op:=.call c,type:=ty,pos:=pos,after:=after,guard:=guard}=(do pure (.value (← Builtin.append_ #[t,tx] ty #[a.eval s,a.eval x]))):=by
    simp[execOp,resolve,hb,e1,e2,invoke,builtin]
   have fin:∀ ps px e,trA s=some ps→trA x=some px→P.underlying t=some (.slice e)→((∃ e',P.underlying tx=some (.slice e'))∨P.underlying tx=some .string)→(match P.info? e with
    |some i=>match i.zero with
     |some z=>if z.cells.size=i.size then some (POp.app i.size i.bytes ps px)else none
     |none=>none
    |none=>none)=some p→Oper.wp P {dst:=dst,op:=.call c,type:=ty,pos:=pos,after:=after,guard:=guard} a w next Q:=by
    intro ps px e h1 h2 hu hux hp
    split at hp
    case h_2=>cases hp
    rename_i i hi
    split at hp
    case h_2=>cases hp
    rename_i z hz
    split at hp
    case isFalse=>cases hp
    rename_i hzs
    simp only[Option.some.injEq]at hp; subst hp
    simp only[POp.exec]at hx
    exact wp_val hexec (papp_run hS hu hux hi hz rfl rfl hzs hx (hev s ps h1) (hev x px h2)) hn
   split at ht
   ·rename_i ps px e e' h1 h2 hu hux
    exact fin ps px e h1 h2 hu (.inl ⟨e',hux⟩) ht
   ·rename_i ps px e h1 h2 hu hux
    exact fin ps px e h1 h2 hu (.inr hux) ht
   ·cases ht
  ·rename_i x y t t2 e1 e2
   have e1:=hargs _ e1
   have e2:=hts _ e2
   split at ht
   case h_2=>cases ht
   rename_i px py e h1 h2 hu
   split at ht
   case h_2=>cases ht
   rename_i hs1
   simp only[Option.some.injEq]at ht; subst ht
   simp only[POp.exec]at hx
   exact wp_val (s:=Builtin.copy_ #[t,t2] ty #[a.eval x,a.eval y]) (by simp[execOp,resolve,hb,e1,e2,invoke,builtin]) (cpy_run hS hu hs1 (hev x px h1) (hev y py h2) hx) hn
  ·rename_i x y e1
   have e1:=hargs _ e1
   split at ht
   case h_2=>cases ht
   rename_i px py h1 h2
   simp only[Option.some.injEq]at ht; subst ht
   simp only[POp.exec]at hx
   split at hx
   case h_2=>cases hx
   rename_i k n k' m hp1 hp2
   simp only[Option.some.injEq,Prod.mk.injEq]at hx
   obtain⟨rfl,rfl⟩:=hx
   have r1:=hev x px h1
   have r2:=hev y py h2
   rw[hp1]at r1
   rw[hp2]at r2
   have q1:=int_inv r1
   have q2:=int_inv r2
   refine wp_still (s:=Builtin.min_ c.argTypes ty #[a.eval x,a.eval y]) hS ?_ ?_ (.int k (if m<n then m else n)) hn
   ·simp[execOp,resolve,hb,e1,invoke,builtin]
   ·simp[Builtin.min_,q1,q2,Builtin.min2]
  ·rename_i x y e1
   have e1:=hargs _ e1
   split at ht
   case h_2=>cases ht
   rename_i px py h1 h2
   simp only[Option.some.injEq]at ht; subst ht
   simp only[POp.exec]at hx
   split at hx
   case h_2=>cases hx
   rename_i k n k' m hp1 hp2
   simp only[Option.some.injEq,Prod.mk.injEq]at hx
   obtain⟨rfl,rfl⟩:=hx
   have r1:=hev x px h1
   have r2:=hev y py h2
   rw[hp1]at r1
   rw[hp2]at r2
   have q1:=int_inv r1
   have q2:=int_inv r2
   refine wp_still (s:=Builtin.max_ c.argTypes ty #[a.eval x,a.eval y]) hS ?_ ?_ (.int k (if m > n then m else n)) hn
   ·simp[execOp,resolve,hb,e1,invoke,builtin]
   ·simp[Builtin.max_,q1,q2,Builtin.max2]
  ·rename_i x y z e1
   have e1:=hargs _ e1
   split at ht
   case h_2=>cases ht
   rename_i px py pz h1 h2 h3
   simp only[Option.some.injEq]at ht; subst ht
   simp only[POp.exec]at hx
   split at hx
   case h_2=>cases hx
   rename_i k n k' m k2 l hp1 hp2 hp3
   simp only[Option.some.injEq,Prod.mk.injEq]at hx
   obtain⟨rfl,rfl⟩:=hx
   have r1:=hev x px h1
   have r2:=hev y py h2
   have r3:=hev z pz h3
   rw[hp1]at r1
   rw[hp2]at r2
   rw[hp3]at r3
   have q1:=int_inv r1
   have q2:=int_inv r2
   have q3:=int_inv r3
   refine wp_still (s:=Builtin.min_ c.argTypes ty #[a.eval x,a.eval y,a.eval z]) hS ?_ ?_ (.int k (mm1 false (mm1 false n m) l)) hn
   ·simp[execOp,resolve,hb,e1,invoke,builtin]
   ·simp[Builtin.min_,q1,q2,q3,Builtin.min2,mm1]
  ·rename_i x y z e1
   have e1:=hargs _ e1
   split at ht
   case h_2=>cases ht
   rename_i px py pz h1 h2 h3
   simp only[Option.some.injEq]at ht; subst ht
   simp only[POp.exec]at hx
   split at hx
   case h_2=>cases hx
   rename_i k n k' m k2 l hp1 hp2 hp3
   simp only[Option.some.injEq,Prod.mk.injEq]at hx
   obtain⟨rfl,rfl⟩:=hx
   have r1:=hev x px h1
   have r2:=hev y py h2
   have r3:=hev z pz h3
   rw[hp1]at r1
   rw[hp2]at r2
   rw[hp3]at r3
   have q1:=int_inv r1
   have q2:=int_inv r2
   have q3:=int_inv r3
   refine wp_still (s:=Builtin.max_ c.argTypes ty #[a.eval x,a.eval y,a.eval z]) hS ?_ ?_ (.int k (mm1 true (mm1 true n m) l)) hn
   ·simp[execOp,resolve,hb,e1,invoke,builtin]
   ·simp[Builtin.max_,q1,q2,q3,Builtin.max2,mm1]
  ·cases ht
 ·rename_i f hf
  split at ht
  case h_2=>cases ht
  rename_i fn l hfn hl
  have hex:execOp a.eval {dst:=dst,op:=.call c,type:=ty,pos:=pos,after:=after,guard:=guard}=callFunc f (c.args.toList.map a.eval).toArray:=by
   simp only[execOp,resolve,hf,Act.eval,Deferred.ofValue]
   have:(c.args.toList.map a.eval).toArray=c.args.map a.eval:=by
    apply Array.ext'
    simp
   rw[this]
   simp only[Array.empty_append]
   show(do let d ← (pure {target:=Target.fn (Fn.func f) #[],args:=c.args.map a.eval}:Sem Deferred); invoke d.target d.args)=_
   show invoke (Target.fn (Fn.func f) #[]) (c.args.map a.eval)=_
   simp[invoke]
  obtain⟨g1,g2⟩:=trAs_spec hev hl
  split at ht
  case isFalse=>
   split at ht
   case isTrue=>cases ht
   simp only[Option.some.injEq]at ht
   subst ht
   simp only[POp.exec]at hx
   split at hx
   case h_2=>cases hx
   rename_i sp ys hsp hys
   split at hx
   case h_2=>cases hx
   rename_i r hr
   simp only[Option.some.injEq,Prod.mk.injEq]at hx
   obtain⟨rfl,rfl⟩:=hx
   rcases hT.p _ _ hsp with⟨hC,_⟩ | ⟨f',e,hE⟩
   ·omega
   ·obtain rfl:f=f':=Nat.add_right_cancel e
    exact ext_sim hS hE hys hr (by simpa using g1) g2 hex hn
  rename_i hc
  simp only[Bool.and_eq_true,Bool.not_eq_true',decide_eq_true_eq]at hc
  simp only[Option.some.injEq]at ht
  split at ht
  ·subst ht
   simp only[POp.exec]at hx
   split at hx
   case h_2=>cases hx
   rename_i sp hsp
   split at hx
   case h_2=>cases hx
   rename_i r hr
   refine icall_simC (hT.m f sp hsp) hS hG (ds:=l.map (rho G fr)) (vs:=c.args.toList.map a.eval) (r:=d) (st':=st') ?_ (by simpa using g1) g2 hex hn
   simp only[hr,Option.map_some]
   exact hx
  split at ht
  ·subst ht
   simp only[POp.exec]at hx
   split at hx
   case h_2=>cases hx
   rename_i sp hsp
   exact icall_simC (hT.q f sp hsp) hS hG (ds:=l.map (rho G fr)) (vs:=c.args.toList.map a.eval) (r:=d) (st':=st') hx (by simpa using g1) g2 hex hn
  split at ht
  ·subst ht
   simp only[POp.exec]at hx
   split at hx
   case h_2=>cases hx
   rename_i sp hsp
   exact icall_sim hT hS hG (ds:=l.map (rho G fr)) (vs:=c.args.toList.map a.eval) hsp hx (by simpa using g1) g2 hex hn
  ·subst ht
   simp only[POp.exec]at hx
   split at hx
   case h_2=>cases hx
   rename_i sp ys hsp hys
   split at hx
   case h_2=>cases hx
   rename_i r hr
   simp only[Option.some.injEq,Prod.mk.injEq]at hx
   obtain⟨rfl,rfl⟩:=hx
   exact call_sim hT hS hG (ds:=l.map (rho G fr)) (vs:=c.args.toList.map a.eval) hfn hc.1.1 hc.1.2 hc.2 hsp hys hr (by simpa using g1) g2 hex hn
 ·rename_i x hnf hcal
  split at ht
  case h_2=>cases ht
  rename_i pa l hpa hl
  simp only[Option.some.injEq]at ht; subst ht
  simp only[POp.exec]at hx
  split at hx
  case h_2=>cases hx
  rename_i f caps hclo
  have hlt2:=hny _ _ _ _ rfl hclo
  by_cases hlt:f<5000000
  ·rw[if_pos hlt]at hx
   split at hx
   case h_2=>cases hx
   rename_i sp hsp
   obtain⟨vs,e1,e2,e3⟩:=callv_exec (dst:=dst) (ty:=ty) (pos:=pos) (after:=after) (guard:=guard) hev hcal hpa hl (show(POp.callv pa l).callee (rho G fr)=some (f,l.map (rho G fr)++caps) by simp[POp.callee,hclo,hlt])
   exact icall_sim hT hS hG hsp hx e1 e2 e3 hn
  ·rw[if_neg hlt,if_pos hlt2]at hx
   split at hx
   case h_2=>cases hx
   rename_i sp hsp
   obtain⟨vs,e1,e2,e3⟩:=callv_exec (dst:=dst) (ty:=ty) (pos:=pos) (after:=after) (guard:=guard) hev hcal hpa hl (show(POp.callv pa l).callee (rho G fr)=some (f - 5000000,caps++l.map (rho G fr)) by simp[POp.callee,hclo,hlt,hlt2])
   exact icall_sim hT hS hG hsp hx e1 e2 e3 hn
 ·cases ht
theorem sim_makeFunc(fn:Fn)(first caps:Array Operand){dst:Option Tmp}{ty:TypeId}{pos:String}{after:Array Edge}{guard:Option (Nat×Bool)}{G:Glob}{T:Tbl}{fr:Frame}{p:POp}(_hT:TblOK P G T)(hS:SR base w g st)(hG:GlobOK G w g)(hF:FR w g st fr a)(ht:trOp P il (.makeFunc fn first caps)=some p)
  (hx:p.exec T (rho G fr) st=some (d,st')) (hn:∀ v w' g',Go1 base w g st w' g' st'→RepV w' g' st' d v→next (a.put dst v) w'):Oper.wp P {dst:=dst,op:=.makeFunc fn first caps,type:=ty,pos:=pos,after:=after,guard:=guard} a w next Q:=by
 have hev:∀ x pa,trA x=some pa→RepV w g st (rho G fr pa) (a.eval x):=fun x pa h=>trA_rep hG hF h
 clear hF
 cases fn with
 |func f=>
  simp only[trOp]at ht
  split at ht
  case isFalse=>cases ht
  rename_i hlt
  simp only[decide_eq_true_eq]at hlt
  split at ht
  ·rename_i hf
   simp only[Option.map_eq_some_iff]at ht
   obtain⟨l,hl,rfl⟩:=ht
   simp only[POp.exec,Option.some.injEq,Prod.mk.injEq]at hx
   obtain⟨rfl,rfl⟩:=hx
   obtain⟨g1,g2⟩:=trAs_spec hev hl
   refine wp_still (s:=Instr.makeFunc (.func f) (first.map a.eval) (caps.map a.eval)) hS rfl (v:=.func (fnOf f) (firstOf f (caps.toList.map a.eval)) (capsOf f (caps.toList.map a.eval))) ?_ (.clo f _ _ (by simpa using g1) g2) hn
   rw[fnOf_lt hlt,firstOf_lt hlt,capsOf_lt hlt]
   have h1:first.map a.eval=#[]:=by
    have:first=#[]:=by simpa using hf
    rw[this]; simp
   have h2:caps.map a.eval=(caps.toList.map a.eval).toArray:=by
    apply Array.ext'
    simp
   rw[h1,h2]
   rfl
  ·split at ht
   case isFalse=>cases ht
   rename_i hf
   simp only[Option.map_eq_some_iff]at ht
   obtain⟨l,hl,rfl⟩:=ht
   simp only[POp.exec,Option.some.injEq,Prod.mk.injEq]at hx
   obtain⟨rfl,rfl⟩:=hx
   obtain⟨g1,g2⟩:=trAs_spec hev hl
   refine wp_still (s:=Instr.makeFunc (.func f) (first.map a.eval) (caps.map a.eval)) hS rfl (v:=.func (fnOf (f+5000000)) (firstOf (f+5000000) (first.toList.map a.eval)) (capsOf (f+5000000) (first.toList.map a.eval))) ?_ (.clo (f+5000000) _ _ (by simpa using g1) g2) hn
   rw[fnOf_bnd hlt,firstOf_bnd hlt,capsOf_bnd hlt]
   have h1:caps.map a.eval=#[]:=by
    have:caps=#[]:=by simpa using hf
    rw[this]; simp
   have h2:first.map a.eval=(first.toList.map a.eval).toArray:=by
    apply Array.ext'
    simp
   rw[h1,h2]
   rfl
 |_=>simp[trOp]at ht
def Wr(r:Option Nat):Fence:={Fence.wide with round:=r}
theorem wpIn_of_wp{r:Option Nat}(hd:∀ c,o.op≠.defer c)(h:o.wp P a w next Q):o.wpIn (Wr r) 0 P a w next Q:=by
 refine⟨fun _ _=>trivial,?_⟩
 rw[Oper.semAt_eq _ _ _ hd]
 unfold Oper.wp at h
 generalize (execOp a.eval o).run P w=x at h ⊢
 cases x with
 |ok n w'=>
  cases n <;> simp only[Oper.upon]at h <;> simp only[Oper.uponIn] <;> first
   |exact h
   |exact h.elim
   |exact⟨(fun e=>by cases e),callsIn_wide.2 h⟩
   |exact⟨(fun e=>by cases e),fun c cs _=>let⟨v,w',r,s⟩:=h c cs; ⟨v,w',r,stepsIn_wide.2 s⟩⟩
 |halt x w'=>cases x <;> simp only[Oper.upon]at h <;> simp only[Oper.uponIn] <;> first | exact h | exact h.elim
theorem YOK.none{G:Glob}{w0:World}{g0:Ghost}{st0:St}:YOK P G (fun _ _ _=>none) base w0 g0 st0:=fun _ _ _ _ _ _ _ _ _ _ h=>by cases h
theorem yield_sim{r:Option Nat}{c:Call}{x:Operand}{l:Nat}{vs:List Value}(hop:o.op=.call c)(hc:c.callee=.value x)(hx:a.eval x=.func (.yield l) #[] #[])(hvs:c.args.toList.map a.eval=vs)
  (h:YieldRuns P base w g st st' l vs d) (hn:∀ v w' g',Go1 base w g st w' g' st'→RepV w' g' st' d v→next (a.put o.dst v) w'):o.wpIn (Wr r) 0 P a w next Q:=by
 obtain⟨f,tmps,assign,body,h1,h2⟩:=h
 refine⟨fun _ _=>trivial,?_⟩
 rw[Oper.semAt_eq _ _ _ (fun c' e=>by rw[hop]at e; cases e)]
 have hex:execOp a.eval o=Instr.yield l vs.toArray:=by
  obtain⟨dst,op,ty,pos,after,guard⟩:=o
  simp only at hop
  subst hop
  have h3:vs.toArray=c.args.map a.eval:=by
   apply Array.ext'
   simp[← hvs]
  simp only[execOp,resolve,hc,hx,Deferred.ofValue,h3,Array.empty_append]
  show invoke (Target.fn (Fn.yield l) #[]) (c.args.map a.eval)=_
  simp[invoke]
 rw[hex,h1,Oper.uponIn_round]
 refine⟨(fun e=>by cases e),?_⟩
 refine RoundIn.mono (F:=Wr r) (n:=0) h2 ?_
 rintro e w' ⟨v,g',rfl,h3,h4⟩
 exact hn v w' g' h3 h4
theorem op_sim{G:Glob}{T:Tbl}{fr:Frame}{p:POp}(hT:TblOK P G T)(hS:SR base w g st)(hG:GlobOK G w g)(hF:FR w g st fr a)(ht:trOp P il o.op=some p)(hny:∀ x args f caps,p=.callv x args→rho G fr x=.clo f caps→f<10000000)(hx:p.exec T (rho G fr) st=some (d,st'))
  (hn:∀ v w' g',Go1 base w g st w' g' st'→RepV w' g' st' d v→next (a.put o.dst v) w'):o.wp P a w next Q:=by
 obtain⟨dst,op,ty,pos,after,guard⟩:=o
 cases op with
 |move x=>exact sim_move x hT hS hG hF ht hx hn
 |assign x=>exact sim_assign x hT hS hG hF ht hx hn
 |pick c x y=>exact sim_pick c x y hT hS hG hF ht hx hn
 |alloc t=>exact sim_alloc t hT hS hG hF ht hx hn
 |box t x=>exact sim_box t x hT hS hG hF ht hx hn
 |build t parts=>exact sim_build t parts hT hS hG hF ht hx hn
 |buildSlice t len parts=>exact sim_buildSlice t len parts hT hS hG hF ht hx hn
 |load t x=>exact sim_load t x hT hS hG hF ht hx hn
 |store t x y=>exact sim_store t x y hT hS hG hF ht hx hn
 |nilCheck x=>exact sim_nilCheck x hT hS hG hF ht hx hn
 |binOp op t x y yt=>exact sim_binOp op t x y yt hT hS hG hF ht hx hn
 |unOp op t x=>exact sim_unOp op t x hT hS hG hF ht hx hn
 |convert src dt x=>exact sim_convert src dt x hT hS hG hF ht hx hn
 |makeSlice t l c=>exact sim_makeSlice t l c hT hS hG hF ht hx hn
 |slice t x lo hi mx=>exact sim_slice t x lo hi mx hT hS hG hF ht hx hn
 |fieldAddr s x f=>exact sim_fieldAddr s x f hT hS hG hF ht hx hn
 |field s x f=>exact sim_field s x f hT hS hG hF ht hx hn
 |indexAddr t x i=>exact sim_indexAddr t x i hT hS hG hF ht hx hn
 |index t x i=>exact sim_index t x i hT hS hG hF ht hx hn
 |extract x i=>exact sim_extract x i hT hS hG hF ht hx hn
 |mapUpdate t m k v=>exact sim_mapUpdate t m k v hT hS hG hF ht hx hn
 |insert t m k v=>exact sim_insert t m k v hT hS hG hF ht hx hn
 |lookup t m k ok=>exact sim_lookup t m k ok hT hS hG hF ht hx hn
 |makeMap t rs=>exact sim_makeMap t rs hT hS hG hF ht hx hn
 |call c=>exact sim_call c hT hS hG hF ht hny hx hn
 |makeFunc fn first caps=>exact sim_makeFunc fn first caps hT hS hG hF ht hx hn
 |_=>simp[trOp]at ht
theorem op_simIn{G:Glob}{T:Tbl}{fr:Frame}{p:POp}{r:Option Nat}{w0:World}{g0:Ghost}{st0:St}(hT:TblOK P G T)(hY:YOK P G T.y base w0 g0 st0)(hgo:Go1 base w0 g0 st0 w g st)(hG:GlobOK G w g)(hF:FR w g st fr a)(ht:trOp P il o.op=some p)(hx:p.exec T (rho G fr) st=some (d,st'))
  (hn:∀ v w' g',Go1 base w g st w' g' st'→RepV w' g' st' d v→next (a.put o.dst v) w'):o.wpIn (Wr r) 0 P a w next Q:=by
 have hnd:∀ c,o.op≠.defer c:=fun c e=>by rw[e]at ht; simp[trOp]at ht
 by_cases hc:∃ x args f caps,p=.callv x args∧rho G fr x=.clo f caps∧¬ f<10000000
 ·obtain⟨x,args,f,caps,rfl,hclo,hlt⟩:=hc
  have hlt5:¬ f<5000000:=by omega
  simp only[POp.exec,hclo,if_neg hlt,if_neg hlt5]at hx
  split at hx
  case isFalse=>cases hx
  rename_i hce
  obtain rfl:caps=[]:=by simpa using hce
  have hinv:∃ c xo,o.op=.call c∧c.callee=.value xo∧trA xo=some x∧trAs c.args.toList=some args:=by
   clear hn hx hnd
   generalize o.op=op at ht
   cases op with
   |call c=>
    simp only[trOp]at ht
    split at ht
    ·rename_i b hb
     unfold trBuiltin at ht
     repeat' split at ht
     all_goals first | cases ht | (simp at ht; done) | skip
    ·split at ht
     case h_2=>cases ht
     split at ht
     case isFalse=>
      split at ht <;> cases ht
     simp only[Option.some.injEq]at ht
     split at ht
     ·cases ht
     ·split at ht
      ·cases ht
      ·split at ht <;> cases ht
    ·rename_i xo hnf hcal
     split at ht
     case h_2=>cases ht
     rename_i pa l hpa hl
     simp only[Option.some.injEq,POp.callv.injEq]at ht
     obtain⟨rfl,rfl⟩:=ht
     exact⟨c,xo,rfl,hcal,hpa,hl⟩
    ·cases ht
   |_=>exfalso; revert ht; simp only[trOp,trBin,trConv,trSlice]; (repeat' split) <;> first | (simp; done) | (intro h; cases h; done) | (intro h; simp only[Option.map_eq_some_iff]at h; obtain⟨_,_,h⟩:=h; cases h; done) | (intro _; contradiction)
  obtain⟨c,xo,h1,h2,h4,h5⟩:=hinv
  have hr:=trA_rep hG hF h4
  rw[hclo]at hr
  obtain⟨e1,e2⟩:=trAs_spec (fun x pa h=>trA_rep (G:=G) hG hF h) h5
  generalize hxv:a.eval xo=xv at hr
  cases hr with
  |clo _ _ us hlen hus=>
   obtain rfl:us=[]:=List.eq_nil_of_length_eq_zero hlen.symm
   rw[firstOf_nil,capsOf_nil]at hxv
   unfold fnOf at hxv
   rw[if_neg hlt5,if_neg hlt]at hxv
   refine yield_sim (vs:=c.args.toList.map a.eval) h1 h2 hxv rfl (hY _ w g st st' _ _ d hgo hG hx (by simpa using e1) e2) hn
 ·refine wpIn_of_wp hnd ?_
  exact op_sim hT hgo.sr hG hF ht (fun x args f caps e1 e2=>Classical.byContradiction fun e3=>hc ⟨x,args,f,caps,e1,e2,e3⟩) hx hn
end
end Go.Proofs.YtfbbaceiimdejaaGreatDoor.PI
namespace Go.Proofs.YtfbbaceiimdejaaGreatDoor.PI
open Go Go.RowKit
def POp.cls:POp→Nat
 |.mov _ | .pick _ _ _ | .bld _ _ | .bin _ _ _ | .beq _ _ _ | .aeq _ _ _ _ | .un _ _ | .sliceA _ _ _ _ _ _ | .fldv _ _ _ _ | .idx _ _ | .idxV _ _ _ _ _ | .lenA _ | .mm _ _ _ | .mm3 _ _ _ _ | .ext _ _ | .mkclo _ _=>0
 |.conv c _=>match c with
  |.str=>1
  |_=>0
 |.load _ _ _ | .nilc _ | .slice _ _ _ _ _ | .fld _ _ | .idxS _ _ _ | .idxA _ _ _ _ | .len _ _ | .mapget _ _ _ _ _ _ | .rcall _ _=>1
 |.bslc _ _ | .call _ _=>2
 |.box _ | .stor _ _ _ | .mkslc _ _ _ _ _ | .app _ _ _ _ | .icall _ _ | .mcall _ _ | .callv _ _ | .mkmap _ | .mapup _ _ _ _ _ | .cpy _ _ _ | .fail=>3
def PA.slot:PA→List Nat
 |.s n=>[n]
 |_=>[]
def PI.reads(i:PI):List Nat:=i.op.args.flatMap PA.slot++(optL i.guard).map (·.1)
def POp.push:POp→Bool
 |.box _ | .mkslc _ _ _ _ _=>true
 |_=>false
def mapPair(x y:POp):Bool:=match x,y with
 |.mapup sz ks _ (.c (.int k a)) _,.mapup sz' ks' _ (.c (.int k' b)) _=>sz == sz' && ks == [0] && ks' == [0] && mS sz == 2 && a != b && decide (k=.i64) && decide (k'=.i64)
 |_,_=>false
def PI.apart(x y:PI):Bool:=
 (match x.dst with
  |some d=>!(y.reads.contains d) && y.dst != some d
  |none=>true) &&
 (match y.dst with
  |some d=>!(x.reads.contains d)
  |none=>true) &&
 (x.op.cls == 0 || y.op.cls == 0 || (decide (x.op.cls≤2) && (decide (y.op.cls≤2) || y.op.push)) || mapPair x.op y.op)
theorem map_congr_mem{α β:Type}{f g:α→β}:∀ {l:List α},(∀ x∈l,f x=g x)→l.map f=l.map g:=fun h=>List.map_congr_left h
theorem exec_congr{T:Tbl}{ρ ρ':PA→D}{st:St}(p:POp)(h:∀ x∈p.args,ρ x=ρ' x):p.exec T ρ st=p.exec T ρ' st:=by
 have opt:∀ (o:Option PA),(∀ x∈optL o,ρ x=ρ' x)→o.map ρ=o.map ρ':=by
  intro o ho
  cases o with
  |none=>rfl
  |some x=>simp[ho x (by simp[optL])]
 cases p with
 |bld zero parts=>
  have:(parts.map fun p=>(p.1,p.2.1,ρ p.2.2))=parts.map fun p=>(p.1,p.2.1,ρ' p.2.2):=map_congr_mem fun q hq=>by
   rw[h q.2.2 (by simp only[POp.args,List.mem_map]; exact⟨q,hq,rfl⟩)]
  simp only[POp.exec,this]
 |bslc sz parts=>
  have:parts.map ρ=parts.map ρ':=map_congr_mem fun q hq=>h q hq
  simp only[POp.exec,this]
 |call f args=>
  have:args.map ρ=args.map ρ':=map_congr_mem fun q hq=>h q hq
  simp only[POp.exec,this]
 |icall f args=>
  have:args.map ρ=args.map ρ':=map_congr_mem fun q hq=>h q hq
  simp only[POp.exec,this]
 |mcall f args=>
  have:args.map ρ=args.map ρ':=map_congr_mem fun q hq=>h q hq
  simp only[POp.exec,this]
 |rcall f args=>
  have:args.map ρ=args.map ρ':=map_congr_mem fun q hq=>h q hq
  simp only[POp.exec,this]
 |mkclo f args=>
  have:args.map ρ=args.map ρ':=map_congr_mem fun q hq=>h q hq
  simp only[POp.exec,this]
 |callv x args=>
  have:args.map ρ=args.map ρ':=map_congr_mem fun q hq=>h q (by simp[POp.args,hq])
  simp only[POp.exec,this,h x (by simp[POp.args])]
 |slice sz x lo hi mx=>
  simp only[POp.args,List.mem_cons,List.mem_append]at h
  simp only[POp.exec,h x (.inl rfl),opt lo (fun y hy=>h y (.inr (.inl (.inl hy)))),opt hi (fun y hy=>h y (.inr (.inl (.inr hy)))),opt mx (fun y hy=>h y (.inr (.inr hy)))]
 |sliceA n sz ag x lo hi=>
  simp only[POp.args,List.mem_cons,List.mem_append]at h
  simp only[POp.exec,h x (.inl rfl),opt lo (fun y hy=>h y (.inr (.inl hy))),opt hi (fun y hy=>h y (.inr (.inr hy)))]
 |_=>
  simp only[POp.args,List.mem_cons,List.not_mem_nil,or_false,forall_eq_or_imp,forall_eq]at h
  simp only[POp.exec,h]
abbrev lend1(k:Nat)(st:St):St:=st.modify k fun o=>{o with lent:=true}
theorem live_lend1(st:St)(k key tot:Nat):live (lend1 k st) key tot=live st key tot:=by
 unfold live
 rw[modify_get]
 cases st[key]? with
 |none=>rfl
 |some o=>by_cases e:k=key <;> simp[e]
theorem sLen_lend1(st:St)(k:Nat)(d:D):sLen (lend1 k st) d=sLen st d:=by
 cases d <;> simp only[sLen,live_lend1]
theorem pconv_lend1(st:St)(k:Nat)(c:PConv)(d:D):pconv (lend1 k st) c d=pconv st c d:=by
 cases c <;> cases d <;> simp only[pconv,rowEls_lend1]
theorem pslice_lend1(st:St)(k sz:Nat)(x:D)(lo hi mx:Option D):pslice (lend1 k st) sz x lo hi mx=pslice st sz x lo hi mx:=by
 cases x with
 |row key tot off len=>
  simp only[pslice,modify_get]
  cases st[key]? with
  |none=>rfl
  |some o=>by_cases e:k=key <;> simp[e]
 |_=>simp only[pslice]
theorem pidxS_lend1(st:St)(k sz:Nat)(x i:D):pidxS (lend1 k st) sz x i=pidxS st sz x i:=by
 unfold pidxS
 cases natOf i with
 |none=>rfl
 |some j=>
  cases x with
  |row key tot off len=>
   simp only[modify_get]
   cases st[key]? with
   |none=>rfl
   |some o=>by_cases e:k=key <;> simp[e]
  |_=>rfl
theorem pfld_lend1(st:St)(k off:Nat)(x:D):pfld (lend1 k st) off x=pfld st off x:=by
 cases x <;> simp only[pfld,live_lend1]
theorem pidxA_lend1(st:St)(k n sz:Nat)(x i:D):pidxA (lend1 k st) n sz x i=pidxA st n sz x i:=by
 simp only[pidxA,pfld_lend1]
theorem pload_lend1(st:St)(k n:Nat)(ag:Bool)(p:D):pload (lend1 k st) n ag p=pload st n ag p:=by
 cases p with
 |ptr key off=>
  simp only[pload,modify_get]
  cases st[key]? with
  |none=>rfl
  |some o=>by_cases e:k=key <;> simp[e]
 |rptr key tot i off=>
  simp only[pload,modify_get]
  cases st[key]? with
  |none=>rfl
  |some o=>by_cases e:k=key <;> simp[e]
 |_=>simp only[pload]
theorem pmapget_lend1(st:St)(k0 sz:Nat)(ks:List Nat)(ok:Bool)(zero m k:D):pmapget (lend1 k0 st) sz ks ok zero m k=pmapget st sz ks ok zero m k:=by
 cases m with
 |mapv key=>
  simp only[pmapget,modify_get]
  cases st[key]? with
  |none=>rfl
  |some o=>by_cases e:k0=key <;> simp[e,Obj.isMap]
 |_=>simp only[pmapget]
theorem lend1_comm(a b:Nat)(st:St):lend1 a (lend1 b st)=lend1 b (lend1 a st):=by
 apply List.ext_getElem?
 intro i
 simp only[modify_get]
 cases st[i]? with
 |none=>rfl
 |some o=>by_cases e:a=i <;> by_cases e':b=i <;> simp[e,e']
theorem lend_lend1(a:Nat):∀ (ks:List Nat) (st:St),lend ks (lend1 a st)=lend1 a (lend ks st)
 |[],_=>rfl
 |k::r,st=>by
  show lend r (lend1 k (lend1 a st))=lend1 a (lend r (lend1 k st))
  rw[lend1_comm,lend_lend1 a r]
theorem lend_comm:∀ (ks qs:List Nat) (st:St),lend ks (lend qs st)=lend qs (lend ks st)
 |[],_,_=>rfl
 |k::r,qs,st=>by
  show lend r (lend1 k (lend qs st))=lend qs (lend r (lend1 k st))
  rw[← lend_lend1,lend_comm r qs]
theorem get_lend1(st:St)(k key:Nat):((lend1 k st)[key]?).map Obj.see=(st[key]?).map Obj.see:=by
 rw[modify_get]
 cases st[key]? with
 |none=>rfl
 |some o=>by_cases e:k=key <;> simp[e,Obj.see]
theorem sees_lend1(st:St)(k:Nat):∀ l:List Nat,sees (lend1 k st) l=sees st l
 |[]=>rfl
 |a::l=>by simp only[sees,get_lend1,sees_lend1 st k l]
theorem isSome_lend1(st:St)(k key:Nat):((lend1 k st)[key]?).isSome=(st[key]?).isSome:=by
 rw[modify_get]
 cases st[key]? <;> rfl
theorem reads1_lend1(st:St)(k:Nat)(sp:List D→List (Option (Bool×Nat×List D))→Option D)(ds:List D):reads1 sp ds (lend1 k st)=reads1 sp ds st:=by
 unfold reads1
 simp only[isSome_lend1,sees_lend1]
theorem exec_lend1{T:Tbl}{ρ:PA→D}(p:POp)(hc:p.cls≤2)(k:Nat)(st:St):p.exec T ρ (lend1 k st)=(p.exec T ρ st).map fun r=>(r.1,lend1 k r.2):=by
 have mp:∀ {α:Type} (o:Option α) (f:α→D),(o.map fun x=>(f x,lend1 k st))=(o.map fun x=>(f x,st)).map fun r=>(r.1,lend1 k r.2):=by
  intro α o f
  cases o <;> rfl
 cases p with
 |mov x=>rfl
 |pick c x y=>simp only[POp.exec]; split <;> rfl
 |box x=>simp[POp.cls]at hc
 |bld zero parts=>simp only[POp.exec]; exact mp _ _
 |bslc sz parts=>
  simp only[POp.exec,imms_lend1]
  split
  ·split
   ·simp only[Option.map_some,lend_lend1]
   ·rfl
  ·rfl
 |load n ag x=>simp only[POp.exec,pload_lend1]; exact mp _ _
 |stor n p x=>simp[POp.cls]at hc
 |nilc x=>
  simp only[POp.exec,live_lend1]
  split
  ·rfl
  ·rfl
  ·split <;> rfl
  ·rfl
 |bin op x y=>simp only[POp.exec]; exact mp _ _
 |beq neg x y=>simp only[POp.exec]; exact mp _ _
 |aeq ks neg x y=>simp only[POp.exec]; exact mp _ _
 |un op x=>simp only[POp.exec]; exact mp _ _
 |conv c x=>simp only[POp.exec,pconv_lend1]; exact mp _ _
 |mkslc sz bytes zero l c=>simp[POp.cls]at hc
 |slice sz x lo hi mx=>simp only[POp.exec,pslice_lend1]; exact mp _ _
 |sliceA n sz ag x lo hi=>simp only[POp.exec]; exact mp _ _
 |fld off x=>simp only[POp.exec,pfld_lend1]; exact mp _ _
 |fldv off n ag x=>simp only[POp.exec]; exact mp _ _
 |idxS sz x i=>simp only[POp.exec,pidxS_lend1]; exact mp _ _
 |idxA n sz x i=>simp only[POp.exec,pidxA_lend1]; exact mp _ _
 |idx x i=>simp only[POp.exec]; exact mp _ _
 |idxV l sz ag x i=>simp only[POp.exec]; exact mp _ _
 |len str x=>
  simp only[POp.exec,sLen_lend1]
  split
  ·cases sLen st (ρ x) <;> rfl
  ·rfl
 |lenA n=>rfl
 |app sz bytes s x=>simp[POp.cls]at hc
 |mm mx x y=>simp only[POp.exec]; split <;> rfl
 |mm3 mx x y z=>simp only[POp.exec]; split <;> rfl
 |rcall f args=>
  simp only[POp.exec,reads1_lend1]
  split
  ·exact mp _ _
  ·rfl
 |icall f args=>simp[POp.cls]at hc
 |mcall f args=>simp[POp.cls]at hc
 |fail=>simp[POp.cls]at hc
 |mkmap sz=>simp[POp.cls]at hc
 |mapup sz ks m k v=>simp[POp.cls]at hc
 |cpy sz d s=>simp[POp.cls]at hc
 |mapget sz ks ok zero m k=>simp only[POp.exec,pmapget_lend1]; exact mp _ _
 |callv x args=>simp[POp.cls]at hc
 |mkclo f args=>rfl
 |call f args=>
  simp only[POp.exec,imms_lend1]
  split
  ·split
   ·split
    ·rfl
    ·simp only[Option.map_some,lend_lend1]
   ·rfl
  ·rfl
 |ext x i=>
  simp only[POp.exec]
  split
  ·exact mp _ id
  ·rfl
theorem exec_lend{T:Tbl}{ρ:PA→D}(p:POp)(hc:p.cls≤2):∀ (ks:List Nat) (st:St),p.exec T ρ (lend ks st)=(p.exec T ρ st).map fun r=>(r.1,lend ks r.2)
 |[],st=>by cases h:p.exec T ρ st <;> simp[lend,h]
 |k::r,st=>by
  show p.exec T ρ (lend r (lend1 k st))=_
  rw[exec_lend p hc r,exec_lend1 p hc k st]
  cases p.exec T ρ st <;> rfl
theorem exec_form{T:Tbl}{ρ:PA→D}{st st':St}{d:D}(p:POp)(hc:p.cls≤2)(h:p.exec T ρ st=some (d,st')):∃ ks,st'=lend ks st:=by
 have mp:∀ {α:Type} (o:Option α) (f:α→D),(o.map fun x=>(f x,st))=some (d,st')→∃ ks,st'=lend ks st:=by
  intro α o f h
  simp only[Option.map_eq_some_iff,Prod.mk.injEq]at h
  obtain⟨_,_,_,rfl⟩:=h
  exact⟨[],rfl⟩
 cases p with
 |mov x=>simp only[POp.exec,Option.some.injEq,Prod.mk.injEq]at h; exact⟨[],h.2.symm⟩
 |pick c x y=>
  simp only[POp.exec]at h
  split at h
  ·simp only[Option.some.injEq,Prod.mk.injEq]at h; exact⟨[],h.2.symm⟩
  ·cases h
 |box x=>simp[POp.cls]at hc
 |bld zero parts=>simp only[POp.exec]at h; exact mp _ _ h
 |bslc sz parts=>
  simp only[POp.exec]at h
  split at h
  ·split at h
   ·simp only[Option.some.injEq,Prod.mk.injEq]at h; exact⟨_,h.2.symm⟩
   ·cases h
  ·cases h
 |load n ag x=>simp only[POp.exec]at h; exact mp _ _ h
 |stor n p x=>simp[POp.cls]at hc
 |nilc x=>
  simp only[POp.exec]at h
  split at h
  ·simp only[Option.some.injEq,Prod.mk.injEq]at h; exact⟨[],h.2.symm⟩
  ·simp only[Option.some.injEq,Prod.mk.injEq]at h; exact⟨[],h.2.symm⟩
  ·split at h
   ·simp only[Option.some.injEq,Prod.mk.injEq]at h; exact⟨[],h.2.symm⟩
   ·cases h
  ·cases h
 |bin op x y=>simp only[POp.exec]at h; exact mp _ _ h
 |beq neg x y=>simp only[POp.exec]at h; exact mp _ _ h
 |aeq ks neg x y=>simp only[POp.exec]at h; exact mp _ _ h
 |un op x=>simp only[POp.exec]at h; exact mp _ _ h
 |conv c x=>simp only[POp.exec]at h; exact mp _ _ h
 |mkslc sz bytes zero l c=>simp[POp.cls]at hc
 |slice sz x lo hi mx=>simp only[POp.exec]at h; exact mp _ _ h
 |sliceA n sz ag x lo hi=>simp only[POp.exec]at h; exact mp _ _ h
 |fld off x=>simp only[POp.exec]at h; exact mp _ _ h
 |fldv off n ag x=>simp only[POp.exec]at h; exact mp _ _ h
 |idxS sz x i=>simp only[POp.exec]at h; exact mp _ _ h
 |idxA n sz x i=>simp only[POp.exec]at h; exact mp _ _ h
 |idx x i=>simp only[POp.exec]at h; exact mp _ _ h
 |idxV l sz ag x i=>simp only[POp.exec]at h; exact mp _ _ h
 |len str x=>
  simp only[POp.exec]at h
  split at h
  ·exact mp _ (fun n:Nat=>D.int .i64 (n:Int)) h
  ·cases h
 |lenA n=>simp only[POp.exec,Option.some.injEq,Prod.mk.injEq]at h; exact⟨[],h.2.symm⟩
 |app sz bytes s x=>simp[POp.cls]at hc
 |mm mx x y=>
  simp only[POp.exec]at h
  split at h
  ·simp only[Option.some.injEq,Prod.mk.injEq]at h; exact⟨[],h.2.symm⟩
  ·cases h
 |mm3 mx x y z=>
  simp only[POp.exec]at h
  split at h
  ·simp only[Option.some.injEq,Prod.mk.injEq]at h; exact⟨[],h.2.symm⟩
  ·cases h
 |rcall f args=>
  simp only[POp.exec]at h
  split at h
  ·exact mp _ id (by simpa using h)
  ·cases h
 |icall f args=>simp[POp.cls]at hc
 |mcall f args=>simp[POp.cls]at hc
 |fail=>simp[POp.cls]at hc
 |mkmap sz=>simp[POp.cls]at hc
 |mapup sz ks m k v=>simp[POp.cls]at hc
 |cpy sz d s=>simp[POp.cls]at hc
 |mapget sz ks ok zero m k=>simp only[POp.exec]at h; exact mp _ _ h
 |callv x args=>simp[POp.cls]at hc
 |mkclo f args=>simp only[POp.exec,Option.some.injEq,Prod.mk.injEq]at h; exact⟨[],h.2.symm⟩
 |call f args=>
  simp only[POp.exec]at h
  split at h
  ·split at h
   ·simp only[Option.some.injEq,Prod.mk.injEq]at h
    obtain⟨_,rfl⟩:=h
    split
    ·exact⟨[],rfl⟩
    ·exact⟨_,rfl⟩
   ·cases h
  ·cases h
 |ext x i=>
  simp only[POp.exec]at h
  split at h
  ·exact mp _ id h
  ·cases h
theorem exec_pure{T:Tbl}{ρ:PA→D}{st st':St}{d:D}(p:POp)(hc:p.cls=0)(h:p.exec T ρ st=some (d,st')):st'=st∧∀ st2,p.exec T ρ st2=some (d,st2):=by
 have mp:∀ {α:Type} (o:Option α) (f:α→D),(o.map fun x=>(f x,st))=some (d,st')→st'=st∧∀ st2:St,(o.map fun x=>(f x,st2))=some (d,st2):=by
  intro α o f h
  simp only[Option.map_eq_some_iff,Prod.mk.injEq]at h
  obtain⟨x,hx,h1,rfl⟩:=h
  exact⟨rfl,fun st2=>by rw[hx]; simp[h1]⟩
 cases p with
 |mov x=>simp only[POp.exec,Option.some.injEq,Prod.mk.injEq]at h ⊢; exact⟨h.2.symm,fun st2=>⟨h.1,trivial⟩⟩
 |pick c x y=>
  simp only[POp.exec]at h ⊢
  split at h
  ·rename_i b hb
   simp only[Option.some.injEq,Prod.mk.injEq]at h
   exact⟨h.2.symm,fun st2=>by rw[← h.1]⟩
  ·cases h
 |bld zero parts=>simp only[POp.exec]at h ⊢; exact mp _ _ h
 |bin op x y=>simp only[POp.exec]at h ⊢; exact mp _ _ h
 |beq neg x y=>simp only[POp.exec]at h ⊢; exact mp _ _ h
 |aeq ks neg x y=>simp only[POp.exec]at h ⊢; exact mp _ _ h
 |un op x=>simp only[POp.exec]at h ⊢; exact mp _ _ h
 |conv c x=>
  cases c with
  |str=>simp[POp.cls]at hc
  |int k=>
   have e:∀ st2,pconv st2 (.int k) (ρ x)=pconv st (.int k) (ρ x):=fun st2=>by cases ρ x <;> simp only[pconv]
   simp only[POp.exec]at h ⊢
   obtain⟨h1,h2⟩:=mp _ _ h
   exact⟨h1,fun st2=>by rw[e]; exact h2 st2⟩
  |bytes=>
   have e:∀ st2,pconv st2 .bytes (ρ x)=pconv st .bytes (ρ x):=fun st2=>by cases ρ x <;> simp only[pconv]
   simp only[POp.exec]at h ⊢
   obtain⟨h1,h2⟩:=mp _ _ h
   exact⟨h1,fun st2=>by rw[e]; exact h2 st2⟩
  |same=>
   have e:∀ st2,pconv st2 .same (ρ x)=pconv st .same (ρ x):=fun st2=>by cases ρ x <;> simp only[pconv]
   simp only[POp.exec]at h ⊢
   obtain⟨h1,h2⟩:=mp _ _ h
   exact⟨h1,fun st2=>by rw[e]; exact h2 st2⟩
 |sliceA n sz ag x lo hi=>simp only[POp.exec]at h ⊢; exact mp _ _ h
 |fldv off n ag x=>simp only[POp.exec]at h ⊢; exact mp _ _ h
 |idx x i=>simp only[POp.exec]at h ⊢; exact mp _ _ h
 |idxV l sz ag x i=>simp only[POp.exec]at h ⊢; exact mp _ _ h
 |mkclo f args=>simp only[POp.exec,Option.some.injEq,Prod.mk.injEq]at h ⊢; exact⟨h.2.symm,fun st2=>⟨h.1,trivial⟩⟩
 |lenA n=>simp only[POp.exec,Option.some.injEq,Prod.mk.injEq]at h ⊢; exact⟨h.2.symm,fun st2=>⟨h.1,trivial⟩⟩
 |mm mx x y=>
  simp only[POp.exec]at h ⊢
  split at h
  ·simp only[Option.some.injEq,Prod.mk.injEq]at h
   exact⟨h.2.symm,fun st2=>by rw[← h.1]⟩
  ·cases h
 |mm3 mx x y z=>
  simp only[POp.exec]at h ⊢
  split at h
  ·simp only[Option.some.injEq,Prod.mk.injEq]at h
   exact⟨h.2.symm,fun st2=>by rw[← h.1]⟩
  ·cases h
 |ext x i=>
  simp only[POp.exec]at h ⊢
  split at h
  ·exact mp _ id h
  ·cases h
 |_=>simp[POp.cls]at hc
theorem put_comm(fr:Frame){x y:Option Nat}(u v:D)(h:∀ d,x=some d→y≠some d):(fr.put x u).put y v=(fr.put y v).put x u:=by
 cases x with
 |none=>rfl
 |some a=>
  cases y with
  |none=>rfl
  |some b=>
   have hne:a≠b:=fun e=>h a rfl (e ▸ rfl)
   funext t
   simp only[Frame.put,Frame.set]
   by_cases e1:t=a <;> by_cases e2:t=b <;> simp_all
theorem get_push{st:St}{k:Nat}{a:Obj}(o:Obj)(h:st[k]?=some a):(st++[o])[k]?=some a:=by
 rw[List.getElem?_append_left (List.getElem?_eq_some_iff.1 h).1]; exact h
theorem rowEls_push{st:St}{key tot off len:Nat}{r:Nat×List D}(o:Obj)(h:rowEls st key tot off len=some r):rowEls (st++[o]) key tot off len=some r:=by
 unfold rowEls at h ⊢
 split at h
 ·rename_i a ha
  rw[get_push o ha]; exact h
 ·cases h
theorem bslI_push{st:St}{key off n sz:Nat}{ag:Bool}{r:List D}(o:Obj)(h:bslI st key off n sz ag=some r):bslI (st++[o]) key off n sz ag=some r:=by
 unfold bslI bslEls at h ⊢
 cases hk:st[key]? with
 |none=>simp[hk]at h
 |some a=>
  rw[get_push o hk]
  rw[hk]at h
  exact h
theorem imm1_push{st:St}{d y:D}(o:Obj)(h:imm1 st d=some y):imm1 (st++[o]) d=some y:=by
 cases d <;> simp only[imm1]at h ⊢ <;> first
  |exact h
  |(simp only[Option.map_eq_some_iff]at h ⊢
    obtain⟨r,h1,h2⟩:=h
    exact⟨r,rowEls_push o h1,h2⟩)
  |(simp only[Option.map_eq_some_iff]at h ⊢
    obtain⟨r,h1,h2⟩:=h
    exact⟨r,bslI_push o h1,h2⟩)
theorem immL_push{st:St}(o:Obj):∀ {ds ys:List D},immL st ds=some ys→immL (st++[o]) ds=some ys
 |[],ys,h=>h
 |d::l,ys,h=>by
  simp only[immL]at h ⊢
  split at h
  ·rename_i x y hx hy
   rw[imm1_push o hx,immL_push o hy]; exact h
  ·cases h
theorem imm_push{st:St}{d y:D}(o:Obj)(h:imm st d=some y):imm (st++[o]) d=some y:=by
 cases d <;> simp only[imm]at h ⊢ <;> first
  |exact imm1_push o h
  |(simp only[Option.map_eq_some_iff]at h ⊢
    obtain⟨r,h1,h2⟩:=h
    exact⟨r,immL_push o h1,h2⟩)
  |(cases h; done)
theorem imms_push{st:St}(o:Obj):∀ {ds ys:List D},imms st ds=some ys→imms (st++[o]) ds=some ys
 |[],ys,h=>h
 |d::l,ys,h=>by
  simp only[imms]at h ⊢
  split at h
  ·rename_i x y hx hy
   rw[imm_push o hx,imms_push o hy]; exact h
  ·cases h
theorem live_push{st:St}{key tot:Nat}(o:Obj)(h:live st key tot=true):live (st++[o]) key tot=true:=by
 unfold live at h ⊢
 split at h
 ·rename_i a ha
  rw[get_push o ha]; exact h
 ·cases h
theorem sLen_push{st:St}{d:D}{n:Nat}(o:Obj)(h:sLen st d=some n):sLen (st++[o]) d=some n:=by
 cases d <;> simp only[sLen]at h ⊢ <;> first
  |exact h
  |(split at h
    ·rename_i hl
     rw[live_push o hl]; simpa using h
    ·cases h)
theorem pconv_push{st:St}{c:PConv}{d y:D}(o:Obj)(h:pconv st c d=some y):pconv (st++[o]) c d=some y:=by
 cases c <;> cases d <;> simp only[pconv]at h ⊢ <;> first
  |exact h
  |(split at h
    ·rename_i sz els hr
     rw[rowEls_push o hr]; exact h
    ·cases h)
theorem pslice_push{st:St}{sz:Nat}{x y:D}{lo hi mx:Option D}(o:Obj)(h:pslice st sz x lo hi mx=some y):pslice (st++[o]) sz x lo hi mx=some y:=by
 cases x with
 |row key tot off len=>
  simp only[pslice]at h ⊢
  split at h
  ·rename_i a ha
   rw[get_push o ha]; exact h
  ·cases h
 |_=>simpa only[pslice]using h
theorem pidxS_push{st:St}{sz:Nat}{x i y:D}(o:Obj)(h:pidxS st sz x i=some y):pidxS (st++[o]) sz x i=some y:=by
 unfold pidxS at h ⊢
 cases hn:natOf i with
 |none=>simp[hn]at h
 |some j=>
  rw[hn]at h
  cases x with
  |row key tot off len=>
   simp only at h ⊢
   split at h
   ·rename_i a ha
    rw[get_push o ha]; exact h
   ·cases h
  |_=>exact h
theorem pfld_push{st:St}{off:Nat}{x y:D}(o:Obj)(h:pfld st off x=some y):pfld (st++[o]) off x=some y:=by
 cases x <;> simp only[pfld]at h ⊢ <;> first
  |exact h
  |(split at h
    ·rename_i hl
     rw[live_push o hl]; simpa using h
    ·cases h)
theorem pidxA_push{st:St}{n sz:Nat}{x i y:D}(o:Obj)(h:pidxA st n sz x i=some y):pidxA (st++[o]) n sz x i=some y:=by
 unfold pidxA at h ⊢
 cases hn:natOf i with
 |none=>simp[hn]at h
 |some j=>
  rw[hn]at h
  simp only at h ⊢
  split at h
  ·rename_i hj
   rw[if_pos hj]; exact pfld_push o h
  ·cases h
theorem pload_push{st:St}{n:Nat}{ag:Bool}{p y:D}(o:Obj)(h:pload st n ag p=some y):pload (st++[o]) n ag p=some y:=by
 unfold pload at h ⊢
 split at h
 ·cases h
 ·rename_i hc
  rw[if_neg hc]
  cases p with
  |ptr key off=>
   simp only at h ⊢
   split at h
   ·rename_i a ha
    rw[get_push o ha]; exact h
   ·cases h
  |rptr key tot i off=>
   simp only at h ⊢
   split at h
   ·rename_i a ha
    rw[get_push o ha]; exact h
   ·cases h
  |_=>exact h
theorem pmapget_push{st:St}{sz:Nat}{ks:List Nat}{ok:Bool}{zero m k y:D}(o:Obj)(h:pmapget st sz ks ok zero m k=some y):pmapget (st++[o]) sz ks ok zero m k=some y:=by
 unfold pmapget at h ⊢
 cases m with
 |mapv key=>
  simp only at h ⊢
  split at h
  ·rename_i a ha
   rw[get_push o ha]; exact h
  ·cases h
 |_=>exact h
theorem imm1_keys{st:St}{d y:D}(h:imm1 st d=some y):∀ k∈key1 d,k<st.length:=by
 cases d with
 |row key tot off len=>
  simp only[imm1,Option.map_eq_some_iff]at h
  obtain⟨r,h1,_⟩:=h
  unfold rowEls at h1
  split at h1
  ·rename_i a ha
   intro k hk
   simp only[key1,List.mem_singleton]at hk
   subst hk
   exact(List.getElem?_eq_some_iff.1 ha).1
  ·cases h1
 |bsl key off n sz ag=>
  simp only[imm1,Option.map_eq_some_iff]at h
  obtain⟨r,h1,_⟩:=h
  intro k hk
  simp only[key1,List.mem_singleton]at hk
  subst hk
  unfold bslI bslEls at h1
  cases ha:st[k]? with
  |none=>simp[ha]at h1
  |some a=>exact(List.getElem?_eq_some_iff.1 ha).1
 |_=>intro k hk; simp[key1]at hk
theorem immL_keys{st:St}:∀ {ds ys:List D},immL st ds=some ys→∀ k∈ds.flatMap key1,k<st.length
 |[],_,_=>fun k hk=>by simp at hk
 |d::l,ys,h=>by
  simp only[immL]at h
  split at h
  ·rename_i x y hx hy
   intro k hk
   simp only[List.flatMap_cons,List.mem_append]at hk
   rcases hk with hk | hk
   ·exact imm1_keys hx k hk
   ·exact immL_keys hy k hk
  ·cases h
theorem imm_keys{st:St}{d y:D}(h:imm st d=some y):∀ k∈keys d,k<st.length:=by
 cases d with
 |agg l=>
  simp only[imm,Option.map_eq_some_iff]at h
  obtain⟨r,h1,_⟩:=h
  exact immL_keys h1
 |tup l=>simp[imm]at h
 |_=>simp only[imm]at h; exact imm1_keys h
theorem imms_keys{st:St}:∀ {ds ys:List D},imms st ds=some ys→∀ k∈ds.flatMap keys,k<st.length
 |[],_,_=>fun k hk=>by simp at hk
 |d::l,ys,h=>by
  simp only[imms]at h
  split at h
  ·rename_i x y hx hy
   intro k hk
   simp only[List.flatMap_cons,List.mem_append]at hk
   rcases hk with hk | hk
   ·exact imm_keys hx k hk
   ·exact imms_keys hy k hk
  ·cases h
theorem lend_length:∀ (ks:List Nat) (st:St),(lend ks st).length=st.length
 |[],_=>rfl
 |k::r,st=>by rw[lend,lend_length r,List.length_modify]
theorem lend_push{o:Obj}:∀ (ks:List Nat) (st:St),(∀ k∈ks,k<st.length)→lend ks (st++[o])=lend ks st++[o]
 |[],_,_=>rfl
 |k::r,st,h=>by
  have h1:(st++[o]).modify k (fun o=>{o with lent:=true})=st.modify k (fun o=>{o with lent:=true})++[o]:=by
   apply List.ext_getElem?
   intro i
   have hk:=h k (by simp)
   rw[List.getElem?_modify]
   rcases Nat.lt_or_ge i st.length with hi | hi
   ·rw[List.getElem?_append_left hi,List.getElem?_append_left (by rw[List.length_modify]; exact hi),List.getElem?_modify]
   ·rw[List.getElem?_append_right hi,List.getElem?_append_right (by rw[List.length_modify]; exact hi),List.length_modify]
    have:¬ k=i:=by omega
    simp[this]
  rw[lend,lend,h1,lend_push r _ (fun q hq=>by rw[List.length_modify]; exact h q (by simp[hq]))]
theorem sees_push{st:St}(o:Obj):∀ {l:List Nat},l.all (fun k=>(st[k]?).isSome)=true→sees (st++[o]) l=sees st l
 |[],_=>rfl
 |a::l,h=>by
  simp only[List.all_cons,Bool.and_eq_true]at h
  obtain⟨x,hx⟩:=Option.isSome_iff_exists.1 h.1
  simp only[sees,get_push o hx,hx,sees_push o h.2]
theorem reads1_push{st:St}(o:Obj){sp:List D→List (Option (Bool×Nat×List D))→Option D}{ds:List D}{d:D}(h:reads1 sp ds st=some d):reads1 sp ds (st++[o])=some d:=by
 unfold reads1 at h ⊢
 split at h
 case isFalse=>cases h
 rename_i hc
 rw[if_pos (by
  rw[List.all_eq_true]at hc ⊢
  intro k hk
  obtain⟨x,hx⟩:=Option.isSome_iff_exists.1 (hc k hk)
  rw[get_push o hx]; rfl),sees_push o hc]
 exact h
theorem exec_push{T:Tbl}{ρ:PA→D}{st st':St}{d:D}{o:Obj}(p:POp)(hc:p.cls≤2)(h:p.exec T ρ st=some (d,st')):p.exec T ρ (st++[o])=some (d,st'++[o]):=by
 have mp:∀ {α:Type} (a b:Option α) (f:α→D),(∀ y,a=some y→b=some y)→(a.map fun x=>(f x,st))=some (d,st')→(b.map fun x=>(f x,st++[o]))=some (d,st'++[o]):=by
  intro α a b f hab h
  simp only[Option.map_eq_some_iff,Prod.mk.injEq]at h ⊢
  obtain⟨y,h1,h2,rfl⟩:=h
  exact⟨y,hab y h1,h2,rfl⟩
 cases p with
 |mov x=>simp only[POp.exec,Option.some.injEq,Prod.mk.injEq]at h ⊢; exact⟨h.1,by rw[h.2]⟩
 |pick c x y=>
  simp only[POp.exec]at h ⊢
  split at h
  ·simp only[Option.some.injEq,Prod.mk.injEq]at h ⊢; exact⟨h.1,by rw[h.2]⟩
  ·cases h
 |box x=>simp[POp.cls]at hc
 |bld zero parts=>simp only[POp.exec]at h ⊢; exact mp _ _ _ (fun _ h=>h) h
 |bslc sz parts=>
  simp only[POp.exec]at h ⊢
  split at h
  ·rename_i els he
   rw[imms_push o he]
   simp only
   split at h
   ·rename_i hif
    rw[if_pos hif]
    simp only[Option.some.injEq,Prod.mk.injEq]at h ⊢
    exact⟨h.1,by rw[← h.2,lend_push _ _ (imms_keys he)]⟩
   ·cases h
  ·cases h
 |load n ag x=>simp only[POp.exec]at h ⊢; exact mp _ _ _ (fun _ h=>pload_push o h) h
 |stor n p x=>simp[POp.cls]at hc
 |nilc x=>
  simp only[POp.exec]at h ⊢
  split at h
  ·simp only[Option.some.injEq,Prod.mk.injEq]at h ⊢; exact⟨h.1,by rw[h.2]⟩
  ·simp only[Option.some.injEq,Prod.mk.injEq]at h ⊢; exact⟨h.1,by rw[h.2]⟩
  ·split at h
   ·rename_i hl
    rw[live_push o hl]
    simp only[Option.some.injEq,Prod.mk.injEq]at h
    simp[h.1,h.2]
   ·cases h
  ·cases h
 |bin op x y=>simp only[POp.exec]at h ⊢; exact mp _ _ _ (fun _ h=>h) h
 |beq neg x y=>simp only[POp.exec]at h ⊢; exact mp _ _ _ (fun _ h=>h) h
 |aeq ks neg x y=>simp only[POp.exec]at h ⊢; exact mp _ _ _ (fun _ h=>h) h
 |un op x=>simp only[POp.exec]at h ⊢; exact mp _ _ _ (fun _ h=>h) h
 |conv c x=>simp only[POp.exec]at h ⊢; exact mp _ _ _ (fun _ h=>pconv_push o h) h
 |mkslc sz bytes zero l c=>simp[POp.cls]at hc
 |slice sz x lo hi mx=>simp only[POp.exec]at h ⊢; exact mp _ _ _ (fun _ h=>pslice_push o h) h
 |sliceA n sz ag x lo hi=>simp only[POp.exec]at h ⊢; exact mp _ _ _ (fun _ h=>h) h
 |fld off x=>simp only[POp.exec]at h ⊢; exact mp _ _ _ (fun _ h=>pfld_push o h) h
 |fldv off n ag x=>simp only[POp.exec]at h ⊢; exact mp _ _ _ (fun _ h=>h) h
 |idxS sz x i=>simp only[POp.exec]at h ⊢; exact mp _ _ _ (fun _ h=>pidxS_push o h) h
 |idxA n sz x i=>simp only[POp.exec]at h ⊢; exact mp _ _ _ (fun _ h=>pidxA_push o h) h
 |idx x i=>simp only[POp.exec]at h ⊢; exact mp _ _ _ (fun _ h=>h) h
 |idxV l sz ag x i=>simp only[POp.exec]at h ⊢; exact mp _ _ _ (fun _ h=>h) h
 |len str x=>
  simp only[POp.exec]at h ⊢
  split at h
  ·rename_i hs
   rw[if_pos hs]
   exact mp _ _ _ (fun _ h=>sLen_push o h) h
  ·cases h
 |lenA n=>simp only[POp.exec,Option.some.injEq,Prod.mk.injEq]at h ⊢; exact⟨h.1,by rw[h.2]⟩
 |app sz bytes s x=>simp[POp.cls]at hc
 |mm mx x y=>
  simp only[POp.exec]at h ⊢
  split at h
  ·simp only[Option.some.injEq,Prod.mk.injEq]at h ⊢; exact⟨h.1,by rw[h.2]⟩
  ·cases h
 |mm3 mx x y z=>
  simp only[POp.exec]at h ⊢
  split at h
  ·simp only[Option.some.injEq,Prod.mk.injEq]at h ⊢; exact⟨h.1,by rw[h.2]⟩
  ·cases h
 |rcall f args=>
  simp only[POp.exec]at h ⊢
  split at h
  ·exact mp _ _ _ (fun _ h=>reads1_push o h) h
  ·cases h
 |icall f args=>simp[POp.cls]at hc
 |mcall f args=>simp[POp.cls]at hc
 |fail=>simp[POp.cls]at hc
 |mkmap sz=>simp[POp.cls]at hc
 |mapup sz ks m k v=>simp[POp.cls]at hc
 |cpy sz d s=>simp[POp.cls]at hc
 |mapget sz ks ok zero m k=>simp only[POp.exec]at h ⊢; exact mp _ _ _ (fun _ h=>pmapget_push o h) h
 |callv x args=>simp[POp.cls]at hc
 |mkclo f args=>simp only[POp.exec,Option.some.injEq,Prod.mk.injEq]at h ⊢; exact⟨h.1,by rw[h.2]⟩
 |call f args=>
  simp only[POp.exec]at h ⊢
  split at h
  ·rename_i sp vs hsp hvs
   simp only[hsp,imms_push o hvs]
   split at h
   ·rename_i r hr
    simp only[Option.some.injEq,Prod.mk.injEq]at h ⊢
    refine⟨h.1,?_⟩
    rw[← h.2]
    split
    ·rfl
    ·rw[lend_push _ _ (imms_keys hvs)]
   ·cases h
  ·cases h
 |ext x i=>
  simp only[POp.exec]at h ⊢
  split at h
  ·exact mp _ _ id (fun _ h=>h) h
  ·cases h
theorem push_form{T:Tbl}{ρ:PA→D}{st st':St}{d:D}{p:POp}(hp:p.push=true)(h:p.exec T ρ st=some (d,st')):∃ o,∀ st1:St,st1.length=st.length→p.exec T ρ st1=some (d,st1++[o]):=by
 cases p with
 |box x=>
  simp only[POp.exec]at h ⊢
  split at h
  ·rename_i hc
   simp only[Option.some.injEq,Prod.mk.injEq]at h
   exact⟨_,fun st1 hl=>by rw[if_pos hc,hl,h.1]⟩
  ·cases h
 |mkslc sz bytes zero l c=>
  simp only[POp.exec]at h ⊢
  split at h
  ·split at h
   ·rename_i hc
    simp only[Option.some.injEq,Prod.mk.injEq]at h
    exact⟨_,fun st1 hl=>by rw[if_pos hc,hl,h.1]⟩
   ·cases h
  ·cases h
 |_=>simp[POp.push]at hp
theorem rho_put{G:Glob}{fr:Frame}{dst:Option Nat}{d:D}{pa:PA}(h:∀ t,dst=some t→t∉pa.slot):rho G (fr.put dst d) pa=rho G fr pa:=by
 cases pa with
 |s n=>
  cases dst with
  |none=>rfl
  |some t=>
   have:n≠t:=fun e=>h t rfl (by simp[PA.slot,e])
   simp[rho,Frame.put,Frame.set,this]
 |_=>rfl
theorem exec_put{G:Glob}{T:Tbl}{fr:Frame}{dst:Option Nat}{d:D}{st:St}{i:PI}(h:∀ t,dst=some t→t∉i.reads):i.op.exec T (rho G (fr.put dst d)) st=i.op.exec T (rho G fr) st:=by
 refine exec_congr i.op fun x hx=>rho_put fun t ht hm=>h t ht ?_
 simp only[PI.reads,List.mem_append,List.mem_flatMap]
 exact .inl ⟨x,hx,hm⟩
theorem wanted_put'{fr:Frame}{dst:Option Nat}{d:D}{i:PI}(h:∀ t,dst=some t→t∉i.reads):i.wanted (fr.put dst d)=i.wanted fr:=by
 unfold PI.wanted
 cases hg:i.guard with
 |none=>rfl
 |some q=>
  obtain⟨s,want⟩:=q
  cases dst with
  |none=>rfl
  |some t=>
   have:s≠t:=fun e=>h t rfl (by simp[PI.reads,hg,optL,e])
   simp[Frame.put,Frame.set,this]
def PI.step(G:Glob)(T:Tbl)(i:PI)(s:PS):Option (D×St):=
 match i.wanted s.fr with
 |none=>none
 |some false=>some (.tup [],s.st)
 |some true=>i.op.exec T (rho G s.fr) s.st
theorem PI.exec_eq{G:Glob}{T:Tbl}(i:PI)(s:PS):i.exec G T s=(i.step G T s).map fun r=>{fr:=s.fr.put i.dst r.1,st:=r.2}:=by
 unfold PI.exec PI.step
 split <;> simp_all
 split <;> simp_all
theorem keyEq_i(a:Int)(d:D):keyEq 2 [0] (.int .i64 a) d=(match d with
  |.int k b=>if IntKind.i64=k then some (a == b)else none
  |_=>none):=by
 unfold keyEq
 cases d <;> simp[flatEq1]
theorem keyEq_some{a b:Int}{d:D}(h:(keyEq 2 [0] (.int .i64 a) d).isSome=true):(keyEq 2 [0] (.int .i64 b) d).isSome=true:=by
 rw[keyEq_i]at h ⊢
 cases d with
 |int k c=>
  simp only at h ⊢
  split at h
  ·rename_i e; rw[if_pos e]; rfl
  ·cases h
 |_=>cases h
theorem keyEq_no{a b:Int}(h:a≠b):keyEq 2 [0] (.int .i64 a) (.int .i64 b)=some false:=by
 rw[keyEq_i]; simp[h]
theorem mokE_i{a b:Int}{els:List D}(h:mokE 2 [0] (.int .i64 a) els=true):mokE 2 [0] (.int .i64 b) els=true:=
 List.all_eq_true.2 fun el hel=>keyEq_some (List.all_eq_true.1 h el hel)
abbrev entI(a:Int)(v:D):D:=.agg ([.int .i64 a]++[v])
theorem entI_key(a:Int)(v:D):entK 2 (entI a v)=.int .i64 a:=(rfl)
def isK(a:Int)(el:D):Bool:=keyEq 2 [0] (.int .i64 a) (entK 2 el) == some true
theorem isK_other{a b:Int}(h:a≠b)(v:D):isK a (entI b v)=false:=by unfold isK; rw[entI_key,keyEq_no h]; rfl
theorem isK_key{a:Int}{el:D}(h:isK a el=true):entK 2 el=.int .i64 a:=by
 unfold isK at h
 exact(keyEq_eq (beq_iff_eq.1 h)).symm
def setK(a:Int)(x el:D):D:=if isK a el then x else el
theorem repE_i(a:Int)(x:D)(els:List D):repE 2 [0] (.int .i64 a) x els=els.map (setK a x):=by
 unfold repE
 refine List.map_congr_left fun el _=>?_
 unfold setK isK
 split
 ·rename_i h; rw[h]; rfl
 ·rename_i h
  rw[if_neg]
  intro e
  exact h (beq_iff_eq.1 e)
theorem setK_key(a:Int)(v el:D):entK 2 (setK a (entI a v) el)=entK 2 el:=by
 unfold setK
 split
 ·rename_i h; rw[isK_key h]; rfl
 ·rfl
theorem isK_congr{a:Int}{x y:D}(h:entK 2 x=entK 2 y):isK a x=isK a y:=by unfold isK; rw[h]
theorem setK_comm{a b:Int}(h:a≠b)(v v' el:D):setK b (entI b v') (setK a (entI a v) el)=setK a (entI a v) (setK b (entI b v') el):=by
 have h1:isK b (setK a (entI a v) el)=isK b el:=isK_congr (setK_key a v el)
 have h2:isK a (setK b (entI b v') el)=isK a el:=isK_congr (setK_key b v' el)
 show(if isK b (setK a (entI a v) el)=true then entI b v' else setK a (entI a v) el)=(if isK a (setK b (entI b v') el)=true then entI a v else setK b (entI b v') el)
 rw[h1,h2]
 cases ha:isK a el with
 |true=>
  have hb:isK b el=false:=by unfold isK; rw[isK_key ha,keyEq_no (Ne.symm h)]; rfl
  rw[hb]
  simp[setK,ha]
 |false=>
  cases hb:isK b el <;> simp[setK,ha,hb]
def hasK(a:Int)(els:List D):Bool:=els.any (isK a)
theorem hasK_set(a b:Int)(v:D)(els:List D):hasK a (els.map (setK b (entI b v)))=hasK a els:=by
 unfold hasK
 rw[List.any_map]
 congr 1
 funext el
 exact isK_congr (setK_key b v el)
theorem hasK_ins{a b:Int}(h:a≠b)(v:D):∀ (els:List D),hasK a (insE 2 b (entI b v) els)=hasK a els
 |[]=>by simp[hasK,insE,isK_other h]
 |el::r=>by
  unfold insE
  split
  ·simp[hasK,isK_other h]
  ·have:=hasK_ins h v r
   unfold hasK at this ⊢
   rw[List.any_cons,List.any_cons,this]
theorem set_ins{a b:Int}(h:a≠b)(v v':D):∀ (els:List D),insE 2 b (entI b v') (els.map (setK a (entI a v)))=(insE 2 b (entI b v') els).map (setK a (entI a v))
 |[]=>by simp[insE,setK,isK_other h]
 |el::r=>by
  rw[List.map_cons,insE,insE,setK_key]
  split
  ·simp[setK,isK_other h]
  ·rw[List.map_cons,set_ins h v v' r]
theorem gtK_trans{a b:Int}{d:D}(h:a<b)(hb:gtK b d=true):gtK a d=true:=by
 cases d <;> simp_all [gtK]
 omega
theorem ins_ins_lt{a b:Int}(h:a<b)(v v':D):∀ (els:List D),insE 2 b (entI b v') (insE 2 a (entI a v) els)=insE 2 a (entI a v) (insE 2 b (entI b v') els)
 |[]=>by
  have h1:gtK b (entK 2 (entI a v))=false:=by rw[entI_key]; simp[gtK]; omega
  have h2:gtK a (entK 2 (entI b v'))=true:=by rw[entI_key]; simp[gtK]; omega
  simp only[insE,h1,h2,if_true,if_false,Bool.false_eq_true]
 |el::r=>by
  have h1:gtK b (entK 2 (entI a v))=false:=by rw[entI_key]; simp[gtK]; omega
  have h2:gtK a (entK 2 (entI b v'))=true:=by rw[entI_key]; simp[gtK]; omega
  cases ha:gtK a (entK 2 el)with
  |true=>
   cases hb:gtK b (entK 2 el)with
   |true=>simp only[insE,ha,hb,h1,h2,if_true,if_false,Bool.false_eq_true]
   |false=>simp only[insE,ha,hb,h1,if_true,if_false,Bool.false_eq_true]
  |false=>
   have hb:gtK b (entK 2 el)=false:=by
    cases hb:gtK b (entK 2 el)with
    |false=>rfl
    |true=>rw[gtK_trans h hb]at ha; cases ha
   simp only[insE,ha,hb,if_false,Bool.false_eq_true]
   rw[ins_ins_lt h v v' r]
theorem ins_ins{a b:Int}(h:a≠b)(v v':D)(els:List D):insE 2 b (entI b v') (insE 2 a (entI a v) els)=insE 2 a (entI a v) (insE 2 b (entI b v') els):=by
 rcases Int.lt_or_gt_of_ne h with h | h
 ·exact ins_ins_lt h v v' els
 ·exact(ins_ins_lt h v' v els).symm
theorem insE_len(a:Int)(x:D):∀ (els:List D),(insE 2 a x els).length=els.length+1:=fun els=>by
 have:=(insE_perm 2 a x els).length_eq
 simpa using this
theorem upE_i{a:Int}{v:D}{els:List D}(hok:mokE 2 [0] (.int .i64 a) els=true):upE 2 [0] (.int .i64 a) v els=if hasK a els then some (els.map (setK a (entI a v)))else if els.length<15 then some (insE 2 a (entI a v) els)else none:=by
 unfold upE
 rcases mfind_spec els 0 hok with⟨h1,h2⟩ | ⟨j,el,h1,h2,h3⟩
 ·have hn:hasK a els=false:=by
   unfold hasK
   rw[List.any_eq_false]
   intro el hel
   unfold isK
   rw[h2 el hel]
   decide
  rw[h1,hn]
  rfl
 ·have hy:hasK a els=true:=by
   unfold hasK
   rw[List.any_eq_true]
   exact⟨el,List.mem_of_getElem? h2,by unfold isK; rw[h3]; rfl⟩
  rw[h1,hy,repE_i]
  rfl
theorem mokE_set{a b:Int}{v:D}{els:List D}(h:mokE 2 [0] (.int .i64 a) els=true):mokE 2 [0] (.int .i64 a) (els.map (setK b (entI b v)))=true:=by
 unfold mokE at h ⊢
 rw[List.all_map,List.all_eq_true]
 intro el hel
 show(keyEq 2 [0] (.int .i64 a) (entK 2 (setK b (entI b v) el))).isSome=true
 rw[setK_key]
 exact List.all_eq_true.1 h el hel
theorem mokE_ins{a b:Int}{v:D}{els:List D}(h:mokE 2 [0] (.int .i64 a) els=true):mokE 2 [0] (.int .i64 a) (insE 2 b (entI b v) els)=true:=by
 refine List.all_eq_true.2 fun el hel=>?_
 rcases List.mem_append.1 ((insE_perm 2 b (entI b v) els).mem_iff.1 hel)with h1 | h1
 ·exact List.all_eq_true.1 h el h1
 ·simp only[List.mem_singleton]at h1
  subst h1
  rw[entI_key,keyEq_i]
  rfl
theorem upE_comm{a b:Int}(h:a≠b){v v':D}{els e1 e2:List D}(hok:mokE 2 [0] (.int .i64 a) els=true)(h1:upE 2 [0] (.int .i64 a) v els=some e1)(h2:upE 2 [0] (.int .i64 b) v' e1=some e2) :
  ∃ e1',upE 2 [0] (.int .i64 b) v' els=some e1'∧mokE 2 [0] (.int .i64 a) e1'=true∧upE 2 [0] (.int .i64 a) v e1'=some e2:=by
 have hokb:mokE 2 [0] (.int .i64 b) els=true:=mokE_i hok
 rw[upE_i hok]at h1
 cases ha:hasK a els with
 |true=>
  rw[ha,if_pos rfl,Option.some.injEq]at h1
  subst h1
  rw[upE_i (mokE_set hokb),hasK_set]at h2
  cases hb:hasK b els with
  |true=>
   rw[hb,if_pos rfl,Option.some.injEq]at h2
   subst h2
   refine⟨_,by rw[upE_i hokb,hb,if_pos rfl],mokE_set hok,?_⟩
   rw[upE_i (mokE_set hok),hasK_set,ha,if_pos rfl,List.map_map,List.map_map]
   congr 1
   refine List.map_congr_left fun el _=>?_
   exact(setK_comm h v v' el).symm
  |false=>
   rw[hb,if_neg (by decide)]at h2
   split at h2
   case isFalse=>cases h2
   rename_i hl
   rw[List.length_map]at hl
   simp only[Option.some.injEq]at h2
   subst h2
   refine⟨_,by rw[upE_i hokb,hb,if_neg (by decide),if_pos hl],mokE_ins hok,?_⟩
   rw[upE_i (mokE_ins hok),hasK_ins h,ha,if_pos rfl,set_ins h]
 |false=>
  rw[ha,if_neg (by decide)]at h1
  split at h1
  case isFalse=>cases h1
  rename_i hl
  simp only[Option.some.injEq]at h1
  subst h1
  rw[upE_i (mokE_ins hokb),hasK_ins (Ne.symm h)]at h2
  cases hb:hasK b els with
  |true=>
   rw[hb,if_pos rfl,Option.some.injEq]at h2
   subst h2
   refine⟨_,by rw[upE_i hokb,hb,if_pos rfl],mokE_set hok,?_⟩
   rw[upE_i (mokE_set hok),hasK_set,ha,if_neg (by decide),if_pos (by rw[List.length_map]; exact hl),set_ins (Ne.symm h)]
  |false=>
   rw[hb,if_neg (by decide)]at h2
   split at h2
   case isFalse=>cases h2
   rename_i hl2
   rw[insE_len]at hl2
   simp only[Option.some.injEq]at h2
   subst h2
   refine⟨_,by rw[upE_i hokb,hb,if_neg (by decide),if_pos hl],mokE_ins hok,?_⟩
   rw[upE_i (mokE_ins hok),hasK_ins h,ha,if_neg (by decide),if_pos (by rw[insE_len]; exact hl2),ins_ins h]
theorem pmapup_inv{st st1:St}{sz:Nat}{ks:List Nat}{m k v:D}(h:pmapup st sz ks m k v=some st1):∃ key o v' els,m=.mapv key∧st[key]?=some o∧mval sz v=some v'∧(o.isMap && o.sz == sz && !o.lent && v'.isCell && k.cells.length+1 == mS sz && k.cells.all D.isCell && keyEq (mS sz) ks k k == some true && mokK k)=true∧mokE (mS sz) ks k o.els=true∧upE (mS sz) ks k v' o.els=some els∧st1=st.set key {o with els}:=by
 unfold pmapup at h
 split at h
 case h_2=>cases h
 rename_i key
 split at h
 case h_2=>cases h
 rename_i o v' ho hv
 split at h
 case isFalse=>cases h
 rename_i hc
 rw[Bool.and_eq_true]at hc
 simp only[Option.map_eq_some_iff]at h
 obtain⟨els,he,rfl⟩:=h
 exact⟨key,o,v',els,rfl,ho,hv,hc.1,hc.2,he,rfl⟩
theorem pmapup_of{st:St}{sz:Nat}{ks:List Nat}{k v v':D}{key:Nat}{o:Obj}{els:List D}(ho:st[key]?=some o)(hv:mval sz v=some v')(hc:(o.isMap && o.sz == sz && !o.lent && v'.isCell && k.cells.length+1 == mS sz && k.cells.all D.isCell && keyEq (mS sz) ks k k == some true && mokK k)=true)(hm:mokE (mS sz) ks k o.els=true)(he:upE (mS sz) ks k v' o.els=some els) :
  pmapup st sz ks (.mapv key) k v=some (st.set key {o with els}):=by
 simp only[pmapup,ho,hv]
 rw[if_pos (by rw[hc,hm]; rfl),he]
 rfl
theorem pmapup_swap{st st1 st2:St}{sz:Nat}{m m' v v':D}{a b:Int}(hs:mS sz=2)(hab:a≠b)(h1:pmapup st sz [0] m (.int .i64 a) v=some st1)(h2:pmapup st1 sz [0] m' (.int .i64 b) v'=some st2) :
  ∃ st1',pmapup st sz [0] m' (.int .i64 b) v'=some st1'∧pmapup st1' sz [0] m (.int .i64 a) v=some st2:=by
 obtain⟨key,o,u,els,rfl,ho,hv,hc,hm,he,rfl⟩:=pmapup_inv h1
 obtain⟨key',o',u',els',rfl,ho',hv',hc',hm',he',rfl⟩:=pmapup_inv h2
 have hlt:key<st.length:=(List.getElem?_eq_some_iff.1 ho).1
 by_cases hk:key=key'
 ·subst hk
  rw[List.getElem?_set_self hlt,Option.some.injEq]at ho'
  subst ho'
  rw[hs]at hm hm' he he'
  obtain⟨e1,q1,q2,q3⟩:=upE_comm hab hm he he'
  have c1:(o.isMap && o.sz == sz && !o.lent && u'.isCell && (D.int .i64 b).cells.length+1 == mS sz && (D.int .i64 b).cells.all D.isCell && keyEq (mS sz) [0] (.int .i64 b) (.int .i64 b) == some true && mokK (.int .i64 b))=true:=hc'
  refine⟨_,pmapup_of ho hv' c1 (by rw[hs]; exact mokE_i hm) (by rw[hs]; exact q1),?_⟩
  have:=pmapup_of (st:=st.set key {o with els:=e1}) (o:={o with els:=e1}) (sz:=sz) (ks:=[0]) (k:=.int .i64 a) (v:=v) (List.getElem?_set_self hlt) hv hc (by rw[hs]; exact q2) (by rw[hs]; exact q3)
  rw[this,List.set_set,List.set_set]
 ·rw[List.getElem?_set_ne hk]at ho'
  refine⟨_,pmapup_of ho' hv' hc' hm' he',?_⟩
  have:=pmapup_of (st:=st.set key' {o' with els:=els'}) (sz:=sz) (ks:=[0]) (k:=.int .i64 a) (v:=v) (by rw[List.getElem?_set_ne (Ne.symm hk)]; exact ho) hv hc hm he
  rw[this,List.set_comm _ _ hk]
theorem mapPair_inv{x y:POp}(h:mapPair x y=true):∃ sz m m' a b v v',x=.mapup sz [0] m (.c (.int .i64 a)) v∧y=.mapup sz [0] m' (.c (.int .i64 b)) v'∧mS sz=2∧a≠b:=by
 unfold mapPair at h
 split at h
 ·simp only[Bool.and_eq_true,beq_iff_eq,bne_iff_ne,decide_eq_true_eq]at h
  obtain⟨⟨⟨⟨⟨⟨rfl,rfl⟩,rfl⟩,h1⟩,h2⟩,rfl⟩,rfl⟩:=h
  exact⟨_,_,_,_,_,_,_,rfl,rfl,h1,h2⟩
 ·cases h
theorem mapPair_swap{T:Tbl}{ρx ρy:PA→D}(hρx:∀ d,ρx (.c d)=d)(hρy:∀ d,ρy (.c d)=d){x y:POp}(h:mapPair x y=true){st st1 st2:St}{dx dy:D}(hx:x.exec T ρx st=some (dx,st1))(hy:y.exec T ρy st1=some (dy,st2)):∃ st1',y.exec T ρy st=some (dy,st1')∧x.exec T ρx st1'=some (dx,st2):=by
 obtain⟨sz,m,m',a,b,v,v',rfl,rfl,hs,hab⟩:=mapPair_inv h
 simp only[POp.exec,Option.map_eq_some_iff,Prod.mk.injEq,hρx,hρy]at hx hy ⊢
 obtain⟨s1,h1,rfl,rfl⟩:=hx
 obtain⟨s2,h2,rfl,rfl⟩:=hy
 obtain⟨s1',q1,q2⟩:=pmapup_swap hs hab h1 h2
 exact⟨s1',⟨s1',q1,rfl,rfl⟩,⟨s2,q2,rfl,rfl⟩⟩
theorem mapPair_foot{ρ:PA→D}{st st2:St}{x y:POp}(h:mapPair x y=true):x.foot ρ st2=x.foot ρ st∧y.foot ρ st2=y.foot ρ st:=by
 obtain⟨sz,m,m',a,b,v,v',rfl,rfl,_⟩:=mapPair_inv h
 exact⟨rfl,rfl⟩
theorem mapPair_call{x y:POp}(h:mapPair x y=true):x.isCall=false∧y.isCall=false:=by
 obtain⟨sz,m,m',a,b,v,v',rfl,rfl,_⟩:=mapPair_inv h
 exact⟨rfl,rfl⟩
theorem apart_spec{x y:PI}(h:x.apart y=true):(∀ t,x.dst=some t→t∉y.reads)∧(∀ t,x.dst=some t→y.dst≠some t)∧(∀ t,y.dst=some t→t∉x.reads)∧(x.op.cls=0∨y.op.cls=0∨(x.op.cls≤2∧y.op.cls≤2)∨(x.op.cls≤2∧y.op.push=true)∨mapPair x.op y.op=true):=by
 simp only[PI.apart,Bool.and_eq_true,Bool.or_eq_true,beq_iff_eq,decide_eq_true_eq]at h
 obtain⟨⟨h1,h2⟩,h3⟩:=h
 refine⟨fun t ht=>?_,fun t ht=>?_,fun t ht=>?_,?_⟩
 ·simp only[ht,Bool.and_eq_true,Bool.not_eq_true']at h1
  simpa using h1.1
 ·simp only[ht,Bool.and_eq_true,bne_iff_ne]at h1
  exact h1.2
 ·simp only[ht,Bool.not_eq_true']at h2
  simpa using h2
 ·rcases h3 with((h3 | h3) | h3) | h3
  ·exact .inl h3
  ·exact .inr (.inl h3)
  ·rcases h3.2 with h4 | h4
   ·exact .inr (.inr (.inl ⟨h3.1,h4⟩))
   ·exact .inr (.inr (.inr (.inl ⟨h3.1,h4⟩)))
  ·exact .inr (.inr (.inr (.inr h3)))
theorem swap{G:Glob}{T:Tbl}{x y:PI}{s s1 s2:PS}(h:x.apart y=true)(hx:x.exec G T s=some s1)(hy:y.exec G T s1=some s2):∃ s1',y.exec G T s=some s1'∧x.exec G T s1'=some s2:=by
 obtain⟨a1,a2,a3,a4⟩:=apart_spec h
 rw[PI.exec_eq]at hx hy
 simp only[Option.map_eq_some_iff]at hx hy
 obtain⟨⟨dx,stx⟩,hx,rfl⟩:=hx
 obtain⟨⟨dy,sty⟩,hy,rfl⟩:=hy
 simp only at hy
 have hyw:y.wanted (s.fr.put x.dst dx)=y.wanted s.fr:=wanted_put' a1
 have key:∀ sty',y.step G T s=some (dy,sty')→(∀ d,x.step G T {fr:=s.fr.put y.dst d,st:=sty'}=some (dx,sty))→∃ s1',y.exec G T s=some s1'∧x.exec G T s1'=some {fr:=(s.fr.put x.dst dx).put y.dst dy,st:=sty}:=by
  intro sty' h1 h2
  refine⟨{fr:=s.fr.put y.dst dy,st:=sty'},by rw[PI.exec_eq,h1]; rfl,?_⟩
  rw[PI.exec_eq,h2 dy]
  simp only[Option.map_some]
  rw[put_comm s.fr dx dy a2]
 unfold PI.step at hx hy
 simp only[hyw]at hy
 have hxw:∀ d,x.wanted (s.fr.put y.dst d)=x.wanted s.fr:=fun d=>wanted_put' a3
 -- by which of the two is carried out
 cases hwx:x.wanted s.fr with
 |none=>simp[hwx]at hx
 |some bx=>
  cases hwy:y.wanted s.fr with
  |none=>simp[hwy]at hy
  |some by'=>
   cases bx with
   |false=>
    simp only[hwx,Option.some.injEq,Prod.mk.injEq]at hx
    obtain⟨rfl,rfl⟩:=hx
    cases by' with
    |false=>
     simp only[hwy,Option.some.injEq,Prod.mk.injEq]at hy
     obtain⟨rfl,rfl⟩:=hy
     exact key s.st (by simp[PI.step,hwy]) (fun d=>by simp[PI.step,hxw,hwx])
    |true=>
     simp only[hwy]at hy
     rw[exec_put a1]at hy
     exact key sty (by simp[PI.step,hwy,hy]) (fun d=>by simp[PI.step,hxw,hwx])
   |true=>
    simp only[hwx]at hx
    cases by' with
    |false=>
     simp only[hwy,Option.some.injEq,Prod.mk.injEq]at hy
     obtain⟨rfl,rfl⟩:=hy
     exact key s.st (by simp[PI.step,hwy]) (fun d=>by simp only[PI.step,hxw,hwx]; rw[exec_put a3]; exact hx)
    |true=>
     simp only[hwy]at hy
     rw[exec_put a1]at hy
     rcases a4 with c | c | ⟨c1,c2⟩ | ⟨c1,c2⟩ | c
     ·obtain⟨rfl,h2⟩:=exec_pure x.op c hx
      exact key sty (by simp[PI.step,hwy,hy]) (fun d=>by simp only[PI.step,hxw,hwx]; rw[exec_put a3]; exact h2 _)
     ·obtain⟨rfl,h2⟩:=exec_pure y.op c hy
      exact key s.st (by simp only[PI.step,hwy]; exact h2 _) (fun d=>by simp only[PI.step,hxw,hwx]; rw[exec_put a3]; exact hx)
     ·obtain⟨ks,rfl⟩:=exec_form x.op c1 hx
      rw[exec_lend y.op c2]at hy
      simp only[Option.map_eq_some_iff,Prod.mk.injEq,Prod.exists]at hy
      obtain⟨dy',st',h1,rfl,rfl⟩:=hy
      obtain⟨qs,rfl⟩:=exec_form y.op c2 h1
      refine key _ (by simp only[PI.step,hwy]; exact h1) (fun d=>?_)
      simp only[PI.step,hxw,hwx]
      rw[exec_put a3,exec_lend x.op c1,hx]
      simp only[Option.map_some]
      rw[lend_comm]
     ·obtain⟨ks,rfl⟩:=exec_form x.op c1 hx
      obtain⟨o,ho⟩:=push_form c2 hy
      have h1:=ho s.st (by rw[lend_length])
      have h2:=ho (lend ks s.st) rfl
      rw[hy]at h2
      simp only[Option.some.injEq,Prod.mk.injEq,true_and]at h2
      refine key _ (by simp only[PI.step,hwy]; exact h1) (fun d=>?_)
      simp only[PI.step,hxw,hwx]
      rw[exec_put a3,exec_push x.op c1 hx,h2]
     ·obtain⟨st1',h1,h2⟩:=mapPair_swap (fun _=>rfl) (fun _=>rfl) c hx hy
      exact key st1' (by simp only[PI.step,hwy]; exact h1) (fun d=>by simp only[PI.step,hxw,hwx]; rw[exec_put a3]; exact h2)
end Go.Proofs.YtfbbaceiimdejaaGreatDoor.PI
